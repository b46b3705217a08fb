/- a part of a proof of ModelTells -/
import Derived.Test.YtfjdjbdnnoijgaaGreatG5W3
set_option linter.all false
namespace Go.Proofs.YtfjdjbdnnoijgaaGreat
open Go.RowKit
set_option maxRecDepth 10000
theorem w_ref04_Same (v_a0 : Value) (a0 : List Role) (v_a1 : Value) (a1 : List Role) (r : Bool) (w : World) (h_a0 : Sl (Pl encRole) 2 (hp w) v_a0 a0) (h_a1 : Sl (Pl encRole) 2 (hp w) v_a1 a1) (hm : m_ref04_Same a0 a1 = some r) :
    Gives true Tryz.prog 20 [v_a0, v_a1] w (.bool r) := by
  have hST := ST.start (dd := true) w
  unfold m_ref04_Same at hm
  refine calls_of_CW (n := 26) Tryz.func20 rfl rfl (Nat.le_of_ble_eq_true rfl) ?_
  refine CW_seq ?_
  refine CW_region ?_
  refine LW_v (.inl rfl) rfl (by decide) (R_assign (v := (.bool false)) rfl) ?_
  refine LW_nil ?_
  refine sq_n ?_
  refine CW_seq ?_
  refine CW_seq ?_
  refine CW_region ?_
  refine LW_v (.inl rfl) rfl (by decide) (R_move (v := v_a0) rfl) ?_
  refine LW_v (.inl rfl) rfl (by decide) (R_len Tryz.underlying23 rfl h_a0) ?_
  refine LW_v (.inl rfl) rfl (by decide) (R_move (v := v_a1) rfl) ?_
  refine LW_v (.inl rfl) rfl (by decide) (R_len Tryz.underlying23 rfl h_a1) ?_
  refine LW_v (.inl rfl) rfl (by decide) (R_int (k := .i64) (a := ((a0.length : Int))) (b := ((a1.length : Int))) (v := (.bool ((((a0.length : Int)) != ((a1.length : Int)))))) rfl rfl rfl) ?_
  refine LW_nil ?_
  refine sq_n ?_
  refine CW_if (b := (((a0.length : Int)) != ((a1.length : Int)))) rfl (fun hb1 => ?_) (fun hb1 => ?_)
  · replace hm := if_t hb1 hm
    refine CW_seq ?_
    refine CW_region ?_
    refine LW_v (.inl rfl) rfl (by decide) (R_assign (v := (.bool false)) rfl) ?_
    refine LW_nil ?_
    refine sq_n ?_
    refine CW_ret ?_
    refine sq_r ?_
    replace hm := Option.some.inj hm; subst hm
    refine retQ_1 (v := (.bool false)) rfl rfl ?_
    exact ⟨rfl, hST.ex⟩
  · replace hm := if_f hb1 hm
    refine CW_skip ?_
    refine sq_n ?_
    refine CW_seq ?_
    refine CW_seq ?_
    refine CW_region ?_
    refine LW_v (.inl rfl) rfl (by decide) (R_move (v := v_a0) rfl) ?_
    refine LW_v (.inl rfl) rfl (by decide) (R_len Tryz.underlying23 rfl h_a0) ?_
    refine LW_v (.inl rfl) rfl (by decide) (R_move (v := (.int .i64 0)) rfl) ?_
    refine LW_nil ?_
    refine sq_n ?_
    refine CW_range (fun i E W => ∃  (L149 : List (Nat × Obj)), (E 13 = .int .i64 (i : Nat) ∧ E 12 = .int .i64 (a0.length : Nat)) ∧ ST true NoF w W (hp w) L149 ∧ E 0 = v_a0 ∧ E 1 = v_a1 ∧ m_ref04_Same_L1 a1 (a0.drop i) i = some r) a0.length h_a0.len ⟨_, ⟨rfl, rfl⟩, (hST.sublist (List.Sublist.refl _)), rfl, rfl, hm⟩ (by decide) (by decide) (by decide) (fun _ _ _ h => by obtain ⟨_, eIN, _⟩ := h; exact eIN) ?_ ?_
    · rintro i90 E W hi96 ⟨L149, ⟨eI, eN⟩, hST, e151, e152, hm150⟩
      obtain ⟨x91, xs92, hx94, hx93, hx95⟩ := drop_cons hi96
      rw [hx94] at hm150
      rw [m_ref04_Same_L1] at hm150
      refine CW_block ?_
      refine CW_seq ?_
      refine CW_region ?_
      refine LW_v (.inl rfl) rfl (by decide) (R_move (v := (.int .i64 ((i90 : Int)))) eI) ?_
      refine LW_v (.inl rfl) rfl (by decide) (R_assign (v := (.int .i64 ((i90 : Int)))) rfl) ?_
      refine LW_nil ?_
      refine sq_n ?_
      refine CW_seq ?_
      refine PX_start (fun l W => Has (hp w) [] W) Tryz_mixed ?_
      replace hST := hST.drew
      have hS0 : Has (hp w) [] _ := hST.has.sub (Sub.refl _) (fun p hq => (absurd hq List.not_mem_nil))
      refine PX_v 0 rfl (by kernel_rfl) (.inl rfl) rfl (by decide) (fun _ _ h => h) hS0 (fun _ _ _ _ => R_move (v := v_a0) e151) ?_
      refine PX_v 1 rfl (by kernel_rfl) (.inl rfl) rfl (by decide) (fun _ _ h => h) hS0 (fun _ _ _ _ => R_move (v := (.int .i64 ((i90 : Int)))) rfl) ?_
      refine PX_q 2 rfl (by kernel_rfl) (.inl rfl) rfl (by decide) (fun _ _ h => h) hS0 (R_indexP (enc := encRole) (i := (i90 : Int)) (x0 := x91) Tryz.underlying23 Tryz.sizeOf47 rfl rfl h_a0 (Int.natCast_nonneg _) hx93) (fun p169 hp170 => ?_)
      refine PX_v 3 rfl (by kernel_rfl) (.inl rfl) rfl (by decide) (fun _ _ h => h) hS0 (fun l W hpd hs => have hS := hs; R_load rfl (load_atA hS hp170 Tryz.isAgg47 Tryz.sizeOf47)) ?_
      refine PX_v 4 rfl (by kernel_rfl) (.inl rfl) rfl (by decide) (fun _ _ h => h) hS0 (fun _ _ _ _ => R_move (v := v_a1) e152) ?_
      refine PX_v 5 rfl (by kernel_rfl) (.inl rfl) rfl (by decide) (fun _ _ h => h) hS0 (fun _ _ _ _ => R_move (v := (.int .i64 ((i90 : Int)))) rfl) ?_
      obtain ⟨x175, hx176, hm150⟩ := bind_some hm150
      refine PX_q 6 rfl (by kernel_rfl) (.inl rfl) rfl (by decide) (fun _ _ h => h) hS0 (R_indexP (enc := encRole) (i := (i90 : Int)) (x0 := x175) Tryz.underlying23 Tryz.sizeOf47 rfl rfl h_a1 (idx_nonneg hx176) (idx_get hx176)) (fun p172 hp173 => ?_)
      refine PX_v 7 rfl (by kernel_rfl) (.inl rfl) rfl (by decide) (fun _ _ h => h) hS0 (fun l W hpd hs => have hS := hs; R_load rfl (load_atA hS hp173 Tryz.isAgg47 Tryz.sizeOf47)) ?_
      refine PX_v 8 rfl (by kernel_rfl) (.inl rfl) rfl (by decide) (fun _ _ h => h) hS0 (fun _ _ _ _ => R_neq (a := (encRole x91).toArray) (b := (encRole x175).toArray) rfl rfl (guard_agg Tryz.eqGuardType47) (bin_neq (eqInRole _ x91 x175))) ?_
      refine PX_done (by kernel_rfl) ?_
      refine sq_n ?_
      refine CW_if (b := (!(beqRole x91 x175))) rfl (fun hb177 => ?_) (fun hb177 => ?_)
      · replace hm150 := if_t hb177 hm150
        refine CW_seq ?_
        refine CW_region ?_
        refine LW_v (.inl rfl) rfl (by decide) (R_assign (v := (.bool false)) rfl) ?_
        refine LW_nil ?_
        refine sq_n ?_
        refine CW_ret ?_
        refine bq_r (sq_r (bq_r (sq_r ?_)))
        replace hm150 := Option.some.inj hm150; subst hm150
        refine retQ_1 (v := (.bool false)) rfl rfl ?_
        exact ⟨rfl, hST.ex⟩
      · replace hm150 := if_f hb177 hm150
        refine CW_skip ?_
        refine bq_n ?_
        refine sq_n ?_
        exact ⟨eI, _, ⟨rfl, eN⟩, (hST.sublist (List.Sublist.refl _)), e151, e152, (by rw [hx95]; exact hm150)⟩
    · rintro E W ⟨L149, ⟨eI, eN⟩, hST, e151, e152, hm150⟩
      rw [List.drop_length] at hm150
      rw [m_ref04_Same_L1] at hm150
      refine sq_n ?_
      refine CW_seq ?_
      refine CW_region ?_
      refine LW_v (.inl rfl) rfl (by decide) (R_assign (v := (.bool true)) rfl) ?_
      refine LW_nil ?_
      refine sq_n ?_
      refine CW_ret ?_
      replace hm150 := Option.some.inj hm150; subst hm150
      refine retQ_1 (v := (.bool true)) rfl rfl ?_
      exact ⟨rfl, hST.ex⟩
theorem w_model_Model_In_nil (a1 : Role) (a2 : ByteArray) (r : Bool) (w : World)  (hm : m_model_Model_In_nil a1 a2 = some r) :
    Gives true Tryz.prog 35 [(.pointer none), (.agg (encRole a1).toArray), (.string a2)] w (.bool r) := by
  have hST := ST.start (dd := true) w
  unfold m_model_Model_In_nil at hm
  refine calls_of_CW (n := 19) Tryz.func35 rfl rfl (Nat.le_of_ble_eq_true rfl) ?_
  refine CW_seq ?_
  refine CW_region ?_
  refine LW_e (.inl rfl) rfl (by decide) (E_box (v := (.agg (encRole a1).toArray)) hST rfl (fun W2 b1 hST => ?_))
  refine LW_v (.inl rfl) rfl (by decide) (R_assign (v := (.bool false)) rfl) ?_
  refine LW_nil ?_
  refine sq_n ?_
  refine CW_seq ?_
  refine PX_start (fun l W => Has (hp w) [] W) Tryz_mixed ?_
  replace hST := hST.drew
  have hS0 : Has (hp w) [] _ := hST.has.sub (Sub.refl _) (fun p hq => (absurd hq List.not_mem_nil))
  refine PX_v 0 rfl (by kernel_rfl) (.inl rfl) rfl (by decide) (fun _ _ h => h) hS0 (fun _ _ _ _ => R_move (v := (.pointer none)) rfl) ?_
  refine PX_v 1 rfl (by kernel_rfl) (.inl rfl) rfl (by decide) (fun _ _ h => h) hS0 (fun _ _ _ _ => R_ptrNeNil Tryz.underlying51 rfl rfl) ?_
  refine PX_v 2 rfl (by kernel_rfl) (.inl rfl) rfl (by decide) (fun _ _ h => h) hS0 (fun _ _ _ _ => R_move (v := (.bool false)) rfl) ?_
  refine PX_no 3 rfl (by kernel_rfl) rfl rfl (by decide) rfl rfl (by decide) (fun _ _ h => h) hS0 ?_
  refine PX_no 4 rfl (by kernel_rfl) rfl rfl (by decide) rfl rfl (by decide) (fun _ _ h => h) hS0 ?_
  refine PX_no 5 rfl (by kernel_rfl) rfl rfl (by decide) rfl rfl (by decide) (fun _ _ h => h) hS0 ?_
  refine PX_no 6 rfl (by kernel_rfl) rfl rfl (by decide) rfl rfl (by decide) (fun _ _ h => h) hS0 ?_
  refine PX_no 7 rfl (by kernel_rfl) rfl rfl (by decide) rfl rfl (by decide) (fun _ _ h => h) hS0 ?_
  refine PX_no 8 rfl (by kernel_rfl) rfl rfl (by decide) rfl rfl (by decide) (fun _ _ h => h) hS0 ?_
  refine PX_no 9 rfl (by kernel_rfl) rfl rfl (by decide) rfl rfl (by decide) (fun _ _ h => h) hS0 ?_
  refine PX_no 10 rfl (by kernel_rfl) rfl rfl (by decide) rfl rfl (by decide) (fun _ _ h => h) hS0 ?_
  refine PX_v 11 rfl (by kernel_rfl) (.inl rfl) rfl (by decide) (fun _ _ h => h) hS0 (fun _ _ _ _ => R_pickF (v := (.bool false)) rfl rfl) ?_
  refine PX_v 12 rfl (by kernel_rfl) (.inl rfl) rfl (by decide) (fun _ _ h => h) hS0 (fun _ _ _ _ => R_assign (v := (.bool false)) rfl) ?_
  refine PX_done (by kernel_rfl) ?_
  refine sq_n ?_
  replace hST : ST true NoF w _ _ [] := hST.sublist (List.Sublist.cons _ (List.Sublist.refl _))
  refine CW_ret ?_
  replace hm := Option.some.inj hm; subst hm
  refine retQ_1 (v := (.bool false)) rfl rfl ?_
  exact ⟨rfl, hST.ex⟩
theorem w_model_Model_Facts_nil  (r : List Fact) (w : World)  (hm : m_model_Model_Facts_nil  = some r) :
    GivesRow true Tryz.prog 34 [(.pointer none)] w 78 encFact 3 r := by
  have hST := ST.start (dd := true) w
  unfold m_model_Model_Facts_nil at hm
  refine calls_of_CW (n := 34) Tryz.func34 rfl rfl (Nat.le_of_ble_eq_true rfl) ?_
  refine CW_seq ?_
  refine CW_region ?_
  refine LW_v (.inl rfl) rfl (by decide) (R_assign (v := (.slice none 0 0)) rfl) ?_
  refine LW_nil ?_
  refine sq_n ?_
  refine CW_seq ?_
  refine CW_seq ?_
  refine CW_region ?_
  refine LW_v (.inl rfl) rfl (by decide) (R_move (v := (.pointer none)) rfl) ?_
  refine LW_v (.inl rfl) rfl (by decide) (R_ptrEqNil Tryz.underlying51 rfl rfl) ?_
  refine LW_nil ?_
  refine sq_n ?_
  refine CW_if_true rfl ?_
  refine CW_seq ?_
  refine CW_region ?_
  refine LW_v (.inl rfl) rfl (by decide) (R_assign (v := (.slice none 0 0)) rfl) ?_
  refine LW_nil ?_
  refine sq_n ?_
  refine CW_ret ?_
  refine sq_r ?_
  replace hm := Option.some.inj hm; subst hm
  refine retQ_1 (v := (.slice none 0 0)) rfl rfl ?_
  exact ⟨_, [], rfl, hST.backRow (fun p hq => by cases hq) (by simp), Row.nil _ _ _⟩
theorem w_model_Model_Members_nil (a1 : Role) (r : List ByteArray) (w : World)  (hm : m_model_Model_Members_nil a1 = some r) :
    GivesRow true Tryz.prog 37 [(.pointer none), (.agg (encRole a1).toArray)] w 9 encSk 1 r := by
  have hST := ST.start (dd := true) w
  unfold m_model_Model_Members_nil at hm
  refine calls_of_CW (n := 15) Tryz.func37 rfl rfl (Nat.le_of_ble_eq_true rfl) ?_
  refine CW_seq ?_
  refine CW_region ?_
  refine LW_e (.inl rfl) rfl (by decide) (E_box (v := (.agg (encRole a1).toArray)) hST rfl (fun W2 b1 hST => ?_))
  refine LW_v (.inl rfl) rfl (by decide) (R_assign (v := (.slice none 0 0)) rfl) ?_
  refine LW_nil ?_
  refine sq_n ?_
  refine CW_seq ?_
  refine CW_seq ?_
  refine CW_region ?_
  refine LW_v (.inl rfl) rfl (by decide) (R_move (v := (.pointer none)) rfl) ?_
  refine LW_v (.inl rfl) rfl (by decide) (R_ptrEqNil Tryz.underlying51 rfl rfl) ?_
  refine LW_nil ?_
  refine sq_n ?_
  refine CW_if_true rfl ?_
  refine CW_seq ?_
  refine CW_region ?_
  refine LW_v (.inl rfl) rfl (by decide) (R_assign (v := (.slice none 0 0)) rfl) ?_
  refine LW_nil ?_
  refine sq_n ?_
  replace hST : ST true NoF w _ _ [] := hST.sublist (List.Sublist.cons _ (List.Sublist.refl _))
  refine CW_ret ?_
  refine sq_r ?_
  replace hm := Option.some.inj hm; subst hm
  refine retQ_1 (v := (.slice none 0 0)) rfl rfl ?_
  exact ⟨_, [], rfl, hST.backRow (fun p hq => by cases hq) (by simp), Row.nil _ _ _⟩
theorem w_model_Model_Roles_nil (a1 : ByteArray) (r : List Role) (w : World)  (hm : m_model_Model_Roles_nil a1 = some r) :
    GivesRow true Tryz.prog 39 [(.pointer none), (.string a1)] w 47 encRole 2 r := by
  have hST := ST.start (dd := true) w
  unfold m_model_Model_Roles_nil at hm
  refine calls_of_CW (n := 26) Tryz.func39 rfl rfl (Nat.le_of_ble_eq_true rfl) ?_
  refine CW_seq ?_
  refine CW_region ?_
  refine LW_v (.inl rfl) rfl (by decide) (R_assign (v := (.slice none 0 0)) rfl) ?_
  refine LW_nil ?_
  refine sq_n ?_
  refine CW_seq ?_
  refine CW_region ?_
  refine LW_v (.inl rfl) rfl (by decide) (R_assign (v := (.slice none 0 0)) rfl) ?_
  refine LW_nil ?_
  refine sq_n ?_
  refine CW_seq ?_
  refine CW_seq ?_
  refine CW_region ?_
  refine LW_v (.inl rfl) rfl (by decide) (R_move (v := (.pointer none)) rfl) ?_
  obtain ⟨r1, hr2, hm⟩ := bind_some hm
  refine LW_e (.inl rfl) rfl (by decide) (E_givesRow (args := [(.pointer none)]) [] _ hST rfl Tryz.call34 (by exact args1 rfl) ((w_model_Model_Facts_nil  _ _  hr2)) (fun W3 v6 μ4 R7 hST hle5 hR8 => ?_))
  refine LW_v (.inl rfl) rfl (by decide) (R_lenRow Tryz.underlying53 rfl hR8) ?_
  refine LW_v (.inl rfl) rfl (by decide) (R_move (v := (.int .i64 0)) rfl) ?_
  refine LW_nil ?_
  refine sq_n ?_
  replace hST : ST true NoF w _ _ (R7 ++ []) := hST
  refine CW_range (fun i E W => ∃ (v99 : Value) (l100 : List Role) (R102 : List (Nat × Obj)) (L125 : List (Nat × Obj)), (E 11 = .int .i64 (i : Nat) ∧ E 10 = .int .i64 (r1.length : Nat)) ∧ ST true NoF w W μ4 (R102 ++ (R7 ++ L125)) ∧ E 1 = (.string a1) ∧ E 5 = v99 ∧ E 9 = v6 ∧ Row 47 encRole 2 v99 l100 R102 ∧ m_model_Model_Roles_nil_L1 a1 (r1.drop i) l100 = some r) r1.length hR8.len ⟨(.slice none 0 0), ([]), [], _, ⟨rfl, rfl⟩, (hST.sublist (List.Sublist.refl _)), rfl, rfl, rfl, (Row.nil _ _ _), hm⟩ (by decide) (by decide) (by decide) (fun _ _ _ h => by obtain ⟨_, _, _, _, eIN, _⟩ := h; exact eIN) ?_ ?_
  · rintro i77 E W hi83 ⟨v99, l100, R102, L125, ⟨eI, eN⟩, hST, e127, e128, e129, hs101, hm126⟩
    obtain ⟨x78, xs79, hx81, hx80, hx82⟩ := drop_cons hi83
    rw [hx81] at hm126
    rw [m_model_Model_Roles_nil_L1] at hm126
    refine CW_block ?_
    refine CW_seq ?_
    refine CW_region ?_
    refine LW_q (.inl rfl) rfl (by decide) (R_indexRow (i := (i77 : Int)) (x0 := x78) Tryz.underlying53 Tryz.sizeOf78 e129 eI hR8 (Int.natCast_nonneg _) hx80) (fun p130 hp131 => ?_)
    refine LW_v (.inl rfl) rfl (by decide) (R_load (v := (.agg (encFact x78).toArray)) rfl (load_ixA hST.has (fun p hq => by simp [hq]) hR8 lenFact hp131 hx80 Tryz.isAgg78 Tryz.sizeOf78)) ?_
    refine LW_e (.inl rfl) rfl (by decide) (E_alloc hST Tryz.zeroValue78 (fun W134 b133 hST => ?_))
    refine LW_e0 (.inl rfl) rfl (E_store [] (.agg (encFact x78).toArray) ((encFact x78).toArray) hST rfl rfl Tryz.sizeOf78 (oneFact x78) (Nat.le_of_ble_eq_true rfl) rfl (fun W135 hST => ?_))
    refine LW_nil ?_
    refine sq_n ?_
    refine CW_seq ?_
    refine CW_region ?_
    refine LW_v (.inl rfl) rfl (by decide) (R_field fa78_1 rfl) ?_
    refine LW_v (.inl rfl) rfl (by decide) (R_load (v := (.string x78.Who)) rfl (load_box1 hST.has (.head _) rfl Tryz.isAgg9)) ?_
    refine LW_v (.inl rfl) rfl (by decide) (R_move (v := (.string a1)) e127) ?_
    refine LW_v (.inl rfl) rfl (by decide) (R_str (a := x78.Who) (b := a1) (v := (.bool ((beqS x78.Who a1)))) rfl rfl rfl) ?_
    refine LW_nil ?_
    refine sq_n ?_
    refine CW_if (b := (beqS x78.Who a1)) rfl (fun hb136 => ?_) (fun hb136 => ?_)
    · replace hm126 := if_t hb136 hm126
      refine CW_region ?_
      refine LW_v (.inl rfl) rfl (by decide) (R_move (v := v99) e128) ?_
      refine LW_v (.inl rfl) rfl (by decide) (R_field fa78_0 rfl) ?_
      refine LW_v (.inl rfl) rfl (by decide) (R_load (v := (.agg (encRole x78.Role).toArray)) rfl (load_boxA hST.has (.head _) (encRole x78.Role) rfl Tryz.isAgg47 Tryz.sizeOf47)) ?_
      refine LW_e (.inl rfl) rfl (by decide) (E_buildSlice (qs := #[(0, (.agg (encRole x78.Role).toArray))]) (cs := (encRole x78.Role).toArray) hST (parts1 rfl) (run_lit [(.agg (encRole x78.Role).toArray)] Tryz.underlying23 Tryz.sizeOf47 Tryz.zeroValue47 (by decide) rfl (by intro v hv; simp only [List.mem_cons, List.not_mem_nil, or_false] at hv; rcases hv with rfl <;> rfl) rfl rfl) (fun W138 b137 hST => ?_))
      replace hST : ST true NoF w _ _ ((b137, Obj.cells ((encRole x78.Role).toArray : Array Value) 47 (0, 0)) :: ((b133, Obj.cells ((encFact x78).toArray : Array Value) 78 (0, 0)) :: (R102 ++ (R7 ++ L125)))) := hST
      obtain ⟨l139, hb140, hm126⟩ := bind_some hm126
      refine LW_e (.inl rfl) rfl (by decide) (E_append (enc := encRole) (v := v99) (vs := (.slice (some ⟨b137, 0, none⟩) 1 1)) (R := R102) [_, _] hST lenRole (by decide) oneRole Tryz.underlying23 info47.1 info47.2.1 rfl info47.2.2.1 info47.2.2.2 rfl rfl hs101 (Sl.lit (enc := encRole) (l := [x78.Role]) lenRole rfl (Nat.le_of_ble_eq_true rfl) rfl (hST.at_ (.head _))) hb140 (fun W141 v144 R142 hST hR143 => ?_))
      refine LW_v (.inl rfl) rfl (by decide) (R_assign (v := v144) rfl) ?_
      refine LW_nil ?_
      refine bq_n ?_
      refine sq_n ?_
      replace hST : ST true NoF w _ _ ((b137, Obj.cells ((encRole x78.Role).toArray : Array Value) 47 (0, 0)) :: ((b133, Obj.cells ((encFact x78).toArray : Array Value) 78 (0, 0)) :: (R142 ++ (R7 ++ L125)))) := hST
      replace hST : ST true NoF w _ _ (R142 ++ (R7 ++ L125)) := hST.sublist (List.Sublist.cons _ (List.Sublist.cons _ (List.Sublist.refl _)))
      exact ⟨eI, v144, l139, R142, _, ⟨rfl, eN⟩, (hST.sublist (List.Sublist.refl _)), e127, rfl, e129, hR143, (by rw [hx82]; exact hm126)⟩
    · replace hm126 := if_f hb136 hm126
      refine CW_skip ?_
      refine bq_n ?_
      refine sq_n ?_
      replace hST : ST true NoF w _ _ ((b133, Obj.cells ((encFact x78).toArray : Array Value) 78 (0, 0)) :: (R102 ++ (R7 ++ L125))) := hST
      replace hST : ST true NoF w _ _ (R102 ++ (R7 ++ L125)) := hST.sublist (List.Sublist.cons _ (List.Sublist.refl _))
      exact ⟨eI, v99, l100, R102, _, ⟨rfl, eN⟩, (hST.sublist (List.Sublist.refl _)), e127, e128, e129, hs101, (by rw [hx82]; exact hm126)⟩
  · rintro E W ⟨v99, l100, R102, L125, ⟨eI, eN⟩, hST, e127, e128, e129, hs101, hm126⟩
    rw [List.drop_length] at hm126
    rw [m_model_Model_Roles_nil_L1] at hm126
    refine sq_n ?_
    replace hST : ST true NoF w _ _ (R102 ++ L125) := hST.sublist (List.Sublist.append (List.Sublist.refl _) ((List.Sublist.refl _).trans (List.sublist_append_right _ _)))
    refine CW_seq ?_
    refine CW_region ?_
    refine LW_v (.inl rfl) rfl (by decide) (R_move (v := v99) e128) ?_
    refine LW_v (.inl rfl) rfl (by decide) (R_assign (v := v99) rfl) ?_
    refine LW_nil ?_
    refine sq_n ?_
    refine CW_ret ?_
    replace hm126 := Option.some.inj hm126; subst hm126
    refine retQ_1 (v := v99) rfl rfl ?_
    exact ⟨_, R102, rfl, hST.backRow (fun p hq => by simp [hq]) hs101.nd, hs101⟩
theorem w_model_Model_Add_nil (v_a1 : Value) (a1 : List Cred) (r : Int) (w : World) (h_a1 : Sl (Pl encCred) 9 (hp w) v_a1 a1) (hm : m_model_Model_Add_nil a1 = some r) :
    Gives true Tryz.prog 41 [(.pointer none), v_a1] w (.int .i64 r) := by
  have hST := ST.start (dd := true) w
  unfold m_model_Model_Add_nil at hm
  refine calls_of_CW (n := 46) Tryz.func41 rfl rfl (Nat.le_of_ble_eq_true rfl) ?_
  refine CW_seq ?_
  refine CW_region ?_
  refine LW_v (.inl rfl) rfl (by decide) (R_assign (v := (.int .i64 0)) rfl) ?_
  refine LW_nil ?_
  refine sq_n ?_
  refine CW_seq ?_
  refine CW_seq ?_
  refine CW_region ?_
  refine LW_v (.inl rfl) rfl (by decide) (R_move (v := (.pointer none)) rfl) ?_
  refine LW_v (.inl rfl) rfl (by decide) (R_ptrEqNil Tryz.underlying51 rfl rfl) ?_
  refine LW_nil ?_
  refine sq_n ?_
  refine CW_if_true rfl ?_
  refine CW_seq ?_
  refine CW_region ?_
  refine LW_v (.inl rfl) rfl (by decide) (R_assign (v := (.int .i64 0)) rfl) ?_
  refine LW_nil ?_
  refine sq_n ?_
  refine CW_ret ?_
  refine sq_r ?_
  replace hm := Option.some.inj hm; subst hm
  refine retQ_1 (v := (.int .i64 0)) rfl rfl ?_
  exact ⟨rfl, hST.ex⟩
theorem w_law08_ModelTells (v_a0 : Value) (a0 : List Cred) (a1 : Role) (a2 : ByteArray) (r : Bool) (w : World) (h_a0 : Sl (Pl encCred) 9 (hp w) v_a0 a0) (hm : m_law08_ModelTells a0 a1 a2 = some r) :
    Gives false Tryz.prog 5 [v_a0, (.agg (encRole a1).toArray), (.string a2)] w (.bool r) := by
  have hST := ST.start (dd := false) w
  unfold m_law08_ModelTells at hm
  refine calls_of_CW (n := 94) Tryz.func5 rfl rfl (Nat.le_of_ble_eq_true rfl) ?_
  refine CW_seq ?_
  refine CW_region ?_
  refine LW_e (.inl rfl) rfl (by decide) (E_box (v := (.agg (encRole a1).toArray)) hST rfl (fun W2 b1 hST => ?_))
  refine LW_v (.inl rfl) rfl (by decide) (R_assign (v := (.bool false)) rfl) ?_
  refine LW_nil ?_
  refine sq_n ?_
  refine CW_seq ?_
  refine CW_seq ?_
  refine CW_region ?_
  obtain ⟨r3, hr4, hm⟩ := bind_some hm
  refine LW_e (.inl rfl) rfl (by decide) (E_gives (args := []) hST rfl Tryz.call30 (by exact args0 ) ((w_law08_first  _ _  hr4)) (fun W5 hST => ?_))
  refine LW_v (.inl rfl) rfl (by decide) (R_not (b := r3) rfl) ?_
  refine LW_nil ?_
  refine sq_n ?_
  refine CW_if (b := (!r3)) rfl (fun hb6 => ?_) (fun hb6 => ?_)
  · replace hm := if_t hb6 hm
    refine CW_seq ?_
    refine CW_region ?_
    refine LW_v (.inl rfl) rfl (by decide) (R_assign (v := (.bool false)) rfl) ?_
    refine LW_nil ?_
    refine sq_n ?_
    replace hST : ST false NoF w _ _ [] := hST.sublist (List.Sublist.cons _ (List.Sublist.refl _))
    refine CW_ret ?_
    refine sq_r ?_
    replace hm := Option.some.inj hm; subst hm
    refine retQ_1 (v := (.bool false)) rfl rfl ?_
    exact ⟨rfl, hST.ex⟩
  · replace hm := if_f hb6 hm
    refine CW_skip ?_
    refine sq_n ?_
    refine CW_seq ?_
    refine CW_seq ?_
    refine CW_region ?_
    refine LW_v (.inl rfl) rfl (by decide) (R_move (v := v_a0) rfl) ?_
    obtain ⟨r7, hr8, hm⟩ := bind_some hm
    refine LW_e (.inl rfl) rfl (by decide) (E_gives (args := [v_a0]) hST rfl Tryz.call16 (by exact args1 rfl) (Gives.weak (w_law05_Great v_a0 a0 _ _ (h_a0.mono (Pl.mono _) hST.sub_hp) hr8)) (fun W9 hST => ?_))
    refine LW_v (.inl rfl) rfl (by decide) (R_int (k := .i64) (a := r7) (b := 1200) (v := (.bool ((decide (r7 > 1200))))) rfl rfl rfl) ?_
    refine LW_v (.inl rfl) rfl (by decide) (R_move (v := (.bool ((decide (r7 > 1200))))) rfl) ?_
    obtain ⟨s775, hm776, hm777⟩ := bind_some hm
    refine LW_join (J := fun E W => ∃ (x11 : Bool) (L12 : List (Nat × Obj)), ST false NoF w W (hp w) ((b1, Obj.cells ((encRole a1).toArray : Array Value) 47 (0, 0)) :: L12) ∧ E 0 = v_a0 ∧ E 2 = (.string a2) ∧ E 4 = (.pointer (some ⟨b1, 0, none⟩)) ∧ E 27 = (.bool x11) ∧ (if x11 then some true else (((m_model_Of a0)).bind fun r19 => (((m_ref08_Of a0)).bind fun r44 => (((m_model_Model_Facts r19.1 r19.2.1 r19.2.2.1 r19.2.2.2.1 r19.2.2.2.2.1 r19.2.2.2.2.2)).bind fun r534 => (((m_ref08_Same r534 r44)).bind fun r542 => (((if r542 then (((m_model_Model_In r19.1 r19.2.1 r19.2.2.1 r19.2.2.2.1 r19.2.2.2.2.1 r19.2.2.2.2.2 a1 a2)).bind fun r769 => (((m_ref08_In r44 a1 a2)).bind fun r772 => some ((r769 == r772)))) else some false) : Option Bool).bind fun x552 => (((if x552 then (((m_model_Model_Members r19.1 r19.2.1 r19.2.2.1 r19.2.2.2.1 r19.2.2.2.2.1 r19.2.2.2.2.2 a1)).bind fun r746 => (((m_ref08_Members r44 a1)).bind fun r754 => (((m_ref03_Same r746 r754)).bind fun r762 => some r762))) else some false) : Option Bool).bind fun x583 => (((if x583 then (((m_model_Model_Roles r19.1 r19.2.1 r19.2.2.1 r19.2.2.2.1 r19.2.2.2.2.1 r19.2.2.2.2.2 a2)).bind fun r723 => (((m_ref08_Roles r44 a2)).bind fun r731 => (((m_ref04_Same r723 r731)).bind fun r739 => some r739))) else some false) : Option Bool).bind fun x615 => (((if x615 then (((m_model_Model_In_nil a1 a2)).bind fun r716 => some ((!r716))) else some false) : Option Bool).bind fun x628 => (((if x628 then (m_model_Model_Facts_nil.bind fun r688 => (((m_model_Model_Members_nil a1)).bind fun r696 => (((m_model_Model_Roles_nil a2)).bind fun r704 => some ((((IntKind.i64.wrap (((IntKind.i64.wrap (((r688.length : Int)) + ((r696.length : Int))))) + ((r704.length : Int))))) == 0))))) else some false) : Option Bool).bind fun x662 => (((if x662 then (((m_model_Model_Add_nil a0)).bind fun r681 => some ((r681 == 0))) else some false) : Option Bool).bind fun x673 => some x673))))))))))) = some r) 12 ?_ (fun key778 => ?_)
    · rintro E W ⟨x11, L12, hST, e14, e15, e16, e17, hm13⟩
      refine LW_nil ?_
      refine sq_n ?_
      refine CW_if (b := x11) e17 (fun hb18 => ?_) (fun hb18 => ?_)
      · replace hm13 := if_t hb18 hm13
        refine CW_seq ?_
        refine CW_region ?_
        refine LW_v (.inl rfl) rfl (by decide) (R_assign (v := (.bool true)) rfl) ?_
        refine LW_nil ?_
        refine sq_n ?_
        replace hST : ST false NoF w _ _ L12 := hST.sublist (List.Sublist.cons _ (List.Sublist.refl _))
        refine CW_ret ?_
        refine sq_r ?_
        replace hm13 := Option.some.inj hm13; subst hm13
        refine retQ_1 (v := (.bool true)) rfl rfl ?_
        exact ⟨rfl, hST.ex⟩
      · replace hm13 := if_f hb18 hm13
        refine CW_skip ?_
        refine sq_n ?_
        refine CW_seq ?_
        refine CW_region ?_
        refine LW_v (.inl rfl) rfl (by decide) (R_move (v := v_a0) e14) ?_
        obtain ⟨r19, hr20, hm13⟩ := bind_some hm13
        have hsz := hST.size
        refine LW_e (.inl rfl) rfl (by decide) (E_callM (args := [v_a0]) (caps := #[]) [] (((b1, Obj.cells ((encRole a1).toArray : Array Value) 47 (0, 0)) :: L12)) hST (List.Perm.refl _) rfl Tryz.call31 (by exact args1 rfl) (fun _ _ _ _ => (w_model_Of v_a0 a0 _ _ (h_a0.mono (Pl.mono _) hST.sub_hp) hr20)) (fun W21 v24 μ22 L26 hST hle23 hlift hK25 => ?_))
        obtain ⟨b27, y28, S29, y31, S32, y34, S35, y37, S38, y40, S41, hv43, rfl, hy30, hy33, hy36, hy39, hy42⟩ := hK25
        replace hv43 := hv43.symm; subst hv43
        simp only [List.append_assoc, List.cons_append, List.nil_append] at hST
        replace hST : ST false NoF w _ _ ((b27, Obj.cells (#[y28, y31, y34, y37, y40, (.int .i64 (r19.2.2.2.2.2))] : Array Value) 134 (0, 0)) :: ((b1, Obj.cells ((encRole a1).toArray : Array Value) 47 (0, 0)) :: (S29 ++ (S32 ++ (S35 ++ (S38 ++ (S41 ++ L12))))))) := hST.perm (permD [[(b27, Obj.cells (#[y28, y31, y34, y37, y40, (.int .i64 (r19.2.2.2.2.2))] : Array Value) 134 (0, 0))], S29, S32, S35, S38, S41, [(b1, Obj.cells ((encRole a1).toArray : Array Value) 47 (0, 0))]] [0, 1, 2, 3, 4, 5, 6] [0, 6, 1, 2, 3, 4, 5] L12 (by decide) rfl rfl)
        refine LW_v (.inl rfl) rfl (by decide) (R_move (v := v_a0) e14) ?_
        obtain ⟨r44, hr45, hm13⟩ := bind_some hm13
        refine LW_e (.inl rfl) rfl (by decide) (E_givesRow (args := [v_a0]) [_, _] _ hST rfl Tryz.call32 (by exact args1 rfl) (GivesRow.weak (w_ref08_Of v_a0 a0 _ _ (h_a0.mono (Pl.mono _) (hle23.trans hST.sub_hp)) hr45)) (fun W46 v49 μ47 R50 hST hle48 hR51 => ?_))
        refine LW_v (.inl rfl) rfl (by decide) (R_assign (v := (.pointer (some ⟨b27, 0, none⟩))) rfl) ?_
        refine LW_v (.inl rfl) rfl (by decide) (R_assign (v := v49) rfl) ?_
        refine LW_nil ?_
        refine sq_n ?_
        refine CW_seq ?_
        refine CW_region ?_
        refine LW_v (.inl rfl) rfl (by decide) (R_assign (v := (.pointer none)) rfl) ?_
        refine LW_nil ?_
        refine sq_n ?_
        refine CW_seq ?_
        refine PX_start (fun l W => Has μ47 ((b1, Obj.cells ((encRole a1).toArray : Array Value) 47 (0, 0)) :: []) W) Tryz_mixed ?_
        replace hST := hST.drew
        replace hST : ST false NoF w _ _ ((b27, Obj.cells (#[y28, y31, y34, y37, y40, (.int .i64 (r19.2.2.2.2.2))] : Array Value) 134 (0, 0)) :: ((b1, Obj.cells ((encRole a1).toArray : Array Value) 47 (0, 0)) :: (R50 ++ (S29 ++ (S32 ++ (S35 ++ (S38 ++ (S41 ++ L12)))))))) := hST
        have hS0 : Has μ47 ((b1, Obj.cells ((encRole a1).toArray : Array Value) 47 (0, 0)) :: []) _ := hST.has.sub (Sub.refl _) (fun p hq => ((List.mem_cons.1 hq).elim (fun hq => by rw [hq]; exact (.tail _ (.head _))) (fun hq => (absurd hq List.not_mem_nil))))
        refine PX_v 0 rfl (by kernel_rfl) (.inl rfl) rfl (by decide) (fun _ _ h => h) hS0 (fun _ _ _ _ => R_move (v := (.pointer (some ⟨b27, 0, none⟩))) rfl) ?_
        refine PX_v 2 rfl (by kernel_rfl) (.inl rfl) rfl (by decide) (fun _ _ h => h) hS0 (fun _ _ _ _ => R_move (v := v49) rfl) ?_
        obtain ⟨r534, hr535, hm13⟩ := bind_some hm13
        refine PX_e 1 rfl (by kernel_rfl) (.inl rfl) rfl (by decide) (E_givesRow (args := [(.pointer (some ⟨b27, 0, none⟩))]) [_, _] _ hST rfl Tryz.call34 (by exact args1 rfl) (GivesRow.weak (w_model_Model_Facts b27 y28 r19.1 y31 r19.2.1 y34 r19.2.2.1 y37 r19.2.2.2.1 y40 r19.2.2.2.2.1 r19.2.2.2.2.2 _ _ (hy30.at (fun b o hq => hST.at_ (.tail _ (.tail _ (List.mem_append_right _ (List.mem_append_left _ hq)))))) (hy33.sl lenCred (fun b o hq => hST.at_ (.tail _ (.tail _ (List.mem_append_right _ (List.mem_append_right _ (List.mem_append_left _ hq))))))) (hy36.at (fun b o hq => hST.at_ (.tail _ (.tail _ (List.mem_append_right _ (List.mem_append_right _ (List.mem_append_right _ (List.mem_append_left _ hq)))))))) (hy39.at (fun b o hq => hST.at_ (.tail _ (.tail _ (List.mem_append_right _ (List.mem_append_right _ (List.mem_append_right _ (List.mem_append_right _ (List.mem_append_left _ hq))))))))) ((hy42.slL lenFact).mono (Pl.mono _) (memL_held (fun b o hq => hST.at_ (.tail _ (.tail _ (List.mem_append_right _ (List.mem_append_right _ (List.mem_append_right _ (List.mem_append_right _ (List.mem_append_right _ (List.mem_append_left _ hq))))))))))) (At.of (hST.at_ (.head _)) _ rfl) hr535)) (fun W536 v539 μ537 R540 hST hle538 hR541 => ?_))
        replace hST : ST false NoF w _ _ ((b27, Obj.cells (#[y28, y31, y34, y37, y40, (.int .i64 (r19.2.2.2.2.2))] : Array Value) 134 (0, 0)) :: ((b1, Obj.cells ((encRole a1).toArray : Array Value) 47 (0, 0)) :: (R540 ++ (R50 ++ (S29 ++ (S32 ++ (S35 ++ (S38 ++ (S41 ++ L12))))))))) := hST
        have hS0 : Has μ47 ((b1, Obj.cells ((encRole a1).toArray : Array Value) 47 (0, 0)) :: []) _ := hST.has.sub hle538 (fun p hq => ((List.mem_cons.1 hq).elim (fun hq => by rw [hq]; exact (.tail _ (.head _))) (fun hq => (absurd hq List.not_mem_nil))))
        refine ⟨hS0, ?_⟩
        obtain ⟨r542, hr543, hm13⟩ := bind_some hm13
        refine PX_e 3 rfl (by kernel_rfl) (.inl rfl) rfl (by decide) (E_gives (args := [v539, v49]) hST rfl Tryz.call33 (by exact args2 rfl rfl) (Gives.weak (w_ref08_Same v539 r534 v49 r44 _ _ (hR541.sl lenFact (fun b o hq => hST.at_ (.tail _ (.tail _ (List.mem_append_left _ hq))))) (hR51.sl lenFact (fun b o hq => hST.at_ (.tail _ (.tail _ (List.mem_append_right _ (List.mem_append_left _ hq)))))) hr543)) (fun W544 hST => ?_))
        have hS0 : Has μ47 ((b1, Obj.cells ((encRole a1).toArray : Array Value) 47 (0, 0)) :: []) _ := hST.has.sub hle538 (fun p hq => ((List.mem_cons.1 hq).elim (fun hq => by rw [hq]; exact (.tail _ (.head _))) (fun hq => (absurd hq List.not_mem_nil))))
        refine ⟨hS0, ?_⟩
        refine PX_v 4 rfl (by kernel_rfl) (.inl rfl) rfl (by decide) (fun _ _ h => h) hS0 (fun _ _ _ _ => R_move (v := (.bool r542)) rfl) ?_
        obtain ⟨s765, hm766, hm767⟩ := bind_some hm13
        refine PX_join (J := fun E W => ∃ (x552 : Bool) (L553 : List (Nat × Obj)), ST false NoF w W μ537 ((b27, Obj.cells (#[y28, y31, y34, y37, y40, (.int .i64 r19.2.2.2.2.2)] : Array Value) 134 (0, 0)) :: ((b1, Obj.cells ((encRole a1).toArray : Array Value) 47 (0, 0)) :: (R50 ++ (S29 ++ (S32 ++ (S35 ++ (S38 ++ (S41 ++ L553)))))))) ∧ E 0 = v_a0 ∧ E 2 = (.string a2) ∧ E 4 = (.pointer (some ⟨b1, 0, none⟩)) ∧ E 7 = (.pointer (some ⟨b27, 0, none⟩)) ∧ E 8 = v49 ∧ E 9 = (.pointer none) ∧ E 46 = (.bool x552) ∧ (((if x552 then (((m_model_Model_Members r19.1 r19.2.1 r19.2.2.1 r19.2.2.2.1 r19.2.2.2.2.1 r19.2.2.2.2.2 a1)).bind fun r746 => (((m_ref08_Members r44 a1)).bind fun r754 => (((m_ref03_Same r746 r754)).bind fun r762 => some r762))) else some false) : Option Bool).bind fun x583 => (((if x583 then (((m_model_Model_Roles r19.1 r19.2.1 r19.2.2.1 r19.2.2.2.1 r19.2.2.2.2.1 r19.2.2.2.2.2 a2)).bind fun r723 => (((m_ref08_Roles r44 a2)).bind fun r731 => (((m_ref04_Same r723 r731)).bind fun r739 => some r739))) else some false) : Option Bool).bind fun x615 => (((if x615 then (((m_model_Model_In_nil a1 a2)).bind fun r716 => some ((!r716))) else some false) : Option Bool).bind fun x628 => (((if x628 then (m_model_Model_Facts_nil.bind fun r688 => (((m_model_Model_Members_nil a1)).bind fun r696 => (((m_model_Model_Roles_nil a2)).bind fun r704 => some ((((IntKind.i64.wrap (((IntKind.i64.wrap (((r688.length : Int)) + ((r696.length : Int))))) + ((r704.length : Int))))) == 0))))) else some false) : Option Bool).bind fun x662 => (((if x662 then (((m_model_Model_Add_nil a0)).bind fun r681 => some ((r681 == 0))) else some false) : Option Bool).bind fun x673 => some x673))))) = some r) #[true, true, true, true, true, true, true, true, true, true, true, true, true, true, true, false, false, false, false, false, false, false, false, false, false, false, false, false, false, false, false, false, false, false, false, false, false, false, false, false, false, false, false, false, false, false, false, false, false, false, false, false, false, false, false, false, false, false, false, false, false, false, false] 48 ?_ (fun key768 => ?_)
        · rintro E W ⟨x552, L553, hST, e555, e556, e557, e558, e559, e560, e561, hm554⟩
          have hS0 : Has μ47 ((b1, Obj.cells ((encRole a1).toArray : Array Value) 47 (0, 0)) :: []) _ := hST.has.sub hle538 (fun p hq => ((List.mem_cons.1 hq).elim (fun hq => by rw [hq]; exact (.tail _ (.head _))) (fun hq => (absurd hq List.not_mem_nil))))
          refine PX_v 15 rfl (by kernel_rfl) (.inl rfl) rfl (by decide) (fun _ _ h => h) hS0 (fun _ _ _ _ => R_move (v := (.bool x552)) e561) ?_
          obtain ⟨s742, hm743, hm744⟩ := bind_some hm554
          refine PX_join (J := fun E W => ∃ (x583 : Bool) (μ582 : Mem) (L584 : List (Nat × Obj)), Sub μ537 μ582 ∧ ST false NoF w W μ582 ((b27, Obj.cells (#[y28, y31, y34, y37, y40, (.int .i64 r19.2.2.2.2.2)] : Array Value) 134 (0, 0)) :: ((b1, Obj.cells ((encRole a1).toArray : Array Value) 47 (0, 0)) :: (R50 ++ (S29 ++ (S32 ++ (S35 ++ (S38 ++ (S41 ++ L584)))))))) ∧ E 0 = v_a0 ∧ E 2 = (.string a2) ∧ E 4 = (.pointer (some ⟨b1, 0, none⟩)) ∧ E 7 = (.pointer (some ⟨b27, 0, none⟩)) ∧ E 8 = v49 ∧ E 9 = (.pointer none) ∧ E 55 = (.bool x583) ∧ (((if x583 then (((m_model_Model_Roles r19.1 r19.2.1 r19.2.2.1 r19.2.2.2.1 r19.2.2.2.2.1 r19.2.2.2.2.2 a2)).bind fun r723 => (((m_ref08_Roles r44 a2)).bind fun r731 => (((m_ref04_Same r723 r731)).bind fun r739 => some r739))) else some false) : Option Bool).bind fun x615 => (((if x615 then (((m_model_Model_In_nil a1 a2)).bind fun r716 => some ((!r716))) else some false) : Option Bool).bind fun x628 => (((if x628 then (m_model_Model_Facts_nil.bind fun r688 => (((m_model_Model_Members_nil a1)).bind fun r696 => (((m_model_Model_Roles_nil a2)).bind fun r704 => some ((((IntKind.i64.wrap (((IntKind.i64.wrap (((r688.length : Int)) + ((r696.length : Int))))) + ((r704.length : Int))))) == 0))))) else some false) : Option Bool).bind fun x662 => (((if x662 then (((m_model_Model_Add_nil a0)).bind fun r681 => some ((r681 == 0))) else some false) : Option Bool).bind fun x673 => some x673)))) = some r) #[true, true, true, true, true, true, true, true, true, true, true, true, true, true, true, true, true, true, true, true, true, true, true, true, false, false, false, false, false, false, false, false, false, false, false, false, false, false, false, false, false, false, false, false, false, false, false, false, false, false, false, false, false, false, false, false, false, false, false, false, false, false, false] 39 ?_ (fun key745 => ?_)
          · rintro E W ⟨x583, μ582, L584, hle586, hST, e587, e588, e589, e590, e591, e592, e593, hm585⟩
            have hS0 : Has μ47 ((b1, Obj.cells ((encRole a1).toArray : Array Value) 47 (0, 0)) :: []) _ := hST.has.sub (hle538.trans hle586) (fun p hq => ((List.mem_cons.1 hq).elim (fun hq => by rw [hq]; exact (.tail _ (.head _))) (fun hq => (absurd hq List.not_mem_nil))))
            refine PX_v 24 rfl (by kernel_rfl) (.inl rfl) rfl (by decide) (fun _ _ h => h) hS0 (fun _ _ _ _ => R_move (v := (.bool x583)) e593) ?_
            obtain ⟨s719, hm720, hm721⟩ := bind_some hm585
            refine PX_join (J := fun E W => ∃ (x615 : Bool) (μ614 : Mem) (L616 : List (Nat × Obj)), Sub μ582 μ614 ∧ ST false NoF w W μ614 ((b1, Obj.cells ((encRole a1).toArray : Array Value) 47 (0, 0)) :: L616) ∧ E 0 = v_a0 ∧ E 2 = (.string a2) ∧ E 4 = (.pointer (some ⟨b1, 0, none⟩)) ∧ E 9 = (.pointer none) ∧ E 64 = (.bool x615) ∧ (((if x615 then (((m_model_Model_In_nil a1 a2)).bind fun r716 => some ((!r716))) else some false) : Option Bool).bind fun x628 => (((if x628 then (m_model_Model_Facts_nil.bind fun r688 => (((m_model_Model_Members_nil a1)).bind fun r696 => (((m_model_Model_Roles_nil a2)).bind fun r704 => some ((((IntKind.i64.wrap (((IntKind.i64.wrap (((r688.length : Int)) + ((r696.length : Int))))) + ((r704.length : Int))))) == 0))))) else some false) : Option Bool).bind fun x662 => (((if x662 then (((m_model_Model_Add_nil a0)).bind fun r681 => some ((r681 == 0))) else some false) : Option Bool).bind fun x673 => some x673))) = some r) #[true, true, true, true, true, true, true, true, true, true, true, true, true, true, true, true, true, true, true, true, true, true, true, true, true, true, true, true, true, true, true, true, true, false, false, false, false, false, false, false, false, false, false, false, false, false, false, false, false, false, false, false, false, false, false, false, false, false, false, false, false, false, false] 30 ?_ (fun key722 => ?_)
            · rintro E W ⟨x615, μ614, L616, hle618, hST, e619, e620, e621, e622, e623, hm617⟩
              have hS0 : Has μ47 ((b1, Obj.cells ((encRole a1).toArray : Array Value) 47 (0, 0)) :: []) _ := hST.has.sub ((hle538.trans hle586).trans hle618) (fun p hq => ((List.mem_cons.1 hq).elim (fun hq => by rw [hq]; exact (.head _)) (fun hq => (absurd hq List.not_mem_nil))))
              refine PX_v 33 rfl (by kernel_rfl) (.inl rfl) rfl (by decide) (fun _ _ h => h) hS0 (fun _ _ _ _ => R_move (v := (.bool x615)) e623) ?_
              obtain ⟨s712, hm713, hm714⟩ := bind_some hm617
              refine PX_join (J := fun E W => ∃ (x628 : Bool) (L629 : List (Nat × Obj)), ST false NoF w W μ614 ((b1, Obj.cells ((encRole a1).toArray : Array Value) 47 (0, 0)) :: L629) ∧ E 0 = v_a0 ∧ E 2 = (.string a2) ∧ E 4 = (.pointer (some ⟨b1, 0, none⟩)) ∧ E 9 = (.pointer none) ∧ E 71 = (.bool x628) ∧ (((if x628 then (m_model_Model_Facts_nil.bind fun r688 => (((m_model_Model_Members_nil a1)).bind fun r696 => (((m_model_Model_Roles_nil a2)).bind fun r704 => some ((((IntKind.i64.wrap (((IntKind.i64.wrap (((r688.length : Int)) + ((r696.length : Int))))) + ((r704.length : Int))))) == 0))))) else some false) : Option Bool).bind fun x662 => (((if x662 then (((m_model_Model_Add_nil a0)).bind fun r681 => some ((r681 == 0))) else some false) : Option Bool).bind fun x673 => some x673)) = some r) #[true, true, true, true, true, true, true, true, true, true, true, true, true, true, true, true, true, true, true, true, true, true, true, true, true, true, true, true, true, true, true, true, true, true, true, true, true, true, true, true, false, false, false, false, false, false, false, false, false, false, false, false, false, false, false, false, false, false, false, false, false, false, false] 23 ?_ (fun key715 => ?_)
              · rintro E W ⟨x628, L629, hST, e631, e632, e633, e634, e635, hm630⟩
                have hS0 : Has μ47 ((b1, Obj.cells ((encRole a1).toArray : Array Value) 47 (0, 0)) :: []) _ := hST.has.sub ((hle538.trans hle586).trans hle618) (fun p hq => ((List.mem_cons.1 hq).elim (fun hq => by rw [hq]; exact (.head _)) (fun hq => (absurd hq List.not_mem_nil))))
                refine PX_v 40 rfl (by kernel_rfl) (.inl rfl) rfl (by decide) (fun _ _ h => h) hS0 (fun _ _ _ _ => R_move (v := (.bool x628)) e635) ?_
                obtain ⟨s684, hm685, hm686⟩ := bind_some hm630
                refine PX_join (J := fun E W => ∃ (x662 : Bool) (μ661 : Mem) (L663 : List (Nat × Obj)), Sub μ614 μ661 ∧ ST false NoF w W μ661 ((b1, Obj.cells ((encRole a1).toArray : Array Value) 47 (0, 0)) :: L663) ∧ E 0 = v_a0 ∧ E 9 = (.pointer none) ∧ E 87 = (.bool x662) ∧ (((if x662 then (((m_model_Model_Add_nil a0)).bind fun r681 => some ((r681 == 0))) else some false) : Option Bool).bind fun x673 => some x673) = some r) #[true, true, true, true, true, true, true, true, true, true, true, true, true, true, true, true, true, true, true, true, true, true, true, true, true, true, true, true, true, true, true, true, true, true, true, true, true, true, true, true, true, true, true, true, true, true, true, true, true, true, true, true, true, true, true, true, false, false, false, false, false, false, false] 7 ?_ (fun key687 => ?_)
                · rintro E W ⟨x662, μ661, L663, hle665, hST, e666, e667, e668, hm664⟩
                  have hS0 : Has μ47 ((b1, Obj.cells ((encRole a1).toArray : Array Value) 47 (0, 0)) :: []) _ := hST.has.sub (((hle538.trans hle586).trans hle618).trans hle665) (fun p hq => ((List.mem_cons.1 hq).elim (fun hq => by rw [hq]; exact (.head _)) (fun hq => (absurd hq List.not_mem_nil))))
                  refine PX_v 56 rfl (by kernel_rfl) (.inl rfl) rfl (by decide) (fun _ _ h => h) hS0 (fun _ _ _ _ => R_move (v := (.bool x662)) e668) ?_
                  obtain ⟨s677, hm678, hm679⟩ := bind_some hm664
                  refine PX_join (J := fun E W => ∃ (x673 : Bool) (L674 : List (Nat × Obj)), ST false NoF w W μ661 ((b1, Obj.cells ((encRole a1).toArray : Array Value) 47 (0, 0)) :: L674) ∧ E 93 = (.bool x673) ∧ some x673 = some r) #[true, true, true, true, true, true, true, true, true, true, true, true, true, true, true, true, true, true, true, true, true, true, true, true, true, true, true, true, true, true, true, true, true, true, true, true, true, true, true, true, true, true, true, true, true, true, true, true, true, true, true, true, true, true, true, true, true, true, true, true, true, true, false] 1 ?_ (fun key680 => ?_)
                  · rintro E W ⟨x673, L674, hST, e676, hm675⟩
                    have hS0 : Has μ47 ((b1, Obj.cells ((encRole a1).toArray : Array Value) 47 (0, 0)) :: []) _ := hST.has.sub (((hle538.trans hle586).trans hle618).trans hle665) (fun p hq => ((List.mem_cons.1 hq).elim (fun hq => by rw [hq]; exact (.head _)) (fun hq => (absurd hq List.not_mem_nil))))
                    refine PX_v 62 rfl (by kernel_rfl) (.inl rfl) rfl (by decide) (fun _ _ h => h) hS0 (fun _ _ _ _ => R_assign (v := (.bool x673)) e676) ?_
                    refine PX_done (by kernel_rfl) ?_
                    refine sq_n ?_
                    replace hST : ST false NoF w _ _ L674 := hST.sublist (List.Sublist.cons _ (List.Sublist.refl _))
                    refine CW_ret ?_
                    replace hm675 := Option.some.inj hm675; subst hm675
                    refine retQ_1 (v := (.bool x673)) rfl rfl ?_
                    exact ⟨rfl, hST.ex⟩
                  · rcases bool_cases x662 with hb669 | hb669
                    · replace hm678 := if_t hb669 hm678
                      refine PX_v 57 rfl (by kernel_rfl) (.inr ⟨56, true, 88, rfl, rfl, by decide, (congrArg Value.bool hb669)⟩) rfl (by decide) (fun _ _ h => h) hS0 (fun _ _ _ _ => R_move (v := (.pointer none)) e667) ?_
                      refine PX_v 58 rfl (by kernel_rfl) (.inr ⟨56, true, 88, rfl, rfl, by decide, (congrArg Value.bool hb669)⟩) rfl (by decide) (fun _ _ h => h) hS0 (fun _ _ _ _ => R_move (v := v_a0) e666) ?_
                      obtain ⟨r681, hr682, hm678⟩ := bind_some hm678
                      refine PX_e 59 rfl (by kernel_rfl) (.inr ⟨56, true, 88, rfl, rfl, by decide, (congrArg Value.bool hb669)⟩) rfl (by decide) (E_gives (args := [(.pointer none), v_a0]) hST rfl Tryz.call41 (by exact args2 rfl rfl) (Gives.weak (w_model_Model_Add_nil v_a0 a0 _ _ (h_a0.mono (Pl.mono _) ((((((hle23.trans hle48).trans hle538).trans hle586).trans hle618).trans hle665).trans hST.sub_hp)) hr682)) (fun W683 hST => ?_))
                      have hS0 : Has μ47 ((b1, Obj.cells ((encRole a1).toArray : Array Value) 47 (0, 0)) :: []) _ := hST.has.sub (((hle538.trans hle586).trans hle618).trans hle665) (fun p hq => ((List.mem_cons.1 hq).elim (fun hq => by rw [hq]; exact (.head _)) (fun hq => (absurd hq List.not_mem_nil))))
                      refine ⟨hS0, ?_⟩
                      refine PX_v 60 rfl (by kernel_rfl) (.inr ⟨56, true, 88, rfl, rfl, by decide, (congrArg Value.bool hb669)⟩) rfl (by decide) (fun _ _ h => h) hS0 (fun _ _ _ _ => R_int (k := .i64) (a := r681) (b := 0) (v := (.bool ((r681 == 0)))) rfl rfl rfl) ?_
                      refine PX_v 61 rfl (by kernel_rfl) (.inl rfl) rfl (by decide) (fun _ _ h => h) hS0 (fun _ _ _ _ => R_pickT (v := (.bool ((r681 == 0)))) (congrArg Value.bool hb669) rfl) ?_
                      replace hm678 := Option.some.inj hm678; subst hm678
                      refine PX_at (by kernel_rfl) (key680 _ _ ⟨((r681 == 0)), _, (hST.sublist (List.Sublist.refl _)), rfl, hm679⟩)
                    · replace hm678 := if_f hb669 hm678
                      refine PX_no 57 rfl (by kernel_rfl) rfl rfl (by decide) (congrArg Value.bool hb669) rfl (by decide) (fun _ _ h => h) hS0 ?_
                      refine PX_no 58 rfl (by kernel_rfl) rfl rfl (by decide) (congrArg Value.bool hb669) rfl (by decide) (fun _ _ h => h) hS0 ?_
                      refine PX_no 59 rfl (by kernel_rfl) rfl rfl (by decide) (congrArg Value.bool hb669) rfl (by decide) (fun _ _ h => h) hS0 ?_
                      refine PX_no 60 rfl (by kernel_rfl) rfl rfl (by decide) (congrArg Value.bool hb669) rfl (by decide) (fun _ _ h => h) hS0 ?_
                      refine PX_v 61 rfl (by kernel_rfl) (.inl rfl) rfl (by decide) (fun _ _ h => h) hS0 (fun _ _ _ _ => R_pickF (v := (.bool false)) (congrArg Value.bool hb669) rfl) ?_
                      replace hm678 := Option.some.inj hm678; subst hm678
                      refine PX_at (by kernel_rfl) (key680 _ _ ⟨false, _, (hST.sublist (List.Sublist.refl _)), rfl, hm679⟩)
                · rcases bool_cases x628 with hb636 | hb636
                  · replace hm685 := if_t hb636 hm685
                    refine PX_v 41 rfl (by kernel_rfl) (.inr ⟨40, true, 72, rfl, rfl, by decide, (congrArg Value.bool hb636)⟩) rfl (by decide) (fun _ _ h => h) hS0 (fun _ _ _ _ => R_move (v := (.pointer none)) e634) ?_
                    refine PX_v 44 rfl (by kernel_rfl) (.inr ⟨40, true, 72, rfl, rfl, by decide, (congrArg Value.bool hb636)⟩) rfl (by decide) (fun _ _ h => h) hS0 (fun _ _ _ _ => R_move (v := (.pointer none)) e634) ?_
                    refine PX_v 45 rfl (by kernel_rfl) (.inr ⟨40, true, 72, rfl, rfl, by decide, (congrArg Value.bool hb636)⟩) rfl (by decide) (fun _ _ h => h) hS0 (fun l W hpd hs => have hS := hs; R_load (v := (.agg (encRole a1).toArray)) e633 (load_boxA hS (.head _) (encRole a1) rfl Tryz.isAgg47 Tryz.sizeOf47)) ?_
                    refine PX_v 49 rfl (by kernel_rfl) (.inr ⟨40, true, 72, rfl, rfl, by decide, (congrArg Value.bool hb636)⟩) rfl (by decide) (fun _ _ h => h) hS0 (fun _ _ _ _ => R_move (v := (.pointer none)) e634) ?_
                    refine PX_v 50 rfl (by kernel_rfl) (.inr ⟨40, true, 72, rfl, rfl, by decide, (congrArg Value.bool hb636)⟩) rfl (by decide) (fun _ _ h => h) hS0 (fun _ _ _ _ => R_move (v := (.string a2)) e632) ?_
                    obtain ⟨r688, hr689, hm685⟩ := bind_some hm685
                    refine PX_e 42 rfl (by kernel_rfl) (.inr ⟨40, true, 72, rfl, rfl, by decide, (congrArg Value.bool hb636)⟩) rfl (by decide) (E_givesRow (args := [(.pointer none)]) [_] _ hST rfl Tryz.call34 (by exact args1 rfl) (GivesRow.weak (w_model_Model_Facts_nil  _ _  hr689)) (fun W690 v693 μ691 R694 hST hle692 hR695 => ?_))
                    replace hST : ST false NoF w _ _ ((b1, Obj.cells ((encRole a1).toArray : Array Value) 47 (0, 0)) :: (R694 ++ L629)) := hST
                    have hS0 : Has μ47 ((b1, Obj.cells ((encRole a1).toArray : Array Value) 47 (0, 0)) :: []) _ := hST.has.sub (((hle538.trans hle586).trans hle618).trans hle692) (fun p hq => ((List.mem_cons.1 hq).elim (fun hq => by rw [hq]; exact (.head _)) (fun hq => (absurd hq List.not_mem_nil))))
                    refine ⟨hS0, ?_⟩
                    refine PX_v 43 rfl (by kernel_rfl) (.inr ⟨40, true, 72, rfl, rfl, by decide, (congrArg Value.bool hb636)⟩) rfl (by decide) (fun _ _ h => h) hS0 (fun _ _ _ _ => R_lenRow Tryz.underlying53 rfl hR695) ?_
                    obtain ⟨r696, hr697, hm685⟩ := bind_some hm685
                    refine PX_e 46 rfl (by kernel_rfl) (.inr ⟨40, true, 72, rfl, rfl, by decide, (congrArg Value.bool hb636)⟩) rfl (by decide) (E_givesRow (args := [(.pointer none), (.agg (encRole a1).toArray)]) [_] _ hST rfl Tryz.call37 (by exact args2 rfl rfl) (GivesRow.weak (w_model_Model_Members_nil a1 _ _  hr697)) (fun W698 v701 μ699 R702 hST hle700 hR703 => ?_))
                    replace hST : ST false NoF w _ _ ((b1, Obj.cells ((encRole a1).toArray : Array Value) 47 (0, 0)) :: (R702 ++ (R694 ++ L629))) := hST
                    have hS0 : Has μ47 ((b1, Obj.cells ((encRole a1).toArray : Array Value) 47 (0, 0)) :: []) _ := hST.has.sub ((((hle538.trans hle586).trans hle618).trans hle692).trans hle700) (fun p hq => ((List.mem_cons.1 hq).elim (fun hq => by rw [hq]; exact (.head _)) (fun hq => (absurd hq List.not_mem_nil))))
                    refine ⟨hS0, ?_⟩
                    refine PX_v 47 rfl (by kernel_rfl) (.inr ⟨40, true, 72, rfl, rfl, by decide, (congrArg Value.bool hb636)⟩) rfl (by decide) (fun _ _ h => h) hS0 (fun _ _ _ _ => R_lenRow Tryz.underlying27 rfl hR703) ?_
                    refine PX_v 48 rfl (by kernel_rfl) (.inr ⟨40, true, 72, rfl, rfl, by decide, (congrArg Value.bool hb636)⟩) rfl (by decide) (fun _ _ h => h) hS0 (fun _ _ _ _ => R_int (k := .i64) (a := ((r688.length : Int))) (b := ((r696.length : Int))) (v := (.int .i64 ((IntKind.i64.wrap (((r688.length : Int)) + ((r696.length : Int))))))) rfl rfl rfl) ?_
                    obtain ⟨r704, hr705, hm685⟩ := bind_some hm685
                    refine PX_e 51 rfl (by kernel_rfl) (.inr ⟨40, true, 72, rfl, rfl, by decide, (congrArg Value.bool hb636)⟩) rfl (by decide) (E_givesRow (args := [(.pointer none), (.string a2)]) [_] _ hST rfl Tryz.call39 (by exact args2 rfl rfl) (GivesRow.weak (w_model_Model_Roles_nil a2 _ _  hr705)) (fun W706 v709 μ707 R710 hST hle708 hR711 => ?_))
                    replace hST : ST false NoF w _ _ ((b1, Obj.cells ((encRole a1).toArray : Array Value) 47 (0, 0)) :: (R710 ++ (R702 ++ (R694 ++ L629)))) := hST
                    have hS0 : Has μ47 ((b1, Obj.cells ((encRole a1).toArray : Array Value) 47 (0, 0)) :: []) _ := hST.has.sub (((((hle538.trans hle586).trans hle618).trans hle692).trans hle700).trans hle708) (fun p hq => ((List.mem_cons.1 hq).elim (fun hq => by rw [hq]; exact (.head _)) (fun hq => (absurd hq List.not_mem_nil))))
                    refine ⟨hS0, ?_⟩
                    refine PX_v 52 rfl (by kernel_rfl) (.inr ⟨40, true, 72, rfl, rfl, by decide, (congrArg Value.bool hb636)⟩) rfl (by decide) (fun _ _ h => h) hS0 (fun _ _ _ _ => R_lenRow Tryz.underlying23 rfl hR711) ?_
                    refine PX_v 53 rfl (by kernel_rfl) (.inr ⟨40, true, 72, rfl, rfl, by decide, (congrArg Value.bool hb636)⟩) rfl (by decide) (fun _ _ h => h) hS0 (fun _ _ _ _ => R_int (k := .i64) (a := ((IntKind.i64.wrap (((r688.length : Int)) + ((r696.length : Int)))))) (b := ((r704.length : Int))) (v := (.int .i64 ((IntKind.i64.wrap (((IntKind.i64.wrap (((r688.length : Int)) + ((r696.length : Int))))) + ((r704.length : Int))))))) rfl rfl rfl) ?_
                    refine PX_v 54 rfl (by kernel_rfl) (.inr ⟨40, true, 72, rfl, rfl, by decide, (congrArg Value.bool hb636)⟩) rfl (by decide) (fun _ _ h => h) hS0 (fun _ _ _ _ => R_int (k := .i64) (a := ((IntKind.i64.wrap (((IntKind.i64.wrap (((r688.length : Int)) + ((r696.length : Int))))) + ((r704.length : Int)))))) (b := 0) (v := (.bool ((((IntKind.i64.wrap (((IntKind.i64.wrap (((r688.length : Int)) + ((r696.length : Int))))) + ((r704.length : Int))))) == 0)))) rfl rfl rfl) ?_
                    refine PX_v 55 rfl (by kernel_rfl) (.inl rfl) rfl (by decide) (fun _ _ h => h) hS0 (fun _ _ _ _ => R_pickT (v := (.bool ((((IntKind.i64.wrap (((IntKind.i64.wrap (((r688.length : Int)) + ((r696.length : Int))))) + ((r704.length : Int))))) == 0)))) (congrArg Value.bool hb636) rfl) ?_
                    replace hm685 := Option.some.inj hm685; subst hm685
                    refine PX_at (by kernel_rfl) (key687 _ _ ⟨((((IntKind.i64.wrap (((IntKind.i64.wrap (((r688.length : Int)) + ((r696.length : Int))))) + ((r704.length : Int))))) == 0)), μ707, _, ((hle692.trans hle700).trans hle708), (hST.sublist (List.Sublist.cons_cons _ ((((List.Sublist.refl _).trans (List.sublist_append_right _ _)).trans (List.sublist_append_right _ _)).trans (List.sublist_append_right _ _)))), e631, e634, rfl, hm686⟩)
                  · replace hm685 := if_f hb636 hm685
                    refine PX_no 41 rfl (by kernel_rfl) rfl rfl (by decide) (congrArg Value.bool hb636) rfl (by decide) (fun _ _ h => h) hS0 ?_
                    refine PX_no 42 rfl (by kernel_rfl) rfl rfl (by decide) (congrArg Value.bool hb636) rfl (by decide) (fun _ _ h => h) hS0 ?_
                    refine PX_no 43 rfl (by kernel_rfl) rfl rfl (by decide) (congrArg Value.bool hb636) rfl (by decide) (fun _ _ h => h) hS0 ?_
                    refine PX_no 44 rfl (by kernel_rfl) rfl rfl (by decide) (congrArg Value.bool hb636) rfl (by decide) (fun _ _ h => h) hS0 ?_
                    refine PX_no 45 rfl (by kernel_rfl) rfl rfl (by decide) (congrArg Value.bool hb636) rfl (by decide) (fun _ _ h => h) hS0 ?_
                    refine PX_no 46 rfl (by kernel_rfl) rfl rfl (by decide) (congrArg Value.bool hb636) rfl (by decide) (fun _ _ h => h) hS0 ?_
                    refine PX_no 47 rfl (by kernel_rfl) rfl rfl (by decide) (congrArg Value.bool hb636) rfl (by decide) (fun _ _ h => h) hS0 ?_
                    refine PX_no 48 rfl (by kernel_rfl) rfl rfl (by decide) (congrArg Value.bool hb636) rfl (by decide) (fun _ _ h => h) hS0 ?_
                    refine PX_no 49 rfl (by kernel_rfl) rfl rfl (by decide) (congrArg Value.bool hb636) rfl (by decide) (fun _ _ h => h) hS0 ?_
                    refine PX_no 50 rfl (by kernel_rfl) rfl rfl (by decide) (congrArg Value.bool hb636) rfl (by decide) (fun _ _ h => h) hS0 ?_
                    refine PX_no 51 rfl (by kernel_rfl) rfl rfl (by decide) (congrArg Value.bool hb636) rfl (by decide) (fun _ _ h => h) hS0 ?_
                    refine PX_no 52 rfl (by kernel_rfl) rfl rfl (by decide) (congrArg Value.bool hb636) rfl (by decide) (fun _ _ h => h) hS0 ?_
                    refine PX_no 53 rfl (by kernel_rfl) rfl rfl (by decide) (congrArg Value.bool hb636) rfl (by decide) (fun _ _ h => h) hS0 ?_
                    refine PX_no 54 rfl (by kernel_rfl) rfl rfl (by decide) (congrArg Value.bool hb636) rfl (by decide) (fun _ _ h => h) hS0 ?_
                    refine PX_v 55 rfl (by kernel_rfl) (.inl rfl) rfl (by decide) (fun _ _ h => h) hS0 (fun _ _ _ _ => R_pickF (v := (.bool false)) (congrArg Value.bool hb636) rfl) ?_
                    replace hm685 := Option.some.inj hm685; subst hm685
                    refine PX_at (by kernel_rfl) (key687 _ _ ⟨false, μ614, _, (Sub.refl _), (hST.sublist (List.Sublist.refl _)), e631, e634, rfl, hm686⟩)
              · rcases bool_cases x615 with hb624 | hb624
                · replace hm713 := if_t hb624 hm713
                  refine PX_v 34 rfl (by kernel_rfl) (.inr ⟨33, true, 65, rfl, rfl, by decide, (congrArg Value.bool hb624)⟩) rfl (by decide) (fun _ _ h => h) hS0 (fun _ _ _ _ => R_move (v := (.pointer none)) e622) ?_
                  refine PX_v 35 rfl (by kernel_rfl) (.inr ⟨33, true, 65, rfl, rfl, by decide, (congrArg Value.bool hb624)⟩) rfl (by decide) (fun _ _ h => h) hS0 (fun l W hpd hs => have hS := hs; R_load (v := (.agg (encRole a1).toArray)) e621 (load_boxA hS (.head _) (encRole a1) rfl Tryz.isAgg47 Tryz.sizeOf47)) ?_
                  refine PX_v 36 rfl (by kernel_rfl) (.inr ⟨33, true, 65, rfl, rfl, by decide, (congrArg Value.bool hb624)⟩) rfl (by decide) (fun _ _ h => h) hS0 (fun _ _ _ _ => R_move (v := (.string a2)) e620) ?_
                  obtain ⟨r716, hr717, hm713⟩ := bind_some hm713
                  refine PX_e 37 rfl (by kernel_rfl) (.inr ⟨33, true, 65, rfl, rfl, by decide, (congrArg Value.bool hb624)⟩) rfl (by decide) (E_gives (args := [(.pointer none), (.agg (encRole a1).toArray), (.string a2)]) hST rfl Tryz.call35 (by exact args3 rfl rfl rfl) (Gives.weak (w_model_Model_In_nil a1 a2 _ _  hr717)) (fun W718 hST => ?_))
                  have hS0 : Has μ47 ((b1, Obj.cells ((encRole a1).toArray : Array Value) 47 (0, 0)) :: []) _ := hST.has.sub ((hle538.trans hle586).trans hle618) (fun p hq => ((List.mem_cons.1 hq).elim (fun hq => by rw [hq]; exact (.head _)) (fun hq => (absurd hq List.not_mem_nil))))
                  refine ⟨hS0, ?_⟩
                  refine PX_v 38 rfl (by kernel_rfl) (.inr ⟨33, true, 65, rfl, rfl, by decide, (congrArg Value.bool hb624)⟩) rfl (by decide) (fun _ _ h => h) hS0 (fun _ _ _ _ => R_not (b := r716) rfl) ?_
                  refine PX_v 39 rfl (by kernel_rfl) (.inl rfl) rfl (by decide) (fun _ _ h => h) hS0 (fun _ _ _ _ => R_pickT (v := (.bool ((!r716)))) (congrArg Value.bool hb624) rfl) ?_
                  replace hm713 := Option.some.inj hm713; subst hm713
                  refine PX_at (by kernel_rfl) (key715 _ _ ⟨((!r716)), _, (hST.sublist (List.Sublist.refl _)), e619, e620, e621, e622, rfl, hm714⟩)
                · replace hm713 := if_f hb624 hm713
                  refine PX_no 34 rfl (by kernel_rfl) rfl rfl (by decide) (congrArg Value.bool hb624) rfl (by decide) (fun _ _ h => h) hS0 ?_
                  refine PX_no 35 rfl (by kernel_rfl) rfl rfl (by decide) (congrArg Value.bool hb624) rfl (by decide) (fun _ _ h => h) hS0 ?_
                  refine PX_no 36 rfl (by kernel_rfl) rfl rfl (by decide) (congrArg Value.bool hb624) rfl (by decide) (fun _ _ h => h) hS0 ?_
                  refine PX_no 37 rfl (by kernel_rfl) rfl rfl (by decide) (congrArg Value.bool hb624) rfl (by decide) (fun _ _ h => h) hS0 ?_
                  refine PX_no 38 rfl (by kernel_rfl) rfl rfl (by decide) (congrArg Value.bool hb624) rfl (by decide) (fun _ _ h => h) hS0 ?_
                  refine PX_v 39 rfl (by kernel_rfl) (.inl rfl) rfl (by decide) (fun _ _ h => h) hS0 (fun _ _ _ _ => R_pickF (v := (.bool false)) (congrArg Value.bool hb624) rfl) ?_
                  replace hm713 := Option.some.inj hm713; subst hm713
                  refine PX_at (by kernel_rfl) (key715 _ _ ⟨false, _, (hST.sublist (List.Sublist.refl _)), e619, e620, e621, e622, rfl, hm714⟩)
            · rcases bool_cases x583 with hb594 | hb594
              · replace hm720 := if_t hb594 hm720
                refine PX_v 25 rfl (by kernel_rfl) (.inr ⟨24, true, 56, rfl, rfl, by decide, (congrArg Value.bool hb594)⟩) rfl (by decide) (fun _ _ h => h) hS0 (fun _ _ _ _ => R_move (v := (.pointer (some ⟨b27, 0, none⟩))) e590) ?_
                refine PX_v 26 rfl (by kernel_rfl) (.inr ⟨24, true, 56, rfl, rfl, by decide, (congrArg Value.bool hb594)⟩) rfl (by decide) (fun _ _ h => h) hS0 (fun _ _ _ _ => R_move (v := (.string a2)) e588) ?_
                refine PX_v 28 rfl (by kernel_rfl) (.inr ⟨24, true, 56, rfl, rfl, by decide, (congrArg Value.bool hb594)⟩) rfl (by decide) (fun _ _ h => h) hS0 (fun _ _ _ _ => R_move (v := v49) e591) ?_
                refine PX_v 29 rfl (by kernel_rfl) (.inr ⟨24, true, 56, rfl, rfl, by decide, (congrArg Value.bool hb594)⟩) rfl (by decide) (fun _ _ h => h) hS0 (fun _ _ _ _ => R_move (v := (.string a2)) e588) ?_
                obtain ⟨r723, hr724, hm720⟩ := bind_some hm720
                refine PX_e 27 rfl (by kernel_rfl) (.inr ⟨24, true, 56, rfl, rfl, by decide, (congrArg Value.bool hb594)⟩) rfl (by decide) (E_givesRow (args := [(.pointer (some ⟨b27, 0, none⟩)), (.string a2)]) [_, _] _ hST rfl Tryz.call39 (by exact args2 rfl rfl) (GivesRow.weak (w_model_Model_Roles b27 y28 r19.1 y31 r19.2.1 y34 r19.2.2.1 y37 r19.2.2.2.1 y40 r19.2.2.2.2.1 r19.2.2.2.2.2 a2 _ _ (hy30.at (fun b o hq => hST.at_ (.tail _ (.tail _ (List.mem_append_right _ (List.mem_append_left _ hq)))))) (hy33.sl lenCred (fun b o hq => hST.at_ (.tail _ (.tail _ (List.mem_append_right _ (List.mem_append_right _ (List.mem_append_left _ hq))))))) (hy36.at (fun b o hq => hST.at_ (.tail _ (.tail _ (List.mem_append_right _ (List.mem_append_right _ (List.mem_append_right _ (List.mem_append_left _ hq)))))))) (hy39.at (fun b o hq => hST.at_ (.tail _ (.tail _ (List.mem_append_right _ (List.mem_append_right _ (List.mem_append_right _ (List.mem_append_right _ (List.mem_append_left _ hq))))))))) ((hy42.slL lenFact).mono (Pl.mono _) (memL_held (fun b o hq => hST.at_ (.tail _ (.tail _ (List.mem_append_right _ (List.mem_append_right _ (List.mem_append_right _ (List.mem_append_right _ (List.mem_append_right _ (List.mem_append_left _ hq))))))))))) (At.of (hST.at_ (.head _)) _ rfl) hr724)) (fun W725 v728 μ726 R729 hST hle727 hR730 => ?_))
                replace hST : ST false NoF w _ _ ((b27, Obj.cells (#[y28, y31, y34, y37, y40, (.int .i64 r19.2.2.2.2.2)] : Array Value) 134 (0, 0)) :: ((b1, Obj.cells ((encRole a1).toArray : Array Value) 47 (0, 0)) :: (R729 ++ (R50 ++ (S29 ++ (S32 ++ (S35 ++ (S38 ++ (S41 ++ L584))))))))) := hST
                have hS0 : Has μ47 ((b1, Obj.cells ((encRole a1).toArray : Array Value) 47 (0, 0)) :: []) _ := hST.has.sub ((hle538.trans hle586).trans hle727) (fun p hq => ((List.mem_cons.1 hq).elim (fun hq => by rw [hq]; exact (.tail _ (.head _))) (fun hq => (absurd hq List.not_mem_nil))))
                refine ⟨hS0, ?_⟩
                obtain ⟨r731, hr732, hm720⟩ := bind_some hm720
                refine PX_e 30 rfl (by kernel_rfl) (.inr ⟨24, true, 56, rfl, rfl, by decide, (congrArg Value.bool hb594)⟩) rfl (by decide) (E_givesRow (args := [v49, (.string a2)]) [_, _] _ hST rfl Tryz.call40 (by exact args2 rfl rfl) (GivesRow.weak (w_ref08_Roles v49 r44 a2 _ _ (hR51.sl lenFact (fun b o hq => hST.at_ (.tail _ (.tail _ (List.mem_append_right _ (List.mem_append_left _ hq)))))) hr732)) (fun W733 v736 μ734 R737 hST hle735 hR738 => ?_))
                replace hST : ST false NoF w _ _ ((b27, Obj.cells (#[y28, y31, y34, y37, y40, (.int .i64 r19.2.2.2.2.2)] : Array Value) 134 (0, 0)) :: ((b1, Obj.cells ((encRole a1).toArray : Array Value) 47 (0, 0)) :: (R737 ++ (R729 ++ (R50 ++ (S29 ++ (S32 ++ (S35 ++ (S38 ++ (S41 ++ L584)))))))))) := hST
                have hS0 : Has μ47 ((b1, Obj.cells ((encRole a1).toArray : Array Value) 47 (0, 0)) :: []) _ := hST.has.sub (((hle538.trans hle586).trans hle727).trans hle735) (fun p hq => ((List.mem_cons.1 hq).elim (fun hq => by rw [hq]; exact (.tail _ (.head _))) (fun hq => (absurd hq List.not_mem_nil))))
                refine ⟨hS0, ?_⟩
                obtain ⟨r739, hr740, hm720⟩ := bind_some hm720
                refine PX_e 31 rfl (by kernel_rfl) (.inr ⟨24, true, 56, rfl, rfl, by decide, (congrArg Value.bool hb594)⟩) rfl (by decide) (E_gives (args := [v728, v736]) hST rfl Tryz.call20 (by exact args2 rfl rfl) (Gives.weak (w_ref04_Same v728 r723 v736 r731 _ _ (hR730.sl lenRole (fun b o hq => hST.at_ (.tail _ (.tail _ (List.mem_append_right _ (List.mem_append_left _ hq)))))) (hR738.sl lenRole (fun b o hq => hST.at_ (.tail _ (.tail _ (List.mem_append_left _ hq))))) hr740)) (fun W741 hST => ?_))
                have hS0 : Has μ47 ((b1, Obj.cells ((encRole a1).toArray : Array Value) 47 (0, 0)) :: []) _ := hST.has.sub (((hle538.trans hle586).trans hle727).trans hle735) (fun p hq => ((List.mem_cons.1 hq).elim (fun hq => by rw [hq]; exact (.tail _ (.head _))) (fun hq => (absurd hq List.not_mem_nil))))
                refine ⟨hS0, ?_⟩
                refine PX_v 32 rfl (by kernel_rfl) (.inl rfl) rfl (by decide) (fun _ _ h => h) hS0 (fun _ _ _ _ => R_pickT (v := (.bool r739)) (congrArg Value.bool hb594) rfl) ?_
                replace hm720 := Option.some.inj hm720; subst hm720
                refine PX_at (by kernel_rfl) (key722 _ _ ⟨r739, μ734, _, (hle727.trans hle735), (hST.sublist (List.Sublist.cons _ (List.Sublist.cons_cons _ (((((((((List.Sublist.refl _).trans (List.sublist_append_right _ _)).trans (List.sublist_append_right _ _)).trans (List.sublist_append_right _ _)).trans (List.sublist_append_right _ _)).trans (List.sublist_append_right _ _)).trans (List.sublist_append_right _ _)).trans (List.sublist_append_right _ _)).trans (List.sublist_append_right _ _))))), e587, e588, e589, e592, rfl, hm721⟩)
              · replace hm720 := if_f hb594 hm720
                refine PX_no 25 rfl (by kernel_rfl) rfl rfl (by decide) (congrArg Value.bool hb594) rfl (by decide) (fun _ _ h => h) hS0 ?_
                refine PX_no 26 rfl (by kernel_rfl) rfl rfl (by decide) (congrArg Value.bool hb594) rfl (by decide) (fun _ _ h => h) hS0 ?_
                refine PX_no 27 rfl (by kernel_rfl) rfl rfl (by decide) (congrArg Value.bool hb594) rfl (by decide) (fun _ _ h => h) hS0 ?_
                refine PX_no 28 rfl (by kernel_rfl) rfl rfl (by decide) (congrArg Value.bool hb594) rfl (by decide) (fun _ _ h => h) hS0 ?_
                refine PX_no 29 rfl (by kernel_rfl) rfl rfl (by decide) (congrArg Value.bool hb594) rfl (by decide) (fun _ _ h => h) hS0 ?_
                refine PX_no 30 rfl (by kernel_rfl) rfl rfl (by decide) (congrArg Value.bool hb594) rfl (by decide) (fun _ _ h => h) hS0 ?_
                refine PX_no 31 rfl (by kernel_rfl) rfl rfl (by decide) (congrArg Value.bool hb594) rfl (by decide) (fun _ _ h => h) hS0 ?_
                refine PX_v 32 rfl (by kernel_rfl) (.inl rfl) rfl (by decide) (fun _ _ h => h) hS0 (fun _ _ _ _ => R_pickF (v := (.bool false)) (congrArg Value.bool hb594) rfl) ?_
                replace hm720 := Option.some.inj hm720; subst hm720
                refine PX_at (by kernel_rfl) (key722 _ _ ⟨false, μ582, _, (Sub.refl _), (hST.sublist (List.Sublist.cons _ (List.Sublist.cons_cons _ (((((((List.Sublist.refl _).trans (List.sublist_append_right _ _)).trans (List.sublist_append_right _ _)).trans (List.sublist_append_right _ _)).trans (List.sublist_append_right _ _)).trans (List.sublist_append_right _ _)).trans (List.sublist_append_right _ _))))), e587, e588, e589, e592, rfl, hm721⟩)
          · rcases bool_cases x552 with hb562 | hb562
            · replace hm743 := if_t hb562 hm743
              refine PX_v 16 rfl (by kernel_rfl) (.inr ⟨15, true, 47, rfl, rfl, by decide, (congrArg Value.bool hb562)⟩) rfl (by decide) (fun _ _ h => h) hS0 (fun _ _ _ _ => R_move (v := (.pointer (some ⟨b27, 0, none⟩))) e558) ?_
              refine PX_v 17 rfl (by kernel_rfl) (.inr ⟨15, true, 47, rfl, rfl, by decide, (congrArg Value.bool hb562)⟩) rfl (by decide) (fun _ _ h => h) hS0 (fun l W hpd hs => have hS := hs; R_load (v := (.agg (encRole a1).toArray)) e557 (load_boxA hS (.head _) (encRole a1) rfl Tryz.isAgg47 Tryz.sizeOf47)) ?_
              refine PX_v 19 rfl (by kernel_rfl) (.inr ⟨15, true, 47, rfl, rfl, by decide, (congrArg Value.bool hb562)⟩) rfl (by decide) (fun _ _ h => h) hS0 (fun _ _ _ _ => R_move (v := v49) e559) ?_
              refine PX_v 20 rfl (by kernel_rfl) (.inr ⟨15, true, 47, rfl, rfl, by decide, (congrArg Value.bool hb562)⟩) rfl (by decide) (fun _ _ h => h) hS0 (fun l W hpd hs => have hS := hs; R_load (v := (.agg (encRole a1).toArray)) e557 (load_boxA hS (.head _) (encRole a1) rfl Tryz.isAgg47 Tryz.sizeOf47)) ?_
              obtain ⟨r746, hr747, hm743⟩ := bind_some hm743
              refine PX_e 18 rfl (by kernel_rfl) (.inr ⟨15, true, 47, rfl, rfl, by decide, (congrArg Value.bool hb562)⟩) rfl (by decide) (E_givesRow (args := [(.pointer (some ⟨b27, 0, none⟩)), (.agg (encRole a1).toArray)]) [_, _] _ hST rfl Tryz.call37 (by exact args2 rfl rfl) ((w_model_Model_Members b27 y28 r19.1 y31 r19.2.1 y34 r19.2.2.1 y37 r19.2.2.2.1 y40 r19.2.2.2.2.1 r19.2.2.2.2.2 a1 _ _ (hy30.at (fun b o hq => hST.at_ (.tail _ (.tail _ (List.mem_append_right _ (List.mem_append_left _ hq)))))) (hy33.sl lenCred (fun b o hq => hST.at_ (.tail _ (.tail _ (List.mem_append_right _ (List.mem_append_right _ (List.mem_append_left _ hq))))))) (hy36.at (fun b o hq => hST.at_ (.tail _ (.tail _ (List.mem_append_right _ (List.mem_append_right _ (List.mem_append_right _ (List.mem_append_left _ hq)))))))) (hy39.at (fun b o hq => hST.at_ (.tail _ (.tail _ (List.mem_append_right _ (List.mem_append_right _ (List.mem_append_right _ (List.mem_append_right _ (List.mem_append_left _ hq))))))))) ((hy42.slL lenFact).mono (Pl.mono _) (memL_held (fun b o hq => hST.at_ (.tail _ (.tail _ (List.mem_append_right _ (List.mem_append_right _ (List.mem_append_right _ (List.mem_append_right _ (List.mem_append_right _ (List.mem_append_left _ hq))))))))))) (At.of (hST.at_ (.head _)) _ rfl) hr747)) (fun W748 v751 μ749 R752 hST hle750 hR753 => ?_))
              replace hST : ST false NoF w _ _ ((b27, Obj.cells (#[y28, y31, y34, y37, y40, (.int .i64 r19.2.2.2.2.2)] : Array Value) 134 (0, 0)) :: ((b1, Obj.cells ((encRole a1).toArray : Array Value) 47 (0, 0)) :: (R752 ++ (R50 ++ (S29 ++ (S32 ++ (S35 ++ (S38 ++ (S41 ++ L553))))))))) := hST
              have hS0 : Has μ47 ((b1, Obj.cells ((encRole a1).toArray : Array Value) 47 (0, 0)) :: []) _ := hST.has.sub (hle538.trans hle750) (fun p hq => ((List.mem_cons.1 hq).elim (fun hq => by rw [hq]; exact (.tail _ (.head _))) (fun hq => (absurd hq List.not_mem_nil))))
              refine ⟨hS0, ?_⟩
              obtain ⟨r754, hr755, hm743⟩ := bind_some hm743
              refine PX_e 21 rfl (by kernel_rfl) (.inr ⟨15, true, 47, rfl, rfl, by decide, (congrArg Value.bool hb562)⟩) rfl (by decide) (E_givesRow (args := [v49, (.agg (encRole a1).toArray)]) [_, _] _ hST rfl Tryz.call38 (by exact args2 rfl rfl) (GivesRow.weak (w_ref08_Members v49 r44 a1 _ _ (hR51.sl lenFact (fun b o hq => hST.at_ (.tail _ (.tail _ (List.mem_append_right _ (List.mem_append_left _ hq)))))) hr755)) (fun W756 v759 μ757 R760 hST hle758 hR761 => ?_))
              replace hST : ST false NoF w _ _ ((b27, Obj.cells (#[y28, y31, y34, y37, y40, (.int .i64 r19.2.2.2.2.2)] : Array Value) 134 (0, 0)) :: ((b1, Obj.cells ((encRole a1).toArray : Array Value) 47 (0, 0)) :: (R760 ++ (R752 ++ (R50 ++ (S29 ++ (S32 ++ (S35 ++ (S38 ++ (S41 ++ L553)))))))))) := hST
              have hS0 : Has μ47 ((b1, Obj.cells ((encRole a1).toArray : Array Value) 47 (0, 0)) :: []) _ := hST.has.sub ((hle538.trans hle750).trans hle758) (fun p hq => ((List.mem_cons.1 hq).elim (fun hq => by rw [hq]; exact (.tail _ (.head _))) (fun hq => (absurd hq List.not_mem_nil))))
              refine ⟨hS0, ?_⟩
              obtain ⟨r762, hr763, hm743⟩ := bind_some hm743
              refine PX_e 22 rfl (by kernel_rfl) (.inr ⟨15, true, 47, rfl, rfl, by decide, (congrArg Value.bool hb562)⟩) rfl (by decide) (E_gives (args := [v751, v759]) hST rfl Tryz.call22 (by exact args2 rfl rfl) (Gives.weak (w_ref03_Same v751 r746 v759 r754 _ _ (hR753.sl (fun _ => rfl) (fun b o hq => hST.at_ (.tail _ (.tail _ (List.mem_append_right _ (List.mem_append_left _ hq)))))) (hR761.sl (fun _ => rfl) (fun b o hq => hST.at_ (.tail _ (.tail _ (List.mem_append_left _ hq))))) hr763)) (fun W764 hST => ?_))
              have hS0 : Has μ47 ((b1, Obj.cells ((encRole a1).toArray : Array Value) 47 (0, 0)) :: []) _ := hST.has.sub ((hle538.trans hle750).trans hle758) (fun p hq => ((List.mem_cons.1 hq).elim (fun hq => by rw [hq]; exact (.tail _ (.head _))) (fun hq => (absurd hq List.not_mem_nil))))
              refine ⟨hS0, ?_⟩
              refine PX_v 23 rfl (by kernel_rfl) (.inl rfl) rfl (by decide) (fun _ _ h => h) hS0 (fun _ _ _ _ => R_pickT (v := (.bool r762)) (congrArg Value.bool hb562) rfl) ?_
              replace hm743 := Option.some.inj hm743; subst hm743
              refine PX_at (by kernel_rfl) (key745 _ _ ⟨r762, μ757, _, (hle750.trans hle758), (hST.sublist (List.Sublist.cons_cons _ (List.Sublist.cons_cons _ (((List.Sublist.refl _).trans (List.sublist_append_right _ _)).trans (List.sublist_append_right _ _))))), e555, e556, e557, e558, e559, e560, rfl, hm744⟩)
            · replace hm743 := if_f hb562 hm743
              refine PX_no 16 rfl (by kernel_rfl) rfl rfl (by decide) (congrArg Value.bool hb562) rfl (by decide) (fun _ _ h => h) hS0 ?_
              refine PX_no 17 rfl (by kernel_rfl) rfl rfl (by decide) (congrArg Value.bool hb562) rfl (by decide) (fun _ _ h => h) hS0 ?_
              refine PX_no 18 rfl (by kernel_rfl) rfl rfl (by decide) (congrArg Value.bool hb562) rfl (by decide) (fun _ _ h => h) hS0 ?_
              refine PX_no 19 rfl (by kernel_rfl) rfl rfl (by decide) (congrArg Value.bool hb562) rfl (by decide) (fun _ _ h => h) hS0 ?_
              refine PX_no 20 rfl (by kernel_rfl) rfl rfl (by decide) (congrArg Value.bool hb562) rfl (by decide) (fun _ _ h => h) hS0 ?_
              refine PX_no 21 rfl (by kernel_rfl) rfl rfl (by decide) (congrArg Value.bool hb562) rfl (by decide) (fun _ _ h => h) hS0 ?_
              refine PX_no 22 rfl (by kernel_rfl) rfl rfl (by decide) (congrArg Value.bool hb562) rfl (by decide) (fun _ _ h => h) hS0 ?_
              refine PX_v 23 rfl (by kernel_rfl) (.inl rfl) rfl (by decide) (fun _ _ h => h) hS0 (fun _ _ _ _ => R_pickF (v := (.bool false)) (congrArg Value.bool hb562) rfl) ?_
              replace hm743 := Option.some.inj hm743; subst hm743
              refine PX_at (by kernel_rfl) (key745 _ _ ⟨false, μ537, _, (Sub.refl _), (hST.sublist (List.Sublist.refl _)), e555, e556, e557, e558, e559, e560, rfl, hm744⟩)
        · rcases bool_cases r542 with hb545 | hb545
          · replace hm766 := if_t hb545 hm766
            refine PX_v 5 rfl (by kernel_rfl) (.inr ⟨4, true, 36, rfl, rfl, by decide, (congrArg Value.bool hb545)⟩) rfl (by decide) (fun _ _ h => h) hS0 (fun _ _ _ _ => R_move (v := (.pointer (some ⟨b27, 0, none⟩))) rfl) ?_
            refine PX_v 6 rfl (by kernel_rfl) (.inr ⟨4, true, 36, rfl, rfl, by decide, (congrArg Value.bool hb545)⟩) rfl (by decide) (fun _ _ h => h) hS0 (fun l W hpd hs => have hS := hs; R_load (v := (.agg (encRole a1).toArray)) e16 (load_boxA hS (.head _) (encRole a1) rfl Tryz.isAgg47 Tryz.sizeOf47)) ?_
            refine PX_v 7 rfl (by kernel_rfl) (.inr ⟨4, true, 36, rfl, rfl, by decide, (congrArg Value.bool hb545)⟩) rfl (by decide) (fun _ _ h => h) hS0 (fun _ _ _ _ => R_move (v := (.string a2)) e15) ?_
            refine PX_v 9 rfl (by kernel_rfl) (.inr ⟨4, true, 36, rfl, rfl, by decide, (congrArg Value.bool hb545)⟩) rfl (by decide) (fun _ _ h => h) hS0 (fun _ _ _ _ => R_move (v := v49) rfl) ?_
            refine PX_v 10 rfl (by kernel_rfl) (.inr ⟨4, true, 36, rfl, rfl, by decide, (congrArg Value.bool hb545)⟩) rfl (by decide) (fun _ _ h => h) hS0 (fun l W hpd hs => have hS := hs; R_load (v := (.agg (encRole a1).toArray)) e16 (load_boxA hS (.head _) (encRole a1) rfl Tryz.isAgg47 Tryz.sizeOf47)) ?_
            refine PX_v 11 rfl (by kernel_rfl) (.inr ⟨4, true, 36, rfl, rfl, by decide, (congrArg Value.bool hb545)⟩) rfl (by decide) (fun _ _ h => h) hS0 (fun _ _ _ _ => R_move (v := (.string a2)) e15) ?_
            obtain ⟨r769, hr770, hm766⟩ := bind_some hm766
            refine PX_e 8 rfl (by kernel_rfl) (.inr ⟨4, true, 36, rfl, rfl, by decide, (congrArg Value.bool hb545)⟩) rfl (by decide) (E_gives (args := [(.pointer (some ⟨b27, 0, none⟩)), (.agg (encRole a1).toArray), (.string a2)]) hST rfl Tryz.call35 (by exact args3 rfl rfl rfl) (Gives.weak (w_model_Model_In b27 y28 r19.1 y31 r19.2.1 y34 r19.2.2.1 y37 r19.2.2.2.1 y40 r19.2.2.2.2.1 r19.2.2.2.2.2 a1 a2 _ _ (hy30.at (fun b o hq => hST.at_ (.tail _ (.tail _ (List.mem_append_right _ (List.mem_append_right _ (List.mem_append_left _ hq))))))) (hy33.sl lenCred (fun b o hq => hST.at_ (.tail _ (.tail _ (List.mem_append_right _ (List.mem_append_right _ (List.mem_append_right _ (List.mem_append_left _ hq)))))))) (hy36.at (fun b o hq => hST.at_ (.tail _ (.tail _ (List.mem_append_right _ (List.mem_append_right _ (List.mem_append_right _ (List.mem_append_right _ (List.mem_append_left _ hq))))))))) (hy39.at (fun b o hq => hST.at_ (.tail _ (.tail _ (List.mem_append_right _ (List.mem_append_right _ (List.mem_append_right _ (List.mem_append_right _ (List.mem_append_right _ (List.mem_append_left _ hq)))))))))) ((hy42.slL lenFact).mono (Pl.mono _) (memL_held (fun b o hq => hST.at_ (.tail _ (.tail _ (List.mem_append_right _ (List.mem_append_right _ (List.mem_append_right _ (List.mem_append_right _ (List.mem_append_right _ (List.mem_append_right _ (List.mem_append_left _ hq)))))))))))) (At.of (hST.at_ (.head _)) _ rfl) hr770)) (fun W771 hST => ?_))
            have hS0 : Has μ47 ((b1, Obj.cells ((encRole a1).toArray : Array Value) 47 (0, 0)) :: []) _ := hST.has.sub hle538 (fun p hq => ((List.mem_cons.1 hq).elim (fun hq => by rw [hq]; exact (.tail _ (.head _))) (fun hq => (absurd hq List.not_mem_nil))))
            refine ⟨hS0, ?_⟩
            obtain ⟨r772, hr773, hm766⟩ := bind_some hm766
            refine PX_e 12 rfl (by kernel_rfl) (.inr ⟨4, true, 36, rfl, rfl, by decide, (congrArg Value.bool hb545)⟩) rfl (by decide) (E_gives (args := [v49, (.agg (encRole a1).toArray), (.string a2)]) hST rfl Tryz.call36 (by exact args3 rfl rfl rfl) (Gives.weak (w_ref08_In v49 r44 a1 a2 _ _ (hR51.sl lenFact (fun b o hq => hST.at_ (.tail _ (.tail _ (List.mem_append_right _ (List.mem_append_left _ hq)))))) hr773)) (fun W774 hST => ?_))
            have hS0 : Has μ47 ((b1, Obj.cells ((encRole a1).toArray : Array Value) 47 (0, 0)) :: []) _ := hST.has.sub hle538 (fun p hq => ((List.mem_cons.1 hq).elim (fun hq => by rw [hq]; exact (.tail _ (.head _))) (fun hq => (absurd hq List.not_mem_nil))))
            refine ⟨hS0, ?_⟩
            refine PX_v 13 rfl (by kernel_rfl) (.inr ⟨4, true, 36, rfl, rfl, by decide, (congrArg Value.bool hb545)⟩) rfl (by decide) (fun _ _ h => h) hS0 (fun _ _ _ _ => R_bools Tryz.underlying4 rfl rfl rfl) ?_
            refine PX_v 14 rfl (by kernel_rfl) (.inl rfl) rfl (by decide) (fun _ _ h => h) hS0 (fun _ _ _ _ => R_pickT (v := (.bool ((r769 == r772)))) (congrArg Value.bool hb545) rfl) ?_
            replace hm766 := Option.some.inj hm766; subst hm766
            refine PX_at (by kernel_rfl) (key768 _ _ ⟨((r769 == r772)), _, (hST.sublist (List.Sublist.cons_cons _ (List.Sublist.cons_cons _ ((List.Sublist.refl _).trans (List.sublist_append_right _ _))))), e14, e15, e16, rfl, rfl, rfl, rfl, hm767⟩)
          · replace hm766 := if_f hb545 hm766
            refine PX_no 5 rfl (by kernel_rfl) rfl rfl (by decide) (congrArg Value.bool hb545) rfl (by decide) (fun _ _ h => h) hS0 ?_
            refine PX_no 6 rfl (by kernel_rfl) rfl rfl (by decide) (congrArg Value.bool hb545) rfl (by decide) (fun _ _ h => h) hS0 ?_
            refine PX_no 7 rfl (by kernel_rfl) rfl rfl (by decide) (congrArg Value.bool hb545) rfl (by decide) (fun _ _ h => h) hS0 ?_
            refine PX_no 8 rfl (by kernel_rfl) rfl rfl (by decide) (congrArg Value.bool hb545) rfl (by decide) (fun _ _ h => h) hS0 ?_
            refine PX_no 9 rfl (by kernel_rfl) rfl rfl (by decide) (congrArg Value.bool hb545) rfl (by decide) (fun _ _ h => h) hS0 ?_
            refine PX_no 10 rfl (by kernel_rfl) rfl rfl (by decide) (congrArg Value.bool hb545) rfl (by decide) (fun _ _ h => h) hS0 ?_
            refine PX_no 11 rfl (by kernel_rfl) rfl rfl (by decide) (congrArg Value.bool hb545) rfl (by decide) (fun _ _ h => h) hS0 ?_
            refine PX_no 12 rfl (by kernel_rfl) rfl rfl (by decide) (congrArg Value.bool hb545) rfl (by decide) (fun _ _ h => h) hS0 ?_
            refine PX_no 13 rfl (by kernel_rfl) rfl rfl (by decide) (congrArg Value.bool hb545) rfl (by decide) (fun _ _ h => h) hS0 ?_
            refine PX_v 14 rfl (by kernel_rfl) (.inl rfl) rfl (by decide) (fun _ _ h => h) hS0 (fun _ _ _ _ => R_pickF (v := (.bool false)) (congrArg Value.bool hb545) rfl) ?_
            replace hm766 := Option.some.inj hm766; subst hm766
            refine PX_at (by kernel_rfl) (key768 _ _ ⟨false, _, (hST.sublist (List.Sublist.cons_cons _ (List.Sublist.cons_cons _ ((List.Sublist.refl _).trans (List.sublist_append_right _ _))))), e14, e15, e16, rfl, rfl, rfl, rfl, hm767⟩)
    · rcases bool_cases ((decide (r7 > 1200))) with hb10 | hb10
      · replace hm776 := if_t hb10 hm776
        refine LW_no rfl (by decide) rfl rfl (by decide) (congrArg Value.bool hb10) ?_
        refine LW_no rfl (by decide) rfl rfl (by decide) (congrArg Value.bool hb10) ?_
        refine LW_no rfl (by decide) rfl rfl (by decide) (congrArg Value.bool hb10) ?_
        refine LW_no rfl (by decide) rfl rfl (by decide) (congrArg Value.bool hb10) ?_
        refine LW_no rfl (by decide) rfl rfl (by decide) (congrArg Value.bool hb10) ?_
        refine LW_no rfl (by decide) rfl rfl (by decide) (congrArg Value.bool hb10) ?_
        refine LW_no rfl (by decide) rfl rfl (by decide) (congrArg Value.bool hb10) ?_
        refine LW_no rfl (by decide) rfl rfl (by decide) (congrArg Value.bool hb10) ?_
        refine LW_no rfl (by decide) rfl rfl (by decide) (congrArg Value.bool hb10) ?_
        refine LW_no rfl (by decide) rfl rfl (by decide) (congrArg Value.bool hb10) ?_
        refine LW_no rfl (by decide) rfl rfl (by decide) (congrArg Value.bool hb10) ?_
        refine LW_v (.inl rfl) rfl (by decide) (R_pickT (v := (.bool true)) (congrArg Value.bool hb10) rfl) ?_
        replace hm776 := Option.some.inj hm776; subst hm776
        exact key778 _ _ ⟨true, _, (hST.sublist (List.Sublist.refl _)), rfl, rfl, rfl, rfl, hm777⟩
      · replace hm776 := if_f hb10 hm776
        refine LW_v (.inr ⟨3, false, 15, rfl, rfl, by decide, (congrArg Value.bool hb10)⟩) rfl (by decide) (R_field fa47_0 rfl) ?_
        refine LW_v (.inr ⟨3, false, 15, rfl, rfl, by decide, (congrArg Value.bool hb10)⟩) rfl (by decide) (R_load (v := (.string a1.Owner)) rfl (load_box1 hST.has (.head _) rfl Tryz.isAgg9)) ?_
        refine LW_v (.inr ⟨3, false, 15, rfl, rfl, by decide, (congrArg Value.bool hb10)⟩) rfl (by decide) (R_lenStr (s := a1.Owner) Tryz.underlying9 rfl) ?_
        refine LW_v (.inr ⟨3, false, 15, rfl, rfl, by decide, (congrArg Value.bool hb10)⟩) rfl (by decide) (R_field fa47_1 rfl) ?_
        refine LW_v (.inr ⟨3, false, 15, rfl, rfl, by decide, (congrArg Value.bool hb10)⟩) rfl (by decide) (R_load (v := (.string a1.Word)) rfl (load_box1 hST.has (.head _) rfl Tryz.isAgg9)) ?_
        refine LW_v (.inr ⟨3, false, 15, rfl, rfl, by decide, (congrArg Value.bool hb10)⟩) rfl (by decide) (R_lenStr (s := a1.Word) Tryz.underlying9 rfl) ?_
        refine LW_v (.inr ⟨3, false, 15, rfl, rfl, by decide, (congrArg Value.bool hb10)⟩) rfl (by decide) (R_int (k := .i64) (a := ((a1.Owner.size : Int))) (b := ((a1.Word.size : Int))) (v := (.int .i64 ((IntKind.i64.wrap (((a1.Owner.size : Int)) + ((a1.Word.size : Int))))))) rfl rfl rfl) ?_
        refine LW_v (.inr ⟨3, false, 15, rfl, rfl, by decide, (congrArg Value.bool hb10)⟩) rfl (by decide) (R_move (v := (.string a2)) rfl) ?_
        refine LW_v (.inr ⟨3, false, 15, rfl, rfl, by decide, (congrArg Value.bool hb10)⟩) rfl (by decide) (R_lenStr (s := a2) Tryz.underlying9 rfl) ?_
        refine LW_v (.inr ⟨3, false, 15, rfl, rfl, by decide, (congrArg Value.bool hb10)⟩) rfl (by decide) (R_int (k := .i64) (a := ((IntKind.i64.wrap (((a1.Owner.size : Int)) + ((a1.Word.size : Int)))))) (b := ((a2.size : Int))) (v := (.int .i64 ((IntKind.i64.wrap (((IntKind.i64.wrap (((a1.Owner.size : Int)) + ((a1.Word.size : Int))))) + ((a2.size : Int))))))) rfl rfl rfl) ?_
        refine LW_v (.inr ⟨3, false, 15, rfl, rfl, by decide, (congrArg Value.bool hb10)⟩) rfl (by decide) (R_int (k := .i64) (a := ((IntKind.i64.wrap (((IntKind.i64.wrap (((a1.Owner.size : Int)) + ((a1.Word.size : Int))))) + ((a2.size : Int)))))) (b := 200) (v := (.bool ((decide (((IntKind.i64.wrap (((IntKind.i64.wrap (((a1.Owner.size : Int)) + ((a1.Word.size : Int))))) + ((a2.size : Int))))) > 200))))) rfl rfl rfl) ?_
        refine LW_v (.inl rfl) rfl (by decide) (R_pickF (v := (.bool ((decide (((IntKind.i64.wrap (((IntKind.i64.wrap (((a1.Owner.size : Int)) + ((a1.Word.size : Int))))) + ((a2.size : Int))))) > 200))))) (congrArg Value.bool hb10) rfl) ?_
        replace hm776 := Option.some.inj hm776; subst hm776
        exact key778 _ _ ⟨((decide (((IntKind.i64.wrap (((IntKind.i64.wrap (((a1.Owner.size : Int)) + ((a1.Word.size : Int))))) + ((a2.size : Int))))) > 200))), _, (hST.sublist (List.Sublist.refl _)), rfl, rfl, rfl, rfl, hm777⟩
end Go.Proofs.YtfjdjbdnnoijgaaGreat
