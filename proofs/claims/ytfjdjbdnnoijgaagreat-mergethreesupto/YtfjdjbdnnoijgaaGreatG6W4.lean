/- a part of a proof of MergeThrees -/
import Derived.Test.YtfjdjbdnnoijgaaGreatG6W3
set_option linter.all false
namespace Go.Proofs.YtfjdjbdnnoijgaaGreat
open Go.RowKit
set_option maxRecDepth 10000
theorem w_ref08_Step (v_a0 : Value) (a0 : List Fact) (a1 : Cred) (v_a2 : Value) (a2 : List ByteArray) (a3 : ByteArray) (r : Bool) (w : World) (h_a0 : Sl (Pl encFact) 3 (hp w) v_a0 a0) (h_a2 : Sl (Pl encSk) 1 (hp w) v_a2 a2) (hm : m_ref08_Step a0 a1 a2 a3 = some r) :
    Gives true Tryz.prog 89 [v_a0, (.agg (encCred a1).toArray), v_a2, (.string a3)] w (.bool r) := by
  have hST := ST.start (dd := true) w
  unfold m_ref08_Step at hm
  refine calls_of_CW (n := 62) Tryz.func89 rfl rfl (Nat.le_of_ble_eq_true rfl) ?_
  refine CW_seq ?_
  refine CW_region ?_
  refine LE (E_box (v := (.agg (encCred a1).toArray)) hST rfl (fun W2 b1 hST => ?_))
  refine LV (R_assign (v := (.bool false)) rfl) ?_
  refine LW_nil ?_
  refine sq_n ?_
  refine CW_seq ?_
  refine CW_seq ?_
  refine CW_region ?_
  refine LV (R_field fa83_0 rfl) ?_
  refine LV (R_load (v := (.int .i64 a1.Kind)) rfl (load_box1 hST.has (.head _) rfl Tryz.isAgg3)) ?_
  refine LV (R_int (k := .i64) (a := a1.Kind) (b := 1) (v := (.bool ((a1.Kind == 1)))) rfl rfl rfl) ?_
  refine LW_nil ?_
  refine sq_n ?_
  refine CW_if (b := (a1.Kind == 1)) rfl (fun hb3 => ?_) (fun hb3 => ?_)
  · replace hm := if_t hb3 hm
    refine CW_seq ?_
    refine CW_region ?_
    refine LV (R_field fa83_2 rfl) ?_
    refine LV (R_load (v := (.string a1.Who)) rfl (load_box1 hST.has (.head _) rfl Tryz.isAgg9)) ?_
    refine LV (R_move (v := (.string a3)) rfl) ?_
    refine LV (R_str (a := a1.Who) (b := a3) (v := (.bool ((beqS a1.Who a3)))) rfl rfl rfl) ?_
    refine LV (R_assign (v := (.bool ((beqS a1.Who a3)))) rfl) ?_
    refine LW_nil ?_
    refine sq_n ?_
    replace hST : ST true NoF w _ _ [] := hST.sublist (List.Sublist.cons _ (List.Sublist.refl _))
    refine CW_ret ?_
    refine sq_r ?_
    replace hm := Option.some.inj hm; subst hm
    refine retQ_1 (v := (.bool ((beqS a1.Who a3)))) rfl rfl ?_
    exact ⟨rfl, hST.ex⟩
  · replace hm := if_f hb3 hm
    refine CW_skip ?_
    refine sq_n ?_
    refine CW_seq ?_
    refine CW_seq ?_
    refine CW_region ?_
    refine LV (R_field fa83_0 rfl) ?_
    refine LV (R_load (v := (.int .i64 a1.Kind)) rfl (load_box1 hST.has (.head _) rfl Tryz.isAgg3)) ?_
    refine LV (R_int (k := .i64) (a := a1.Kind) (b := 2) (v := (.bool ((a1.Kind == 2)))) rfl rfl rfl) ?_
    refine LW_nil ?_
    refine sq_n ?_
    refine CW_if (b := (a1.Kind == 2)) rfl (fun hb4 => ?_) (fun hb4 => ?_)
    · replace hm := if_t hb4 hm
      refine CW_seq ?_
      refine CW_region ?_
      refine LV (R_move (v := v_a0) rfl) ?_
      refine LV (R_field fa83_3 rfl) ?_
      refine LV (R_load (v := (.agg (encRole a1.B).toArray)) rfl (load_boxA hST.has (.head _) (encRole a1.B) rfl Tryz.isAgg47 Tryz.sizeOf47)) ?_
      refine LV (R_move (v := (.string a3)) rfl) ?_
      obtain ⟨r5, hr6, hm⟩ := bind_some hm
      refine LE (E_gives (args := [v_a0, (.agg (encRole a1.B).toArray), (.string a3)]) hST rfl Tryz.call36 (by exact args3 rfl rfl rfl) ((w_ref08_In v_a0 a0 a1.B a3 _ _ (h_a0.mono (Pl.mono _) hST.sub_hp) hr6)) (fun W7 hST => ?_))
      refine LV (R_assign (v := (.bool r5)) rfl) ?_
      refine LW_nil ?_
      refine sq_n ?_
      replace hST : ST true NoF w _ _ [] := hST.sublist (List.Sublist.cons _ (List.Sublist.refl _))
      refine CW_ret ?_
      refine sq_r ?_
      replace hm := Option.some.inj hm; subst hm
      refine retQ_1 (v := (.bool r5)) rfl rfl ?_
      exact ⟨rfl, hST.ex⟩
    · replace hm := if_f hb4 hm
      refine CW_skip ?_
      refine sq_n ?_
      refine CW_seq ?_
      refine CW_seq ?_
      refine CW_region ?_
      refine LV (R_field fa83_0 rfl) ?_
      refine LV (R_load (v := (.int .i64 a1.Kind)) rfl (load_box1 hST.has (.head _) rfl Tryz.isAgg3)) ?_
      refine LV (R_int (k := .i64) (a := a1.Kind) (b := 4) (v := (.bool ((a1.Kind == 4)))) rfl rfl rfl) ?_
      refine LW_nil ?_
      refine sq_n ?_
      refine CW_if (b := (a1.Kind == 4)) rfl (fun hb8 => ?_) (fun hb8 => ?_)
      · replace hm := if_t hb8 hm
        refine CW_seq ?_
        refine CW_region ?_
        refine LV (R_move (v := v_a0) rfl) ?_
        refine LV (R_field fa83_3 rfl) ?_
        refine LV (R_load (v := (.agg (encRole a1.B).toArray)) rfl (load_boxA hST.has (.head _) (encRole a1.B) rfl Tryz.isAgg47 Tryz.sizeOf47)) ?_
        refine LV (R_move (v := (.string a3)) rfl) ?_
        obtain ⟨r9, hr10, hm⟩ := bind_some hm
        refine LE (E_gives (args := [v_a0, (.agg (encRole a1.B).toArray), (.string a3)]) hST rfl Tryz.call36 (by exact args3 rfl rfl rfl) ((w_ref08_In v_a0 a0 a1.B a3 _ _ (h_a0.mono (Pl.mono _) hST.sub_hp) hr10)) (fun W11 hST => ?_))
        refine LV (R_move (v := (.bool r9)) rfl) ?_
        obtain ⟨s21, hm22, hm23⟩ := bind_some hm
        refine LW_join (J := fun E W => ∃ (x16 : Bool) (L17 : List (Nat × Obj)), ST true NoF w W (hp w) L17 ∧ E 8 = (.bool false) ∧ E 40 = (.bool x16) ∧ some x16 = some r) 6 ?_ (fun key24 => ?_)
        · rintro E W ⟨x16, L17, hST, e19, e20, hm18⟩
          refine LV (R_assign (v := (.bool x16)) e20) ?_
          refine LW_nil ?_
          refine sq_n ?_
          refine CW_ret ?_
          refine sq_r ?_
          replace hm18 := Option.some.inj hm18; subst hm18
          refine retQ_1 (v := (.bool x16)) rfl rfl ?_
          exact ⟨rfl, hST.ex⟩
        · rcases bool_cases r9 with hb12 | hb12
          · replace hm22 := if_t hb12 hm22
            refine LW_v (.inr ⟨5, true, 34, rfl, rfl, by decide, (congrArg Value.bool hb12)⟩) rfl (by decide) (R_move (v := v_a0) rfl) ?_
            refine LW_v (.inr ⟨5, true, 34, rfl, rfl, by decide, (congrArg Value.bool hb12)⟩) rfl (by decide) (R_field fa83_4 rfl) ?_
            refine LW_v (.inr ⟨5, true, 34, rfl, rfl, by decide, (congrArg Value.bool hb12)⟩) rfl (by decide) (R_load (v := (.agg (encRole a1.C).toArray)) rfl (load_boxA hST.has (.head _) (encRole a1.C) rfl Tryz.isAgg47 Tryz.sizeOf47)) ?_
            refine LW_v (.inr ⟨5, true, 34, rfl, rfl, by decide, (congrArg Value.bool hb12)⟩) rfl (by decide) (R_move (v := (.string a3)) rfl) ?_
            obtain ⟨r25, hr26, hm22⟩ := bind_some hm22
            refine LW_e (.inr ⟨5, true, 34, rfl, rfl, by decide, (congrArg Value.bool hb12)⟩) rfl (by decide) (E_gives (args := [v_a0, (.agg (encRole a1.C).toArray), (.string a3)]) hST rfl Tryz.call36 (by exact args3 rfl rfl rfl) ((w_ref08_In v_a0 a0 a1.C a3 _ _ (h_a0.mono (Pl.mono _) hST.sub_hp) hr26)) (fun W27 hST => ?_))
            refine LV (R_pickT (v := (.bool r25)) (congrArg Value.bool hb12) rfl) ?_
            replace hm22 := Option.some.inj hm22; subst hm22
            exact key24 _ _ ⟨r25, _, (hST.sublist (List.Sublist.cons _ (List.Sublist.refl _))), rfl, rfl, hm23⟩
          · replace hm22 := if_f hb12 hm22
            refine LW_no rfl (by decide) rfl rfl (by decide) (congrArg Value.bool hb12) ?_
            refine LW_no rfl (by decide) rfl rfl (by decide) (congrArg Value.bool hb12) ?_
            refine LW_no rfl (by decide) rfl rfl (by decide) (congrArg Value.bool hb12) ?_
            refine LW_no rfl (by decide) rfl rfl (by decide) (congrArg Value.bool hb12) ?_
            refine LW_no rfl (by decide) rfl rfl (by decide) (congrArg Value.bool hb12) ?_
            refine LV (R_pickF (v := (.bool false)) (congrArg Value.bool hb12) rfl) ?_
            replace hm22 := Option.some.inj hm22; subst hm22
            exact key24 _ _ ⟨false, _, (hST.sublist (List.Sublist.cons _ (List.Sublist.refl _))), rfl, rfl, hm23⟩
      · replace hm := if_f hb8 hm
        refine CW_skip ?_
        refine sq_n ?_
        refine CW_seq ?_
        refine CW_seq ?_
        refine CW_region ?_
        refine LV (R_move (v := v_a2) rfl) ?_
        refine LV (R_len Tryz.underlying27 rfl h_a2) ?_
        refine LV (R_move (v := (.int .i64 0)) rfl) ?_
        refine LW_nil ?_
        refine sq_n ?_
        refine CW_range (fun i E W => ∃  (L196 : List (Nat × Obj)), (E 43 = .int .i64 (i : Nat) ∧ E 42 = .int .i64 (a2.length : Nat)) ∧ ST true NoF w W (hp w) ((b1, Obj.cells ((encCred a1).toArray : Array Value) 83 (0, 0)) :: L196) ∧ E 0 = v_a0 ∧ E 3 = (.string a3) ∧ E 5 = (.pointer (some ⟨b1, 0, none⟩)) ∧ E 41 = v_a2 ∧ m_ref08_Step_L1 a0 a1 a3 (a2.drop i) = some r) a2.length h_a2.len ⟨_, ⟨rfl, rfl⟩, (hST.sublist (List.Sublist.refl _)), rfl, rfl, rfl, rfl, hm⟩ (by decide) (by decide) (by decide) (fun _ _ _ h => by obtain ⟨_, eIN, _⟩ := h; exact eIN) ?_ ?_
        · rintro i129 E W hi135 ⟨L196, ⟨eI, eN⟩, hST, e198, e199, e200, e201, hm197⟩
          obtain ⟨x130, xs131, hx133, hx132, hx134⟩ := drop_cons hi135
          rw [hx133] at hm197
          rw [m_ref08_Step_L1] at hm197
          refine CW_block ?_
          refine CW_seq ?_
          refine CW_region ?_
          refine LQ (R_indexP (enc := encSk) (i := (i129 : Int)) (x0 := x130) Tryz.underlying27 Tryz.sizeOf9 e201 eI h_a2 (Int.natCast_nonneg _) hx132) (fun p202 hp203 => ?_)
          refine LV (R_load rfl (load_at1 hST.has (y := (.string x130)) hp203 Tryz.isAgg9)) ?_
          refine LV (R_assign (v := (.string x130)) rfl) ?_
          refine LW_nil ?_
          refine sq_n ?_
          refine CW_seq ?_
          refine CW_region ?_
          refine LV (R_move (v := v_a0) e198) ?_
          refine LV (R_field fa83_3 e200) ?_
          refine LV (R_load (v := (.agg (encRole a1.B).toArray)) rfl (load_boxA hST.has (.head _) (encRole a1.B) rfl Tryz.isAgg47 Tryz.sizeOf47)) ?_
          refine LV (R_move (v := (.string x130)) rfl) ?_
          obtain ⟨r205, hr206, hm197⟩ := bind_some hm197
          refine LE (E_gives (args := [v_a0, (.agg (encRole a1.B).toArray), (.string x130)]) hST rfl Tryz.call36 (by exact args3 rfl rfl rfl) ((w_ref08_In v_a0 a0 a1.B x130 _ _ (h_a0.mono (Pl.mono _) hST.sub_hp) hr206)) (fun W207 hST => ?_))
          refine LV (R_move (v := (.bool r205)) rfl) ?_
          obtain ⟨s223, hm224, hm225⟩ := bind_some hm197
          refine LW_join (J := fun E W => ∃ (x212 : Bool) (L213 : List (Nat × Obj)), ST true NoF w W (hp w) ((b1, Obj.cells ((encCred a1).toArray : Array Value) 83 (0, 0)) :: L213) ∧ E 0 = v_a0 ∧ E 3 = (.string a3) ∧ E 5 = (.pointer (some ⟨b1, 0, none⟩)) ∧ E 41 = v_a2 ∧ E 42 = (.int .i64 ((a2.length : Int))) ∧ E 43 = (.int .i64 ((i129 : Int))) ∧ E 60 = (.bool x212) ∧ (if x212 then some true else (m_ref08_Step_L1 a0 a1 a3 xs131)) = some r) 8 ?_ (fun key226 => ?_)
          · rintro E W ⟨x212, L213, hST, e215, e216, e217, e218, e219, e220, e221, hm214⟩
            refine LW_nil ?_
            refine sq_n ?_
            refine CW_if (b := x212) e221 (fun hb222 => ?_) (fun hb222 => ?_)
            · replace hm214 := if_t hb222 hm214
              refine CW_seq ?_
              refine CW_region ?_
              refine LV (R_assign (v := (.bool true)) rfl) ?_
              refine LW_nil ?_
              refine sq_n ?_
              replace hST : ST true NoF w _ _ L213 := hST.sublist (List.Sublist.cons _ (List.Sublist.refl _))
              refine CW_ret ?_
              refine bq_r (sq_r (bq_r (sq_r ?_)))
              replace hm214 := Option.some.inj hm214; subst hm214
              refine retQ_1 (v := (.bool true)) rfl rfl ?_
              exact ⟨rfl, hST.ex⟩
            · replace hm214 := if_f hb222 hm214
              refine CW_skip ?_
              refine bq_n ?_
              refine sq_n ?_
              exact ⟨e220, _, ⟨rfl, e219⟩, (hST.sublist (List.Sublist.refl _)), e215, e216, e217, e218, (by rw [hx134]; exact hm214)⟩
          · rcases bool_cases r205 with hb208 | hb208
            · replace hm224 := if_t hb208 hm224
              refine LW_v (.inr ⟨5, true, 52, rfl, rfl, by decide, (congrArg Value.bool hb208)⟩) rfl (by decide) (R_move (v := v_a0) e198) ?_
              refine LW_v (.inr ⟨5, true, 52, rfl, rfl, by decide, (congrArg Value.bool hb208)⟩) rfl (by decide) (R_move (v := (.string x130)) rfl) ?_
              refine LW_v (.inr ⟨5, true, 52, rfl, rfl, by decide, (congrArg Value.bool hb208)⟩) rfl (by decide) (R_field fa83_5 e200) ?_
              refine LW_v (.inr ⟨5, true, 52, rfl, rfl, by decide, (congrArg Value.bool hb208)⟩) rfl (by decide) (R_load (v := (.string a1.Word2)) rfl (load_box1 hST.has (.head _) rfl Tryz.isAgg9)) ?_
              refine LW_v (.inr ⟨5, true, 52, rfl, rfl, by decide, (congrArg Value.bool hb208)⟩) rfl (by decide) (R_build (qs := #[(0, (.string x130)), (1, (.string a1.Word2))]) (v := (.agg (encRole ((⟨x130, a1.Word2⟩ : Role))).toArray)) (parts2 rfl rfl) (run_build Tryz.zeroValue47 Tryz.underlying47 (pl47 _ Tryz.underlying47) (by kernel_rfl))) ?_
              refine LW_v (.inr ⟨5, true, 52, rfl, rfl, by decide, (congrArg Value.bool hb208)⟩) rfl (by decide) (R_move (v := (.string a3)) e199) ?_
              obtain ⟨r227, hr228, hm224⟩ := bind_some hm224
              refine LW_e (.inr ⟨5, true, 52, rfl, rfl, by decide, (congrArg Value.bool hb208)⟩) rfl (by decide) (E_gives (args := [v_a0, (.agg (encRole ((⟨x130, a1.Word2⟩ : Role))).toArray), (.string a3)]) hST rfl Tryz.call36 (by exact args3 rfl rfl rfl) ((w_ref08_In v_a0 a0 ((⟨x130, a1.Word2⟩ : Role)) a3 _ _ (h_a0.mono (Pl.mono _) hST.sub_hp) hr228)) (fun W229 hST => ?_))
              refine LV (R_pickT (v := (.bool r227)) (congrArg Value.bool hb208) rfl) ?_
              replace hm224 := Option.some.inj hm224; subst hm224
              exact key226 _ _ ⟨r227, _, (hST.sublist (List.Sublist.refl _)), e198, e199, e200, e201, eN, eI, rfl, hm225⟩
            · replace hm224 := if_f hb208 hm224
              refine LW_no rfl (by decide) rfl rfl (by decide) (congrArg Value.bool hb208) ?_
              refine LW_no rfl (by decide) rfl rfl (by decide) (congrArg Value.bool hb208) ?_
              refine LW_no rfl (by decide) rfl rfl (by decide) (congrArg Value.bool hb208) ?_
              refine LW_no rfl (by decide) rfl rfl (by decide) (congrArg Value.bool hb208) ?_
              refine LW_no rfl (by decide) rfl rfl (by decide) (congrArg Value.bool hb208) ?_
              refine LW_no rfl (by decide) rfl rfl (by decide) (congrArg Value.bool hb208) ?_
              refine LW_no rfl (by decide) rfl rfl (by decide) (congrArg Value.bool hb208) ?_
              refine LV (R_pickF (v := (.bool false)) (congrArg Value.bool hb208) rfl) ?_
              replace hm224 := Option.some.inj hm224; subst hm224
              exact key226 _ _ ⟨false, _, (hST.sublist (List.Sublist.refl _)), e198, e199, e200, e201, eN, eI, rfl, hm225⟩
        · rintro E W ⟨L196, ⟨eI, eN⟩, hST, e198, e199, e200, e201, hm197⟩
          rw [List.drop_length] at hm197
          rw [m_ref08_Step_L1] at hm197
          refine sq_n ?_
          replace hST : ST true NoF w _ _ L196 := hST.sublist (List.Sublist.cons _ (List.Sublist.refl _))
          refine CW_seq ?_
          refine CW_region ?_
          refine LV (R_assign (v := (.bool false)) rfl) ?_
          refine LW_nil ?_
          refine sq_n ?_
          refine CW_ret ?_
          replace hm197 := Option.some.inj hm197; subst hm197
          refine retQ_1 (v := (.bool false)) rfl rfl ?_
          exact ⟨rfl, hST.ex⟩
theorem w_ref08_less (a0 : Fact) (a1 : Fact) (r : Bool) (w : World)  (hm : m_ref08_less a0 a1 = some r) :
    Gives true Tryz.prog 139 [(.agg (encFact a0).toArray), (.agg (encFact a1).toArray)] w (.bool r) := by
  have hST := ST.start (dd := true) w
  unfold m_ref08_less at hm
  refine calls_of_CW (n := 24) Tryz.func139 rfl rfl (Nat.le_of_ble_eq_true rfl) ?_
  refine CW_seq ?_
  refine CW_region ?_
  refine LE (E_box (v := (.agg (encFact a0).toArray)) hST rfl (fun W2 b1 hST => ?_))
  refine LE (E_box (v := (.agg (encFact a1).toArray)) hST rfl (fun W4 b3 hST => ?_))
  refine LV (R_assign (v := (.bool false)) rfl) ?_
  refine LW_nil ?_
  refine sq_n ?_
  refine CW_seq ?_
  refine CW_region ?_
  refine LV (R_field fa78_0 rfl) ?_
  refine LV (R_load (v := (.agg (encRole a0.Role).toArray)) rfl (load_boxA hST.has (.tail _ (.head _)) (encRole a0.Role) rfl Tryz.isAgg47 Tryz.sizeOf47)) ?_
  refine LV (R_field fa78_0 rfl) ?_
  refine LV (R_load (v := (.agg (encRole a1.Role).toArray)) rfl (load_boxA hST.has (.head _) (encRole a1.Role) rfl Tryz.isAgg47 Tryz.sizeOf47)) ?_
  obtain ⟨r5, hr6, hm⟩ := bind_some hm
  refine LE (E_gives (args := [(.agg (encRole a0.Role).toArray), (.agg (encRole a1.Role).toArray)]) hST rfl Tryz.call123 (by exact args2 rfl rfl) ((w_ref04_Less a0.Role a1.Role _ _  hr6)) (fun W7 hST => ?_))
  refine LV (R_move (v := (.bool r5)) rfl) ?_
  obtain ⟨s25, hm26, hm27⟩ := bind_some hm
  refine LW_join (J := fun E W => ∃ (x20 : Bool) (L21 : List (Nat × Obj)), ST true NoF w W (hp w) L21 ∧ E 4 = (.bool false) ∧ E 23 = (.bool x20) ∧ some x20 = some r) 13 ?_ (fun key28 => ?_)
  · rintro E W ⟨x20, L21, hST, e23, e24, hm22⟩
    refine LV (R_assign (v := (.bool x20)) e24) ?_
    refine LW_nil ?_
    refine sq_n ?_
    refine CW_ret ?_
    replace hm22 := Option.some.inj hm22; subst hm22
    refine retQ_1 (v := (.bool x20)) rfl rfl ?_
    exact ⟨rfl, hST.ex⟩
  · rcases bool_cases r5 with hb8 | hb8
    · replace hm26 := if_t hb8 hm26
      refine LW_no rfl (by decide) rfl rfl (by decide) (congrArg Value.bool hb8) ?_
      refine LW_no rfl (by decide) rfl rfl (by decide) (congrArg Value.bool hb8) ?_
      refine LW_no rfl (by decide) rfl rfl (by decide) (congrArg Value.bool hb8) ?_
      refine LW_no rfl (by decide) rfl rfl (by decide) (congrArg Value.bool hb8) ?_
      refine LW_no rfl (by decide) rfl rfl (by decide) (congrArg Value.bool hb8) ?_
      refine LW_no rfl (by decide) rfl rfl (by decide) (congrArg Value.bool hb8) ?_
      refine LW_nou rfl (by decide) rfl rfl (by decide) rfl ?_
      refine LW_nou rfl (by decide) rfl rfl (by decide) rfl ?_
      refine LW_nou rfl (by decide) rfl rfl (by decide) rfl ?_
      refine LW_nou rfl (by decide) rfl rfl (by decide) rfl ?_
      refine LW_nou rfl (by decide) rfl rfl (by decide) rfl ?_
      refine LW_no rfl (by decide) rfl rfl (by decide) (congrArg Value.bool hb8) ?_
      refine LV (R_pickT (v := (.bool true)) (congrArg Value.bool hb8) rfl) ?_
      replace hm26 := Option.some.inj hm26; subst hm26
      exact key28 _ _ ⟨true, _, (hST.sublist (List.Sublist.cons _ (List.Sublist.cons _ (List.Sublist.refl _)))), rfl, rfl, hm27⟩
    · replace hm26 := if_f hb8 hm26
      refine LW_v (.inr ⟨5, false, 10, rfl, rfl, by decide, (congrArg Value.bool hb8)⟩) rfl (by decide) (R_field fa78_0 rfl) ?_
      refine LW_v (.inr ⟨5, false, 10, rfl, rfl, by decide, (congrArg Value.bool hb8)⟩) rfl (by decide) (R_load (v := (.agg (encRole a0.Role).toArray)) rfl (load_boxA hST.has (.tail _ (.head _)) (encRole a0.Role) rfl Tryz.isAgg47 Tryz.sizeOf47)) ?_
      refine LW_v (.inr ⟨5, false, 10, rfl, rfl, by decide, (congrArg Value.bool hb8)⟩) rfl (by decide) (R_field fa78_0 rfl) ?_
      refine LW_v (.inr ⟨5, false, 10, rfl, rfl, by decide, (congrArg Value.bool hb8)⟩) rfl (by decide) (R_load (v := (.agg (encRole a1.Role).toArray)) rfl (load_boxA hST.has (.head _) (encRole a1.Role) rfl Tryz.isAgg47 Tryz.sizeOf47)) ?_
      refine LW_v (.inr ⟨5, false, 10, rfl, rfl, by decide, (congrArg Value.bool hb8)⟩) rfl (by decide) (R_eql (a := (encRole a0.Role).toArray) (b := (encRole a1.Role).toArray) rfl rfl (guard_agg Tryz.eqGuardType47) (bin_eql (eqInRole _ a0.Role a1.Role))) ?_
      refine LW_v (.inr ⟨5, false, 10, rfl, rfl, by decide, (congrArg Value.bool hb8)⟩) rfl (by decide) (R_move (v := (.bool ((beqRole a0.Role a1.Role)))) rfl) ?_
      obtain ⟨s36, hm37, hm38⟩ := bind_some hm26
      refine LW_join (J := fun E W => ∃ (x30 : Bool) (L31 : List (Nat × Obj)), ST true NoF w W (hp w) L31 ∧ E 4 = (.bool false) ∧ E 10 = (.bool r5) ∧ E 22 = (.bool x30) ∧ some x30 = some s25) 6 ?_ (fun key39 => ?_)
      · rintro E W ⟨x30, L31, hST, e33, e34, e35, hm32⟩
        refine LV (R_pickF (v := (.bool x30)) (e34.trans (congrArg Value.bool hb8)) e35) ?_
        replace hm32 := Option.some.inj hm32; subst hm32
        exact key28 _ _ ⟨x30, _, (hST.sublist (List.Sublist.refl _)), e33, rfl, hm27⟩
      · rcases bool_cases ((beqRole a0.Role a1.Role)) with hb29 | hb29
        · replace hm37 := if_t hb29 hm37
          refine LW_v (.inr ⟨11, true, 16, rfl, rfl, by decide, (congrArg Value.bool hb29)⟩) rfl (by decide) (R_field fa78_1 rfl) ?_
          refine LW_v (.inr ⟨11, true, 16, rfl, rfl, by decide, (congrArg Value.bool hb29)⟩) rfl (by decide) (R_load (v := (.string a0.Who)) rfl (load_box1 hST.has (.tail _ (.head _)) rfl Tryz.isAgg9)) ?_
          refine LW_v (.inr ⟨11, true, 16, rfl, rfl, by decide, (congrArg Value.bool hb29)⟩) rfl (by decide) (R_field fa78_1 rfl) ?_
          refine LW_v (.inr ⟨11, true, 16, rfl, rfl, by decide, (congrArg Value.bool hb29)⟩) rfl (by decide) (R_load (v := (.string a1.Who)) rfl (load_box1 hST.has (.head _) rfl Tryz.isAgg9)) ?_
          refine LW_v (.inr ⟨11, true, 16, rfl, rfl, by decide, (congrArg Value.bool hb29)⟩) rfl (by decide) (R_str (a := a0.Who) (b := a1.Who) (v := (.bool ((ltS a0.Who a1.Who)))) rfl rfl rfl) ?_
          refine LW_v (.inr ⟨5, false, 10, rfl, rfl, by decide, (congrArg Value.bool hb8)⟩) rfl (by decide) (R_pickT (v := (.bool ((ltS a0.Who a1.Who)))) (congrArg Value.bool hb29) rfl) ?_
          replace hm37 := Option.some.inj hm37; subst hm37
          exact key39 _ _ ⟨((ltS a0.Who a1.Who)), _, (hST.sublist (List.Sublist.cons _ (List.Sublist.cons _ (List.Sublist.refl _)))), rfl, rfl, rfl, hm38⟩
        · replace hm37 := if_f hb29 hm37
          refine LW_no rfl (by decide) rfl rfl (by decide) (congrArg Value.bool hb29) ?_
          refine LW_no rfl (by decide) rfl rfl (by decide) (congrArg Value.bool hb29) ?_
          refine LW_no rfl (by decide) rfl rfl (by decide) (congrArg Value.bool hb29) ?_
          refine LW_no rfl (by decide) rfl rfl (by decide) (congrArg Value.bool hb29) ?_
          refine LW_no rfl (by decide) rfl rfl (by decide) (congrArg Value.bool hb29) ?_
          refine LW_v (.inr ⟨5, false, 10, rfl, rfl, by decide, (congrArg Value.bool hb8)⟩) rfl (by decide) (R_pickF (v := (.bool false)) (congrArg Value.bool hb29) rfl) ?_
          replace hm37 := Option.some.inj hm37; subst hm37
          exact key39 _ _ ⟨false, _, (hST.sublist (List.Sublist.cons _ (List.Sublist.cons _ (List.Sublist.refl _)))), rfl, rfl, rfl, hm38⟩
theorem w_ref08_Sorted (v_a0 : Value) (a0 : List Fact) (r : List Fact) (w : World) (h_a0 : Sl (Pl encFact) 3 (hp w) v_a0 a0) (hm : m_ref08_Sorted a0 = some r) :
    GivesRow true Tryz.prog 90 [v_a0] w 78 encFact 3 r := by
  have hST := ST.start (dd := true) w
  unfold m_ref08_Sorted at hm
  refine calls_of_CW (n := 56) Tryz.func90 rfl rfl (Nat.le_of_ble_eq_true rfl) ?_
  refine CW_seq ?_
  refine CW_region ?_
  refine LV (R_assign (v := (.slice none 0 0)) rfl) ?_
  refine LW_nil ?_
  refine sq_n ?_
  refine CW_seq ?_
  refine CW_region ?_
  refine LV (R_assign (v := (.slice none 0 0)) rfl) ?_
  refine LW_nil ?_
  refine sq_n ?_
  refine CW_seq ?_
  refine CW_seq ?_
  refine CW_region ?_
  refine LV (R_move (v := v_a0) rfl) ?_
  refine LV (R_len Tryz.underlying53 rfl h_a0) ?_
  refine LV (R_move (v := (.int .i64 0)) rfl) ?_
  refine LW_nil ?_
  refine sq_n ?_
  refine CW_range (fun i E W => ∃ (v9337 : Value) (l9338 : List Fact) (R9340 : List (Nat × Obj)) (L11674 : List (Nat × Obj)), (E 9 = .int .i64 (i : Nat) ∧ E 8 = .int .i64 (a0.length : Nat)) ∧ ST true NoF w W (hp w) (R9340 ++ L11674) ∧ E 0 = v_a0 ∧ E 3 = v9337 ∧ Row 78 encFact 3 v9337 l9338 R9340 ∧ m_ref08_Sorted_L1 a0 (a0.drop i) l9338 = some r) a0.length h_a0.len ⟨(.slice none 0 0), ([]), [], _, ⟨rfl, rfl⟩, (hST.sublist (List.Sublist.refl _)), rfl, rfl, (Row.nil _ _ _), hm⟩ (by decide) (by decide) (by decide) (fun _ _ _ h => by obtain ⟨_, _, _, _, eIN, _⟩ := h; exact eIN) ?_ ?_
  · rintro i7003 E W hi7009 ⟨v9337, l9338, R9340, L11674, ⟨eI, eN⟩, hST, e11676, e11677, hs9339, hm11675⟩
    obtain ⟨x7004, xs7005, hx7007, hx7006, hx7008⟩ := drop_cons hi7009
    rw [hx7007] at hm11675
    rw [m_ref08_Sorted_L1] at hm11675
    refine CW_block ?_
    refine CW_seq ?_
    refine CW_region ?_
    refine LV (R_assign (v := (.int .i64 ((-1)))) rfl) ?_
    refine LW_nil ?_
    refine sq_n ?_
    refine CW_seq ?_
    refine CW_seq ?_
    refine CW_region ?_
    refine LV (R_move (v := v_a0) e11676) ?_
    refine LV (R_len Tryz.underlying53 rfl h_a0) ?_
    refine LV (R_move (v := (.int .i64 0)) rfl) ?_
    refine LW_nil ?_
    refine sq_n ?_
    obtain ⟨s12851, hm12852, hm12853⟩ := bind_some hm11675
    refine CW_cut (fun E W => ∃ (x12829 : Int) (L12830 : List (Nat × Obj)), ST true NoF w W (hp w) (R9340 ++ L12830) ∧ E 0 = v_a0 ∧ E 3 = v9337 ∧ E 4 = (.int .i64 x12829) ∧ E 8 = (.int .i64 ((a0.length : Int))) ∧ E 9 = (.int .i64 ((i7003 : Int))) ∧ (if (decide (x12829 ≥ 0)) then (((idx a0 x12829)).bind fun x12841 => (((appB 48 l9338 ([x12841]))).bind fun l12845 => (m_ref08_Sorted_L1 a0 xs7005 l12845))) else (m_ref08_Sorted_L1 a0 xs7005 l9338)) = some r) ?_ ?_
    · refine CW_range (fun i E W => ∃ (x13237 : Int) (L13621 : List (Nat × Obj)), (E 13 = .int .i64 (i : Nat) ∧ E 12 = .int .i64 (a0.length : Nat)) ∧ ST true NoF w W (hp w) (R9340 ++ L13621) ∧ E 0 = v_a0 ∧ E 3 = v9337 ∧ E 4 = (.int .i64 x13237) ∧ E 8 = (.int .i64 ((a0.length : Int))) ∧ E 9 = (.int .i64 ((i7003 : Int))) ∧ E 11 = v_a0 ∧ m_ref08_Sorted_L2 l9338 a0 (a0.drop i) i x13237 = some s12851) a0.length h_a0.len ⟨((-1)), _, ⟨rfl, rfl⟩, (hST.sublist (List.Sublist.refl _)), e11676, e11677, rfl, eN, eI, rfl, hm12852⟩ (by decide) (by decide) (by decide) (fun _ _ _ h => by obtain ⟨_, _, eIN, _⟩ := h; exact eIN) ?_ ?_
      · rintro i12854 E W hi12860 ⟨x13237, L13621, ⟨eI, eN⟩, hST, e13623, e13624, e13625, e13626, e13627, e13628, hm13622⟩
        obtain ⟨x12855, xs12856, hx12858, hx12857, hx12859⟩ := drop_cons hi12860
        rw [hx12858] at hm13622
        rw [m_ref08_Sorted_L2] at hm13622
        refine CW_block ?_
        refine CW_seq ?_
        refine CW_region ?_
        refine LV (R_move (v := (.int .i64 ((i12854 : Int)))) eI) ?_
        refine LQ (R_indexP (enc := encFact) (i := (i12854 : Int)) (x0 := x12855) Tryz.underlying53 Tryz.sizeOf78 e13628 eI h_a0 (Int.natCast_nonneg _) hx12857) (fun p13629 hp13630 => ?_)
        refine LV (R_load rfl (load_atA hST.has hp13630 Tryz.isAgg78 Tryz.sizeOf78)) ?_
        refine LE (E_alloc hST Tryz.zeroValue78 (fun W13633 b13632 hST => ?_))
        refine LV (R_assign (v := (.int .i64 ((i12854 : Int)))) rfl) ?_
        refine LW_e0 (.inl rfl) rfl (E_store [] (.agg (encFact x12855).toArray) ((encFact x12855).toArray) hST rfl rfl Tryz.sizeOf78 (oneFact x12855) (Nat.le_of_ble_eq_true rfl) rfl (fun W13634 hST => ?_))
        refine LW_nil ?_
        refine sq_n ?_
        refine CW_seq ?_
        refine PX_start (fun l W => Has (hp w) ((b13632, Obj.cells ((encFact x12855).toArray : Array Value) 78 (0, 0)) :: (R9340 ++ [])) W) Tryz_mixed ?_
        replace hST := hST.drew
        replace hST : ST true NoF w _ _ ((b13632, Obj.cells ((encFact x12855).toArray : Array Value) 78 (0, 0)) :: (R9340 ++ L13621)) := hST
        have hS0 : Has (hp w) ((b13632, Obj.cells ((encFact x12855).toArray : Array Value) 78 (0, 0)) :: (R9340 ++ [])) _ := hST.has.sub (Sub.refl _) (fun p hq => ((List.mem_cons.1 hq).elim (fun hq => by rw [hq]; exact (.head _)) (fun hq => ((List.mem_append.1 hq).elim (fun hq => (.tail _ (List.mem_append_left _ hq))) (fun hq => (absurd hq List.not_mem_nil))))))
        refine PV 0 rfl hS0 (R_move (v := v9337) e13624) ?_
        refine PV 1 rfl hS0 (R_lenRow Tryz.underlying53 rfl hs9339) ?_
        refine PV 2 rfl hS0 (R_int (k := .i64) (a := ((l9338.length : Int))) (b := 0) (v := (.bool ((((l9338.length : Int)) == 0)))) rfl rfl rfl) ?_
        refine PV 3 rfl hS0 (R_move (v := (.bool ((((l9338.length : Int)) == 0)))) rfl) ?_
        obtain ⟨s13993, hm13994, hm13995⟩ := bind_some hm13622
        refine PX_join (J := fun E W => ∃ (x13890 : Bool) (L13891 : List (Nat × Obj)), ST true NoF w W (hp w) ((b13632, Obj.cells ((encFact x12855).toArray : Array Value) 78 (0, 0)) :: (R9340 ++ L13891)) ∧ E 0 = v_a0 ∧ E 3 = v9337 ∧ E 4 = (.int .i64 x13237) ∧ E 5 = (.int .i64 ((i12854 : Int))) ∧ E 6 = (.pointer (some ⟨b13632, 0, none⟩)) ∧ E 8 = (.int .i64 ((a0.length : Int))) ∧ E 9 = (.int .i64 ((i7003 : Int))) ∧ E 11 = v_a0 ∧ E 12 = (.int .i64 ((a0.length : Int))) ∧ E 13 = (.int .i64 ((i12854 : Int))) ∧ E 30 = (.bool x13890) ∧ (((if x13890 then (((if (decide (x13237 < 0)) then some true else (((idx a0 x13237)).bind fun x13988 => (((m_ref08_less x12855 x13988)).bind fun r13990 => some r13990))) : Option Bool).bind fun x13967 => some x13967) else some false) : Option Bool).bind fun x13940 => (if x13940 then (m_ref08_Sorted_L2 l9338 a0 xs12856 (i12854 + 1) ((i12854 : Int))) else (m_ref08_Sorted_L2 l9338 a0 xs12856 (i12854 + 1) x13237))) = some s12851) #[true, true, true, true, true, true, true, true, true, true, true, true, true, false, false, false, false, false, false, false, false, false, false, false, false] 12 ?_ (fun key13996 => ?_)
        · rintro E W ⟨x13890, L13891, hST, e13893, e13894, e13895, e13896, e13897, e13898, e13899, e13900, e13901, e13902, e13903, hm13892⟩
          have hS0 : Has (hp w) ((b13632, Obj.cells ((encFact x12855).toArray : Array Value) 78 (0, 0)) :: (R9340 ++ [])) _ := hST.has.sub (Sub.refl _) (fun p hq => ((List.mem_cons.1 hq).elim (fun hq => by rw [hq]; exact (.head _)) (fun hq => ((List.mem_append.1 hq).elim (fun hq => (.tail _ (List.mem_append_left _ hq))) (fun hq => (absurd hq List.not_mem_nil))))))
          refine PV 13 rfl hS0 (R_move (v := (.bool x13890)) e13903) ?_
          obtain ⟨s13954, hm13955, hm13956⟩ := bind_some hm13892
          refine PX_join (J := fun E W => ∃ (x13940 : Bool) (L13941 : List (Nat × Obj)), ST true NoF w W (hp w) ((b13632, Obj.cells ((encFact x12855).toArray : Array Value) 78 (0, 0)) :: (R9340 ++ L13941)) ∧ E 0 = v_a0 ∧ E 3 = v9337 ∧ E 4 = (.int .i64 x13237) ∧ E 5 = (.int .i64 ((i12854 : Int))) ∧ E 8 = (.int .i64 ((a0.length : Int))) ∧ E 9 = (.int .i64 ((i7003 : Int))) ∧ E 11 = v_a0 ∧ E 12 = (.int .i64 ((a0.length : Int))) ∧ E 13 = (.int .i64 ((i12854 : Int))) ∧ E 42 = (.bool x13940) ∧ (if x13940 then (m_ref08_Sorted_L2 l9338 a0 xs12856 (i12854 + 1) ((i12854 : Int))) else (m_ref08_Sorted_L2 l9338 a0 xs12856 (i12854 + 1) x13237)) = some s12851) #[true, true, true, true, true, true, true, true, true, true, true, true, true, true, true, true, true, true, true, true, true, true, true, true, true] 0 ?_ (fun key13957 => ?_)
          · rintro E W ⟨x13940, L13941, hST, e13943, e13944, e13945, e13946, e13947, e13948, e13949, e13950, e13951, e13952, hm13942⟩
            have hS0 : Has (hp w) ((b13632, Obj.cells ((encFact x12855).toArray : Array Value) 78 (0, 0)) :: (R9340 ++ [])) _ := hST.has.sub (Sub.refl _) (fun p hq => ((List.mem_cons.1 hq).elim (fun hq => by rw [hq]; exact (.head _)) (fun hq => ((List.mem_append.1 hq).elim (fun hq => (.tail _ (List.mem_append_left _ hq))) (fun hq => (absurd hq List.not_mem_nil))))))
            refine PX_done (by kernel_rfl) ?_
            refine sq_n ?_
            replace hST : ST true NoF w _ _ (R9340 ++ L13941) := hST.sublist (List.Sublist.cons _ (List.Sublist.refl _))
            refine CW_if (b := x13940) e13952 (fun hb13953 => ?_) (fun hb13953 => ?_)
            · replace hm13942 := if_t hb13953 hm13942
              refine CW_region ?_
              refine LV (R_move (v := (.int .i64 ((i12854 : Int)))) e13946) ?_
              refine LV (R_assign (v := (.int .i64 ((i12854 : Int)))) rfl) ?_
              refine LW_nil ?_
              refine bq_n ?_
              refine sq_n ?_
              exact ⟨e13951, ((i12854 : Int)), _, ⟨rfl, e13950⟩, (hST.sublist (List.Sublist.refl _)), e13943, e13944, rfl, e13947, e13948, e13949, (by rw [hx12859]; exact hm13942)⟩
            · replace hm13942 := if_f hb13953 hm13942
              refine CW_skip ?_
              refine bq_n ?_
              refine sq_n ?_
              exact ⟨e13951, x13237, _, ⟨rfl, e13950⟩, (hST.sublist (List.Sublist.refl _)), e13943, e13944, e13945, e13947, e13948, e13949, (by rw [hx12859]; exact hm13942)⟩
          · rcases bool_cases x13890 with hb13904 | hb13904
            · replace hm13955 := if_t hb13904 hm13955
              refine PX_v 14 rfl (by kernel_rfl) (.inr ⟨13, true, 31, rfl, rfl, by decide, (congrArg Value.bool hb13904)⟩) rfl (by decide) (fun _ _ h => h) hS0 (fun _ _ _ _ => R_move (v := (.int .i64 x13237)) e13895) ?_
              refine PX_v 15 rfl (by kernel_rfl) (.inr ⟨13, true, 31, rfl, rfl, by decide, (congrArg Value.bool hb13904)⟩) rfl (by decide) (fun _ _ h => h) hS0 (fun _ _ _ _ => R_int (k := .i64) (a := x13237) (b := 0) (v := (.bool ((decide (x13237 < 0))))) rfl rfl rfl) ?_
              refine PX_v 16 rfl (by kernel_rfl) (.inr ⟨13, true, 31, rfl, rfl, by decide, (congrArg Value.bool hb13904)⟩) rfl (by decide) (fun _ _ h => h) hS0 (fun _ _ _ _ => R_move (v := (.bool ((decide (x13237 < 0))))) rfl) ?_
              obtain ⟨s13981, hm13982, hm13983⟩ := bind_some hm13955
              refine PX_join (J := fun E W => ∃ (x13967 : Bool) (L13968 : List (Nat × Obj)), ST true NoF w W (hp w) ((b13632, Obj.cells ((encFact x12855).toArray : Array Value) 78 (0, 0)) :: (R9340 ++ L13968)) ∧ E 0 = v_a0 ∧ E 3 = v9337 ∧ E 4 = (.int .i64 x13237) ∧ E 5 = (.int .i64 ((i12854 : Int))) ∧ E 8 = (.int .i64 ((a0.length : Int))) ∧ E 9 = (.int .i64 ((i7003 : Int))) ∧ E 11 = v_a0 ∧ E 12 = (.int .i64 ((a0.length : Int))) ∧ E 13 = (.int .i64 ((i12854 : Int))) ∧ E 31 = (.bool x13890) ∧ E 41 = (.bool x13967) ∧ some x13967 = some s13954) #[true, true, true, true, true, true, true, true, true, true, true, true, true, true, true, true, true, true, true, true, true, true, true, true, false] 1 ?_ (fun key13984 => ?_)
              · rintro E W ⟨x13967, L13968, hST, e13970, e13971, e13972, e13973, e13974, e13975, e13976, e13977, e13978, e13979, e13980, hm13969⟩
                have hS0 : Has (hp w) ((b13632, Obj.cells ((encFact x12855).toArray : Array Value) 78 (0, 0)) :: (R9340 ++ [])) _ := hST.has.sub (Sub.refl _) (fun p hq => ((List.mem_cons.1 hq).elim (fun hq => by rw [hq]; exact (.head _)) (fun hq => ((List.mem_append.1 hq).elim (fun hq => (.tail _ (List.mem_append_left _ hq))) (fun hq => (absurd hq List.not_mem_nil))))))
                refine PV 24 rfl hS0 (R_pickT (v := (.bool x13967)) (e13979.trans (congrArg Value.bool hb13904)) e13980) ?_
                replace hm13969 := Option.some.inj hm13969; subst hm13969
                refine PX_at (by kernel_rfl) (key13957 _ _ ⟨x13967, _, (hST.sublist (List.Sublist.refl _)), e13970, e13971, e13972, e13973, e13974, e13975, e13976, e13977, e13978, rfl, hm13956⟩)
              · rcases bool_cases ((decide (x13237 < 0))) with hb13958 | hb13958
                · replace hm13982 := if_t hb13958 hm13982
                  refine PX_no 17 rfl (by kernel_rfl) rfl rfl (by decide) (congrArg Value.bool hb13958) rfl (by decide) (fun _ _ h => h) hS0 ?_
                  refine PX_no 18 rfl (by kernel_rfl) rfl rfl (by decide) (congrArg Value.bool hb13958) rfl (by decide) (fun _ _ h => h) hS0 ?_
                  refine PX_no 19 rfl (by kernel_rfl) rfl rfl (by decide) (congrArg Value.bool hb13958) rfl (by decide) (fun _ _ h => h) hS0 ?_
                  refine PX_no 20 rfl (by kernel_rfl) rfl rfl (by decide) (congrArg Value.bool hb13958) rfl (by decide) (fun _ _ h => h) hS0 ?_
                  refine PX_no 21 rfl (by kernel_rfl) rfl rfl (by decide) (congrArg Value.bool hb13958) rfl (by decide) (fun _ _ h => h) hS0 ?_
                  refine PX_no 22 rfl (by kernel_rfl) rfl rfl (by decide) (congrArg Value.bool hb13958) rfl (by decide) (fun _ _ h => h) hS0 ?_
                  refine PX_v 23 rfl (by kernel_rfl) (.inr ⟨13, true, 31, rfl, rfl, by decide, (congrArg Value.bool hb13904)⟩) rfl (by decide) (fun _ _ h => h) hS0 (fun _ _ _ _ => R_pickT (v := (.bool true)) (congrArg Value.bool hb13958) rfl) ?_
                  replace hm13982 := Option.some.inj hm13982; subst hm13982
                  refine PX_at (by kernel_rfl) (key13984 _ _ ⟨true, _, (hST.sublist (List.Sublist.refl _)), e13893, e13894, e13895, e13896, e13898, e13899, e13900, e13901, e13902, rfl, rfl, hm13983⟩)
                · replace hm13982 := if_f hb13958 hm13982
                  refine PX_v 17 rfl (by kernel_rfl) (.inr ⟨16, false, 34, rfl, rfl, by decide, (congrArg Value.bool hb13958)⟩) rfl (by decide) (fun _ _ h => h) hS0 (fun l W hpd hs => have hS := hs; R_load (v := (.agg (encFact x12855).toArray)) e13897 (load_boxA hS (.head _) (encFact x12855) rfl Tryz.isAgg78 Tryz.sizeOf78)) ?_
                  refine PX_v 18 rfl (by kernel_rfl) (.inr ⟨16, false, 34, rfl, rfl, by decide, (congrArg Value.bool hb13958)⟩) rfl (by decide) (fun _ _ h => h) hS0 (fun _ _ _ _ => R_move (v := v_a0) e13893) ?_
                  refine PX_v 19 rfl (by kernel_rfl) (.inr ⟨16, false, 34, rfl, rfl, by decide, (congrArg Value.bool hb13958)⟩) rfl (by decide) (fun _ _ h => h) hS0 (fun _ _ _ _ => R_move (v := (.int .i64 x13237)) e13895) ?_
                  obtain ⟨x13988, hx13989, hm13982⟩ := bind_some hm13982
                  refine PX_q 20 rfl (by kernel_rfl) (.inr ⟨16, false, 34, rfl, rfl, by decide, (congrArg Value.bool hb13958)⟩) rfl (by decide) (fun _ _ h => h) hS0 (R_indexP (enc := encFact) (i := x13237) (x0 := x13988) Tryz.underlying53 Tryz.sizeOf78 rfl rfl h_a0 (idx_nonneg hx13989) (idx_get hx13989)) (fun p13985 hp13986 => ?_)
                  refine PX_v 21 rfl (by kernel_rfl) (.inr ⟨16, false, 34, rfl, rfl, by decide, (congrArg Value.bool hb13958)⟩) rfl (by decide) (fun _ _ h => h) hS0 (fun l W hpd hs => have hS := hs; R_load rfl (load_atA hS hp13986 Tryz.isAgg78 Tryz.sizeOf78)) ?_
                  obtain ⟨r13990, hr13991, hm13982⟩ := bind_some hm13982
                  refine PX_e 22 rfl (by kernel_rfl) (.inr ⟨16, false, 34, rfl, rfl, by decide, (congrArg Value.bool hb13958)⟩) rfl (by decide) (E_gives (args := [(.agg (encFact x12855).toArray), (.agg (encFact x13988).toArray)]) hST rfl Tryz.call139 (by exact args2 rfl rfl) ((w_ref08_less x12855 x13988 _ _  hr13991)) (fun W13992 hST => ?_))
                  have hS0 : Has (hp w) ((b13632, Obj.cells ((encFact x12855).toArray : Array Value) 78 (0, 0)) :: (R9340 ++ [])) _ := hST.has.sub (Sub.refl _) (fun p hq => ((List.mem_cons.1 hq).elim (fun hq => by rw [hq]; exact (.head _)) (fun hq => ((List.mem_append.1 hq).elim (fun hq => (.tail _ (List.mem_append_left _ hq))) (fun hq => (absurd hq List.not_mem_nil))))))
                  refine ⟨hS0, ?_⟩
                  refine PX_v 23 rfl (by kernel_rfl) (.inr ⟨13, true, 31, rfl, rfl, by decide, (congrArg Value.bool hb13904)⟩) rfl (by decide) (fun _ _ h => h) hS0 (fun _ _ _ _ => R_pickF (v := (.bool r13990)) (congrArg Value.bool hb13958) rfl) ?_
                  replace hm13982 := Option.some.inj hm13982; subst hm13982
                  refine PX_at (by kernel_rfl) (key13984 _ _ ⟨r13990, _, (hST.sublist (List.Sublist.refl _)), e13893, e13894, e13895, e13896, e13898, e13899, e13900, e13901, e13902, rfl, rfl, hm13983⟩)
            · replace hm13955 := if_f hb13904 hm13955
              refine PX_no 14 rfl (by kernel_rfl) rfl rfl (by decide) (congrArg Value.bool hb13904) rfl (by decide) (fun _ _ h => h) hS0 ?_
              refine PX_no 15 rfl (by kernel_rfl) rfl rfl (by decide) (congrArg Value.bool hb13904) rfl (by decide) (fun _ _ h => h) hS0 ?_
              refine PX_no 16 rfl (by kernel_rfl) rfl rfl (by decide) (congrArg Value.bool hb13904) rfl (by decide) (fun _ _ h => h) hS0 ?_
              refine PX_nou 17 rfl (by kernel_rfl) rfl rfl (by decide) rfl rfl (by decide) (fun _ _ h => h) hS0 ?_
              refine PX_nou 18 rfl (by kernel_rfl) rfl rfl (by decide) rfl rfl (by decide) (fun _ _ h => h) hS0 ?_
              refine PX_nou 19 rfl (by kernel_rfl) rfl rfl (by decide) rfl rfl (by decide) (fun _ _ h => h) hS0 ?_
              refine PX_nou 20 rfl (by kernel_rfl) rfl rfl (by decide) rfl rfl (by decide) (fun _ _ h => h) hS0 ?_
              refine PX_nou 21 rfl (by kernel_rfl) rfl rfl (by decide) rfl rfl (by decide) (fun _ _ h => h) hS0 ?_
              refine PX_nou 22 rfl (by kernel_rfl) rfl rfl (by decide) rfl rfl (by decide) (fun _ _ h => h) hS0 ?_
              refine PX_no 23 rfl (by kernel_rfl) rfl rfl (by decide) (congrArg Value.bool hb13904) rfl (by decide) (fun _ _ h => h) hS0 ?_
              refine PV 24 rfl hS0 (R_pickF (v := (.bool false)) (congrArg Value.bool hb13904) rfl) ?_
              replace hm13955 := Option.some.inj hm13955; subst hm13955
              refine PX_at (by kernel_rfl) (key13957 _ _ ⟨false, _, (hST.sublist (List.Sublist.refl _)), e13893, e13894, e13895, e13896, e13898, e13899, e13900, e13901, e13902, rfl, hm13956⟩)
        · rcases bool_cases ((((l9338.length : Int)) == 0)) with hb13881 | hb13881
          · replace hm13994 := if_t hb13881 hm13994
            refine PX_no 4 rfl (by kernel_rfl) rfl rfl (by decide) (congrArg Value.bool hb13881) rfl (by decide) (fun _ _ h => h) hS0 ?_
            refine PX_no 5 rfl (by kernel_rfl) rfl rfl (by decide) (congrArg Value.bool hb13881) rfl (by decide) (fun _ _ h => h) hS0 ?_
            refine PX_no 6 rfl (by kernel_rfl) rfl rfl (by decide) (congrArg Value.bool hb13881) rfl (by decide) (fun _ _ h => h) hS0 ?_
            refine PX_no 7 rfl (by kernel_rfl) rfl rfl (by decide) (congrArg Value.bool hb13881) rfl (by decide) (fun _ _ h => h) hS0 ?_
            refine PX_no 8 rfl (by kernel_rfl) rfl rfl (by decide) (congrArg Value.bool hb13881) rfl (by decide) (fun _ _ h => h) hS0 ?_
            refine PX_no 9 rfl (by kernel_rfl) rfl rfl (by decide) (congrArg Value.bool hb13881) rfl (by decide) (fun _ _ h => h) hS0 ?_
            refine PX_no 10 rfl (by kernel_rfl) rfl rfl (by decide) (congrArg Value.bool hb13881) rfl (by decide) (fun _ _ h => h) hS0 ?_
            refine PX_no 11 rfl (by kernel_rfl) rfl rfl (by decide) (congrArg Value.bool hb13881) rfl (by decide) (fun _ _ h => h) hS0 ?_
            refine PV 12 rfl hS0 (R_pickT (v := (.bool true)) (congrArg Value.bool hb13881) rfl) ?_
            replace hm13994 := Option.some.inj hm13994; subst hm13994
            refine PX_at (by kernel_rfl) (key13996 _ _ ⟨true, _, (hST.sublist (List.Sublist.refl _)), e13623, e13624, e13625, rfl, rfl, e13626, e13627, e13628, eN, eI, rfl, hm13995⟩)
          · replace hm13994 := if_f hb13881 hm13994
            refine PX_v 4 rfl (by kernel_rfl) (.inr ⟨3, false, 21, rfl, rfl, by decide, (congrArg Value.bool hb13881)⟩) rfl (by decide) (fun _ _ h => h) hS0 (fun _ _ _ _ => R_move (v := v9337) e13624) ?_
            refine PX_v 5 rfl (by kernel_rfl) (.inr ⟨3, false, 21, rfl, rfl, by decide, (congrArg Value.bool hb13881)⟩) rfl (by decide) (fun _ _ h => h) hS0 (fun _ _ _ _ => R_move (v := v9337) e13624) ?_
            refine PX_v 6 rfl (by kernel_rfl) (.inr ⟨3, false, 21, rfl, rfl, by decide, (congrArg Value.bool hb13881)⟩) rfl (by decide) (fun _ _ h => h) hS0 (fun _ _ _ _ => R_lenRow Tryz.underlying53 rfl hs9339) ?_
            refine PX_v 7 rfl (by kernel_rfl) (.inr ⟨3, false, 21, rfl, rfl, by decide, (congrArg Value.bool hb13881)⟩) rfl (by decide) (fun _ _ h => h) hS0 (fun _ _ _ _ => R_int (k := .i64) (a := ((l9338.length : Int))) (b := 1) (v := (.int .i64 ((IntKind.i64.wrap (((l9338.length : Int)) - 1))))) rfl rfl rfl) ?_
            obtain ⟨x14000, hx14001, hm13994⟩ := bind_some hm13994
            refine PX_q 8 rfl (by kernel_rfl) (.inr ⟨3, false, 21, rfl, rfl, by decide, (congrArg Value.bool hb13881)⟩) rfl (by decide) (fun _ _ h => h) hS0 (R_indexRow (i := (IntKind.i64.wrap (((l9338.length : Int)) - 1))) (x0 := x14000) Tryz.underlying53 Tryz.sizeOf78 rfl rfl hs9339 (idx_nonneg hx14001) (idx_get hx14001)) (fun p13997 hp13998 => ?_)
            refine PX_v 9 rfl (by kernel_rfl) (.inr ⟨3, false, 21, rfl, rfl, by decide, (congrArg Value.bool hb13881)⟩) rfl (by decide) (fun _ _ h => h) hS0 (fun l W hpd hs => have hS := hs; R_load (v := (.agg (encFact x14000).toArray)) rfl (load_ixA hS (fun p hq => by simp [hq]) hs9339 lenFact hp13998 (idx_get hx14001) Tryz.isAgg78 Tryz.sizeOf78)) ?_
            refine PX_v 10 rfl (by kernel_rfl) (.inr ⟨3, false, 21, rfl, rfl, by decide, (congrArg Value.bool hb13881)⟩) rfl (by decide) (fun _ _ h => h) hS0 (fun l W hpd hs => have hS := hs; R_load (v := (.agg (encFact x12855).toArray)) rfl (load_boxA hS (.head _) (encFact x12855) rfl Tryz.isAgg78 Tryz.sizeOf78)) ?_
            obtain ⟨r14002, hr14003, hm13994⟩ := bind_some hm13994
            refine PX_e 11 rfl (by kernel_rfl) (.inr ⟨3, false, 21, rfl, rfl, by decide, (congrArg Value.bool hb13881)⟩) rfl (by decide) (E_gives (args := [(.agg (encFact x14000).toArray), (.agg (encFact x12855).toArray)]) hST rfl Tryz.call139 (by exact args2 rfl rfl) ((w_ref08_less x14000 x12855 _ _  hr14003)) (fun W14004 hST => ?_))
            have hS0 : Has (hp w) ((b13632, Obj.cells ((encFact x12855).toArray : Array Value) 78 (0, 0)) :: (R9340 ++ [])) _ := hST.has.sub (Sub.refl _) (fun p hq => ((List.mem_cons.1 hq).elim (fun hq => by rw [hq]; exact (.head _)) (fun hq => ((List.mem_append.1 hq).elim (fun hq => (.tail _ (List.mem_append_left _ hq))) (fun hq => (absurd hq List.not_mem_nil))))))
            refine ⟨hS0, ?_⟩
            refine PV 12 rfl hS0 (R_pickF (v := (.bool r14002)) (congrArg Value.bool hb13881) rfl) ?_
            replace hm13994 := Option.some.inj hm13994; subst hm13994
            refine PX_at (by kernel_rfl) (key13996 _ _ ⟨r14002, _, (hST.sublist (List.Sublist.refl _)), e13623, e13624, e13625, rfl, rfl, e13626, e13627, e13628, eN, eI, rfl, hm13995⟩)
      · rintro E W ⟨x13237, L13621, ⟨eI, eN⟩, hST, e13623, e13624, e13625, e13626, e13627, e13628, hm13622⟩
        rw [List.drop_length] at hm13622
        rw [m_ref08_Sorted_L2] at hm13622
        refine sq_n ?_
        replace hm13622 := Option.some.inj hm13622; subst hm13622
        exact ⟨x13237, _, (hST.sublist (List.Sublist.refl _)), e13623, e13624, e13625, e13626, e13627, hm12853⟩
    · rintro E W ⟨x12829, L12830, hST, e12832, e12833, e12834, e12835, e12836, hm12831⟩
      refine CW_seq ?_
      refine CW_region ?_
      refine LV (R_move (v := (.int .i64 x12829)) e12834) ?_
      refine LV (R_int (k := .i64) (a := x12829) (b := 0) (v := (.bool ((decide (x12829 ≥ 0))))) rfl rfl rfl) ?_
      refine LW_nil ?_
      refine sq_n ?_
      refine CW_if (b := (decide (x12829 ≥ 0))) rfl (fun hb12837 => ?_) (fun hb12837 => ?_)
      · replace hm12831 := if_t hb12837 hm12831
        refine CW_region ?_
        refine LV (R_move (v := v9337) e12833) ?_
        refine LV (R_move (v := v_a0) e12832) ?_
        refine LV (R_move (v := (.int .i64 x12829)) e12834) ?_
        obtain ⟨x12841, hx12842, hm12831⟩ := bind_some hm12831
        refine LQ (R_indexP (enc := encFact) (i := x12829) (x0 := x12841) Tryz.underlying53 Tryz.sizeOf78 rfl rfl h_a0 (idx_nonneg hx12842) (idx_get hx12842)) (fun p12838 hp12839 => ?_)
        refine LV (R_load rfl (load_atA hST.has hp12839 Tryz.isAgg78 Tryz.sizeOf78)) ?_
        refine LE (E_buildSlice (qs := #[(0, (.agg (encFact x12841).toArray))]) (cs := (encFact x12841).toArray) hST (parts1 rfl) (run_lit [(.agg (encFact x12841).toArray)] Tryz.underlying53 Tryz.sizeOf78 Tryz.zeroValue78 (by decide) rfl (by intro v hv; simp only [List.mem_cons, List.not_mem_nil, or_false] at hv; rcases hv with rfl <;> rfl) rfl rfl) (fun W12844 b12843 hST => ?_))
        obtain ⟨l12845, hb12846, hm12831⟩ := bind_some hm12831
        refine LE (E_append (enc := encFact) (v := v9337) (vs := (.slice (some ⟨b12843, 0, none⟩) 1 1)) (R := R9340) [_] hST lenFact (by decide) oneFact Tryz.underlying53 info78.1 info78.2.1 rfl info78.2.2.1 info78.2.2.2 rfl rfl hs9339 (Sl.lit (enc := encFact) (l := [x12841]) lenFact rfl (Nat.le_of_ble_eq_true rfl) rfl (hST.at_ (.head _))) hb12846 (fun W12847 v12850 R12848 hST hR12849 => ?_))
        refine LV (R_assign (v := v12850) rfl) ?_
        refine LW_nil ?_
        refine bq_n ?_
        refine sq_n ?_
        replace hST : ST true NoF w _ _ ((b12843, Obj.cells ((encFact x12841).toArray : Array Value) 78 (0, 0)) :: (R12848 ++ L12830)) := hST
        replace hST : ST true NoF w _ _ (R12848 ++ L12830) := hST.sublist (List.Sublist.cons _ (List.Sublist.refl _))
        exact ⟨e12836, v12850, l12845, R12848, _, ⟨rfl, e12835⟩, (hST.sublist (List.Sublist.refl _)), e12832, rfl, hR12849, (by rw [hx7008]; exact hm12831)⟩
      · replace hm12831 := if_f hb12837 hm12831
        refine CW_skip ?_
        refine bq_n ?_
        refine sq_n ?_
        exact ⟨e12836, v9337, l9338, R9340, _, ⟨rfl, e12835⟩, (hST.sublist (List.Sublist.refl _)), e12832, e12833, hs9339, (by rw [hx7008]; exact hm12831)⟩
  · rintro E W ⟨v9337, l9338, R9340, L11674, ⟨eI, eN⟩, hST, e11676, e11677, hs9339, hm11675⟩
    rw [List.drop_length] at hm11675
    rw [m_ref08_Sorted_L1] at hm11675
    refine sq_n ?_
    refine CW_seq ?_
    refine CW_region ?_
    refine LV (R_move (v := v9337) e11677) ?_
    refine LV (R_assign (v := v9337) rfl) ?_
    refine LW_nil ?_
    refine sq_n ?_
    refine CW_ret ?_
    replace hm11675 := Option.some.inj hm11675; subst hm11675
    refine retQ_1 (v := v9337) rfl rfl ?_
    exact ⟨_, R9340, rfl, hST.backRow (fun p hq => by simp [hq]) hs9339.nd, hs9339⟩
theorem w_ref08_Of (v_a0 : Value) (a0 : List Cred) (r : List Fact) (w : World) (h_a0 : Sl (Pl encCred) 9 (hp w) v_a0 a0) (hm : m_ref08_Of a0 = some r) :
    GivesRow true Tryz.prog 32 [v_a0] w 78 encFact 3 r := by
  have hST := ST.start (dd := true) w
  unfold m_ref08_Of at hm
  refine calls_of_CW (n := 53) Tryz.func32 rfl rfl (Nat.le_of_ble_eq_true rfl) ?_
  refine CW_seq ?_
  refine CW_region ?_
  refine LV (R_assign (v := (.slice none 0 0)) rfl) ?_
  refine LW_nil ?_
  refine sq_n ?_
  refine CW_seq ?_
  refine CW_region ?_
  refine LV (R_move (v := v_a0) rfl) ?_
  obtain ⟨r1, hr2, hm⟩ := bind_some hm
  refine LE (E_givesRow (args := [v_a0]) [] _ hST rfl Tryz.call49 (by exact args1 rfl) ((w_ref05_Set v_a0 a0 _ _ (h_a0.mono (Pl.mono _) hST.sub_hp) hr2)) (fun W3 v6 μ4 R7 hST hle5 hR8 => ?_))
  refine LV (R_assign (v := v6) rfl) ?_
  refine LW_nil ?_
  refine sq_n ?_
  refine CW_seq ?_
  refine CW_region ?_
  refine LV (R_move (v := v6) rfl) ?_
  replace hST : ST true NoF w _ _ (R7 ++ []) := hST
  obtain ⟨r9, hr10, hm⟩ := bind_some hm
  refine LE (E_givesRow (args := [v6]) [] _ hST rfl Tryz.call88 (by exact args1 rfl) ((w_ref08_Names v6 r1 _ _ (hR8.sl lenCred (fun b o hq => hST.at_ (List.mem_append_left _ hq))) hr10)) (fun W11 v14 μ12 R15 hST hle13 hR16 => ?_))
  refine LV (R_assign (v := v14) rfl) ?_
  refine LW_nil ?_
  refine sq_n ?_
  refine CW_seq ?_
  refine CW_region ?_
  refine LV (R_assign (v := (.slice none 0 0)) rfl) ?_
  refine LW_nil ?_
  refine sq_n ?_
  refine CW_tail ?_
  replace hST : ST true NoF w _ _ (R15 ++ (R7 ++ [])) := hST
  refine CW_block (CW_loop (fun m E W => ∃ (v8734 : Value) (l8735 : List Fact) (R8737 : List (Nat × Obj)) (L10920 : List (Nat × Obj)), ST true NoF w W μ12 (R8737 ++ (R15 ++ (R7 ++ L10920))) ∧ E 3 = v6 ∧ E 4 = v14 ∧ E 5 = v8734 ∧ Row 78 encFact 3 v8734 l8735 R8737 ∧ m_ref08_Of_L1 r9 r1 m l8735 = some r) FUEL ⟨(.slice none 0 0), ([]), [], _, (hST.sublist (List.Sublist.refl _)), rfl, rfl, rfl, (Row.nil _ _ _), hm⟩ ?_)
  rintro m E W ⟨v8734, l8735, R8737, L10920, hST, e10923, e10924, e10925, hs8736, hm10921⟩
  cases m with
  | zero => rw [m_ref08_Of_L1] at hm10921; cases hm10921
  | succ n10922 =>
    rw [m_ref08_Of_L1] at hm10921
    refine CW_block ?_
    refine CW_seq ?_
    refine CW_region ?_
    refine LV (R_assign (v := (.bool false)) rfl) ?_
    refine LW_nil ?_
    refine sq_n ?_
    refine CW_seq ?_
    refine CW_seq ?_
    refine CW_region ?_
    refine LV (R_move (v := v6) e10923) ?_
    refine LV (R_lenRow Tryz.underlying22 rfl hR8) ?_
    refine LV (R_move (v := (.int .i64 0)) rfl) ?_
    refine LW_nil ?_
    refine sq_n ?_
    obtain ⟨s12022, hm12023, hm12024⟩ := bind_some hm10921
    refine CW_cut (fun E W => ∃ (v12002 : Value) (l12003 : List Fact) (R12005 : List (Nat × Obj)) (x12006 : Bool) (L12007 : List (Nat × Obj)), ST true NoF w W μ12 (R12005 ++ (R15 ++ (R7 ++ L12007))) ∧ E 3 = v6 ∧ E 4 = v14 ∧ E 5 = v12002 ∧ E 6 = (.bool x12006) ∧ Row 78 encFact 3 v12002 l12003 R12005 ∧ (if (!x12006) then (((m_ref08_Sorted l12003)).bind fun r12014 => some r12014) else (m_ref08_Of_L1 r9 r1 n10922 l12003)) = some r) ?_ ?_
    · refine CW_range (fun i E W => ∃ (v12381 : Value) (l12382 : List Fact) (R12384 : List (Nat × Obj)) (x12385 : Bool) (L12745 : List (Nat × Obj)), (E 17 = .int .i64 (i : Nat) ∧ E 16 = .int .i64 (r1.length : Nat)) ∧ ST true NoF w W μ12 (R12384 ++ (R15 ++ (R7 ++ L12745))) ∧ E 3 = v6 ∧ E 4 = v14 ∧ E 5 = v12381 ∧ E 6 = (.bool x12385) ∧ E 15 = v6 ∧ Row 78 encFact 3 v12381 l12382 R12384 ∧ m_ref08_Of_L2 r9 (r1.drop i) l12382 x12385 = some s12022) r1.length hR8.len ⟨v8734, l8735, R8737, false, _, ⟨rfl, rfl⟩, (hST.sublist (List.Sublist.refl _)), e10923, e10924, e10925, rfl, rfl, hs8736, hm12023⟩ (by decide) (by decide) (by decide) (fun _ _ _ h => by obtain ⟨_, _, _, _, _, eIN, _⟩ := h; exact eIN) ?_ ?_
      · rintro i12025 E W hi12031 ⟨v12381, l12382, R12384, x12385, L12745, ⟨eI, eN⟩, hST, e12747, e12748, e12749, e12750, e12751, hs12383, hm12746⟩
        obtain ⟨x12026, xs12027, hx12029, hx12028, hx12030⟩ := drop_cons hi12031
        rw [hx12029] at hm12746
        rw [m_ref08_Of_L2] at hm12746
        refine CW_block ?_
        refine CW_seq ?_
        refine CW_region ?_
        refine LQ (R_indexRow (i := (i12025 : Int)) (x0 := x12026) Tryz.underlying22 Tryz.sizeOf83 e12751 eI hR8 (Int.natCast_nonneg _) hx12028) (fun p12752 hp12753 => ?_)
        refine LV (R_load (v := (.agg (encCred x12026).toArray)) rfl (load_ixA hST.has (fun p hq => by simp [hq]) hR8 lenCred hp12753 hx12028 Tryz.isAgg83 Tryz.sizeOf83)) ?_
        refine LE (E_alloc hST Tryz.zeroValue83 (fun W12756 b12755 hST => ?_))
        refine LW_e0 (.inl rfl) rfl (E_store [] (.agg (encCred x12026).toArray) ((encCred x12026).toArray) hST rfl rfl Tryz.sizeOf83 (oneCred x12026) (Nat.le_of_ble_eq_true rfl) rfl (fun W12757 hST => ?_))
        refine LW_nil ?_
        refine sq_n ?_
        refine CW_seq ?_
        refine CW_region ?_
        refine LV (R_move (v := v14) e12748) ?_
        refine LV (R_lenRow Tryz.underlying27 rfl hR16) ?_
        refine LV (R_move (v := (.int .i64 0)) rfl) ?_
        refine LW_nil ?_
        refine sq_n ?_
        refine CW_tail ?_
        obtain ⟨s12935, hm12936, hm12937⟩ := bind_some hm12746
        refine CW_cut (fun E W => ∃ (v12921 : Value) (l12922 : List Fact) (R12924 : List (Nat × Obj)) (x12925 : Bool) (L12926 : List (Nat × Obj)), ST true NoF w W μ12 (R12924 ++ (R15 ++ (R7 ++ L12926))) ∧ E 3 = v6 ∧ E 4 = v14 ∧ E 5 = v12921 ∧ E 6 = (.bool x12925) ∧ E 15 = v6 ∧ E 16 = (.int .i64 ((r1.length : Int))) ∧ E 17 = (.int .i64 ((i12025 : Int))) ∧ Row 78 encFact 3 v12921 l12922 R12924 ∧ (m_ref08_Of_L2 r9 xs12027 l12922 x12925) = some s12022) ?_ ?_
        · replace hST : ST true NoF w _ _ ((b12755, Obj.cells ((encCred x12026).toArray : Array Value) 83 (0, 0)) :: (R12384 ++ (R15 ++ (R7 ++ L12745)))) := hST
          refine CW_range (fun i E W => ∃ (v12987 : Value) (l12988 : List Fact) (R12990 : List (Nat × Obj)) (x12991 : Bool) (L13048 : List (Nat × Obj)), (E 23 = .int .i64 (i : Nat) ∧ E 22 = .int .i64 (r9.length : Nat)) ∧ ST true NoF w W μ12 ((b12755, Obj.cells ((encCred x12026).toArray : Array Value) 83 (0, 0)) :: (R12990 ++ (R15 ++ (R7 ++ L13048)))) ∧ E 3 = v6 ∧ E 4 = v14 ∧ E 5 = v12987 ∧ E 6 = (.bool x12991) ∧ E 8 = (.pointer (some ⟨b12755, 0, none⟩)) ∧ E 15 = v6 ∧ E 16 = (.int .i64 ((r1.length : Int))) ∧ E 17 = (.int .i64 ((i12025 : Int))) ∧ E 21 = v14 ∧ Row 78 encFact 3 v12987 l12988 R12990 ∧ m_ref08_Of_L3 x12026 r9 (r9.drop i) l12988 x12991 = some s12935) r9.length hR16.len ⟨v12381, l12382, R12384, x12385, _, ⟨rfl, rfl⟩, (hST.sublist (List.Sublist.refl _)), e12747, e12748, e12749, e12750, rfl, e12751, eN, eI, rfl, hs12383, hm12936⟩ (by decide) (by decide) (by decide) (fun _ _ _ h => by obtain ⟨_, _, _, _, _, eIN, _⟩ := h; exact eIN) ?_ ?_
          · rintro i12938 E W hi12944 ⟨v12987, l12988, R12990, x12991, L13048, ⟨eI, eN⟩, hST, e13050, e13051, e13052, e13053, e13054, e13055, e13056, e13057, e13058, hs12989, hm13049⟩
            obtain ⟨x12939, xs12940, hx12942, hx12941, hx12943⟩ := drop_cons hi12944
            rw [hx12942] at hm13049
            rw [m_ref08_Of_L3] at hm13049
            refine CW_block ?_
            refine CW_seq ?_
            refine CW_region ?_
            refine LQ (R_indexRow (i := (i12938 : Int)) (x0 := x12939) Tryz.underlying27 Tryz.sizeOf9 e13058 eI hR16 (Int.natCast_nonneg _) hx12941) (fun p13059 hp13060 => ?_)
            refine LV (R_load (v := (.string x12939)) rfl (load_ix1 hST.has (fun p hq => by simp [hq]) hR16 (fun _ => rfl) hp13060 hx12941 (y := (.string x12939)) rfl Tryz.isAgg9)) ?_
            refine LV (R_assign (v := (.string x12939)) rfl) ?_
            refine LW_nil ?_
            refine sq_n ?_
            refine CW_seq ?_
            refine CW_region ?_
            refine LV (R_move (v := v12987) e13052) ?_
            refine LV (R_field fa83_1 e13054) ?_
            refine LV (R_load (v := (.agg (encRole x12026.Head).toArray)) rfl (load_boxA hST.has (.head _) (encRole x12026.Head) rfl Tryz.isAgg47 Tryz.sizeOf47)) ?_
            refine LV (R_move (v := (.string x12939)) rfl) ?_
            obtain ⟨r13062, hr13063, hm13049⟩ := bind_some hm13049
            refine LE (E_gives (args := [v12987, (.agg (encRole x12026.Head).toArray), (.string x12939)]) hST rfl Tryz.call36 (by exact args3 rfl rfl rfl) ((w_ref08_In v12987 l12988 x12026.Head x12939 _ _ (hs12989.sl lenFact (fun b o hq => hST.at_ (.tail _ (List.mem_append_left _ hq)))) hr13063)) (fun W13064 hST => ?_))
            refine LV (R_not (b := r13062) rfl) ?_
            refine LV (R_move (v := (.bool ((!r13062)))) rfl) ?_
            obtain ⟨s13094, hm13095, hm13096⟩ := bind_some hm13049
            refine LW_join (J := fun E W => ∃ (x13069 : Bool) (L13070 : List (Nat × Obj)), ST true NoF w W μ12 ((b12755, Obj.cells ((encCred x12026).toArray : Array Value) 83 (0, 0)) :: (R12990 ++ (R15 ++ (R7 ++ L13070)))) ∧ E 3 = v6 ∧ E 4 = v14 ∧ E 5 = v12987 ∧ E 6 = (.bool x12991) ∧ E 8 = (.pointer (some ⟨b12755, 0, none⟩)) ∧ E 10 = (.string x12939) ∧ E 15 = v6 ∧ E 16 = (.int .i64 ((r1.length : Int))) ∧ E 17 = (.int .i64 ((i12025 : Int))) ∧ E 21 = v14 ∧ E 22 = (.int .i64 ((r9.length : Int))) ∧ E 23 = (.int .i64 ((i12938 : Int))) ∧ E 39 = (.bool x13069) ∧ (if x13069 then (((appB 48 l12988 ([(⟨x12026.Head, x12939⟩ : Fact)]))).bind fun l13088 => (m_ref08_Of_L3 x12026 r9 xs12940 l13088 true)) else (m_ref08_Of_L3 x12026 r9 xs12940 l12988 x12991)) = some s12935) 6 ?_ (fun key13097 => ?_)
            · rintro E W ⟨x13069, L13070, hST, e13072, e13073, e13074, e13075, e13076, e13077, e13078, e13079, e13080, e13081, e13082, e13083, e13084, hm13071⟩
              refine LW_nil ?_
              refine sq_n ?_
              refine CW_if (b := x13069) e13084 (fun hb13085 => ?_) (fun hb13085 => ?_)
              · replace hm13071 := if_t hb13085 hm13071
                refine CW_seq ?_
                refine CW_region ?_
                refine LV (R_move (v := v12987) e13074) ?_
                refine LV (R_field fa83_1 e13076) ?_
                refine LV (R_load (v := (.agg (encRole x12026.Head).toArray)) rfl (load_boxA hST.has (.head _) (encRole x12026.Head) rfl Tryz.isAgg47 Tryz.sizeOf47)) ?_
                refine LV (R_move (v := (.string x12939)) e13077) ?_
                refine LV (R_build (qs := #[(0, (.agg (encRole x12026.Head).toArray)), (1, (.string x12939))]) (v := (.agg (encFact ((⟨x12026.Head, x12939⟩ : Fact))).toArray)) (parts2 rfl rfl) (run_build Tryz.zeroValue78 Tryz.underlying78 (pl78 _ Tryz.underlying78) (by kernel_rfl))) ?_
                refine LE (E_buildSlice (qs := #[(0, (.agg (encFact ((⟨x12026.Head, x12939⟩ : Fact))).toArray))]) (cs := (encFact ((⟨x12026.Head, x12939⟩ : Fact))).toArray) hST (parts1 rfl) (run_lit [(.agg (encFact ((⟨x12026.Head, x12939⟩ : Fact))).toArray)] Tryz.underlying53 Tryz.sizeOf78 Tryz.zeroValue78 (by decide) rfl (by intro v hv; simp only [List.mem_cons, List.not_mem_nil, or_false] at hv; rcases hv with rfl <;> rfl) rfl rfl) (fun W13087 b13086 hST => ?_))
                obtain ⟨l13088, hb13089, hm13071⟩ := bind_some hm13071
                refine LE (E_append (enc := encFact) (v := v12987) (vs := (.slice (some ⟨b13086, 0, none⟩) 1 1)) (R := R12990) [_, _] hST lenFact (by decide) oneFact Tryz.underlying53 info78.1 info78.2.1 rfl info78.2.2.1 info78.2.2.2 rfl rfl hs12989 (Sl.lit (enc := encFact) (l := [(⟨x12026.Head, x12939⟩ : Fact)]) lenFact rfl (Nat.le_of_ble_eq_true rfl) rfl (hST.at_ (.head _))) hb13089 (fun W13090 v13093 R13091 hST hR13092 => ?_))
                refine LV (R_assign (v := v13093) rfl) ?_
                refine LW_nil ?_
                refine sq_n ?_
                replace hST : ST true NoF w _ _ ((b13086, Obj.cells ((encFact ((⟨x12026.Head, x12939⟩ : Fact))).toArray : Array Value) 78 (0, 0)) :: ((b12755, Obj.cells ((encCred x12026).toArray : Array Value) 83 (0, 0)) :: (R13091 ++ (R15 ++ (R7 ++ L13070))))) := hST
                replace hST : ST true NoF w _ _ ((b12755, Obj.cells ((encCred x12026).toArray : Array Value) 83 (0, 0)) :: (R13091 ++ (R15 ++ (R7 ++ L13070)))) := hST.sublist (List.Sublist.cons _ (List.Sublist.refl _))
                refine CW_region ?_
                refine LV (R_assign (v := (.bool true)) rfl) ?_
                refine LW_nil ?_
                refine bq_n ?_
                refine sq_n ?_
                exact ⟨e13083, v13093, l13088, R13091, true, _, ⟨rfl, e13082⟩, (hST.sublist (List.Sublist.refl _)), e13072, e13073, rfl, rfl, e13076, e13078, e13079, e13080, e13081, hR13092, (by rw [hx12943]; exact hm13071)⟩
              · replace hm13071 := if_f hb13085 hm13071
                refine CW_skip ?_
                refine bq_n ?_
                refine sq_n ?_
                exact ⟨e13083, v12987, l12988, R12990, x12991, _, ⟨rfl, e13082⟩, (hST.sublist (List.Sublist.refl _)), e13072, e13073, e13074, e13075, e13076, e13078, e13079, e13080, e13081, hs12989, (by rw [hx12943]; exact hm13071)⟩
            · rcases bool_cases ((!r13062)) with hb13065 | hb13065
              · replace hm13095 := if_t hb13065 hm13095
                refine LW_v (.inr ⟨6, true, 33, rfl, rfl, by decide, (congrArg Value.bool hb13065)⟩) rfl (by decide) (R_move (v := v12987) e13052) ?_
                refine LW_v (.inr ⟨6, true, 33, rfl, rfl, by decide, (congrArg Value.bool hb13065)⟩) rfl (by decide) (R_load (v := (.agg (encCred x12026).toArray)) e13054 (load_boxA hST.has (.head _) (encCred x12026) rfl Tryz.isAgg83 Tryz.sizeOf83)) ?_
                refine LW_v (.inr ⟨6, true, 33, rfl, rfl, by decide, (congrArg Value.bool hb13065)⟩) rfl (by decide) (R_move (v := v14) e13051) ?_
                refine LW_v (.inr ⟨6, true, 33, rfl, rfl, by decide, (congrArg Value.bool hb13065)⟩) rfl (by decide) (R_move (v := (.string x12939)) rfl) ?_
                obtain ⟨r13098, hr13099, hm13095⟩ := bind_some hm13095
                refine LW_e (.inr ⟨6, true, 33, rfl, rfl, by decide, (congrArg Value.bool hb13065)⟩) rfl (by decide) (E_gives (args := [v12987, (.agg (encCred x12026).toArray), v14, (.string x12939)]) hST rfl Tryz.call89 (by exact args4 rfl rfl rfl rfl) ((w_ref08_Step v12987 l12988 x12026 v14 r9 x12939 _ _ (hs12989.sl lenFact (fun b o hq => hST.at_ (.tail _ (List.mem_append_left _ hq)))) (hR16.sl (fun _ => rfl) (fun b o hq => hST.at_ (.tail _ (List.mem_append_right _ (List.mem_append_left _ hq))))) hr13099)) (fun W13100 hST => ?_))
                refine LV (R_pickT (v := (.bool r13098)) (congrArg Value.bool hb13065) rfl) ?_
                replace hm13095 := Option.some.inj hm13095; subst hm13095
                exact key13097 _ _ ⟨r13098, _, (hST.sublist (List.Sublist.refl _)), e13050, e13051, e13052, e13053, e13054, rfl, e13055, e13056, e13057, e13058, eN, eI, rfl, hm13096⟩
              · replace hm13095 := if_f hb13065 hm13095
                refine LW_no rfl (by decide) rfl rfl (by decide) (congrArg Value.bool hb13065) ?_
                refine LW_no rfl (by decide) rfl rfl (by decide) (congrArg Value.bool hb13065) ?_
                refine LW_no rfl (by decide) rfl rfl (by decide) (congrArg Value.bool hb13065) ?_
                refine LW_no rfl (by decide) rfl rfl (by decide) (congrArg Value.bool hb13065) ?_
                refine LW_no rfl (by decide) rfl rfl (by decide) (congrArg Value.bool hb13065) ?_
                refine LV (R_pickF (v := (.bool false)) (congrArg Value.bool hb13065) rfl) ?_
                replace hm13095 := Option.some.inj hm13095; subst hm13095
                exact key13097 _ _ ⟨false, _, (hST.sublist (List.Sublist.refl _)), e13050, e13051, e13052, e13053, e13054, rfl, e13055, e13056, e13057, e13058, eN, eI, rfl, hm13096⟩
          · rintro E W ⟨v12987, l12988, R12990, x12991, L13048, ⟨eI, eN⟩, hST, e13050, e13051, e13052, e13053, e13054, e13055, e13056, e13057, e13058, hs12989, hm13049⟩
            rw [List.drop_length] at hm13049
            rw [m_ref08_Of_L3] at hm13049
            refine sq_n ?_
            replace hm13049 := Option.some.inj hm13049; subst hm13049
            exact ⟨v12987, l12988, R12990, x12991, _, (hST.sublist (List.Sublist.cons _ (List.Sublist.refl _))), e13050, e13051, e13052, e13053, e13055, e13056, e13057, hs12989, hm12937⟩
        · rintro E W ⟨v12921, l12922, R12924, x12925, L12926, hST, e12928, e12929, e12930, e12931, e12932, e12933, e12934, hs12923, hm12927⟩
          refine bq_n ?_
          refine sq_n ?_
          exact ⟨e12934, v12921, l12922, R12924, x12925, _, ⟨rfl, e12933⟩, (hST.sublist (List.Sublist.refl _)), e12928, e12929, e12930, e12931, e12932, hs12923, (by rw [hx12030]; exact hm12927)⟩
      · rintro E W ⟨v12381, l12382, R12384, x12385, L12745, ⟨eI, eN⟩, hST, e12747, e12748, e12749, e12750, e12751, hs12383, hm12746⟩
        rw [List.drop_length] at hm12746
        rw [m_ref08_Of_L2] at hm12746
        refine sq_n ?_
        replace hm12746 := Option.some.inj hm12746; subst hm12746
        exact ⟨v12381, l12382, R12384, x12385, _, (hST.sublist (List.Sublist.refl _)), e12747, e12748, e12749, e12750, hs12383, hm12024⟩
    · rintro E W ⟨v12002, l12003, R12005, x12006, L12007, hST, e12009, e12010, e12011, e12012, hs12004, hm12008⟩
      refine CW_seq ?_
      refine CW_region ?_
      refine LV (R_move (v := (.bool x12006)) e12012) ?_
      refine LV (R_not (b := x12006) rfl) ?_
      refine LW_nil ?_
      refine sq_n ?_
      refine CW_if (b := (!x12006)) rfl (fun hb12013 => ?_) (fun hb12013 => ?_)
      · replace hm12008 := if_t hb12013 hm12008
        refine CW_seq ?_
        refine CW_region ?_
        refine LV (R_move (v := v12002) e12011) ?_
        obtain ⟨r12014, hr12015, hm12008⟩ := bind_some hm12008
        refine LE (E_givesRow (args := [v12002]) [] _ hST rfl Tryz.call90 (by exact args1 rfl) ((w_ref08_Sorted v12002 l12003 _ _ (hs12004.sl lenFact (fun b o hq => hST.at_ (List.mem_append_left _ hq))) hr12015)) (fun W12016 v12019 μ12017 R12020 hST hle12018 hR12021 => ?_))
        refine LV (R_assign (v := v12019) rfl) ?_
        refine LW_nil ?_
        refine sq_n ?_
        replace hST : ST true NoF w _ _ (R12020 ++ (R12005 ++ (R15 ++ (R7 ++ L12007)))) := hST
        replace hST : ST true NoF w _ _ (R12020 ++ L12007) := hST.sublist (List.Sublist.append (List.Sublist.refl _) ((((List.Sublist.refl _).trans (List.sublist_append_right _ _)).trans (List.sublist_append_right _ _)).trans (List.sublist_append_right _ _)))
        refine CW_ret ?_
        refine bq_r (sq_r (bq_r (sq_r ?_)))
        replace hm12008 := Option.some.inj hm12008; subst hm12008
        refine retQ_1 (v := v12019) rfl rfl ?_
        exact ⟨_, R12020, rfl, hST.backRow (fun p hq => by simp [hq]) hR12021.nd, hR12021⟩
      · replace hm12008 := if_f hb12013 hm12008
        refine CW_skip ?_
        refine bq_n ?_
        refine sq_n ?_
        exact ⟨n10922, Nat.lt_succ_self _, v12002, l12003, R12005, _, (hST.sublist (List.Sublist.refl _)), e12009, e12010, e12011, hs12004, hm12008⟩
theorem w_ref41_Lost (v_a0 : Value) (a0 : List Cred) (v_a1 : Value) (a1 : List Cred) (r : List Fact) (w : World) (h_a0 : Sl (Pl encCred) 9 (hp w) v_a0 a0) (h_a1 : Sl (Pl encCred) 9 (hp w) v_a1 a1) (hm : m_ref41_Lost a0 a1 = some r) :
    GivesRow true Tryz.prog 46 [v_a0, v_a1] w 78 encFact 3 r := by
  have hST := ST.start (dd := true) w
  unfold m_ref41_Lost at hm
  refine calls_of_CW (n := 31) Tryz.func46 rfl rfl (Nat.le_of_ble_eq_true rfl) ?_
  refine CW_seq ?_
  refine CW_region ?_
  refine LV (R_assign (v := (.slice none 0 0)) rfl) ?_
  refine LW_nil ?_
  refine sq_n ?_
  refine CW_seq ?_
  refine CW_region ?_
  refine LV (R_move (v := v_a1) rfl) ?_
  obtain ⟨r1, hr2, hm⟩ := bind_some hm
  refine LE (E_givesRow (args := [v_a1]) [] _ hST rfl Tryz.call32 (by exact args1 rfl) ((w_ref08_Of v_a1 a1 _ _ (h_a1.mono (Pl.mono _) hST.sub_hp) hr2)) (fun W3 v6 μ4 R7 hST hle5 hR8 => ?_))
  refine LV (R_assign (v := v6) rfl) ?_
  refine LW_nil ?_
  refine sq_n ?_
  refine CW_seq ?_
  refine CW_region ?_
  refine LV (R_assign (v := (.slice none 0 0)) rfl) ?_
  refine LW_nil ?_
  refine sq_n ?_
  refine CW_seq ?_
  refine CW_seq ?_
  refine CW_region ?_
  refine LV (R_move (v := v_a0) rfl) ?_
  replace hST : ST true NoF w _ _ (R7 ++ []) := hST
  obtain ⟨r9, hr10, hm⟩ := bind_some hm
  refine LE (E_givesRow (args := [v_a0]) [] _ hST rfl Tryz.call32 (by exact args1 rfl) ((w_ref08_Of v_a0 a0 _ _ (h_a0.mono (Pl.mono _) (hle5.trans hST.sub_hp)) hr10)) (fun W11 v14 μ12 R15 hST hle13 hR16 => ?_))
  refine LV (R_lenRow Tryz.underlying53 rfl hR16) ?_
  refine LV (R_move (v := (.int .i64 0)) rfl) ?_
  refine LW_nil ?_
  refine sq_n ?_
  replace hST : ST true NoF w _ _ (R15 ++ (R7 ++ [])) := hST
  refine CW_range (fun i E W => ∃ (v119 : Value) (l120 : List Fact) (R122 : List (Nat × Obj)) (L148 : List (Nat × Obj)), (E 14 = .int .i64 (i : Nat) ∧ E 13 = .int .i64 (r9.length : Nat)) ∧ ST true NoF w W μ12 (R122 ++ (R15 ++ (R7 ++ L148))) ∧ E 5 = v6 ∧ E 6 = v119 ∧ E 12 = v14 ∧ Row 78 encFact 3 v119 l120 R122 ∧ m_ref41_Lost_L1 r1 (r9.drop i) l120 = some r) r9.length hR16.len ⟨(.slice none 0 0), ([]), [], _, ⟨rfl, rfl⟩, (hST.sublist (List.Sublist.refl _)), rfl, rfl, rfl, (Row.nil _ _ _), hm⟩ (by decide) (by decide) (by decide) (fun _ _ _ h => by obtain ⟨_, _, _, _, eIN, _⟩ := h; exact eIN) ?_ ?_
  · rintro i94 E W hi100 ⟨v119, l120, R122, L148, ⟨eI, eN⟩, hST, e150, e151, e152, hs121, hm149⟩
    obtain ⟨x95, xs96, hx98, hx97, hx99⟩ := drop_cons hi100
    rw [hx98] at hm149
    rw [m_ref41_Lost_L1] at hm149
    refine CW_block ?_
    refine CW_seq ?_
    refine CW_region ?_
    refine LQ (R_indexRow (i := (i94 : Int)) (x0 := x95) Tryz.underlying53 Tryz.sizeOf78 e152 eI hR16 (Int.natCast_nonneg _) hx97) (fun p153 hp154 => ?_)
    refine LV (R_load (v := (.agg (encFact x95).toArray)) rfl (load_ixA hST.has (fun p hq => by simp [hq]) hR16 lenFact hp154 hx97 Tryz.isAgg78 Tryz.sizeOf78)) ?_
    refine LE (E_alloc hST Tryz.zeroValue78 (fun W157 b156 hST => ?_))
    refine LW_e0 (.inl rfl) rfl (E_store [] (.agg (encFact x95).toArray) ((encFact x95).toArray) hST rfl rfl Tryz.sizeOf78 (oneFact x95) (Nat.le_of_ble_eq_true rfl) rfl (fun W158 hST => ?_))
    refine LW_nil ?_
    refine sq_n ?_
    refine CW_seq ?_
    refine CW_region ?_
    refine LV (R_move (v := v6) e150) ?_
    refine LV (R_field fa78_0 rfl) ?_
    refine LV (R_load (v := (.agg (encRole x95.Role).toArray)) rfl (load_boxA hST.has (.head _) (encRole x95.Role) rfl Tryz.isAgg47 Tryz.sizeOf47)) ?_
    refine LV (R_field fa78_1 rfl) ?_
    refine LV (R_load (v := (.string x95.Who)) rfl (load_box1 hST.has (.head _) rfl Tryz.isAgg9)) ?_
    replace hST : ST true NoF w _ _ ((b156, Obj.cells ((encFact x95).toArray : Array Value) 78 (0, 0)) :: (R122 ++ (R15 ++ (R7 ++ L148)))) := hST
    obtain ⟨r159, hr160, hm149⟩ := bind_some hm149
    refine LE (E_gives (args := [v6, (.agg (encRole x95.Role).toArray), (.string x95.Who)]) hST rfl Tryz.call36 (by exact args3 rfl rfl rfl) ((w_ref08_In v6 r1 x95.Role x95.Who _ _ (hR8.sl lenFact (fun b o hq => hST.at_ (.tail _ (List.mem_append_right _ (List.mem_append_right _ (List.mem_append_left _ hq)))))) hr160)) (fun W161 hST => ?_))
    refine LV (R_not (b := r159) rfl) ?_
    refine LW_nil ?_
    refine sq_n ?_
    refine CW_if (b := (!r159)) rfl (fun hb162 => ?_) (fun hb162 => ?_)
    · replace hm149 := if_t hb162 hm149
      refine CW_region ?_
      refine LV (R_move (v := v119) e151) ?_
      refine LV (R_load (v := (.agg (encFact x95).toArray)) rfl (load_boxA hST.has (.head _) (encFact x95) rfl Tryz.isAgg78 Tryz.sizeOf78)) ?_
      refine LE (E_buildSlice (qs := #[(0, (.agg (encFact x95).toArray))]) (cs := (encFact x95).toArray) hST (parts1 rfl) (run_lit [(.agg (encFact x95).toArray)] Tryz.underlying53 Tryz.sizeOf78 Tryz.zeroValue78 (by decide) rfl (by intro v hv; simp only [List.mem_cons, List.not_mem_nil, or_false] at hv; rcases hv with rfl <;> rfl) rfl rfl) (fun W164 b163 hST => ?_))
      obtain ⟨l165, hb166, hm149⟩ := bind_some hm149
      refine LE (E_append (enc := encFact) (v := v119) (vs := (.slice (some ⟨b163, 0, none⟩) 1 1)) (R := R122) [_, _] hST lenFact (by decide) oneFact Tryz.underlying53 info78.1 info78.2.1 rfl info78.2.2.1 info78.2.2.2 rfl rfl hs121 (Sl.lit (enc := encFact) (l := [x95]) lenFact rfl (Nat.le_of_ble_eq_true rfl) rfl (hST.at_ (.head _))) hb166 (fun W167 v170 R168 hST hR169 => ?_))
      refine LV (R_assign (v := v170) rfl) ?_
      refine LW_nil ?_
      refine bq_n ?_
      refine sq_n ?_
      replace hST : ST true NoF w _ _ ((b163, Obj.cells ((encFact x95).toArray : Array Value) 78 (0, 0)) :: ((b156, Obj.cells ((encFact x95).toArray : Array Value) 78 (0, 0)) :: (R168 ++ (R15 ++ (R7 ++ L148))))) := hST
      replace hST : ST true NoF w _ _ (R168 ++ (R15 ++ (R7 ++ L148))) := hST.sublist (List.Sublist.cons _ (List.Sublist.cons _ (List.Sublist.refl _)))
      exact ⟨eI, v170, l165, R168, _, ⟨rfl, eN⟩, (hST.sublist (List.Sublist.refl _)), e150, rfl, e152, hR169, (by rw [hx99]; exact hm149)⟩
    · replace hm149 := if_f hb162 hm149
      refine CW_skip ?_
      refine bq_n ?_
      refine sq_n ?_
      replace hST : ST true NoF w _ _ (R122 ++ (R15 ++ (R7 ++ L148))) := hST.sublist (List.Sublist.cons _ (List.Sublist.refl _))
      exact ⟨eI, v119, l120, R122, _, ⟨rfl, eN⟩, (hST.sublist (List.Sublist.refl _)), e150, e151, e152, hs121, (by rw [hx99]; exact hm149)⟩
  · rintro E W ⟨v119, l120, R122, L148, ⟨eI, eN⟩, hST, e150, e151, e152, hs121, hm149⟩
    rw [List.drop_length] at hm149
    rw [m_ref41_Lost_L1] at hm149
    refine sq_n ?_
    replace hST : ST true NoF w _ _ (R122 ++ L148) := hST.sublist (List.Sublist.append (List.Sublist.refl _) (((List.Sublist.refl _).trans (List.sublist_append_right _ _)).trans (List.sublist_append_right _ _)))
    refine CW_seq ?_
    refine CW_region ?_
    refine LV (R_move (v := v119) e151) ?_
    refine LV (R_assign (v := v119) rfl) ?_
    refine LW_nil ?_
    refine sq_n ?_
    refine CW_ret ?_
    replace hm149 := Option.some.inj hm149; subst hm149
    refine retQ_1 (v := v119) rfl rfl ?_
    exact ⟨_, R122, rfl, hST.backRow (fun p hq => by simp [hq]) hs121.nd, hs121⟩
theorem w_ref08_Same (v_a0 : Value) (a0 : List Fact) (v_a1 : Value) (a1 : List Fact) (r : Bool) (w : World) (h_a0 : Sl (Pl encFact) 3 (hp w) v_a0 a0) (h_a1 : Sl (Pl encFact) 3 (hp w) v_a1 a1) (hm : m_ref08_Same a0 a1 = some r) :
    Gives true Tryz.prog 33 [v_a0, v_a1] w (.bool r) := by
  have hST := ST.start (dd := true) w
  unfold m_ref08_Same at hm
  refine calls_of_CW (n := 26) Tryz.func33 rfl rfl (Nat.le_of_ble_eq_true rfl) ?_
  refine CW_seq ?_
  refine CW_region ?_
  refine LV (R_assign (v := (.bool false)) rfl) ?_
  refine LW_nil ?_
  refine sq_n ?_
  refine CW_seq ?_
  refine CW_seq ?_
  refine CW_region ?_
  refine LV (R_move (v := v_a0) rfl) ?_
  refine LV (R_len Tryz.underlying53 rfl h_a0) ?_
  refine LV (R_move (v := v_a1) rfl) ?_
  refine LV (R_len Tryz.underlying53 rfl h_a1) ?_
  refine LV (R_int (k := .i64) (a := ((a0.length : Int))) (b := ((a1.length : Int))) (v := (.bool ((((a0.length : Int)) != ((a1.length : Int)))))) rfl rfl rfl) ?_
  refine LW_nil ?_
  refine sq_n ?_
  refine CW_if (b := (((a0.length : Int)) != ((a1.length : Int)))) rfl (fun hb1 => ?_) (fun hb1 => ?_)
  · replace hm := if_t hb1 hm
    refine CW_seq ?_
    refine CW_region ?_
    refine LV (R_assign (v := (.bool false)) rfl) ?_
    refine LW_nil ?_
    refine sq_n ?_
    refine CW_ret ?_
    refine sq_r ?_
    replace hm := Option.some.inj hm; subst hm
    refine retQ_1 (v := (.bool false)) rfl rfl ?_
    exact ⟨rfl, hST.ex⟩
  · replace hm := if_f hb1 hm
    refine CW_skip ?_
    refine sq_n ?_
    refine CW_seq ?_
    refine CW_seq ?_
    refine CW_region ?_
    refine LV (R_move (v := v_a0) rfl) ?_
    refine LV (R_len Tryz.underlying53 rfl h_a0) ?_
    refine LV (R_move (v := (.int .i64 0)) rfl) ?_
    refine LW_nil ?_
    refine sq_n ?_
    refine CW_range (fun i E W => ∃  (L149 : List (Nat × Obj)), (E 13 = .int .i64 (i : Nat) ∧ E 12 = .int .i64 (a0.length : Nat)) ∧ ST true NoF w W (hp w) L149 ∧ E 0 = v_a0 ∧ E 1 = v_a1 ∧ m_ref08_Same_L1 a1 (a0.drop i) i = some r) a0.length h_a0.len ⟨_, ⟨rfl, rfl⟩, (hST.sublist (List.Sublist.refl _)), rfl, rfl, hm⟩ (by decide) (by decide) (by decide) (fun _ _ _ h => by obtain ⟨_, eIN, _⟩ := h; exact eIN) ?_ ?_
    · rintro i90 E W hi96 ⟨L149, ⟨eI, eN⟩, hST, e151, e152, hm150⟩
      obtain ⟨x91, xs92, hx94, hx93, hx95⟩ := drop_cons hi96
      rw [hx94] at hm150
      rw [m_ref08_Same_L1] at hm150
      refine CW_block ?_
      refine CW_seq ?_
      refine CW_region ?_
      refine LV (R_move (v := (.int .i64 ((i90 : Int)))) eI) ?_
      refine LV (R_assign (v := (.int .i64 ((i90 : Int)))) rfl) ?_
      refine LW_nil ?_
      refine sq_n ?_
      refine CW_seq ?_
      refine PX_start (fun l W => Has (hp w) [] W) Tryz_mixed ?_
      replace hST := hST.drew
      have hS0 : Has (hp w) [] _ := hST.has.sub (Sub.refl _) (fun p hq => (absurd hq List.not_mem_nil))
      refine PV 0 rfl hS0 (R_move (v := v_a0) e151) ?_
      refine PV 1 rfl hS0 (R_move (v := (.int .i64 ((i90 : Int)))) rfl) ?_
      refine PX_q 2 rfl (by kernel_rfl) (.inl rfl) rfl (by decide) (fun _ _ h => h) hS0 (R_indexP (enc := encFact) (i := (i90 : Int)) (x0 := x91) Tryz.underlying53 Tryz.sizeOf78 rfl rfl h_a0 (Int.natCast_nonneg _) hx93) (fun p169 hp170 => ?_)
      refine PX_v 3 rfl (by kernel_rfl) (.inl rfl) rfl (by decide) (fun _ _ h => h) hS0 (fun l W hpd hs => have hS := hs; R_load rfl (load_atA hS hp170 Tryz.isAgg78 Tryz.sizeOf78)) ?_
      refine PV 4 rfl hS0 (R_move (v := v_a1) e152) ?_
      refine PV 5 rfl hS0 (R_move (v := (.int .i64 ((i90 : Int)))) rfl) ?_
      obtain ⟨x175, hx176, hm150⟩ := bind_some hm150
      refine PX_q 6 rfl (by kernel_rfl) (.inl rfl) rfl (by decide) (fun _ _ h => h) hS0 (R_indexP (enc := encFact) (i := (i90 : Int)) (x0 := x175) Tryz.underlying53 Tryz.sizeOf78 rfl rfl h_a1 (idx_nonneg hx176) (idx_get hx176)) (fun p172 hp173 => ?_)
      refine PX_v 7 rfl (by kernel_rfl) (.inl rfl) rfl (by decide) (fun _ _ h => h) hS0 (fun l W hpd hs => have hS := hs; R_load rfl (load_atA hS hp173 Tryz.isAgg78 Tryz.sizeOf78)) ?_
      refine PV 8 rfl hS0 (R_neq (a := (encFact x91).toArray) (b := (encFact x175).toArray) rfl rfl (guard_agg Tryz.eqGuardType78) (bin_neq (eqInFact _ x91 x175))) ?_
      refine PX_done (by kernel_rfl) ?_
      refine sq_n ?_
      refine CW_if (b := (!(beqFact x91 x175))) rfl (fun hb177 => ?_) (fun hb177 => ?_)
      · replace hm150 := if_t hb177 hm150
        refine CW_seq ?_
        refine CW_region ?_
        refine LV (R_assign (v := (.bool false)) rfl) ?_
        refine LW_nil ?_
        refine sq_n ?_
        refine CW_ret ?_
        refine bq_r (sq_r (bq_r (sq_r ?_)))
        replace hm150 := Option.some.inj hm150; subst hm150
        refine retQ_1 (v := (.bool false)) rfl rfl ?_
        exact ⟨rfl, hST.ex⟩
      · replace hm150 := if_f hb177 hm150
        refine CW_skip ?_
        refine bq_n ?_
        refine sq_n ?_
        exact ⟨eI, _, ⟨rfl, eN⟩, (hST.sublist (List.Sublist.refl _)), e151, e152, (by rw [hx95]; exact hm150)⟩
    · rintro E W ⟨L149, ⟨eI, eN⟩, hST, e151, e152, hm150⟩
      rw [List.drop_length] at hm150
      rw [m_ref08_Same_L1] at hm150
      refine sq_n ?_
      refine CW_seq ?_
      refine CW_region ?_
      refine LV (R_assign (v := (.bool true)) rfl) ?_
      refine LW_nil ?_
      refine sq_n ?_
      refine CW_ret ?_
      replace hm150 := Option.some.inj hm150; subst hm150
      refine retQ_1 (v := (.bool true)) rfl rfl ?_
      exact ⟨rfl, hST.ex⟩
theorem w_law41_MergeThrees (v_a0 : Value) (a0 : List Cred) (v_a1 : Value) (a1 : List Cred) (v_a2 : Value) (a2 : List Cred) (r : Bool) (w : World) (h_a0 : Sl (Pl encCred) 9 (hp w) v_a0 a0) (h_a1 : Sl (Pl encCred) 9 (hp w) v_a1 a1) (h_a2 : Sl (Pl encCred) 9 (hp w) v_a2 a2) (hm : m_law41_MergeThrees a0 a1 a2 = some r) :
    Gives false Tryz.prog 6 [v_a0, v_a1, v_a2] w (.bool r) := by
  have hST := ST.start (dd := false) w
  unfold m_law41_MergeThrees at hm
  refine calls_of_CW (n := 49) Tryz.func6 rfl rfl (Nat.le_of_ble_eq_true rfl) ?_
  refine CW_seq ?_
  refine CW_region ?_
  refine LV (R_assign (v := (.bool false)) rfl) ?_
  refine LW_nil ?_
  refine sq_n ?_
  refine CW_seq ?_
  refine CW_seq ?_
  refine CW_region ?_
  obtain ⟨r1, hr2, hm⟩ := bind_some hm
  refine LE (E_gives (args := []) hST rfl Tryz.call42 (by exact args0 ) ((w_law41_first  _ _  hr2)) (fun W3 hST => ?_))
  refine LV (R_not (b := r1) rfl) ?_
  refine LW_nil ?_
  refine sq_n ?_
  refine CW_if (b := (!r1)) rfl (fun hb4 => ?_) (fun hb4 => ?_)
  · replace hm := if_t hb4 hm
    refine CW_seq ?_
    refine CW_region ?_
    refine LV (R_assign (v := (.bool false)) rfl) ?_
    refine LW_nil ?_
    refine sq_n ?_
    refine CW_ret ?_
    refine sq_r ?_
    replace hm := Option.some.inj hm; subst hm
    refine retQ_1 (v := (.bool false)) rfl rfl ?_
    exact ⟨rfl, hST.ex⟩
  · replace hm := if_f hb4 hm
    refine CW_skip ?_
    refine sq_n ?_
    refine CW_seq ?_
    refine CW_seq ?_
    refine CW_region ?_
    refine LV (R_move (v := v_a1) rfl) ?_
    obtain ⟨r5, hr6, hm⟩ := bind_some hm
    refine LE (E_gives (args := [v_a1]) hST rfl Tryz.call16 (by exact args1 rfl) (Gives.weak (w_law05_Great v_a1 a1 _ _ (h_a1.mono (Pl.mono _) hST.sub_hp) hr6)) (fun W7 hST => ?_))
    refine LV (R_move (v := v_a2) rfl) ?_
    obtain ⟨r8, hr9, hm⟩ := bind_some hm
    refine LE (E_gives (args := [v_a2]) hST rfl Tryz.call16 (by exact args1 rfl) (Gives.weak (w_law05_Great v_a2 a2 _ _ (h_a2.mono (Pl.mono _) hST.sub_hp) hr9)) (fun W10 hST => ?_))
    refine LV (R_int (k := .i64) (a := r5) (b := r8) (v := (.int .i64 ((IntKind.i64.wrap (r5 + r8))))) rfl rfl rfl) ?_
    refine LV (R_move (v := v_a0) rfl) ?_
    obtain ⟨r11, hr12, hm⟩ := bind_some hm
    refine LE (E_gives (args := [v_a0]) hST rfl Tryz.call16 (by exact args1 rfl) (Gives.weak (w_law05_Great v_a0 a0 _ _ (h_a0.mono (Pl.mono _) hST.sub_hp) hr12)) (fun W13 hST => ?_))
    refine LV (R_int (k := .i64) (a := ((IntKind.i64.wrap (r5 + r8)))) (b := r11) (v := (.int .i64 ((IntKind.i64.wrap (((IntKind.i64.wrap (r5 + r8))) + r11))))) rfl rfl rfl) ?_
    refine LV (R_int (k := .i64) (a := ((IntKind.i64.wrap (((IntKind.i64.wrap (r5 + r8))) + r11)))) (b := 1800) (v := (.bool ((decide (((IntKind.i64.wrap (((IntKind.i64.wrap (r5 + r8))) + r11))) > 1800))))) rfl rfl rfl) ?_
    refine LW_nil ?_
    refine sq_n ?_
    refine CW_if (b := (decide (((IntKind.i64.wrap (((IntKind.i64.wrap (r5 + r8))) + r11))) > 1800))) rfl (fun hb14 => ?_) (fun hb14 => ?_)
    · replace hm := if_t hb14 hm
      refine CW_seq ?_
      refine CW_region ?_
      refine LV (R_assign (v := (.bool true)) rfl) ?_
      refine LW_nil ?_
      refine sq_n ?_
      refine CW_ret ?_
      refine sq_r ?_
      replace hm := Option.some.inj hm; subst hm
      refine retQ_1 (v := (.bool true)) rfl rfl ?_
      exact ⟨rfl, hST.ex⟩
    · replace hm := if_f hb14 hm
      refine CW_skip ?_
      refine sq_n ?_
      refine CW_seq ?_
      refine CW_region ?_
      refine LV (R_move (v := v_a1) rfl) ?_
      refine LV (R_move (v := v_a2) rfl) ?_
      obtain ⟨r15, hr16, hm⟩ := bind_some hm
      have hsz := hST.size
      refine LE (E_callM (args := [v_a1, v_a2]) (caps := #[]) [] ([]) hST (List.Perm.refl _) rfl Tryz.call43 (by exact args2 rfl rfl) (fun _ _ _ _ => (w_merge_Facts v_a1 a1 v_a2 a2 _ _ (h_a1.mono (Pl.mono _) hST.sub_hp) (h_a2.mono (Pl.mono _) hST.sub_hp) hr16)) (fun W17 v20 μ18 L22 hST hle19 hlift hK21 => ?_))
      obtain ⟨y23, S24, y26, S27, hv29, rfl, hy25, hy28⟩ := hK21
      replace hv29 := hv29.symm; subst hv29
      simp only [List.append_assoc, List.cons_append, List.nil_append] at hST
      refine LV (R_move (v := (.tuple #[y23, y26])) rfl) ?_
      refine LV (R_extract (v := y23) rfl rfl) ?_
      refine LV (R_extract (v := y26) rfl rfl) ?_
      refine LV (R_assign (v := y23) rfl) ?_
      refine LV (R_assign (v := y26) rfl) ?_
      refine LW_nil ?_
      refine sq_n ?_
      refine CW_seq ?_
      refine CW_region ?_
      refine LV (R_move (v := v_a0) rfl) ?_
      refine LV (R_move (v := v_a1) rfl) ?_
      refine LV (R_move (v := v_a2) rfl) ?_
      replace hST : ST false NoF w _ _ (S24 ++ (S27 ++ [])) := hST
      obtain ⟨r30, hr31, hm⟩ := bind_some hm
      refine LE (E_givesRow (args := [v_a0, v_a1, v_a2]) [] _ hST rfl Tryz.call44 (by exact args3 rfl rfl rfl) (GivesRow.weak (w_merge_Three v_a0 a0 v_a1 a1 v_a2 a2 _ _ (h_a0.mono (Pl.mono _) (hle19.trans hST.sub_hp)) (h_a1.mono (Pl.mono _) (hle19.trans hST.sub_hp)) (h_a2.mono (Pl.mono _) (hle19.trans hST.sub_hp)) hr31)) (fun W32 v35 μ33 R36 hST hle34 hR37 => ?_))
      refine LV (R_move (v := v_a0) rfl) ?_
      refine LV (R_move (v := v_a1) rfl) ?_
      refine LV (R_move (v := v_a2) rfl) ?_
      replace hST : ST false NoF w _ _ (R36 ++ (S24 ++ (S27 ++ []))) := hST
      obtain ⟨r38, hr39, hm⟩ := bind_some hm
      refine LE (E_givesRow (args := [v_a0, v_a1, v_a2]) [] _ hST rfl Tryz.call45 (by exact args3 rfl rfl rfl) (GivesRow.weak (w_ref41_Three v_a0 a0 v_a1 a1 v_a2 a2 _ _ (h_a0.mono (Pl.mono _) ((hle19.trans hle34).trans hST.sub_hp)) (h_a1.mono (Pl.mono _) ((hle19.trans hle34).trans hST.sub_hp)) (h_a2.mono (Pl.mono _) ((hle19.trans hle34).trans hST.sub_hp)) hr39)) (fun W40 v43 μ41 R44 hST hle42 hR45 => ?_))
      replace hST : ST false NoF w _ _ (R44 ++ (R36 ++ (S24 ++ (S27 ++ [])))) := hST
      obtain ⟨r46, hr47, hm⟩ := bind_some hm
      refine LE (E_gives (args := [v35, v43]) hST rfl Tryz.call24 (by exact args2 rfl rfl) (Gives.weak (w_ref05_Same v35 r30 v43 r38 _ _ (hR37.sl lenCred (fun b o hq => hST.at_ (List.mem_append_right _ (List.mem_append_left _ hq)))) (hR45.sl lenCred (fun b o hq => hST.at_ (List.mem_append_left _ hq))) hr47)) (fun W48 hST => ?_))
      refine LV (R_move (v := (.bool r46)) rfl) ?_
      obtain ⟨s105, hm106, hm107⟩ := bind_some hm
      refine LW_join (J := fun E W => ∃ (x62 : Bool) (μ61 : Mem) (L63 : List (Nat × Obj)), Sub μ41 μ61 ∧ ST false NoF w W μ61 (S27 ++ L63) ∧ E 1 = v_a1 ∧ E 2 = v_a2 ∧ E 6 = (.bool false) ∧ E 8 = y26 ∧ E 41 = (.bool x62) ∧ (((if x62 then (((m_ref41_Lost a1 a2)).bind fun r94 => (((m_ref08_Same r15.2 r94)).bind fun r102 => some r102)) else some false) : Option Bool).bind fun x84 => some x84) = some r) 6 ?_ (fun key108 => ?_)
      · rintro E W ⟨x62, μ61, L63, hle65, hST, e66, e67, e68, e69, e70, hm64⟩
        refine LV (R_move (v := (.bool x62)) e70) ?_
        obtain ⟨s90, hm91, hm92⟩ := bind_some hm64
        refine LW_join (J := fun E W => ∃ (x84 : Bool) (μ83 : Mem) (L85 : List (Nat × Obj)), Sub μ61 μ83 ∧ ST false NoF w W μ83 L85 ∧ E 6 = (.bool false) ∧ E 48 = (.bool x84) ∧ some x84 = some r) 6 ?_ (fun key93 => ?_)
        · rintro E W ⟨x84, μ83, L85, hle87, hST, e88, e89, hm86⟩
          refine LV (R_assign (v := (.bool x84)) e89) ?_
          refine LW_nil ?_
          refine sq_n ?_
          refine CW_ret ?_
          replace hm86 := Option.some.inj hm86; subst hm86
          refine retQ_1 (v := (.bool x84)) rfl rfl ?_
          exact ⟨rfl, hST.ex⟩
        · rcases bool_cases x62 with hb71 | hb71
          · replace hm91 := if_t hb71 hm91
            refine LW_v (.inr ⟨16, true, 42, rfl, rfl, by decide, (congrArg Value.bool hb71)⟩) rfl (by decide) (R_move (v := y26) e69) ?_
            refine LW_v (.inr ⟨16, true, 42, rfl, rfl, by decide, (congrArg Value.bool hb71)⟩) rfl (by decide) (R_move (v := v_a1) e66) ?_
            refine LW_v (.inr ⟨16, true, 42, rfl, rfl, by decide, (congrArg Value.bool hb71)⟩) rfl (by decide) (R_move (v := v_a2) e67) ?_
            obtain ⟨r94, hr95, hm91⟩ := bind_some hm91
            refine LW_e (.inr ⟨16, true, 42, rfl, rfl, by decide, (congrArg Value.bool hb71)⟩) rfl (by decide) (E_givesRow (args := [v_a1, v_a2]) [] _ hST rfl Tryz.call46 (by exact args2 rfl rfl) (GivesRow.weak (w_ref41_Lost v_a1 a1 v_a2 a2 _ _ (h_a1.mono (Pl.mono _) ((((hle19.trans hle34).trans hle42).trans hle65).trans hST.sub_hp)) (h_a2.mono (Pl.mono _) ((((hle19.trans hle34).trans hle42).trans hle65).trans hST.sub_hp)) hr95)) (fun W96 v99 μ97 R100 hST hle98 hR101 => ?_))
            replace hST : ST false NoF w _ _ (R100 ++ (S27 ++ L63)) := hST
            obtain ⟨r102, hr103, hm91⟩ := bind_some hm91
            refine LW_e (.inr ⟨16, true, 42, rfl, rfl, by decide, (congrArg Value.bool hb71)⟩) rfl (by decide) (E_gives (args := [y26, v99]) hST rfl Tryz.call33 (by exact args2 rfl rfl) (Gives.weak (w_ref08_Same y26 r15.2 v99 r94 _ _ (hy28.sl lenFact (fun b o hq => hST.at_ (List.mem_append_right _ (List.mem_append_left _ hq)))) (hR101.sl lenFact (fun b o hq => hST.at_ (List.mem_append_left _ hq))) hr103)) (fun W104 hST => ?_))
            refine LV (R_pickT (v := (.bool r102)) (congrArg Value.bool hb71) rfl) ?_
            replace hm91 := Option.some.inj hm91; subst hm91
            exact key93 _ _ ⟨r102, μ97, _, hle98, (hST.sublist (((List.Sublist.refl _).trans (List.sublist_append_right _ _)).trans (List.sublist_append_right _ _))), e68, rfl, hm92⟩
          · replace hm91 := if_f hb71 hm91
            refine LW_no rfl (by decide) rfl rfl (by decide) (congrArg Value.bool hb71) ?_
            refine LW_no rfl (by decide) rfl rfl (by decide) (congrArg Value.bool hb71) ?_
            refine LW_no rfl (by decide) rfl rfl (by decide) (congrArg Value.bool hb71) ?_
            refine LW_no rfl (by decide) rfl rfl (by decide) (congrArg Value.bool hb71) ?_
            refine LW_no rfl (by decide) rfl rfl (by decide) (congrArg Value.bool hb71) ?_
            refine LV (R_pickF (v := (.bool false)) (congrArg Value.bool hb71) rfl) ?_
            replace hm91 := Option.some.inj hm91; subst hm91
            exact key93 _ _ ⟨false, μ61, _, (Sub.refl _), (hST.sublist ((List.Sublist.refl _).trans (List.sublist_append_right _ _))), e68, rfl, hm92⟩
      · rcases bool_cases r46 with hb49 | hb49
        · replace hm106 := if_t hb49 hm106
          refine LW_v (.inr ⟨9, true, 35, rfl, rfl, by decide, (congrArg Value.bool hb49)⟩) rfl (by decide) (R_move (v := y23) rfl) ?_
          refine LW_v (.inr ⟨9, true, 35, rfl, rfl, by decide, (congrArg Value.bool hb49)⟩) rfl (by decide) (R_move (v := v_a2) rfl) ?_
          refine LW_v (.inr ⟨9, true, 35, rfl, rfl, by decide, (congrArg Value.bool hb49)⟩) rfl (by decide) (R_move (v := v_a1) rfl) ?_
          obtain ⟨r109, hr110, hm106⟩ := bind_some hm106
          refine LW_e (.inr ⟨9, true, 35, rfl, rfl, by decide, (congrArg Value.bool hb49)⟩) rfl (by decide) (E_givesRow (args := [v_a2, v_a1]) [] _ hST rfl Tryz.call46 (by exact args2 rfl rfl) (GivesRow.weak (w_ref41_Lost v_a2 a2 v_a1 a1 _ _ (h_a2.mono (Pl.mono _) (((hle19.trans hle34).trans hle42).trans hST.sub_hp)) (h_a1.mono (Pl.mono _) (((hle19.trans hle34).trans hle42).trans hST.sub_hp)) hr110)) (fun W111 v114 μ112 R115 hST hle113 hR116 => ?_))
          replace hST : ST false NoF w _ _ (R115 ++ (R44 ++ (R36 ++ (S24 ++ (S27 ++ []))))) := hST
          obtain ⟨r117, hr118, hm106⟩ := bind_some hm106
          refine LW_e (.inr ⟨9, true, 35, rfl, rfl, by decide, (congrArg Value.bool hb49)⟩) rfl (by decide) (E_gives (args := [y23, v114]) hST rfl Tryz.call33 (by exact args2 rfl rfl) (Gives.weak (w_ref08_Same y23 r15.1 v114 r109 _ _ (hy25.sl lenFact (fun b o hq => hST.at_ (List.mem_append_right _ (List.mem_append_right _ (List.mem_append_right _ (List.mem_append_left _ hq)))))) (hR116.sl lenFact (fun b o hq => hST.at_ (List.mem_append_left _ hq))) hr118)) (fun W119 hST => ?_))
          refine LV (R_pickT (v := (.bool r117)) (congrArg Value.bool hb49) rfl) ?_
          replace hm106 := Option.some.inj hm106; subst hm106
          exact key108 _ _ ⟨r117, μ112, _, hle113, (hST.sublist (((((List.Sublist.refl _).trans (List.sublist_append_right _ _)).trans (List.sublist_append_right _ _)).trans (List.sublist_append_right _ _)).trans (List.sublist_append_right _ _))), rfl, rfl, rfl, rfl, rfl, hm107⟩
        · replace hm106 := if_f hb49 hm106
          refine LW_no rfl (by decide) rfl rfl (by decide) (congrArg Value.bool hb49) ?_
          refine LW_no rfl (by decide) rfl rfl (by decide) (congrArg Value.bool hb49) ?_
          refine LW_no rfl (by decide) rfl rfl (by decide) (congrArg Value.bool hb49) ?_
          refine LW_no rfl (by decide) rfl rfl (by decide) (congrArg Value.bool hb49) ?_
          refine LW_no rfl (by decide) rfl rfl (by decide) (congrArg Value.bool hb49) ?_
          refine LV (R_pickF (v := (.bool false)) (congrArg Value.bool hb49) rfl) ?_
          replace hm106 := Option.some.inj hm106; subst hm106
          exact key108 _ _ ⟨false, μ41, _, (Sub.refl _), (hST.sublist ((((List.Sublist.refl _).trans (List.sublist_append_right _ _)).trans (List.sublist_append_right _ _)).trans (List.sublist_append_right _ _))), rfl, rfl, rfl, rfl, rfl, hm107⟩
end Go.Proofs.YtfjdjbdnnoijgaaGreat
