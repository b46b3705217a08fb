/- a part of a proof of ModelLeast -/
import Derived.Test.YtfjdjbdnnoijgaaGC4W2x2
set_option linter.all false
namespace Go.Proofs.Ytfjdjbdnnoijgaa
open Go.RowKit
set_option maxRecDepth 10000
theorem w_ref03_Right (a0 : ByteArray) (r : Bool) (w : World)  (hm : m_ref03_Right a0 = some r) :
    Gives true Try.prog 50 [(.string a0)] w (.bool r) := by
  have hST := ST.start (dd := true) w
  unfold m_ref03_Right at hm
  refine calls_of_CW (n := 49) Try.func50 rfl rfl (Nat.le_of_ble_eq_true rfl) ?_
  refine CW_seq ?_
  refine CW_region ?_
  refine LV (R_assign (v := (.bool false)) rfl) ?_
  refine LW_nil ?_
  refine sq_n ?_
  refine CW_seq ?_
  refine CW_seq ?_
  refine CW_region ?_
  refine LV (R_move (v := (.string a0)) rfl) ?_
  refine LV (R_str (a := a0) (b := zS) (v := (.bool ((beqS a0 zS)))) rfl rfl rfl) ?_
  refine LV (R_move (v := (.bool ((beqS a0 zS)))) rfl) ?_
  obtain ⟨s444, hm445, hm446⟩ := bind_some hm
  refine LW_join (J := fun E W => ∃ (x2 : Bool) (L3 : List (Nat × Obj)), ST true NoF w W (hp w) L3 ∧ E 0 = (.string a0) ∧ E 11 = (.bool x2) ∧ (((if x2 then some true else (((idxS a0 0)).bind fun c442 => some ((decide (((c442.toNat : Int)) < 97))))) : Option Bool).bind fun x10 => (((if x10 then some true else (((idxS a0 0)).bind fun c436 => some ((decide (((c436.toNat : Int)) > 122))))) : Option Bool).bind fun x18 => (if x18 then some false else m_ref03_Right_L1 a0 FUEL 0))) = some r) 4 ?_ (fun key447 => ?_)
  · rintro E W ⟨x2, L3, hST, e5, e6, hm4⟩
    refine LV (R_move (v := (.bool x2)) e6) ?_
    obtain ⟨s438, hm439, hm440⟩ := bind_some hm4
    refine LW_join (J := fun E W => ∃ (x10 : Bool) (L11 : List (Nat × Obj)), ST true NoF w W (hp w) L11 ∧ E 0 = (.string a0) ∧ E 16 = (.bool x10) ∧ (((if x10 then some true else (((idxS a0 0)).bind fun c436 => some ((decide (((c436.toNat : Int)) > 122))))) : Option Bool).bind fun x18 => (if x18 then some false else m_ref03_Right_L1 a0 FUEL 0)) = some r) 4 ?_ (fun key441 => ?_)
    · rintro E W ⟨x10, L11, hST, e13, e14, hm12⟩
      refine LV (R_move (v := (.bool x10)) e14) ?_
      obtain ⟨s432, hm433, hm434⟩ := bind_some hm12
      refine LW_join (J := fun E W => ∃ (x18 : Bool) (L19 : List (Nat × Obj)), ST true NoF w W (hp w) L19 ∧ E 0 = (.string a0) ∧ E 21 = (.bool x18) ∧ (if x18 then some false else m_ref03_Right_L1 a0 FUEL 0) = some r) 4 ?_ (fun key435 => ?_)
      · rintro E W ⟨x18, L19, hST, e21, e22, hm20⟩
        refine LW_nil ?_
        refine sq_n ?_
        refine CW_if (b := x18) e22 (fun hb23 => ?_) (fun hb23 => ?_)
        · replace hm20 := if_t hb23 hm20
          refine CW_seq ?_
          refine CW_region ?_
          refine LV (R_assign (v := (.bool false)) rfl) ?_
          refine LW_nil ?_
          refine sq_n ?_
          refine CW_ret ?_
          refine sq_r ?_
          replace hm20 := Option.some.inj hm20; subst hm20
          refine retQ_1 (v := (.bool false)) rfl rfl ?_
          exact ⟨rfl, hST.ex⟩
        · replace hm20 := if_f hb23 hm20
          refine CW_skip ?_
          refine sq_n ?_
          refine CW_seq ?_
          refine CW_seq ?_
          refine CW_region ?_
          refine LV (R_assign (v := (.int .i64 0)) rfl) ?_
          refine LW_nil ?_
          refine sq_n ?_
          refine CW_block (CW_loop (fun m E W => ∃ (x293 : Int) (L362 : List (Nat × Obj)), ST true NoF w W (hp w) L362 ∧ E 0 = (.string a0) ∧ E 3 = (.int .i64 x293) ∧ m_ref03_Right_L1 a0 m x293 = some r) FUEL ⟨0, _, (hST.sublist (List.Sublist.refl _)), e21, rfl, hm20⟩ ?_)
          rintro m E W ⟨x293, L362, hST, e365, e366, hm363⟩
          cases m with
          | zero => rw [m_ref03_Right_L1] at hm363; cases hm363
          | succ n364 =>
            rw [m_ref03_Right_L1] at hm363
            refine CW_seq ?_
            refine CW_seq ?_
            refine CW_region ?_
            refine LV (R_move (v := (.int .i64 x293)) e366) ?_
            refine LV (R_move (v := (.string a0)) e365) ?_
            refine LV (R_lenStr (s := a0) Try.underlying9 rfl) ?_
            refine LV (R_int (k := .i64) (a := x293) (b := ((a0.size : Int))) (v := (.bool ((decide (x293 < ((a0.size : Int))))))) rfl rfl rfl) ?_
            refine LW_nil ?_
            refine sq_n ?_
            refine CW_if (b := (decide (x293 < ((a0.size : Int))))) rfl (fun hb367 => ?_) (fun hb367 => ?_)
            · replace hm363 := if_t hb367 hm363
              refine CW_skip ?_
              refine sq_n ?_
              refine CW_seq ?_
              refine CW_block ?_
              refine CW_seq ?_
              refine CW_region ?_
              refine LV (R_move (v := (.string a0)) e365) ?_
              refine LV (R_move (v := (.int .i64 x293)) e366) ?_
              obtain ⟨c368, hx369, hm363⟩ := bind_some hm363
              refine LV (R_indexStr (i := x293) Try.underlying9 rfl rfl (idxS_nonneg hx369) (idxS_get hx369)) ?_
              refine LV (R_assign (v := (.int .u8 ((c368.toNat : Int)))) rfl) ?_
              refine LW_nil ?_
              refine sq_n ?_
              refine CW_seq ?_
              refine CW_region ?_
              refine LV (R_move (v := (.int .u8 ((c368.toNat : Int)))) rfl) ?_
              refine LV (R_int (k := .u8) (a := ((c368.toNat : Int))) (b := 97) (v := (.bool ((decide (((c368.toNat : Int)) < 97))))) rfl rfl rfl) ?_
              refine LV (R_move (v := (.bool ((decide (((c368.toNat : Int)) < 97))))) rfl) ?_
              obtain ⟨s428, hm429, hm430⟩ := bind_some hm363
              refine LW_join (J := fun E W => ∃ (x371 : Bool) (L372 : List (Nat × Obj)), ST true NoF w W (hp w) L372 ∧ E 0 = (.string a0) ∧ E 3 = (.int .i64 x293) ∧ E 4 = (.int .u8 ((c368.toNat : Int))) ∧ E 36 = (.bool x371) ∧ (((if x371 then (((if (decide (((c368.toNat : Int)) < 48)) then some true else some ((decide (((c368.toNat : Int)) > 57)))) : Option Bool).bind fun x416 => some x416) else some false) : Option Bool).bind fun x392 => (((if x392 then some ((((c368.toNat : Int)) != 45)) else some false) : Option Bool).bind fun x400 => (if x400 then some false else (m_ref03_Right_L1 a0 n364 ((IntKind.i64.wrap (x293 + 1))))))) = some r) 3 ?_ (fun key431 => ?_)
              · rintro E W ⟨x371, L372, hST, e374, e375, e376, e377, hm373⟩
                refine LV (R_move (v := (.bool x371)) e377) ?_
                obtain ⟨s411, hm412, hm413⟩ := bind_some hm373
                refine LW_join (J := fun E W => ∃ (x392 : Bool) (L393 : List (Nat × Obj)), ST true NoF w W (hp w) L393 ∧ E 0 = (.string a0) ∧ E 3 = (.int .i64 x293) ∧ E 4 = (.int .u8 ((c368.toNat : Int))) ∧ E 44 = (.bool x392) ∧ (((if x392 then some ((((c368.toNat : Int)) != 45)) else some false) : Option Bool).bind fun x400 => (if x400 then some false else (m_ref03_Right_L1 a0 n364 ((IntKind.i64.wrap (x293 + 1)))))) = some r) 7 ?_ (fun key414 => ?_)
                · rintro E W ⟨x392, L393, hST, e395, e396, e397, e398, hm394⟩
                  refine LV (R_move (v := (.bool x392)) e398) ?_
                  obtain ⟨s407, hm408, hm409⟩ := bind_some hm394
                  refine LW_join (J := fun E W => ∃ (x400 : Bool) (L401 : List (Nat × Obj)), ST true NoF w W (hp w) L401 ∧ E 0 = (.string a0) ∧ E 3 = (.int .i64 x293) ∧ E 48 = (.bool x400) ∧ (if x400 then some false else (m_ref03_Right_L1 a0 n364 ((IntKind.i64.wrap (x293 + 1))))) = some r) 3 ?_ (fun key410 => ?_)
                  · rintro E W ⟨x400, L401, hST, e403, e404, e405, hm402⟩
                    refine LW_nil ?_
                    refine sq_n ?_
                    refine CW_if (b := x400) e405 (fun hb406 => ?_) (fun hb406 => ?_)
                    · replace hm402 := if_t hb406 hm402
                      refine CW_seq ?_
                      refine CW_region ?_
                      refine LV (R_assign (v := (.bool false)) rfl) ?_
                      refine LW_nil ?_
                      refine sq_n ?_
                      refine CW_ret ?_
                      refine bq_r (sq_r (sq_r (bq_r (sq_r ?_))))
                      replace hm402 := Option.some.inj hm402; subst hm402
                      refine retQ_1 (v := (.bool false)) rfl rfl ?_
                      exact ⟨rfl, hST.ex⟩
                    · replace hm402 := if_f hb406 hm402
                      refine CW_skip ?_
                      refine bq_n ?_
                      refine sq_n ?_
                      refine CW_region ?_
                      refine LV (R_move (v := (.int .i64 x293)) e404) ?_
                      refine LV (R_int (k := .i64) (a := x293) (b := 1) (v := (.int .i64 ((IntKind.i64.wrap (x293 + 1))))) rfl rfl rfl) ?_
                      refine LV (R_assign (v := (.int .i64 ((IntKind.i64.wrap (x293 + 1))))) rfl) ?_
                      refine LW_nil ?_
                      refine sq_n ?_
                      exact ⟨n364, Nat.lt_succ_self _, ((IntKind.i64.wrap (x293 + 1))), _, (hST.sublist (List.Sublist.refl _)), e403, rfl, hm402⟩
                  · rcases bool_cases x392 with hb399 | hb399
                    · replace hm408 := if_t hb399 hm408
                      refine LW_v (.inr ⟨14, true, 45, rfl, rfl, by decide, (congrArg Value.bool hb399)⟩) rfl (by decide) (R_move (v := (.int .u8 ((c368.toNat : Int)))) e397) ?_
                      refine LW_v (.inr ⟨14, true, 45, rfl, rfl, by decide, (congrArg Value.bool hb399)⟩) rfl (by decide) (R_int (k := .u8) (a := ((c368.toNat : Int))) (b := 45) (v := (.bool ((((c368.toNat : Int)) != 45)))) rfl rfl rfl) ?_
                      refine LV (R_pickT (v := (.bool ((((c368.toNat : Int)) != 45)))) (congrArg Value.bool hb399) rfl) ?_
                      replace hm408 := Option.some.inj hm408; subst hm408
                      exact key410 _ _ ⟨((((c368.toNat : Int)) != 45)), _, (hST.sublist (List.Sublist.refl _)), e395, e396, rfl, hm409⟩
                    · replace hm408 := if_f hb399 hm408
                      refine LW_no rfl (by decide) rfl rfl (by decide) (congrArg Value.bool hb399) ?_
                      refine LW_no rfl (by decide) rfl rfl (by decide) (congrArg Value.bool hb399) ?_
                      refine LV (R_pickF (v := (.bool false)) (congrArg Value.bool hb399) rfl) ?_
                      replace hm408 := Option.some.inj hm408; subst hm408
                      exact key410 _ _ ⟨false, _, (hST.sublist (List.Sublist.refl _)), e395, e396, rfl, hm409⟩
                · rcases bool_cases x371 with hb378 | hb378
                  · replace hm412 := if_t hb378 hm412
                    refine LW_v (.inr ⟨6, true, 37, rfl, rfl, by decide, (congrArg Value.bool hb378)⟩) rfl (by decide) (R_move (v := (.int .u8 ((c368.toNat : Int)))) e376) ?_
                    refine LW_v (.inr ⟨6, true, 37, rfl, rfl, by decide, (congrArg Value.bool hb378)⟩) rfl (by decide) (R_int (k := .u8) (a := ((c368.toNat : Int))) (b := 48) (v := (.bool ((decide (((c368.toNat : Int)) < 48))))) rfl rfl rfl) ?_
                    refine LW_v (.inr ⟨6, true, 37, rfl, rfl, by decide, (congrArg Value.bool hb378)⟩) rfl (by decide) (R_move (v := (.bool ((decide (((c368.toNat : Int)) < 48))))) rfl) ?_
                    obtain ⟨s424, hm425, hm426⟩ := bind_some hm412
                    refine LW_join (J := fun E W => ∃ (x416 : Bool) (L417 : List (Nat × Obj)), ST true NoF w W (hp w) L417 ∧ E 0 = (.string a0) ∧ E 3 = (.int .i64 x293) ∧ E 4 = (.int .u8 ((c368.toNat : Int))) ∧ E 37 = (.bool x371) ∧ E 43 = (.bool x416) ∧ some x416 = some s411) 3 ?_ (fun key427 => ?_)
                    · rintro E W ⟨x416, L417, hST, e419, e420, e421, e422, e423, hm418⟩
                      refine LV (R_pickT (v := (.bool x416)) (e422.trans (congrArg Value.bool hb378)) e423) ?_
                      replace hm418 := Option.some.inj hm418; subst hm418
                      exact key414 _ _ ⟨x416, _, (hST.sublist (List.Sublist.refl _)), e419, e420, e421, rfl, hm413⟩
                    · rcases bool_cases ((decide (((c368.toNat : Int)) < 48))) with hb415 | hb415
                      · replace hm425 := if_t hb415 hm425
                        refine LW_no rfl (by decide) rfl rfl (by decide) (congrArg Value.bool hb415) ?_
                        refine LW_no rfl (by decide) rfl rfl (by decide) (congrArg Value.bool hb415) ?_
                        refine LW_v (.inr ⟨6, true, 37, rfl, rfl, by decide, (congrArg Value.bool hb378)⟩) rfl (by decide) (R_pickT (v := (.bool true)) (congrArg Value.bool hb415) rfl) ?_
                        replace hm425 := Option.some.inj hm425; subst hm425
                        exact key427 _ _ ⟨true, _, (hST.sublist (List.Sublist.refl _)), e374, e375, e376, rfl, rfl, hm426⟩
                      · replace hm425 := if_f hb415 hm425
                        refine LW_v (.inr ⟨9, false, 40, rfl, rfl, by decide, (congrArg Value.bool hb415)⟩) rfl (by decide) (R_move (v := (.int .u8 ((c368.toNat : Int)))) e376) ?_
                        refine LW_v (.inr ⟨9, false, 40, rfl, rfl, by decide, (congrArg Value.bool hb415)⟩) rfl (by decide) (R_int (k := .u8) (a := ((c368.toNat : Int))) (b := 57) (v := (.bool ((decide (((c368.toNat : Int)) > 57))))) rfl rfl rfl) ?_
                        refine LW_v (.inr ⟨6, true, 37, rfl, rfl, by decide, (congrArg Value.bool hb378)⟩) rfl (by decide) (R_pickF (v := (.bool ((decide (((c368.toNat : Int)) > 57))))) (congrArg Value.bool hb415) rfl) ?_
                        replace hm425 := Option.some.inj hm425; subst hm425
                        exact key427 _ _ ⟨((decide (((c368.toNat : Int)) > 57))), _, (hST.sublist (List.Sublist.refl _)), e374, e375, e376, rfl, rfl, hm426⟩
                  · replace hm412 := if_f hb378 hm412
                    refine LW_no rfl (by decide) rfl rfl (by decide) (congrArg Value.bool hb378) ?_
                    refine LW_no rfl (by decide) rfl rfl (by decide) (congrArg Value.bool hb378) ?_
                    refine LW_no rfl (by decide) rfl rfl (by decide) (congrArg Value.bool hb378) ?_
                    refine LW_nou rfl (by decide) rfl rfl (by decide) rfl ?_
                    refine LW_nou rfl (by decide) rfl rfl (by decide) rfl ?_
                    refine LW_no rfl (by decide) rfl rfl (by decide) (congrArg Value.bool hb378) ?_
                    refine LV (R_pickF (v := (.bool false)) (congrArg Value.bool hb378) rfl) ?_
                    replace hm412 := Option.some.inj hm412; subst hm412
                    exact key414 _ _ ⟨false, _, (hST.sublist (List.Sublist.refl _)), e374, e375, e376, rfl, hm413⟩
              · rcases bool_cases ((decide (((c368.toNat : Int)) < 97))) with hb370 | hb370
                · replace hm429 := if_t hb370 hm429
                  refine LW_no rfl (by decide) rfl rfl (by decide) (congrArg Value.bool hb370) ?_
                  refine LW_no rfl (by decide) rfl rfl (by decide) (congrArg Value.bool hb370) ?_
                  refine LV (R_pickT (v := (.bool true)) (congrArg Value.bool hb370) rfl) ?_
                  replace hm429 := Option.some.inj hm429; subst hm429
                  exact key431 _ _ ⟨true, _, (hST.sublist (List.Sublist.refl _)), e365, e366, rfl, rfl, hm430⟩
                · replace hm429 := if_f hb370 hm429
                  refine LW_v (.inr ⟨2, false, 33, rfl, rfl, by decide, (congrArg Value.bool hb370)⟩) rfl (by decide) (R_move (v := (.int .u8 ((c368.toNat : Int)))) rfl) ?_
                  refine LW_v (.inr ⟨2, false, 33, rfl, rfl, by decide, (congrArg Value.bool hb370)⟩) rfl (by decide) (R_int (k := .u8) (a := ((c368.toNat : Int))) (b := 122) (v := (.bool ((decide (((c368.toNat : Int)) > 122))))) rfl rfl rfl) ?_
                  refine LV (R_pickF (v := (.bool ((decide (((c368.toNat : Int)) > 122))))) (congrArg Value.bool hb370) rfl) ?_
                  replace hm429 := Option.some.inj hm429; subst hm429
                  exact key431 _ _ ⟨((decide (((c368.toNat : Int)) > 122))), _, (hST.sublist (List.Sublist.refl _)), e365, e366, rfl, rfl, hm430⟩
            · replace hm363 := if_f hb367 hm363
              refine CW_exit ?_
              refine sq_e (sq_e (bq_e ?_))
              refine sq_n ?_
              refine CW_seq ?_
              refine CW_region ?_
              refine LV (R_assign (v := (.bool true)) rfl) ?_
              refine LW_nil ?_
              refine sq_n ?_
              refine CW_ret ?_
              replace hm363 := Option.some.inj hm363; subst hm363
              refine retQ_1 (v := (.bool true)) rfl rfl ?_
              exact ⟨rfl, hST.ex⟩
      · rcases bool_cases x10 with hb15 | hb15
        · replace hm433 := if_t hb15 hm433
          refine LW_no rfl (by decide) rfl rfl (by decide) (congrArg Value.bool hb15) ?_
          refine LW_no rfl (by decide) rfl rfl (by decide) (congrArg Value.bool hb15) ?_
          refine LW_no rfl (by decide) rfl rfl (by decide) (congrArg Value.bool hb15) ?_
          refine LV (R_pickT (v := (.bool true)) (congrArg Value.bool hb15) rfl) ?_
          replace hm433 := Option.some.inj hm433; subst hm433
          exact key435 _ _ ⟨true, _, (hST.sublist (List.Sublist.refl _)), e13, rfl, hm434⟩
        · replace hm433 := if_f hb15 hm433
          refine LW_v (.inr ⟨12, false, 17, rfl, rfl, by decide, (congrArg Value.bool hb15)⟩) rfl (by decide) (R_move (v := (.string a0)) e13) ?_
          obtain ⟨c436, hx437, hm433⟩ := bind_some hm433
          refine LW_v (.inr ⟨12, false, 17, rfl, rfl, by decide, (congrArg Value.bool hb15)⟩) rfl (by decide) (R_indexStr (i := 0) Try.underlying9 rfl rfl (idxS_nonneg hx437) (idxS_get hx437)) ?_
          refine LW_v (.inr ⟨12, false, 17, rfl, rfl, by decide, (congrArg Value.bool hb15)⟩) rfl (by decide) (R_int (k := .u8) (a := ((c436.toNat : Int))) (b := 122) (v := (.bool ((decide (((c436.toNat : Int)) > 122))))) rfl rfl rfl) ?_
          refine LV (R_pickF (v := (.bool ((decide (((c436.toNat : Int)) > 122))))) (congrArg Value.bool hb15) rfl) ?_
          replace hm433 := Option.some.inj hm433; subst hm433
          exact key435 _ _ ⟨((decide (((c436.toNat : Int)) > 122))), _, (hST.sublist (List.Sublist.refl _)), e13, rfl, hm434⟩
    · rcases bool_cases x2 with hb7 | hb7
      · replace hm439 := if_t hb7 hm439
        refine LW_no rfl (by decide) rfl rfl (by decide) (congrArg Value.bool hb7) ?_
        refine LW_no rfl (by decide) rfl rfl (by decide) (congrArg Value.bool hb7) ?_
        refine LW_no rfl (by decide) rfl rfl (by decide) (congrArg Value.bool hb7) ?_
        refine LV (R_pickT (v := (.bool true)) (congrArg Value.bool hb7) rfl) ?_
        replace hm439 := Option.some.inj hm439; subst hm439
        exact key441 _ _ ⟨true, _, (hST.sublist (List.Sublist.refl _)), e5, rfl, hm440⟩
      · replace hm439 := if_f hb7 hm439
        refine LW_v (.inr ⟨7, false, 12, rfl, rfl, by decide, (congrArg Value.bool hb7)⟩) rfl (by decide) (R_move (v := (.string a0)) e5) ?_
        obtain ⟨c442, hx443, hm439⟩ := bind_some hm439
        refine LW_v (.inr ⟨7, false, 12, rfl, rfl, by decide, (congrArg Value.bool hb7)⟩) rfl (by decide) (R_indexStr (i := 0) Try.underlying9 rfl rfl (idxS_nonneg hx443) (idxS_get hx443)) ?_
        refine LW_v (.inr ⟨7, false, 12, rfl, rfl, by decide, (congrArg Value.bool hb7)⟩) rfl (by decide) (R_int (k := .u8) (a := ((c442.toNat : Int))) (b := 97) (v := (.bool ((decide (((c442.toNat : Int)) < 97))))) rfl rfl rfl) ?_
        refine LV (R_pickF (v := (.bool ((decide (((c442.toNat : Int)) < 97))))) (congrArg Value.bool hb7) rfl) ?_
        replace hm439 := Option.some.inj hm439; subst hm439
        exact key441 _ _ ⟨((decide (((c442.toNat : Int)) < 97))), _, (hST.sublist (List.Sublist.refl _)), e5, rfl, hm440⟩
  · rcases bool_cases ((beqS a0 zS)) with hb1 | hb1
    · replace hm445 := if_t hb1 hm445
      refine LW_no rfl (by decide) rfl rfl (by decide) (congrArg Value.bool hb1) ?_
      refine LW_no rfl (by decide) rfl rfl (by decide) (congrArg Value.bool hb1) ?_
      refine LW_no rfl (by decide) rfl rfl (by decide) (congrArg Value.bool hb1) ?_
      refine LV (R_pickT (v := (.bool true)) (congrArg Value.bool hb1) rfl) ?_
      replace hm445 := Option.some.inj hm445; subst hm445
      exact key447 _ _ ⟨true, _, (hST.sublist (List.Sublist.refl _)), rfl, rfl, hm446⟩
    · replace hm445 := if_f hb1 hm445
      refine LW_v (.inr ⟨2, false, 7, rfl, rfl, by decide, (congrArg Value.bool hb1)⟩) rfl (by decide) (R_move (v := (.string a0)) rfl) ?_
      refine LW_v (.inr ⟨2, false, 7, rfl, rfl, by decide, (congrArg Value.bool hb1)⟩) rfl (by decide) (R_lenStr (s := a0) Try.underlying9 rfl) ?_
      refine LW_v (.inr ⟨2, false, 7, rfl, rfl, by decide, (congrArg Value.bool hb1)⟩) rfl (by decide) (R_int (k := .i64) (a := ((a0.size : Int))) (b := 16) (v := (.bool ((decide (((a0.size : Int)) > 16))))) rfl rfl rfl) ?_
      refine LV (R_pickF (v := (.bool ((decide (((a0.size : Int)) > 16))))) (congrArg Value.bool hb1) rfl) ?_
      replace hm445 := Option.some.inj hm445; subst hm445
      exact key447 _ _ ⟨((decide (((a0.size : Int)) > 16))), _, (hST.sublist (List.Sublist.refl _)), rfl, rfl, hm446⟩
theorem w_ref04_Right (a0 : Role) (r : Bool) (w : World)  (hm : m_ref04_Right a0 = some r) :
    Gives true Try.prog 51 [(.agg (encRole a0).toArray)] w (.bool r) := by
  have hST := ST.start (dd := true) w
  unfold m_ref04_Right at hm
  refine calls_of_CW (n := 11) Try.func51 rfl rfl (Nat.le_of_ble_eq_true rfl) ?_
  refine CW_seq ?_
  refine CW_region ?_
  refine LE (E_box (v := (.agg (encRole a0).toArray)) hST rfl (fun W2 b1 hST => ?_))
  refine LV (R_assign (v := (.bool false)) rfl) ?_
  refine LW_nil ?_
  refine sq_n ?_
  refine CW_seq ?_
  refine CW_region ?_
  refine LV (R_field fa34_0 rfl) ?_
  refine LV (R_load (v := (.string a0.Owner)) rfl (load_box1 hST.has (.head _) rfl Try.isAgg9)) ?_
  obtain ⟨r3, hr4, hm⟩ := bind_some hm
  refine LE (E_gives (args := [(.string a0.Owner)]) hST rfl Try.call50 (by exact args1 rfl) ((w_ref03_Right a0.Owner _ _  hr4)) (fun W5 hST => ?_))
  refine LV (R_move (v := (.bool r3)) rfl) ?_
  obtain ⟨s15, hm16, hm17⟩ := bind_some hm
  refine LW_join (J := fun E W => ∃ (x10 : Bool) (L11 : List (Nat × Obj)), ST true NoF w W (hp w) L11 ∧ E 2 = (.bool false) ∧ E 10 = (.bool x10) ∧ some x10 = some r) 4 ?_ (fun key18 => ?_)
  · rintro E W ⟨x10, L11, hST, e13, e14, hm12⟩
    refine LV (R_assign (v := (.bool x10)) e14) ?_
    refine LW_nil ?_
    refine sq_n ?_
    refine CW_ret ?_
    replace hm12 := Option.some.inj hm12; subst hm12
    refine retQ_1 (v := (.bool x10)) rfl rfl ?_
    exact ⟨rfl, hST.ex⟩
  · rcases bool_cases r3 with hb6 | hb6
    · replace hm16 := if_t hb6 hm16
      refine LW_v (.inr ⟨3, true, 6, rfl, rfl, by decide, (congrArg Value.bool hb6)⟩) rfl (by decide) (R_field fa34_1 rfl) ?_
      refine LW_v (.inr ⟨3, true, 6, rfl, rfl, by decide, (congrArg Value.bool hb6)⟩) rfl (by decide) (R_load (v := (.string a0.Word)) rfl (load_box1 hST.has (.head _) rfl Try.isAgg9)) ?_
      obtain ⟨r19, hr20, hm16⟩ := bind_some hm16
      refine LW_e (.inr ⟨3, true, 6, rfl, rfl, by decide, (congrArg Value.bool hb6)⟩) rfl (by decide) (E_gives (args := [(.string a0.Word)]) hST rfl Try.call50 (by exact args1 rfl) ((w_ref03_Right a0.Word _ _  hr20)) (fun W21 hST => ?_))
      refine LV (R_pickT (v := (.bool r19)) (congrArg Value.bool hb6) rfl) ?_
      replace hm16 := Option.some.inj hm16; subst hm16
      exact key18 _ _ ⟨r19, _, (hST.sublist (List.Sublist.cons _ (List.Sublist.refl _))), rfl, rfl, hm17⟩
    · replace hm16 := if_f hb6 hm16
      refine LW_no rfl (by decide) rfl rfl (by decide) (congrArg Value.bool hb6) ?_
      refine LW_no rfl (by decide) rfl rfl (by decide) (congrArg Value.bool hb6) ?_
      refine LW_no rfl (by decide) rfl rfl (by decide) (congrArg Value.bool hb6) ?_
      refine LV (R_pickF (v := (.bool false)) (congrArg Value.bool hb6) rfl) ?_
      replace hm16 := Option.some.inj hm16; subst hm16
      exact key18 _ _ ⟨false, _, (hST.sublist (List.Sublist.cons _ (List.Sublist.refl _))), rfl, rfl, hm17⟩
theorem w_ref04_Less (a0 : Role) (a1 : Role) (r : Bool) (w : World)  (hm : m_ref04_Less a0 a1 = some r) :
    Gives true Try.prog 52 [(.agg (encRole a0).toArray), (.agg (encRole a1).toArray)] w (.bool r) := by
  have hST := ST.start (dd := true) w
  unfold m_ref04_Less at hm
  refine calls_of_CW (n := 24) Try.func52 rfl rfl (Nat.le_of_ble_eq_true rfl) ?_
  refine CW_seq ?_
  refine CW_region ?_
  refine LE (E_box (v := (.agg (encRole a0).toArray)) hST rfl (fun W2 b1 hST => ?_))
  refine LE (E_box (v := (.agg (encRole a1).toArray)) hST rfl (fun W4 b3 hST => ?_))
  refine LV (R_assign (v := (.bool false)) rfl) ?_
  refine LW_nil ?_
  refine sq_n ?_
  refine CW_seq ?_
  refine CW_region ?_
  refine LV (R_field fa34_0 rfl) ?_
  refine LV (R_load (v := (.string a0.Owner)) rfl (load_box1 hST.has (.tail _ (.head _)) rfl Try.isAgg9)) ?_
  refine LV (R_field fa34_0 rfl) ?_
  refine LV (R_load (v := (.string a1.Owner)) rfl (load_box1 hST.has (.head _) rfl Try.isAgg9)) ?_
  refine LV (R_str (a := a0.Owner) (b := a1.Owner) (v := (.bool ((ltS a0.Owner a1.Owner)))) rfl rfl rfl) ?_
  refine LV (R_move (v := (.bool ((ltS a0.Owner a1.Owner)))) rfl) ?_
  obtain ⟨s22, hm23, hm24⟩ := bind_some hm
  refine LW_join (J := fun E W => ∃ (x17 : Bool) (L18 : List (Nat × Obj)), ST true NoF w W (hp w) L18 ∧ E 4 = (.bool false) ∧ E 23 = (.bool x17) ∧ some x17 = some r) 13 ?_ (fun key25 => ?_)
  · rintro E W ⟨x17, L18, hST, e20, e21, hm19⟩
    refine LV (R_assign (v := (.bool x17)) e21) ?_
    refine LW_nil ?_
    refine sq_n ?_
    refine CW_ret ?_
    replace hm19 := Option.some.inj hm19; subst hm19
    refine retQ_1 (v := (.bool x17)) rfl rfl ?_
    exact ⟨rfl, hST.ex⟩
  · rcases bool_cases ((ltS a0.Owner a1.Owner)) with hb5 | hb5
    · replace hm23 := if_t hb5 hm23
      refine LW_no rfl (by decide) rfl rfl (by decide) (congrArg Value.bool hb5) ?_
      refine LW_no rfl (by decide) rfl rfl (by decide) (congrArg Value.bool hb5) ?_
      refine LW_no rfl (by decide) rfl rfl (by decide) (congrArg Value.bool hb5) ?_
      refine LW_no rfl (by decide) rfl rfl (by decide) (congrArg Value.bool hb5) ?_
      refine LW_no rfl (by decide) rfl rfl (by decide) (congrArg Value.bool hb5) ?_
      refine LW_no rfl (by decide) rfl rfl (by decide) (congrArg Value.bool hb5) ?_
      refine LW_nou rfl (by decide) rfl rfl (by decide) rfl ?_
      refine LW_nou rfl (by decide) rfl rfl (by decide) rfl ?_
      refine LW_nou rfl (by decide) rfl rfl (by decide) rfl ?_
      refine LW_nou rfl (by decide) rfl rfl (by decide) rfl ?_
      refine LW_nou rfl (by decide) rfl rfl (by decide) rfl ?_
      refine LW_no rfl (by decide) rfl rfl (by decide) (congrArg Value.bool hb5) ?_
      refine LV (R_pickT (v := (.bool true)) (congrArg Value.bool hb5) rfl) ?_
      replace hm23 := Option.some.inj hm23; subst hm23
      exact key25 _ _ ⟨true, _, (hST.sublist (List.Sublist.cons _ (List.Sublist.cons _ (List.Sublist.refl _)))), rfl, rfl, hm24⟩
    · replace hm23 := if_f hb5 hm23
      refine LW_v (.inr ⟨5, false, 10, rfl, rfl, by decide, (congrArg Value.bool hb5)⟩) rfl (by decide) (R_field fa34_0 rfl) ?_
      refine LW_v (.inr ⟨5, false, 10, rfl, rfl, by decide, (congrArg Value.bool hb5)⟩) rfl (by decide) (R_load (v := (.string a0.Owner)) rfl (load_box1 hST.has (.tail _ (.head _)) rfl Try.isAgg9)) ?_
      refine LW_v (.inr ⟨5, false, 10, rfl, rfl, by decide, (congrArg Value.bool hb5)⟩) rfl (by decide) (R_field fa34_0 rfl) ?_
      refine LW_v (.inr ⟨5, false, 10, rfl, rfl, by decide, (congrArg Value.bool hb5)⟩) rfl (by decide) (R_load (v := (.string a1.Owner)) rfl (load_box1 hST.has (.head _) rfl Try.isAgg9)) ?_
      refine LW_v (.inr ⟨5, false, 10, rfl, rfl, by decide, (congrArg Value.bool hb5)⟩) rfl (by decide) (R_str (a := a0.Owner) (b := a1.Owner) (v := (.bool ((beqS a0.Owner a1.Owner)))) rfl rfl rfl) ?_
      refine LW_v (.inr ⟨5, false, 10, rfl, rfl, by decide, (congrArg Value.bool hb5)⟩) rfl (by decide) (R_move (v := (.bool ((beqS a0.Owner a1.Owner)))) rfl) ?_
      obtain ⟨s33, hm34, hm35⟩ := bind_some hm23
      refine LW_join (J := fun E W => ∃ (x27 : Bool) (L28 : List (Nat × Obj)), ST true NoF w W (hp w) L28 ∧ E 4 = (.bool false) ∧ E 10 = (.bool ((ltS a0.Owner a1.Owner))) ∧ E 22 = (.bool x27) ∧ some x27 = some s22) 6 ?_ (fun key36 => ?_)
      · rintro E W ⟨x27, L28, hST, e30, e31, e32, hm29⟩
        refine LV (R_pickF (v := (.bool x27)) (e31.trans (congrArg Value.bool hb5)) e32) ?_
        replace hm29 := Option.some.inj hm29; subst hm29
        exact key25 _ _ ⟨x27, _, (hST.sublist (List.Sublist.refl _)), e30, rfl, hm24⟩
      · rcases bool_cases ((beqS a0.Owner a1.Owner)) with hb26 | hb26
        · replace hm34 := if_t hb26 hm34
          refine LW_v (.inr ⟨11, true, 16, rfl, rfl, by decide, (congrArg Value.bool hb26)⟩) rfl (by decide) (R_field fa34_1 rfl) ?_
          refine LW_v (.inr ⟨11, true, 16, rfl, rfl, by decide, (congrArg Value.bool hb26)⟩) rfl (by decide) (R_load (v := (.string a0.Word)) rfl (load_box1 hST.has (.tail _ (.head _)) rfl Try.isAgg9)) ?_
          refine LW_v (.inr ⟨11, true, 16, rfl, rfl, by decide, (congrArg Value.bool hb26)⟩) rfl (by decide) (R_field fa34_1 rfl) ?_
          refine LW_v (.inr ⟨11, true, 16, rfl, rfl, by decide, (congrArg Value.bool hb26)⟩) rfl (by decide) (R_load (v := (.string a1.Word)) rfl (load_box1 hST.has (.head _) rfl Try.isAgg9)) ?_
          refine LW_v (.inr ⟨11, true, 16, rfl, rfl, by decide, (congrArg Value.bool hb26)⟩) rfl (by decide) (R_str (a := a0.Word) (b := a1.Word) (v := (.bool ((ltS a0.Word a1.Word)))) rfl rfl rfl) ?_
          refine LW_v (.inr ⟨5, false, 10, rfl, rfl, by decide, (congrArg Value.bool hb5)⟩) rfl (by decide) (R_pickT (v := (.bool ((ltS a0.Word a1.Word)))) (congrArg Value.bool hb26) rfl) ?_
          replace hm34 := Option.some.inj hm34; subst hm34
          exact key36 _ _ ⟨((ltS a0.Word a1.Word)), _, (hST.sublist (List.Sublist.cons _ (List.Sublist.cons _ (List.Sublist.refl _)))), rfl, rfl, rfl, hm35⟩
        · replace hm34 := if_f hb26 hm34
          refine LW_no rfl (by decide) rfl rfl (by decide) (congrArg Value.bool hb26) ?_
          refine LW_no rfl (by decide) rfl rfl (by decide) (congrArg Value.bool hb26) ?_
          refine LW_no rfl (by decide) rfl rfl (by decide) (congrArg Value.bool hb26) ?_
          refine LW_no rfl (by decide) rfl rfl (by decide) (congrArg Value.bool hb26) ?_
          refine LW_no rfl (by decide) rfl rfl (by decide) (congrArg Value.bool hb26) ?_
          refine LW_v (.inr ⟨5, false, 10, rfl, rfl, by decide, (congrArg Value.bool hb5)⟩) rfl (by decide) (R_pickF (v := (.bool false)) (congrArg Value.bool hb26) rfl) ?_
          replace hm34 := Option.some.inj hm34; subst hm34
          exact key36 _ _ ⟨false, _, (hST.sublist (List.Sublist.cons _ (List.Sublist.cons _ (List.Sublist.refl _)))), rfl, rfl, rfl, hm35⟩
theorem w_ref05_Right (a0 : Cred) (r : Bool) (w : World)  (hm : m_ref05_Right a0 = some r) :
    Gives true Try.prog 33 [(.agg (encCred a0).toArray)] w (.bool r) := by
  have hST := ST.start (dd := true) w
  unfold m_ref05_Right at hm
  refine calls_of_CW (n := 93) Try.func33 rfl rfl (Nat.le_of_ble_eq_true rfl) ?_
  refine CW_seq ?_
  refine CW_region ?_
  refine LE (E_box (v := (.agg (encCred a0).toArray)) hST rfl (fun W2 b1 hST => ?_))
  refine LV (R_assign (v := (.bool false)) rfl) ?_
  refine LW_nil ?_
  refine sq_n ?_
  refine CW_seq ?_
  refine CW_region ?_
  refine LE (E_alloc hST Try.zeroValue34 (fun W4 b3 hST => ?_))
  refine LW_nil ?_
  refine sq_n ?_
  refine CW_seq ?_
  refine CW_seq ?_
  refine CW_region ?_
  refine LV (R_field fa36_1 rfl) ?_
  refine LV (R_load (v := (.agg (encRole a0.Head).toArray)) rfl (load_boxA hST.has (.tail _ (.head _)) (encRole a0.Head) rfl Try.isAgg34 Try.sizeOf34)) ?_
  obtain ⟨r5, hr6, hm⟩ := bind_some hm
  refine LE (E_gives (args := [(.agg (encRole a0.Head).toArray)]) hST rfl Try.call51 (by exact args1 rfl) ((w_ref04_Right a0.Head _ _  hr6)) (fun W7 hST => ?_))
  refine LV (R_not (b := r5) rfl) ?_
  refine LW_nil ?_
  refine sq_n ?_
  refine CW_if (b := (!r5)) rfl (fun hb8 => ?_) (fun hb8 => ?_)
  · replace hm := if_t hb8 hm
    refine CW_seq ?_
    refine CW_region ?_
    refine LV (R_assign (v := (.bool false)) rfl) ?_
    refine LW_nil ?_
    refine sq_n ?_
    replace hST : ST true NoF w _ _ [] := hST.sublist (List.Sublist.cons _ (List.Sublist.cons _ (List.Sublist.refl _)))
    refine CW_ret ?_
    refine sq_r ?_
    replace hm := Option.some.inj hm; subst hm
    refine retQ_1 (v := (.bool false)) rfl rfl ?_
    exact ⟨rfl, hST.ex⟩
  · replace hm := if_f hb8 hm
    refine CW_skip ?_
    refine sq_n ?_
    refine CW_seq ?_
    refine CW_seq ?_
    refine CW_region ?_
    refine LV (R_field fa36_0 rfl) ?_
    refine LV (R_load (v := (.int .i64 a0.Kind)) rfl (load_box1 hST.has (.tail _ (.head _)) rfl Try.isAgg3)) ?_
    refine LV (R_int (k := .i64) (a := a0.Kind) (b := 1) (v := (.bool ((a0.Kind == 1)))) rfl rfl rfl) ?_
    refine LW_nil ?_
    refine sq_n ?_
    refine CW_if (b := (a0.Kind == 1)) rfl (fun hb9 => ?_) (fun hb9 => ?_)
    · replace hm := if_t hb9 hm
      refine CW_seq ?_
      refine CW_region ?_
      refine LV (R_field fa36_2 rfl) ?_
      refine LV (R_load (v := (.string a0.Who)) rfl (load_box1 hST.has (.tail _ (.head _)) rfl Try.isAgg9)) ?_
      obtain ⟨r10, hr11, hm⟩ := bind_some hm
      refine LE (E_gives (args := [(.string a0.Who)]) hST rfl Try.call50 (by exact args1 rfl) ((w_ref03_Right a0.Who _ _  hr11)) (fun W12 hST => ?_))
      refine LV (R_move (v := (.bool r10)) rfl) ?_
      obtain ⟨s42, hm43, hm44⟩ := bind_some hm
      refine LW_join (J := fun E W => ∃ (x14 : Bool) (L15 : List (Nat × Obj)), ST true NoF w W (hp w) ((b3, Obj.cells ((encRole ((⟨zS, zS⟩ : Role))).toArray : Array Value) 34 (0, 0)) :: ((b1, Obj.cells ((encCred a0).toArray : Array Value) 36 (0, 0)) :: L15)) ∧ E 1 = (.pointer (some ⟨b1, 0, none⟩)) ∧ E 2 = (.bool false) ∧ E 3 = (.pointer (some ⟨b3, 0, none⟩)) ∧ E 19 = (.bool x14) ∧ (((if x14 then some ((beqRole a0.C ((⟨zS, zS⟩ : Role)))) else some false) : Option Bool).bind fun x22 => (((if x22 then some ((beqS a0.Word2 zS)) else some false) : Option Bool).bind fun x29 => some x29)) = some r) 5 ?_ (fun key45 => ?_)
      · rintro E W ⟨x14, L15, hST, e17, e18, e19, e20, hm16⟩
        refine LV (R_move (v := (.bool x14)) e20) ?_
        obtain ⟨s38, hm39, hm40⟩ := bind_some hm16
        refine LW_join (J := fun E W => ∃ (x22 : Bool) (L23 : List (Nat × Obj)), ST true NoF w W (hp w) ((b1, Obj.cells ((encCred a0).toArray : Array Value) 36 (0, 0)) :: L23) ∧ E 1 = (.pointer (some ⟨b1, 0, none⟩)) ∧ E 2 = (.bool false) ∧ E 25 = (.bool x22) ∧ (((if x22 then some ((beqS a0.Word2 zS)) else some false) : Option Bool).bind fun x29 => some x29) = some r) 5 ?_ (fun key41 => ?_)
        · rintro E W ⟨x22, L23, hST, e25, e26, e27, hm24⟩
          refine LV (R_move (v := (.bool x22)) e27) ?_
          obtain ⟨s34, hm35, hm36⟩ := bind_some hm24
          refine LW_join (J := fun E W => ∃ (x29 : Bool) (L30 : List (Nat × Obj)), ST true NoF w W (hp w) L30 ∧ E 2 = (.bool false) ∧ E 30 = (.bool x29) ∧ some x29 = some r) 4 ?_ (fun key37 => ?_)
          · rintro E W ⟨x29, L30, hST, e32, e33, hm31⟩
            refine LV (R_assign (v := (.bool x29)) e33) ?_
            refine LW_nil ?_
            refine sq_n ?_
            refine CW_ret ?_
            refine sq_r ?_
            replace hm31 := Option.some.inj hm31; subst hm31
            refine retQ_1 (v := (.bool x29)) rfl rfl ?_
            exact ⟨rfl, hST.ex⟩
          · rcases bool_cases x22 with hb28 | hb28
            · replace hm35 := if_t hb28 hm35
              refine LW_v (.inr ⟨15, true, 26, rfl, rfl, by decide, (congrArg Value.bool hb28)⟩) rfl (by decide) (R_field fa36_5 e25) ?_
              refine LW_v (.inr ⟨15, true, 26, rfl, rfl, by decide, (congrArg Value.bool hb28)⟩) rfl (by decide) (R_load (v := (.string a0.Word2)) rfl (load_box1 hST.has (.head _) rfl Try.isAgg9)) ?_
              refine LW_v (.inr ⟨15, true, 26, rfl, rfl, by decide, (congrArg Value.bool hb28)⟩) rfl (by decide) (R_str (a := a0.Word2) (b := zS) (v := (.bool ((beqS a0.Word2 zS)))) rfl rfl rfl) ?_
              refine LV (R_pickT (v := (.bool ((beqS a0.Word2 zS)))) (congrArg Value.bool hb28) rfl) ?_
              replace hm35 := Option.some.inj hm35; subst hm35
              exact key37 _ _ ⟨((beqS a0.Word2 zS)), _, (hST.sublist (List.Sublist.cons _ (List.Sublist.refl _))), e26, rfl, hm36⟩
            · replace hm35 := if_f hb28 hm35
              refine LW_no rfl (by decide) rfl rfl (by decide) (congrArg Value.bool hb28) ?_
              refine LW_no rfl (by decide) rfl rfl (by decide) (congrArg Value.bool hb28) ?_
              refine LW_no rfl (by decide) rfl rfl (by decide) (congrArg Value.bool hb28) ?_
              refine LV (R_pickF (v := (.bool false)) (congrArg Value.bool hb28) rfl) ?_
              replace hm35 := Option.some.inj hm35; subst hm35
              exact key37 _ _ ⟨false, _, (hST.sublist (List.Sublist.cons _ (List.Sublist.refl _))), e26, rfl, hm36⟩
        · rcases bool_cases x14 with hb21 | hb21
          · replace hm39 := if_t hb21 hm39
            refine LW_v (.inr ⟨9, true, 20, rfl, rfl, by decide, (congrArg Value.bool hb21)⟩) rfl (by decide) (R_field fa36_4 e17) ?_
            refine LW_v (.inr ⟨9, true, 20, rfl, rfl, by decide, (congrArg Value.bool hb21)⟩) rfl (by decide) (R_load (v := (.agg (encRole a0.C).toArray)) rfl (load_boxA hST.has (.tail _ (.head _)) (encRole a0.C) rfl Try.isAgg34 Try.sizeOf34)) ?_
            refine LW_v (.inr ⟨9, true, 20, rfl, rfl, by decide, (congrArg Value.bool hb21)⟩) rfl (by decide) (R_load (v := (.agg (encRole ((⟨zS, zS⟩ : Role))).toArray)) e19 (load_boxA hST.has (.head _) (encRole ((⟨zS, zS⟩ : Role))) rfl Try.isAgg34 Try.sizeOf34)) ?_
            refine LW_v (.inr ⟨9, true, 20, rfl, rfl, by decide, (congrArg Value.bool hb21)⟩) rfl (by decide) (R_eql (a := (encRole a0.C).toArray) (b := (encRole ((⟨zS, zS⟩ : Role))).toArray) rfl rfl (guard_agg Try.eqGuardType34) (bin_eql (eqInRole _ a0.C ((⟨zS, zS⟩ : Role))))) ?_
            refine LV (R_pickT (v := (.bool ((beqRole a0.C ((⟨zS, zS⟩ : Role)))))) (congrArg Value.bool hb21) rfl) ?_
            replace hm39 := Option.some.inj hm39; subst hm39
            exact key41 _ _ ⟨((beqRole a0.C ((⟨zS, zS⟩ : Role)))), _, (hST.sublist (List.Sublist.cons _ (List.Sublist.refl _))), e17, e18, rfl, hm40⟩
          · replace hm39 := if_f hb21 hm39
            refine LW_no rfl (by decide) rfl rfl (by decide) (congrArg Value.bool hb21) ?_
            refine LW_no rfl (by decide) rfl rfl (by decide) (congrArg Value.bool hb21) ?_
            refine LW_no rfl (by decide) rfl rfl (by decide) (congrArg Value.bool hb21) ?_
            refine LW_no rfl (by decide) rfl rfl (by decide) (congrArg Value.bool hb21) ?_
            refine LV (R_pickF (v := (.bool false)) (congrArg Value.bool hb21) rfl) ?_
            replace hm39 := Option.some.inj hm39; subst hm39
            exact key41 _ _ ⟨false, _, (hST.sublist (List.Sublist.cons _ (List.Sublist.refl _))), e17, e18, rfl, hm40⟩
      · rcases bool_cases r10 with hb13 | hb13
        · replace hm43 := if_t hb13 hm43
          refine LW_v (.inr ⟨3, true, 14, rfl, rfl, by decide, (congrArg Value.bool hb13)⟩) rfl (by decide) (R_field fa36_3 rfl) ?_
          refine LW_v (.inr ⟨3, true, 14, rfl, rfl, by decide, (congrArg Value.bool hb13)⟩) rfl (by decide) (R_load (v := (.agg (encRole a0.B).toArray)) rfl (load_boxA hST.has (.tail _ (.head _)) (encRole a0.B) rfl Try.isAgg34 Try.sizeOf34)) ?_
          refine LW_v (.inr ⟨3, true, 14, rfl, rfl, by decide, (congrArg Value.bool hb13)⟩) rfl (by decide) (R_load (v := (.agg (encRole ((⟨zS, zS⟩ : Role))).toArray)) rfl (load_boxA hST.has (.head _) (encRole ((⟨zS, zS⟩ : Role))) rfl Try.isAgg34 Try.sizeOf34)) ?_
          refine LW_v (.inr ⟨3, true, 14, rfl, rfl, by decide, (congrArg Value.bool hb13)⟩) rfl (by decide) (R_eql (a := (encRole a0.B).toArray) (b := (encRole ((⟨zS, zS⟩ : Role))).toArray) rfl rfl (guard_agg Try.eqGuardType34) (bin_eql (eqInRole _ a0.B ((⟨zS, zS⟩ : Role))))) ?_
          refine LV (R_pickT (v := (.bool ((beqRole a0.B ((⟨zS, zS⟩ : Role)))))) (congrArg Value.bool hb13) rfl) ?_
          replace hm43 := Option.some.inj hm43; subst hm43
          exact key45 _ _ ⟨((beqRole a0.B ((⟨zS, zS⟩ : Role)))), _, (hST.sublist (List.Sublist.refl _)), rfl, rfl, rfl, rfl, hm44⟩
        · replace hm43 := if_f hb13 hm43
          refine LW_no rfl (by decide) rfl rfl (by decide) (congrArg Value.bool hb13) ?_
          refine LW_no rfl (by decide) rfl rfl (by decide) (congrArg Value.bool hb13) ?_
          refine LW_no rfl (by decide) rfl rfl (by decide) (congrArg Value.bool hb13) ?_
          refine LW_no rfl (by decide) rfl rfl (by decide) (congrArg Value.bool hb13) ?_
          refine LV (R_pickF (v := (.bool false)) (congrArg Value.bool hb13) rfl) ?_
          replace hm43 := Option.some.inj hm43; subst hm43
          exact key45 _ _ ⟨false, _, (hST.sublist (List.Sublist.refl _)), rfl, rfl, rfl, rfl, hm44⟩
    · replace hm := if_f hb9 hm
      refine CW_skip ?_
      refine sq_n ?_
      refine CW_seq ?_
      refine CW_seq ?_
      refine CW_region ?_
      refine LV (R_field fa36_2 rfl) ?_
      refine LV (R_load (v := (.string a0.Who)) rfl (load_box1 hST.has (.tail _ (.head _)) rfl Try.isAgg9)) ?_
      refine LV (R_str (a := a0.Who) (b := zS) (v := (.bool ((!(beqS a0.Who zS))))) rfl rfl rfl) ?_
      refine LV (R_move (v := (.bool ((!(beqS a0.Who zS))))) rfl) ?_
      obtain ⟨s134, hm135, hm136⟩ := bind_some hm
      refine LW_join (J := fun E W => ∃ (x50 : Bool) (L51 : List (Nat × Obj)), ST true NoF w W (hp w) ((b3, Obj.cells ((encRole ((⟨zS, zS⟩ : Role))).toArray : Array Value) 34 (0, 0)) :: ((b1, Obj.cells ((encCred a0).toArray : Array Value) 36 (0, 0)) :: L51)) ∧ E 1 = (.pointer (some ⟨b1, 0, none⟩)) ∧ E 3 = (.pointer (some ⟨b3, 0, none⟩)) ∧ E 39 = (.bool x50) ∧ (if x50 then some false else (if (a0.Kind == 2) then (((if (beqRole a0.C ((⟨zS, zS⟩ : Role))) then some ((beqS a0.Word2 zS)) else some false) : Option Bool).bind fun x59 => some x59) else (if (a0.Kind == 3) then (((if (beqRole a0.C ((⟨zS, zS⟩ : Role))) then some ((beqS a0.B.Owner a0.Head.Owner)) else some false) : Option Bool).bind fun x69 => (((if x69 then (((m_ref03_Right a0.Word2)).bind fun r86 => some r86) else some false) : Option Bool).bind fun x78 => some x78)) else (((if (a0.Kind == 4) then some ((beqS a0.Word2 zS)) else some false) : Option Bool).bind fun x94 => (((if x94 then (((m_ref04_Right a0.C)).bind fun r127 => some r127) else some false) : Option Bool).bind fun x103 => (((if x103 then (((m_ref04_Less a0.B a0.C)).bind fun r120 => some r120) else some false) : Option Bool).bind fun x112 => some x112)))))) = some r) 5 ?_ (fun key137 => ?_)
      · rintro E W ⟨x50, L51, hST, e53, e54, e55, hm52⟩
        refine LW_nil ?_
        refine sq_n ?_
        refine CW_if (b := x50) e55 (fun hb56 => ?_) (fun hb56 => ?_)
        · replace hm52 := if_t hb56 hm52
          refine CW_seq ?_
          refine CW_region ?_
          refine LV (R_assign (v := (.bool false)) rfl) ?_
          refine LW_nil ?_
          refine sq_n ?_
          replace hST : ST true NoF w _ _ L51 := hST.sublist (List.Sublist.cons _ (List.Sublist.cons _ (List.Sublist.refl _)))
          refine CW_ret ?_
          refine sq_r ?_
          replace hm52 := Option.some.inj hm52; subst hm52
          refine retQ_1 (v := (.bool false)) rfl rfl ?_
          exact ⟨rfl, hST.ex⟩
        · replace hm52 := if_f hb56 hm52
          refine CW_skip ?_
          refine sq_n ?_
          refine CW_seq ?_
          refine CW_seq ?_
          refine CW_region ?_
          refine LV (R_field fa36_0 e53) ?_
          refine LV (R_load (v := (.int .i64 a0.Kind)) rfl (load_box1 hST.has (.tail _ (.head _)) rfl Try.isAgg3)) ?_
          refine LV (R_int (k := .i64) (a := a0.Kind) (b := 2) (v := (.bool ((a0.Kind == 2)))) rfl rfl rfl) ?_
          refine LW_nil ?_
          refine sq_n ?_
          refine CW_if (b := (a0.Kind == 2)) rfl (fun hb57 => ?_) (fun hb57 => ?_)
          · replace hm52 := if_t hb57 hm52
            refine CW_seq ?_
            refine CW_region ?_
            refine LV (R_field fa36_4 e53) ?_
            refine LV (R_load (v := (.agg (encRole a0.C).toArray)) rfl (load_boxA hST.has (.tail _ (.head _)) (encRole a0.C) rfl Try.isAgg34 Try.sizeOf34)) ?_
            refine LV (R_load (v := (.agg (encRole ((⟨zS, zS⟩ : Role))).toArray)) e54 (load_boxA hST.has (.head _) (encRole ((⟨zS, zS⟩ : Role))) rfl Try.isAgg34 Try.sizeOf34)) ?_
            refine LV (R_eql (a := (encRole a0.C).toArray) (b := (encRole ((⟨zS, zS⟩ : Role))).toArray) rfl rfl (guard_agg Try.eqGuardType34) (bin_eql (eqInRole _ a0.C ((⟨zS, zS⟩ : Role))))) ?_
            refine LV (R_move (v := (.bool ((beqRole a0.C ((⟨zS, zS⟩ : Role)))))) rfl) ?_
            obtain ⟨s63, hm64, hm65⟩ := bind_some hm52
            refine LW_join (J := fun E W => ∃ (x59 : Bool) (L60 : List (Nat × Obj)), ST true NoF w W (hp w) L60 ∧ E 51 = (.bool x59) ∧ some x59 = some r) 4 ?_ (fun key66 => ?_)
            · rintro E W ⟨x59, L60, hST, e62, hm61⟩
              refine LV (R_assign (v := (.bool x59)) e62) ?_
              refine LW_nil ?_
              refine sq_n ?_
              refine CW_ret ?_
              refine sq_r ?_
              replace hm61 := Option.some.inj hm61; subst hm61
              refine retQ_1 (v := (.bool x59)) rfl rfl ?_
              exact ⟨rfl, hST.ex⟩
            · rcases bool_cases ((beqRole a0.C ((⟨zS, zS⟩ : Role)))) with hb58 | hb58
              · replace hm64 := if_t hb58 hm64
                refine LW_v (.inr ⟨4, true, 47, rfl, rfl, by decide, (congrArg Value.bool hb58)⟩) rfl (by decide) (R_field fa36_5 e53) ?_
                refine LW_v (.inr ⟨4, true, 47, rfl, rfl, by decide, (congrArg Value.bool hb58)⟩) rfl (by decide) (R_load (v := (.string a0.Word2)) rfl (load_box1 hST.has (.tail _ (.head _)) rfl Try.isAgg9)) ?_
                refine LW_v (.inr ⟨4, true, 47, rfl, rfl, by decide, (congrArg Value.bool hb58)⟩) rfl (by decide) (R_str (a := a0.Word2) (b := zS) (v := (.bool ((beqS a0.Word2 zS)))) rfl rfl rfl) ?_
                refine LV (R_pickT (v := (.bool ((beqS a0.Word2 zS)))) (congrArg Value.bool hb58) rfl) ?_
                replace hm64 := Option.some.inj hm64; subst hm64
                exact key66 _ _ ⟨((beqS a0.Word2 zS)), _, (hST.sublist (List.Sublist.cons _ (List.Sublist.cons _ (List.Sublist.refl _)))), rfl, hm65⟩
              · replace hm64 := if_f hb58 hm64
                refine LW_no rfl (by decide) rfl rfl (by decide) (congrArg Value.bool hb58) ?_
                refine LW_no rfl (by decide) rfl rfl (by decide) (congrArg Value.bool hb58) ?_
                refine LW_no rfl (by decide) rfl rfl (by decide) (congrArg Value.bool hb58) ?_
                refine LV (R_pickF (v := (.bool false)) (congrArg Value.bool hb58) rfl) ?_
                replace hm64 := Option.some.inj hm64; subst hm64
                exact key66 _ _ ⟨false, _, (hST.sublist (List.Sublist.cons _ (List.Sublist.cons _ (List.Sublist.refl _)))), rfl, hm65⟩
          · replace hm52 := if_f hb57 hm52
            refine CW_skip ?_
            refine sq_n ?_
            refine CW_seq ?_
            refine CW_seq ?_
            refine CW_region ?_
            refine LV (R_field fa36_0 e53) ?_
            refine LV (R_load (v := (.int .i64 a0.Kind)) rfl (load_box1 hST.has (.tail _ (.head _)) rfl Try.isAgg3)) ?_
            refine LV (R_int (k := .i64) (a := a0.Kind) (b := 3) (v := (.bool ((a0.Kind == 3)))) rfl rfl rfl) ?_
            refine LW_nil ?_
            refine sq_n ?_
            refine CW_if (b := (a0.Kind == 3)) rfl (fun hb67 => ?_) (fun hb67 => ?_)
            · replace hm52 := if_t hb67 hm52
              refine CW_seq ?_
              refine CW_region ?_
              refine LV (R_field fa36_4 e53) ?_
              refine LV (R_load (v := (.agg (encRole a0.C).toArray)) rfl (load_boxA hST.has (.tail _ (.head _)) (encRole a0.C) rfl Try.isAgg34 Try.sizeOf34)) ?_
              refine LV (R_load (v := (.agg (encRole ((⟨zS, zS⟩ : Role))).toArray)) e54 (load_boxA hST.has (.head _) (encRole ((⟨zS, zS⟩ : Role))) rfl Try.isAgg34 Try.sizeOf34)) ?_
              refine LV (R_eql (a := (encRole a0.C).toArray) (b := (encRole ((⟨zS, zS⟩ : Role))).toArray) rfl rfl (guard_agg Try.eqGuardType34) (bin_eql (eqInRole _ a0.C ((⟨zS, zS⟩ : Role))))) ?_
              refine LV (R_move (v := (.bool ((beqRole a0.C ((⟨zS, zS⟩ : Role)))))) rfl) ?_
              obtain ⟨s89, hm90, hm91⟩ := bind_some hm52
              refine LW_join (J := fun E W => ∃ (x69 : Bool) (L70 : List (Nat × Obj)), ST true NoF w W (hp w) ((b1, Obj.cells ((encCred a0).toArray : Array Value) 36 (0, 0)) :: L70) ∧ E 1 = (.pointer (some ⟨b1, 0, none⟩)) ∧ E 67 = (.bool x69) ∧ (((if x69 then (((m_ref03_Right a0.Word2)).bind fun r86 => some r86) else some false) : Option Bool).bind fun x78 => some x78) = some r) 8 ?_ (fun key92 => ?_)
              · rintro E W ⟨x69, L70, hST, e72, e73, hm71⟩
                refine LV (R_move (v := (.bool x69)) e73) ?_
                obtain ⟨s82, hm83, hm84⟩ := bind_some hm71
                refine LW_join (J := fun E W => ∃ (x78 : Bool) (L79 : List (Nat × Obj)), ST true NoF w W (hp w) L79 ∧ E 72 = (.bool x78) ∧ some x78 = some r) 4 ?_ (fun key85 => ?_)
                · rintro E W ⟨x78, L79, hST, e81, hm80⟩
                  refine LV (R_assign (v := (.bool x78)) e81) ?_
                  refine LW_nil ?_
                  refine sq_n ?_
                  refine CW_ret ?_
                  refine sq_r ?_
                  replace hm80 := Option.some.inj hm80; subst hm80
                  refine retQ_1 (v := (.bool x78)) rfl rfl ?_
                  exact ⟨rfl, hST.ex⟩
                · rcases bool_cases x69 with hb74 | hb74
                  · replace hm83 := if_t hb74 hm83
                    refine LW_v (.inr ⟨13, true, 68, rfl, rfl, by decide, (congrArg Value.bool hb74)⟩) rfl (by decide) (R_field fa36_5 e72) ?_
                    refine LW_v (.inr ⟨13, true, 68, rfl, rfl, by decide, (congrArg Value.bool hb74)⟩) rfl (by decide) (R_load (v := (.string a0.Word2)) rfl (load_box1 hST.has (.head _) rfl Try.isAgg9)) ?_
                    obtain ⟨r86, hr87, hm83⟩ := bind_some hm83
                    refine LW_e (.inr ⟨13, true, 68, rfl, rfl, by decide, (congrArg Value.bool hb74)⟩) rfl (by decide) (E_gives (args := [(.string a0.Word2)]) hST rfl Try.call50 (by exact args1 rfl) ((w_ref03_Right a0.Word2 _ _  hr87)) (fun W88 hST => ?_))
                    refine LV (R_pickT (v := (.bool r86)) (congrArg Value.bool hb74) rfl) ?_
                    replace hm83 := Option.some.inj hm83; subst hm83
                    exact key85 _ _ ⟨r86, _, (hST.sublist (List.Sublist.cons _ (List.Sublist.refl _))), rfl, hm84⟩
                  · replace hm83 := if_f hb74 hm83
                    refine LW_no rfl (by decide) rfl rfl (by decide) (congrArg Value.bool hb74) ?_
                    refine LW_no rfl (by decide) rfl rfl (by decide) (congrArg Value.bool hb74) ?_
                    refine LW_no rfl (by decide) rfl rfl (by decide) (congrArg Value.bool hb74) ?_
                    refine LV (R_pickF (v := (.bool false)) (congrArg Value.bool hb74) rfl) ?_
                    replace hm83 := Option.some.inj hm83; subst hm83
                    exact key85 _ _ ⟨false, _, (hST.sublist (List.Sublist.cons _ (List.Sublist.refl _))), rfl, hm84⟩
              · rcases bool_cases ((beqRole a0.C ((⟨zS, zS⟩ : Role)))) with hb68 | hb68
                · replace hm90 := if_t hb68 hm90
                  refine LW_v (.inr ⟨4, true, 59, rfl, rfl, by decide, (congrArg Value.bool hb68)⟩) rfl (by decide) (R_field fa36_3 e53) ?_
                  refine LW_v (.inr ⟨4, true, 59, rfl, rfl, by decide, (congrArg Value.bool hb68)⟩) rfl (by decide) (R_field fa34_0 rfl) ?_
                  refine LW_v (.inr ⟨4, true, 59, rfl, rfl, by decide, (congrArg Value.bool hb68)⟩) rfl (by decide) (R_load (v := (.string a0.B.Owner)) rfl (load_box1 hST.has (.tail _ (.head _)) rfl Try.isAgg9)) ?_
                  refine LW_v (.inr ⟨4, true, 59, rfl, rfl, by decide, (congrArg Value.bool hb68)⟩) rfl (by decide) (R_field fa36_1 e53) ?_
                  refine LW_v (.inr ⟨4, true, 59, rfl, rfl, by decide, (congrArg Value.bool hb68)⟩) rfl (by decide) (R_field fa34_0 rfl) ?_
                  refine LW_v (.inr ⟨4, true, 59, rfl, rfl, by decide, (congrArg Value.bool hb68)⟩) rfl (by decide) (R_load (v := (.string a0.Head.Owner)) rfl (load_box1 hST.has (.tail _ (.head _)) rfl Try.isAgg9)) ?_
                  refine LW_v (.inr ⟨4, true, 59, rfl, rfl, by decide, (congrArg Value.bool hb68)⟩) rfl (by decide) (R_str (a := a0.B.Owner) (b := a0.Head.Owner) (v := (.bool ((beqS a0.B.Owner a0.Head.Owner)))) rfl rfl rfl) ?_
                  refine LV (R_pickT (v := (.bool ((beqS a0.B.Owner a0.Head.Owner)))) (congrArg Value.bool hb68) rfl) ?_
                  replace hm90 := Option.some.inj hm90; subst hm90
                  exact key92 _ _ ⟨((beqS a0.B.Owner a0.Head.Owner)), _, (hST.sublist (List.Sublist.cons _ (List.Sublist.refl _))), e53, rfl, hm91⟩
                · replace hm90 := if_f hb68 hm90
                  refine LW_no rfl (by decide) rfl rfl (by decide) (congrArg Value.bool hb68) ?_
                  refine LW_no rfl (by decide) rfl rfl (by decide) (congrArg Value.bool hb68) ?_
                  refine LW_no rfl (by decide) rfl rfl (by decide) (congrArg Value.bool hb68) ?_
                  refine LW_no rfl (by decide) rfl rfl (by decide) (congrArg Value.bool hb68) ?_
                  refine LW_no rfl (by decide) rfl rfl (by decide) (congrArg Value.bool hb68) ?_
                  refine LW_no rfl (by decide) rfl rfl (by decide) (congrArg Value.bool hb68) ?_
                  refine LW_no rfl (by decide) rfl rfl (by decide) (congrArg Value.bool hb68) ?_
                  refine LV (R_pickF (v := (.bool false)) (congrArg Value.bool hb68) rfl) ?_
                  replace hm90 := Option.some.inj hm90; subst hm90
                  exact key92 _ _ ⟨false, _, (hST.sublist (List.Sublist.cons _ (List.Sublist.refl _))), e53, rfl, hm91⟩
            · replace hm52 := if_f hb67 hm52
              refine CW_skip ?_
              refine sq_n ?_
              replace hST : ST true NoF w _ _ ((b1, Obj.cells ((encCred a0).toArray : Array Value) 36 (0, 0)) :: L51) := hST.sublist (List.Sublist.cons _ (List.Sublist.refl _))
              refine CW_seq ?_
              refine CW_region ?_
              refine LV (R_field fa36_0 e53) ?_
              refine LV (R_load (v := (.int .i64 a0.Kind)) rfl (load_box1 hST.has (.head _) rfl Try.isAgg3)) ?_
              refine LV (R_int (k := .i64) (a := a0.Kind) (b := 4) (v := (.bool ((a0.Kind == 4)))) rfl rfl rfl) ?_
              refine LV (R_move (v := (.bool ((a0.Kind == 4)))) rfl) ?_
              obtain ⟨s130, hm131, hm132⟩ := bind_some hm52
              refine LW_join (J := fun E W => ∃ (x94 : Bool) (L95 : List (Nat × Obj)), ST true NoF w W (hp w) ((b1, Obj.cells ((encCred a0).toArray : Array Value) 36 (0, 0)) :: L95) ∧ E 1 = (.pointer (some ⟨b1, 0, none⟩)) ∧ E 80 = (.bool x94) ∧ (((if x94 then (((m_ref04_Right a0.C)).bind fun r127 => some r127) else some false) : Option Bool).bind fun x103 => (((if x103 then (((m_ref04_Less a0.B a0.C)).bind fun r120 => some r120) else some false) : Option Bool).bind fun x112 => some x112)) = some r) 4 ?_ (fun key133 => ?_)
              · rintro E W ⟨x94, L95, hST, e97, e98, hm96⟩
                refine LV (R_move (v := (.bool x94)) e98) ?_
                obtain ⟨s123, hm124, hm125⟩ := bind_some hm96
                refine LW_join (J := fun E W => ∃ (x103 : Bool) (L104 : List (Nat × Obj)), ST true NoF w W (hp w) ((b1, Obj.cells ((encCred a0).toArray : Array Value) 36 (0, 0)) :: L104) ∧ E 1 = (.pointer (some ⟨b1, 0, none⟩)) ∧ E 85 = (.bool x103) ∧ (((if x103 then (((m_ref04_Less a0.B a0.C)).bind fun r120 => some r120) else some false) : Option Bool).bind fun x112 => some x112) = some r) 4 ?_ (fun key126 => ?_)
                · rintro E W ⟨x103, L104, hST, e106, e107, hm105⟩
                  refine LV (R_move (v := (.bool x103)) e107) ?_
                  obtain ⟨s116, hm117, hm118⟩ := bind_some hm105
                  refine LW_join (J := fun E W => ∃ (x112 : Bool) (L113 : List (Nat × Obj)), ST true NoF w W (hp w) L113 ∧ E 92 = (.bool x112) ∧ some x112 = some r) 6 ?_ (fun key119 => ?_)
                  · rintro E W ⟨x112, L113, hST, e115, hm114⟩
                    refine LV (R_assign (v := (.bool x112)) e115) ?_
                    refine LW_nil ?_
                    refine sq_n ?_
                    refine CW_ret ?_
                    replace hm114 := Option.some.inj hm114; subst hm114
                    refine retQ_1 (v := (.bool x112)) rfl rfl ?_
                    exact ⟨rfl, hST.ex⟩
                  · rcases bool_cases x103 with hb108 | hb108
                    · replace hm117 := if_t hb108 hm117
                      refine LW_v (.inr ⟨13, true, 86, rfl, rfl, by decide, (congrArg Value.bool hb108)⟩) rfl (by decide) (R_field fa36_3 e106) ?_
                      refine LW_v (.inr ⟨13, true, 86, rfl, rfl, by decide, (congrArg Value.bool hb108)⟩) rfl (by decide) (R_load (v := (.agg (encRole a0.B).toArray)) rfl (load_boxA hST.has (.head _) (encRole a0.B) rfl Try.isAgg34 Try.sizeOf34)) ?_
                      refine LW_v (.inr ⟨13, true, 86, rfl, rfl, by decide, (congrArg Value.bool hb108)⟩) rfl (by decide) (R_field fa36_4 e106) ?_
                      refine LW_v (.inr ⟨13, true, 86, rfl, rfl, by decide, (congrArg Value.bool hb108)⟩) rfl (by decide) (R_load (v := (.agg (encRole a0.C).toArray)) rfl (load_boxA hST.has (.head _) (encRole a0.C) rfl Try.isAgg34 Try.sizeOf34)) ?_
                      obtain ⟨r120, hr121, hm117⟩ := bind_some hm117
                      refine LW_e (.inr ⟨13, true, 86, rfl, rfl, by decide, (congrArg Value.bool hb108)⟩) rfl (by decide) (E_gives (args := [(.agg (encRole a0.B).toArray), (.agg (encRole a0.C).toArray)]) hST rfl Try.call52 (by exact args2 rfl rfl) ((w_ref04_Less a0.B a0.C _ _  hr121)) (fun W122 hST => ?_))
                      refine LV (R_pickT (v := (.bool r120)) (congrArg Value.bool hb108) rfl) ?_
                      replace hm117 := Option.some.inj hm117; subst hm117
                      exact key119 _ _ ⟨r120, _, (hST.sublist (List.Sublist.cons _ (List.Sublist.refl _))), rfl, hm118⟩
                    · replace hm117 := if_f hb108 hm117
                      refine LW_no rfl (by decide) rfl rfl (by decide) (congrArg Value.bool hb108) ?_
                      refine LW_no rfl (by decide) rfl rfl (by decide) (congrArg Value.bool hb108) ?_
                      refine LW_no rfl (by decide) rfl rfl (by decide) (congrArg Value.bool hb108) ?_
                      refine LW_no rfl (by decide) rfl rfl (by decide) (congrArg Value.bool hb108) ?_
                      refine LW_no rfl (by decide) rfl rfl (by decide) (congrArg Value.bool hb108) ?_
                      refine LV (R_pickF (v := (.bool false)) (congrArg Value.bool hb108) rfl) ?_
                      replace hm117 := Option.some.inj hm117; subst hm117
                      exact key119 _ _ ⟨false, _, (hST.sublist (List.Sublist.cons _ (List.Sublist.refl _))), rfl, hm118⟩
                · rcases bool_cases x94 with hb99 | hb99
                  · replace hm124 := if_t hb99 hm124
                    refine LW_v (.inr ⟨8, true, 81, rfl, rfl, by decide, (congrArg Value.bool hb99)⟩) rfl (by decide) (R_field fa36_4 e97) ?_
                    refine LW_v (.inr ⟨8, true, 81, rfl, rfl, by decide, (congrArg Value.bool hb99)⟩) rfl (by decide) (R_load (v := (.agg (encRole a0.C).toArray)) rfl (load_boxA hST.has (.head _) (encRole a0.C) rfl Try.isAgg34 Try.sizeOf34)) ?_
                    obtain ⟨r127, hr128, hm124⟩ := bind_some hm124
                    refine LW_e (.inr ⟨8, true, 81, rfl, rfl, by decide, (congrArg Value.bool hb99)⟩) rfl (by decide) (E_gives (args := [(.agg (encRole a0.C).toArray)]) hST rfl Try.call51 (by exact args1 rfl) ((w_ref04_Right a0.C _ _  hr128)) (fun W129 hST => ?_))
                    refine LV (R_pickT (v := (.bool r127)) (congrArg Value.bool hb99) rfl) ?_
                    replace hm124 := Option.some.inj hm124; subst hm124
                    exact key126 _ _ ⟨r127, _, (hST.sublist (List.Sublist.refl _)), e97, rfl, hm125⟩
                  · replace hm124 := if_f hb99 hm124
                    refine LW_no rfl (by decide) rfl rfl (by decide) (congrArg Value.bool hb99) ?_
                    refine LW_no rfl (by decide) rfl rfl (by decide) (congrArg Value.bool hb99) ?_
                    refine LW_no rfl (by decide) rfl rfl (by decide) (congrArg Value.bool hb99) ?_
                    refine LV (R_pickF (v := (.bool false)) (congrArg Value.bool hb99) rfl) ?_
                    replace hm124 := Option.some.inj hm124; subst hm124
                    exact key126 _ _ ⟨false, _, (hST.sublist (List.Sublist.refl _)), e97, rfl, hm125⟩
              · rcases bool_cases ((a0.Kind == 4)) with hb93 | hb93
                · replace hm131 := if_t hb93 hm131
                  refine LW_v (.inr ⟨3, true, 76, rfl, rfl, by decide, (congrArg Value.bool hb93)⟩) rfl (by decide) (R_field fa36_5 e53) ?_
                  refine LW_v (.inr ⟨3, true, 76, rfl, rfl, by decide, (congrArg Value.bool hb93)⟩) rfl (by decide) (R_load (v := (.string a0.Word2)) rfl (load_box1 hST.has (.head _) rfl Try.isAgg9)) ?_
                  refine LW_v (.inr ⟨3, true, 76, rfl, rfl, by decide, (congrArg Value.bool hb93)⟩) rfl (by decide) (R_str (a := a0.Word2) (b := zS) (v := (.bool ((beqS a0.Word2 zS)))) rfl rfl rfl) ?_
                  refine LV (R_pickT (v := (.bool ((beqS a0.Word2 zS)))) (congrArg Value.bool hb93) rfl) ?_
                  replace hm131 := Option.some.inj hm131; subst hm131
                  exact key133 _ _ ⟨((beqS a0.Word2 zS)), _, (hST.sublist (List.Sublist.refl _)), e53, rfl, hm132⟩
                · replace hm131 := if_f hb93 hm131
                  refine LW_no rfl (by decide) rfl rfl (by decide) (congrArg Value.bool hb93) ?_
                  refine LW_no rfl (by decide) rfl rfl (by decide) (congrArg Value.bool hb93) ?_
                  refine LW_no rfl (by decide) rfl rfl (by decide) (congrArg Value.bool hb93) ?_
                  refine LV (R_pickF (v := (.bool false)) (congrArg Value.bool hb93) rfl) ?_
                  replace hm131 := Option.some.inj hm131; subst hm131
                  exact key133 _ _ ⟨false, _, (hST.sublist (List.Sublist.refl _)), e53, rfl, hm132⟩
      · rcases bool_cases ((!(beqS a0.Who zS))) with hb46 | hb46
        · replace hm135 := if_t hb46 hm135
          refine LW_no rfl (by decide) rfl rfl (by decide) (congrArg Value.bool hb46) ?_
          refine LW_no rfl (by decide) rfl rfl (by decide) (congrArg Value.bool hb46) ?_
          refine LW_no rfl (by decide) rfl rfl (by decide) (congrArg Value.bool hb46) ?_
          refine LW_no rfl (by decide) rfl rfl (by decide) (congrArg Value.bool hb46) ?_
          refine LV (R_pickT (v := (.bool true)) (congrArg Value.bool hb46) rfl) ?_
          replace hm135 := Option.some.inj hm135; subst hm135
          exact key137 _ _ ⟨true, _, (hST.sublist (List.Sublist.refl _)), rfl, rfl, rfl, hm136⟩
        · replace hm135 := if_f hb46 hm135
          refine LW_v (.inr ⟨3, false, 34, rfl, rfl, by decide, (congrArg Value.bool hb46)⟩) rfl (by decide) (R_field fa36_3 rfl) ?_
          refine LW_v (.inr ⟨3, false, 34, rfl, rfl, by decide, (congrArg Value.bool hb46)⟩) rfl (by decide) (R_load (v := (.agg (encRole a0.B).toArray)) rfl (load_boxA hST.has (.tail _ (.head _)) (encRole a0.B) rfl Try.isAgg34 Try.sizeOf34)) ?_
          obtain ⟨r138, hr139, hm135⟩ := bind_some hm135
          refine LW_e (.inr ⟨3, false, 34, rfl, rfl, by decide, (congrArg Value.bool hb46)⟩) rfl (by decide) (E_gives (args := [(.agg (encRole a0.B).toArray)]) hST rfl Try.call51 (by exact args1 rfl) ((w_ref04_Right a0.B _ _  hr139)) (fun W140 hST => ?_))
          refine LW_v (.inr ⟨3, false, 34, rfl, rfl, by decide, (congrArg Value.bool hb46)⟩) rfl (by decide) (R_not (b := r138) rfl) ?_
          refine LV (R_pickF (v := (.bool ((!r138)))) (congrArg Value.bool hb46) rfl) ?_
          replace hm135 := Option.some.inj hm135; subst hm135
          exact key137 _ _ ⟨((!r138)), _, (hST.sublist (List.Sublist.refl _)), rfl, rfl, rfl, hm136⟩
theorem w_ref01_Number (a0 : Int) (r : ByteArray) (w : World)  (hm : m_ref01_Number a0 = some r) :
    Gives true Try.prog 85 [(.int .i64 a0)] w (.string r) := by
  have hST := ST.start (dd := true) w
  unfold m_ref01_Number at hm
  refine calls_of_CW (n := 22) Try.func85 rfl rfl (Nat.le_of_ble_eq_true rfl) ?_
  refine CW_seq ?_
  refine CW_region ?_
  refine LV (R_assign (v := (.string zS)) rfl) ?_
  refine LW_nil ?_
  refine sq_n ?_
  refine CW_seq ?_
  refine CW_region ?_
  refine LV (R_assign (v := (.string zS)) rfl) ?_
  refine LW_nil ?_
  refine sq_n ?_
  refine CW_seq ?_
  refine CW_block (CW_loop (fun m E W => ∃ (x32 : Int) (x33 : ByteArray) (L43 : List (Nat × Obj)), ST true NoF w W (hp w) L43 ∧ E 0 = (.int .i64 x32) ∧ E 3 = (.string x33) ∧ m_ref01_Number_L1 m x32 x33 = some r) FUEL ⟨a0, zS, _, (hST.sublist (List.Sublist.refl _)), rfl, rfl, hm⟩ ?_)
  rintro m E W ⟨x32, x33, L43, hST, e46, e47, hm44⟩
  cases m with
  | zero => rw [m_ref01_Number_L1] at hm44; cases hm44
  | succ n45 =>
    rw [m_ref01_Number_L1] at hm44
    refine CW_seq ?_
    refine CW_seq ?_
    refine CW_region ?_
    refine LV (R_move (v := (.int .i64 x32)) e46) ?_
    refine LV (R_int (k := .i64) (a := x32) (b := 128) (v := (.bool ((decide (x32 ≥ 128))))) rfl rfl rfl) ?_
    refine LW_nil ?_
    refine sq_n ?_
    refine CW_if (b := (decide (x32 ≥ 128))) rfl (fun hb48 => ?_) (fun hb48 => ?_)
    · replace hm44 := if_t hb48 hm44
      refine CW_skip ?_
      refine sq_n ?_
      refine CW_block ?_
      refine CW_seq ?_
      refine CW_region ?_
      refine LV (R_move (v := (.string x33)) e47) ?_
      refine LV (R_move (v := (.int .i64 x32)) e46) ?_
      refine LV (R_div (k := .i64) (a := x32) (b := 128) (v := (.int .i64 ((Int.tmod x32 128)))) rfl rfl (by decide) rfl) ?_
      refine LV (R_int (k := .i64) (a := 128) (b := ((Int.tmod x32 128))) (v := (.int .i64 ((IntKind.i64.wrap (128 + ((Int.tmod x32 128))))))) rfl rfl rfl) ?_
      refine LV (R_convInt (k' := .i64) (a := (IntKind.i64.wrap (128 + ((Int.tmod x32 128))))) Try.underlying3 Try.underlying5 rfl) ?_
      refine LE (E_buildSlice (qs := #[(0, (.int .u8 ((IntKind.u8.wrap ((IntKind.i64.wrap (128 + ((Int.tmod x32 128)))))))))]) (cs := [(.int .u8 ((IntKind.u8.wrap ((IntKind.i64.wrap (128 + ((Int.tmod x32 128))))))))].toArray) hST (parts1 rfl) (run_lit [(.int .u8 ((IntKind.u8.wrap ((IntKind.i64.wrap (128 + ((Int.tmod x32 128))))))))] Try.underlying106 Try.sizeOf5 Try.zeroValue5 (by decide) rfl (by intro v hv; simp only [List.mem_cons, List.not_mem_nil, or_false] at hv; rcases hv with rfl <;> rfl) rfl rfl) (fun W50 b49 hST => ?_))
      refine LV (R_strOf Try.underlying106 Try.underlying5 Try.underlying9 rfl (Sl.lit (enc := (encIk .u8)) (l := [(IntKind.u8.wrap ((IntKind.i64.wrap (128 + ((Int.tmod x32 128))))))]) (fun _ => rfl) rfl (Nat.le_of_ble_eq_true rfl) rfl (hST.at_ (.head _)))) ?_
      obtain ⟨s51, hs52, hm44⟩ := bind_some hm44
      refine LV (R_cat rfl rfl hs52) ?_
      refine LV (R_assign (v := (.string s51)) rfl) ?_
      refine LW_nil ?_
      refine sq_n ?_
      replace hST : ST true NoF w _ _ L43 := hST.sublist (List.Sublist.cons _ (List.Sublist.refl _))
      refine CW_region ?_
      refine LV (R_move (v := (.int .i64 x32)) e46) ?_
      refine LV (R_div (k := .i64) (a := x32) (b := 128) (v := (.int .i64 ((IntKind.i64.wrap (Int.tdiv x32 128))))) rfl rfl (by decide) rfl) ?_
      refine LV (R_assign (v := (.int .i64 ((IntKind.i64.wrap (Int.tdiv x32 128))))) rfl) ?_
      refine LW_nil ?_
      refine bq_n ?_
      refine sq_n ?_
      exact ⟨n45, Nat.lt_succ_self _, ((IntKind.i64.wrap (Int.tdiv x32 128))), s51, _, (hST.sublist (List.Sublist.refl _)), rfl, rfl, hm44⟩
    · replace hm44 := if_f hb48 hm44
      refine CW_exit ?_
      refine sq_e (sq_e (bq_e ?_))
      refine sq_n ?_
      refine CW_seq ?_
      refine CW_region ?_
      refine LV (R_move (v := (.string x33)) e47) ?_
      refine LV (R_move (v := (.int .i64 x32)) e46) ?_
      refine LV (R_convInt (k' := .i64) (a := x32) Try.underlying3 Try.underlying5 rfl) ?_
      refine LE (E_buildSlice (qs := #[(0, (.int .u8 ((IntKind.u8.wrap x32))))]) (cs := [(.int .u8 ((IntKind.u8.wrap x32)))].toArray) hST (parts1 rfl) (run_lit [(.int .u8 ((IntKind.u8.wrap x32)))] Try.underlying106 Try.sizeOf5 Try.zeroValue5 (by decide) rfl (by intro v hv; simp only [List.mem_cons, List.not_mem_nil, or_false] at hv; rcases hv with rfl <;> rfl) rfl rfl) (fun W54 b53 hST => ?_))
      refine LV (R_strOf Try.underlying106 Try.underlying5 Try.underlying9 rfl (Sl.lit (enc := (encIk .u8)) (l := [(IntKind.u8.wrap x32)]) (fun _ => rfl) rfl (Nat.le_of_ble_eq_true rfl) rfl (hST.at_ (.head _)))) ?_
      obtain ⟨s55, hs56, hm44⟩ := bind_some hm44
      refine LV (R_cat rfl rfl hs56) ?_
      refine LV (R_assign (v := (.string s55)) rfl) ?_
      refine LW_nil ?_
      refine sq_n ?_
      replace hST : ST true NoF w _ _ L43 := hST.sublist (List.Sublist.cons _ (List.Sublist.refl _))
      refine CW_ret ?_
      replace hm44 := Option.some.inj hm44; subst hm44
      refine retQ_1 (v := (.string s55)) rfl rfl ?_
      exact ⟨rfl, hST.ex⟩
theorem w_ref01_Text (a0 : ByteArray) (r : ByteArray) (w : World)  (hm : m_ref01_Text a0 = some r) :
    Gives true Try.prog 87 [(.string a0)] w (.string r) := by
  have hST := ST.start (dd := true) w
  unfold m_ref01_Text at hm
  refine calls_of_CW (n := 8) Try.func87 rfl rfl (Nat.le_of_ble_eq_true rfl) ?_
  refine CW_seq ?_
  refine CW_region ?_
  refine LV (R_assign (v := (.string zS)) rfl) ?_
  refine LW_nil ?_
  refine sq_n ?_
  refine CW_seq ?_
  refine CW_region ?_
  refine LV (R_move (v := (.string a0)) rfl) ?_
  refine LV (R_lenStr (s := a0) Try.underlying9 rfl) ?_
  obtain ⟨r1, hr2, hm⟩ := bind_some hm
  refine LE (E_gives (args := [(.int .i64 ((a0.size : Int)))]) hST rfl Try.call85 (by exact args1 rfl) ((w_ref01_Number ((a0.size : Int)) _ _  hr2)) (fun W3 hST => ?_))
  refine LV (R_move (v := (.string a0)) rfl) ?_
  obtain ⟨s4, hs5, hm⟩ := bind_some hm
  refine LV (R_cat rfl rfl hs5) ?_
  refine LV (R_assign (v := (.string s4)) rfl) ?_
  refine LW_nil ?_
  refine sq_n ?_
  refine CW_ret ?_
  replace hm := Option.some.inj hm; subst hm
  refine retQ_1 (v := (.string s4)) rfl rfl ?_
  exact ⟨rfl, hST.ex⟩
theorem w_ref04_Bytes (a0 : Role) (r : ByteArray) (w : World)  (hm : m_ref04_Bytes a0 = some r) :
    Gives true Try.prog 86 [(.agg (encRole a0).toArray)] w (.string r) := by
  have hST := ST.start (dd := true) w
  unfold m_ref04_Bytes at hm
  refine calls_of_CW (n := 10) Try.func86 rfl rfl (Nat.le_of_ble_eq_true rfl) ?_
  refine CW_seq ?_
  refine CW_region ?_
  refine LE (E_box (v := (.agg (encRole a0).toArray)) hST rfl (fun W2 b1 hST => ?_))
  refine LV (R_assign (v := (.string zS)) rfl) ?_
  refine LW_nil ?_
  refine sq_n ?_
  refine CW_seq ?_
  refine PX_start (fun l W => Has (hp w) ((b1, Obj.cells ((encRole a0).toArray : Array Value) 34 (0, 0)) :: []) W) Try_mixed ?_
  replace hST := hST.drew
  have hS0 : Has (hp w) ((b1, Obj.cells ((encRole a0).toArray : Array Value) 34 (0, 0)) :: []) _ := hST.has.sub (Sub.refl _) (fun p hq => ((List.mem_cons.1 hq).elim (fun hq => by rw [hq]; exact (.head _)) (fun hq => (absurd hq List.not_mem_nil))))
  refine PV 0 rfl hS0 (R_field fa34_0 rfl) ?_
  refine PX_v 1 rfl (by kernel_rfl) (.inl rfl) rfl (by decide) (fun _ _ h => h) hS0 (fun l W hpd hs => have hS := hs; R_load (v := (.string a0.Owner)) rfl (load_box1 hS (.head _) rfl Try.isAgg9)) ?_
  refine PV 3 rfl hS0 (R_field fa34_1 rfl) ?_
  refine PX_v 4 rfl (by kernel_rfl) (.inl rfl) rfl (by decide) (fun _ _ h => h) hS0 (fun l W hpd hs => have hS := hs; R_load (v := (.string a0.Word)) rfl (load_box1 hS (.head _) rfl Try.isAgg9)) ?_
  obtain ⟨r19, hr20, hm⟩ := bind_some hm
  refine PX_e 2 rfl (by kernel_rfl) (.inl rfl) rfl (by decide) (E_gives (args := [(.string a0.Owner)]) hST rfl Try.call87 (by exact args1 rfl) ((w_ref01_Text a0.Owner _ _  hr20)) (fun W21 hST => ?_))
  have hS0 : Has (hp w) ((b1, Obj.cells ((encRole a0).toArray : Array Value) 34 (0, 0)) :: []) _ := hST.has.sub (Sub.refl _) (fun p hq => ((List.mem_cons.1 hq).elim (fun hq => by rw [hq]; exact (.head _)) (fun hq => (absurd hq List.not_mem_nil))))
  refine ⟨hS0, ?_⟩
  obtain ⟨r22, hr23, hm⟩ := bind_some hm
  refine PX_e 5 rfl (by kernel_rfl) (.inl rfl) rfl (by decide) (E_gives (args := [(.string a0.Word)]) hST rfl Try.call87 (by exact args1 rfl) ((w_ref01_Text a0.Word _ _  hr23)) (fun W24 hST => ?_))
  have hS0 : Has (hp w) ((b1, Obj.cells ((encRole a0).toArray : Array Value) 34 (0, 0)) :: []) _ := hST.has.sub (Sub.refl _) (fun p hq => ((List.mem_cons.1 hq).elim (fun hq => by rw [hq]; exact (.head _)) (fun hq => (absurd hq List.not_mem_nil))))
  refine ⟨hS0, ?_⟩
  obtain ⟨s25, hs26, hm⟩ := bind_some hm
  refine PV 6 rfl hS0 (R_cat rfl rfl hs26) ?_
  refine PV 7 rfl hS0 (R_assign (v := (.string s25)) rfl) ?_
  refine PX_done (by kernel_rfl) ?_
  refine sq_n ?_
  replace hST : ST true NoF w _ _ [] := hST.sublist (List.Sublist.cons _ (List.Sublist.refl _))
  refine CW_ret ?_
  replace hm := Option.some.inj hm; subst hm
  refine retQ_1 (v := (.string s25)) rfl rfl ?_
  exact ⟨rfl, hST.ex⟩
theorem w_ref05_Bytes (a0 : Cred) (r : ByteArray) (w : World)  (hm : m_ref05_Bytes a0 = some r) :
    Gives true Try.prog 75 [(.agg (encCred a0).toArray)] w (.string r) := by
  have hST := ST.start (dd := true) w
  unfold m_ref05_Bytes at hm
  refine calls_of_CW (n := 41) Try.func75 rfl rfl (Nat.le_of_ble_eq_true rfl) ?_
  refine CW_seq ?_
  refine CW_region ?_
  refine LE (E_box (v := (.agg (encCred a0).toArray)) hST rfl (fun W2 b1 hST => ?_))
  refine LV (R_assign (v := (.string zS)) rfl) ?_
  refine LW_nil ?_
  refine sq_n ?_
  refine CW_seq ?_
  refine PX_start (fun l W => Has (hp w) ((b1, Obj.cells ((encCred a0).toArray : Array Value) 36 (0, 0)) :: []) W) Try_mixed ?_
  replace hST := hST.drew
  have hS0 : Has (hp w) ((b1, Obj.cells ((encCred a0).toArray : Array Value) 36 (0, 0)) :: []) _ := hST.has.sub (Sub.refl _) (fun p hq => ((List.mem_cons.1 hq).elim (fun hq => by rw [hq]; exact (.head _)) (fun hq => (absurd hq List.not_mem_nil))))
  refine PV 0 rfl hS0 (R_field fa36_0 rfl) ?_
  refine PX_v 1 rfl (by kernel_rfl) (.inl rfl) rfl (by decide) (fun _ _ h => h) hS0 (fun l W hpd hs => have hS := hs; R_load (v := (.int .i64 a0.Kind)) rfl (load_box1 hS (.head _) rfl Try.isAgg3)) ?_
  refine PV 3 rfl hS0 (R_field fa36_1 rfl) ?_
  refine PX_v 4 rfl (by kernel_rfl) (.inl rfl) rfl (by decide) (fun _ _ h => h) hS0 (fun l W hpd hs => have hS := hs; R_load (v := (.agg (encRole a0.Head).toArray)) rfl (load_boxA hS (.head _) (encRole a0.Head) rfl Try.isAgg34 Try.sizeOf34)) ?_
  obtain ⟨r19, hr20, hm⟩ := bind_some hm
  refine PX_e 2 rfl (by kernel_rfl) (.inl rfl) rfl (by decide) (E_gives (args := [(.int .i64 a0.Kind)]) hST rfl Try.call85 (by exact args1 rfl) ((w_ref01_Number a0.Kind _ _  hr20)) (fun W21 hST => ?_))
  have hS0 : Has (hp w) ((b1, Obj.cells ((encCred a0).toArray : Array Value) 36 (0, 0)) :: []) _ := hST.has.sub (Sub.refl _) (fun p hq => ((List.mem_cons.1 hq).elim (fun hq => by rw [hq]; exact (.head _)) (fun hq => (absurd hq List.not_mem_nil))))
  refine ⟨hS0, ?_⟩
  obtain ⟨r22, hr23, hm⟩ := bind_some hm
  refine PX_e 5 rfl (by kernel_rfl) (.inl rfl) rfl (by decide) (E_gives (args := [(.agg (encRole a0.Head).toArray)]) hST rfl Try.call86 (by exact args1 rfl) ((w_ref04_Bytes a0.Head _ _  hr23)) (fun W24 hST => ?_))
  have hS0 : Has (hp w) ((b1, Obj.cells ((encCred a0).toArray : Array Value) 36 (0, 0)) :: []) _ := hST.has.sub (Sub.refl _) (fun p hq => ((List.mem_cons.1 hq).elim (fun hq => by rw [hq]; exact (.head _)) (fun hq => (absurd hq List.not_mem_nil))))
  refine ⟨hS0, ?_⟩
  obtain ⟨s25, hs26, hm⟩ := bind_some hm
  refine PV 6 rfl hS0 (R_cat rfl rfl hs26) ?_
  refine PV 7 rfl hS0 (R_assign (v := (.string s25)) rfl) ?_
  refine PX_done (by kernel_rfl) ?_
  refine sq_n ?_
  refine CW_seq ?_
  refine CW_seq ?_
  refine CW_region ?_
  refine LV (R_field fa36_0 rfl) ?_
  refine LV (R_load (v := (.int .i64 a0.Kind)) rfl (load_box1 hST.has (.head _) rfl Try.isAgg3)) ?_
  refine LV (R_int (k := .i64) (a := a0.Kind) (b := 1) (v := (.bool ((a0.Kind == 1)))) rfl rfl rfl) ?_
  refine LW_nil ?_
  refine sq_n ?_
  refine CW_if (b := (a0.Kind == 1)) rfl (fun hb27 => ?_) (fun hb27 => ?_)
  · replace hm := if_t hb27 hm
    refine CW_seq ?_
    refine CW_region ?_
    refine LV (R_move (v := (.string s25)) rfl) ?_
    refine LV (R_field fa36_2 rfl) ?_
    refine LV (R_load (v := (.string a0.Who)) rfl (load_box1 hST.has (.head _) rfl Try.isAgg9)) ?_
    obtain ⟨r28, hr29, hm⟩ := bind_some hm
    refine LE (E_gives (args := [(.string a0.Who)]) hST rfl Try.call87 (by exact args1 rfl) ((w_ref01_Text a0.Who _ _  hr29)) (fun W30 hST => ?_))
    obtain ⟨s31, hs32, hm⟩ := bind_some hm
    refine LV (R_cat rfl rfl hs32) ?_
    refine LV (R_assign (v := (.string s31)) rfl) ?_
    refine LW_nil ?_
    refine sq_n ?_
    replace hST : ST true NoF w _ _ [] := hST.sublist (List.Sublist.cons _ (List.Sublist.refl _))
    refine CW_ret ?_
    refine sq_r ?_
    replace hm := Option.some.inj hm; subst hm
    refine retQ_1 (v := (.string s31)) rfl rfl ?_
    exact ⟨rfl, hST.ex⟩
  · replace hm := if_f hb27 hm
    refine CW_skip ?_
    refine sq_n ?_
    refine CW_seq ?_
    refine CW_region ?_
    refine LV (R_move (v := (.string s25)) rfl) ?_
    refine LV (R_field fa36_3 rfl) ?_
    refine LV (R_load (v := (.agg (encRole a0.B).toArray)) rfl (load_boxA hST.has (.head _) (encRole a0.B) rfl Try.isAgg34 Try.sizeOf34)) ?_
    obtain ⟨r33, hr34, hm⟩ := bind_some hm
    refine LE (E_gives (args := [(.agg (encRole a0.B).toArray)]) hST rfl Try.call86 (by exact args1 rfl) ((w_ref04_Bytes a0.B _ _  hr34)) (fun W35 hST => ?_))
    obtain ⟨s36, hs37, hm⟩ := bind_some hm
    refine LV (R_cat rfl rfl hs37) ?_
    refine LV (R_assign (v := (.string s36)) rfl) ?_
    refine LW_nil ?_
    refine sq_n ?_
    refine CW_seq ?_
    obtain ⟨s68, hm69, hm70⟩ := bind_some hm
    refine CW_cut (fun E W => ∃ (x44 : ByteArray) (L45 : List (Nat × Obj)), ST true NoF w W (hp w) ((b1, Obj.cells ((encCred a0).toArray : Array Value) 36 (0, 0)) :: L45) ∧ E 1 = (.pointer (some ⟨b1, 0, none⟩)) ∧ E 3 = (.string x44) ∧ (((if (a0.Kind == 4) then (((m_ref04_Bytes a0.C)).bind fun r63 => (((catS x44 r63)).bind fun s66 => some s66)) else some x44) : Option ByteArray).bind fun x55 => some x55) = some r) ?_ ?_
    · refine CW_seq ?_
      refine CW_region ?_
      refine LV (R_field fa36_0 rfl) ?_
      refine LV (R_load (v := (.int .i64 a0.Kind)) rfl (load_box1 hST.has (.head _) rfl Try.isAgg3)) ?_
      refine LV (R_int (k := .i64) (a := a0.Kind) (b := 3) (v := (.bool ((a0.Kind == 3)))) rfl rfl rfl) ?_
      refine LW_nil ?_
      refine sq_n ?_
      refine CW_if (b := (a0.Kind == 3)) rfl (fun hb71 => ?_) (fun hb71 => ?_)
      · replace hm69 := if_t hb71 hm69
        refine CW_region ?_
        refine LV (R_move (v := (.string s36)) rfl) ?_
        refine LV (R_field fa36_5 rfl) ?_
        refine LV (R_load (v := (.string a0.Word2)) rfl (load_box1 hST.has (.head _) rfl Try.isAgg9)) ?_
        obtain ⟨r72, hr73, hm69⟩ := bind_some hm69
        refine LE (E_gives (args := [(.string a0.Word2)]) hST rfl Try.call87 (by exact args1 rfl) ((w_ref01_Text a0.Word2 _ _  hr73)) (fun W74 hST => ?_))
        obtain ⟨s75, hs76, hm69⟩ := bind_some hm69
        refine LV (R_cat rfl rfl hs76) ?_
        refine LV (R_assign (v := (.string s75)) rfl) ?_
        refine LW_nil ?_
        refine sq_n ?_
        replace hm69 := Option.some.inj hm69; subst hm69
        exact ⟨s75, _, (hST.sublist (List.Sublist.refl _)), rfl, rfl, hm70⟩
      · replace hm69 := if_f hb71 hm69
        refine CW_skip ?_
        refine sq_n ?_
        replace hm69 := Option.some.inj hm69; subst hm69
        exact ⟨s36, _, (hST.sublist (List.Sublist.refl _)), rfl, rfl, hm70⟩
    · rintro E W ⟨x44, L45, hST, e47, e48, hm46⟩
      refine CW_seq ?_
      obtain ⟨s59, hm60, hm61⟩ := bind_some hm46
      refine CW_cut (fun E W => ∃ (x55 : ByteArray) (L56 : List (Nat × Obj)), ST true NoF w W (hp w) L56 ∧ E 3 = (.string x55) ∧ some x55 = some r) ?_ ?_
      · refine CW_seq ?_
        refine CW_region ?_
        refine LV (R_field fa36_0 e47) ?_
        refine LV (R_load (v := (.int .i64 a0.Kind)) rfl (load_box1 hST.has (.head _) rfl Try.isAgg3)) ?_
        refine LV (R_int (k := .i64) (a := a0.Kind) (b := 4) (v := (.bool ((a0.Kind == 4)))) rfl rfl rfl) ?_
        refine LW_nil ?_
        refine sq_n ?_
        refine CW_if (b := (a0.Kind == 4)) rfl (fun hb62 => ?_) (fun hb62 => ?_)
        · replace hm60 := if_t hb62 hm60
          refine CW_region ?_
          refine LV (R_move (v := (.string x44)) e48) ?_
          refine LV (R_field fa36_4 e47) ?_
          refine LV (R_load (v := (.agg (encRole a0.C).toArray)) rfl (load_boxA hST.has (.head _) (encRole a0.C) rfl Try.isAgg34 Try.sizeOf34)) ?_
          obtain ⟨r63, hr64, hm60⟩ := bind_some hm60
          refine LE (E_gives (args := [(.agg (encRole a0.C).toArray)]) hST rfl Try.call86 (by exact args1 rfl) ((w_ref04_Bytes a0.C _ _  hr64)) (fun W65 hST => ?_))
          obtain ⟨s66, hs67, hm60⟩ := bind_some hm60
          refine LV (R_cat rfl rfl hs67) ?_
          refine LV (R_assign (v := (.string s66)) rfl) ?_
          refine LW_nil ?_
          refine sq_n ?_
          replace hm60 := Option.some.inj hm60; subst hm60
          exact ⟨s66, _, (hST.sublist (List.Sublist.cons _ (List.Sublist.refl _))), rfl, hm61⟩
        · replace hm60 := if_f hb62 hm60
          refine CW_skip ?_
          refine sq_n ?_
          replace hm60 := Option.some.inj hm60; subst hm60
          exact ⟨x44, _, (hST.sublist (List.Sublist.cons _ (List.Sublist.refl _))), e48, hm61⟩
      · rintro E W ⟨x55, L56, hST, e58, hm57⟩
        refine CW_seq ?_
        refine CW_region ?_
        refine LV (R_move (v := (.string x55)) e58) ?_
        refine LV (R_assign (v := (.string x55)) rfl) ?_
        refine LW_nil ?_
        refine sq_n ?_
        refine CW_ret ?_
        replace hm57 := Option.some.inj hm57; subst hm57
        refine retQ_1 (v := (.string x55)) rfl rfl ?_
        exact ⟨rfl, hST.ex⟩
theorem w_ref05_bytes (a0 : Cred) (r : ByteArray) (w : World)  (hm : m_ref05_bytes a0 = some r) :
    Gives true Try.prog 53 [(.agg (encCred a0).toArray)] w (.string r) := by
  have hST := ST.start (dd := true) w
  unfold m_ref05_bytes at hm
  refine calls_of_CW (n := 8) Try.func53 rfl rfl (Nat.le_of_ble_eq_true rfl) ?_
  refine CW_seq ?_
  refine CW_region ?_
  refine LE (E_box (v := (.agg (encCred a0).toArray)) hST rfl (fun W2 b1 hST => ?_))
  refine LV (R_assign (v := (.string zS)) rfl) ?_
  refine LW_nil ?_
  refine sq_n ?_
  refine CW_seq ?_
  refine CW_seq ?_
  refine CW_region ?_
  refine LV (R_load (v := (.agg (encCred a0).toArray)) rfl (load_boxA hST.has (.head _) (encCred a0) rfl Try.isAgg36 Try.sizeOf36)) ?_
  obtain ⟨r3, hr4, hm⟩ := bind_some hm
  refine LE (E_gives (args := [(.agg (encCred a0).toArray)]) hST rfl Try.call33 (by exact args1 rfl) ((w_ref05_Right a0 _ _  hr4)) (fun W5 hST => ?_))
  refine LV (R_not (b := r3) rfl) ?_
  refine LW_nil ?_
  refine sq_n ?_
  refine CW_if (b := (!r3)) rfl (fun hb6 => ?_) (fun hb6 => ?_)
  · replace hm := if_t hb6 hm
    refine CW_seq ?_
    refine CW_region ?_
    refine LV (R_assign (v := (.string zS)) rfl) ?_
    refine LW_nil ?_
    refine sq_n ?_
    replace hST : ST true NoF w _ _ [] := hST.sublist (List.Sublist.cons _ (List.Sublist.refl _))
    refine CW_ret ?_
    refine sq_r ?_
    replace hm := Option.some.inj hm; subst hm
    refine retQ_1 (v := (.string zS)) rfl rfl ?_
    exact ⟨rfl, hST.ex⟩
  · replace hm := if_f hb6 hm
    refine CW_skip ?_
    refine sq_n ?_
    refine CW_seq ?_
    refine CW_region ?_
    refine LV (R_load (v := (.agg (encCred a0).toArray)) rfl (load_boxA hST.has (.head _) (encCred a0) rfl Try.isAgg36 Try.sizeOf36)) ?_
    obtain ⟨r7, hr8, hm⟩ := bind_some hm
    refine LE (E_gives (args := [(.agg (encCred a0).toArray)]) hST rfl Try.call75 (by exact args1 rfl) ((w_ref05_Bytes a0 _ _  hr8)) (fun W9 hST => ?_))
    refine LV (R_assign (v := (.string r7)) rfl) ?_
    refine LW_nil ?_
    refine sq_n ?_
    replace hST : ST true NoF w _ _ [] := hST.sublist (List.Sublist.cons _ (List.Sublist.refl _))
    refine CW_ret ?_
    replace hm := Option.some.inj hm; subst hm
    refine retQ_1 (v := (.string r7)) rfl rfl ?_
    exact ⟨rfl, hST.ex⟩
theorem w_ref05_Compare (a0 : Cred) (a1 : Cred) (r : Int) (w : World)  (hm : m_ref05_Compare a0 a1 = some r) :
    Gives true Try.prog 34 [(.agg (encCred a0).toArray), (.agg (encCred a1).toArray)] w (.int .i64 r) := by
  have hST := ST.start (dd := true) w
  unfold m_ref05_Compare at hm
  refine calls_of_CW (n := 17) Try.func34 rfl rfl (Nat.le_of_ble_eq_true rfl) ?_
  refine CW_seq ?_
  refine CW_region ?_
  refine LE (E_box (v := (.agg (encCred a0).toArray)) hST rfl (fun W2 b1 hST => ?_))
  refine LE (E_box (v := (.agg (encCred a1).toArray)) hST rfl (fun W4 b3 hST => ?_))
  refine LV (R_assign (v := (.int .i64 0)) rfl) ?_
  refine LW_nil ?_
  refine sq_n ?_
  refine CW_seq ?_
  refine CW_region ?_
  refine LV (R_load (v := (.agg (encCred a0).toArray)) rfl (load_boxA hST.has (.tail _ (.head _)) (encCred a0) rfl Try.isAgg36 Try.sizeOf36)) ?_
  obtain ⟨r5, hr6, hm⟩ := bind_some hm
  refine LE (E_gives (args := [(.agg (encCred a0).toArray)]) hST rfl Try.call53 (by exact args1 rfl) ((w_ref05_bytes a0 _ _  hr6)) (fun W7 hST => ?_))
  refine LV (R_assign (v := (.string r5)) rfl) ?_
  refine LW_nil ?_
  refine sq_n ?_
  replace hST : ST true NoF w _ _ ((b3, Obj.cells ((encCred a1).toArray : Array Value) 36 (0, 0)) :: []) := hST.sublist (List.Sublist.cons_cons _ (List.Sublist.cons _ (List.Sublist.refl _)))
  refine CW_seq ?_
  refine CW_region ?_
  refine LV (R_load (v := (.agg (encCred a1).toArray)) rfl (load_boxA hST.has (.head _) (encCred a1) rfl Try.isAgg36 Try.sizeOf36)) ?_
  obtain ⟨r8, hr9, hm⟩ := bind_some hm
  refine LE (E_gives (args := [(.agg (encCred a1).toArray)]) hST rfl Try.call53 (by exact args1 rfl) ((w_ref05_bytes a1 _ _  hr9)) (fun W10 hST => ?_))
  refine LV (R_assign (v := (.string r8)) rfl) ?_
  refine LW_nil ?_
  refine sq_n ?_
  replace hST : ST true NoF w _ _ [] := hST.sublist (List.Sublist.cons _ (List.Sublist.refl _))
  refine CW_seq ?_
  refine CW_seq ?_
  refine CW_region ?_
  refine LV (R_move (v := (.string r5)) rfl) ?_
  refine LV (R_move (v := (.string r8)) rfl) ?_
  refine LV (R_str (a := r5) (b := r8) (v := (.bool ((ltS r5 r8)))) rfl rfl rfl) ?_
  refine LW_nil ?_
  refine sq_n ?_
  refine CW_if (b := (ltS r5 r8)) rfl (fun hb11 => ?_) (fun hb11 => ?_)
  · replace hm := if_t hb11 hm
    refine CW_seq ?_
    refine CW_region ?_
    refine LV (R_assign (v := (.int .i64 ((-1)))) rfl) ?_
    refine LW_nil ?_
    refine sq_n ?_
    refine CW_ret ?_
    refine sq_r ?_
    replace hm := Option.some.inj hm; subst hm
    refine retQ_1 (v := (.int .i64 ((-1)))) rfl rfl ?_
    exact ⟨rfl, hST.ex⟩
  · replace hm := if_f hb11 hm
    refine CW_skip ?_
    refine sq_n ?_
    refine CW_seq ?_
    refine CW_seq ?_
    refine CW_region ?_
    refine LV (R_move (v := (.string r5)) rfl) ?_
    refine LV (R_move (v := (.string r8)) rfl) ?_
    refine LV (R_str (a := r5) (b := r8) (v := (.bool ((!(ltS r5 r8 || beqS r5 r8))))) rfl rfl rfl) ?_
    refine LW_nil ?_
    refine sq_n ?_
    refine CW_if (b := (!(ltS r5 r8 || beqS r5 r8))) rfl (fun hb12 => ?_) (fun hb12 => ?_)
    · replace hm := if_t hb12 hm
      refine CW_seq ?_
      refine CW_region ?_
      refine LV (R_assign (v := (.int .i64 1)) rfl) ?_
      refine LW_nil ?_
      refine sq_n ?_
      refine CW_ret ?_
      refine sq_r ?_
      replace hm := Option.some.inj hm; subst hm
      refine retQ_1 (v := (.int .i64 1)) rfl rfl ?_
      exact ⟨rfl, hST.ex⟩
    · replace hm := if_f hb12 hm
      refine CW_skip ?_
      refine sq_n ?_
      refine CW_seq ?_
      refine CW_region ?_
      refine LV (R_assign (v := (.int .i64 0)) rfl) ?_
      refine LW_nil ?_
      refine sq_n ?_
      refine CW_ret ?_
      replace hm := Option.some.inj hm; subst hm
      refine retQ_1 (v := (.int .i64 0)) rfl rfl ?_
      exact ⟨rfl, hST.ex⟩
theorem w_ref05_Set (v_a0 : Value) (a0 : List Cred) (r : List Cred) (w : World) (h_a0 : Sl (Pl encCred) 9 (hp w) v_a0 a0) (hm : m_ref05_Set a0 = some r) :
    GivesRow true Try.prog 13 [v_a0] w 36 encCred 9 r := by
  have hST := ST.start (dd := true) w
  unfold m_ref05_Set at hm
  refine calls_of_CW (n := 51) Try.func13 rfl rfl (Nat.le_of_ble_eq_true rfl) ?_
  refine CW_seq ?_
  refine CW_region ?_
  refine LV (R_assign (v := (.slice none 0 0)) rfl) ?_
  refine LW_nil ?_
  refine sq_n ?_
  refine CW_seq ?_
  refine CW_region ?_
  refine LV (R_assign (v := (.slice none 0 0)) rfl) ?_
  refine LW_nil ?_
  refine sq_n ?_
  refine CW_tail ?_
  refine CW_block (CW_loop (fun m E W => ∃ (v11496 : Value) (l11497 : List Cred) (R11499 : List (Nat × Obj)) (L14376 : List (Nat × Obj)), ST true NoF w W (hp w) (R11499 ++ L14376) ∧ E 0 = v_a0 ∧ E 3 = v11496 ∧ Row 36 encCred 9 v11496 l11497 R11499 ∧ m_ref05_Set_L1 a0 m l11497 = some r) FUEL ⟨(.slice none 0 0), ([]), [], _, (hST.sublist (List.Sublist.refl _)), rfl, rfl, (Row.nil _ _ _), hm⟩ ?_)
  rintro m E W ⟨v11496, l11497, R11499, L14376, hST, e14379, e14380, hs11498, hm14377⟩
  cases m with
  | zero => rw [m_ref05_Set_L1] at hm14377; cases hm14377
  | succ n14378 =>
    rw [m_ref05_Set_L1] at hm14377
    refine CW_block ?_
    refine CW_seq ?_
    refine CW_region ?_
    refine LE (E_alloc hST Try.zeroValue36 (fun W14382 b14381 hST => ?_))
    refine LW_nil ?_
    refine sq_n ?_
    refine CW_seq ?_
    refine CW_region ?_
    refine LV (R_assign (v := (.bool false)) rfl) ?_
    refine LW_nil ?_
    refine sq_n ?_
    refine CW_seq ?_
    refine CW_seq ?_
    refine CW_region ?_
    refine LV (R_move (v := v_a0) e14379) ?_
    refine LV (R_len Try.underlying24 rfl h_a0) ?_
    refine LV (R_move (v := (.int .i64 0)) rfl) ?_
    refine LW_nil ?_
    refine sq_n ?_
    obtain ⟨s15824, hm15825, hm15826⟩ := bind_some hm14377
    refine CW_cut (fun E W => ∃ (x15807 : Bool) (x15808 : Cred) (L15809 : List (Nat × Obj)), ST true NoF w W (hp w) ((b14381, Obj.cells ((encCred x15808).toArray : Array Value) 36 (0, 0)) :: (R11499 ++ L15809)) ∧ E 0 = v_a0 ∧ E 3 = v11496 ∧ E 4 = (.pointer (some ⟨b14381, 0, none⟩)) ∧ E 5 = (.bool x15807) ∧ (if (!x15807) then some l11497 else (((appB 136 l11497 ([x15808]))).bind fun l15818 => (m_ref05_Set_L1 a0 n14378 l15818))) = some r) ?_ ?_
    · refine CW_range (fun i E W => ∃ (x16301 : Bool) (x16302 : Cred) (L16777 : List (Nat × Obj)), (E 10 = .int .i64 (i : Nat) ∧ E 9 = .int .i64 (a0.length : Nat)) ∧ ST true NoF w W (hp w) ((b14381, Obj.cells ((encCred x16302).toArray : Array Value) 36 (0, 0)) :: (R11499 ++ L16777)) ∧ E 0 = v_a0 ∧ E 3 = v11496 ∧ E 4 = (.pointer (some ⟨b14381, 0, none⟩)) ∧ E 5 = (.bool x16301) ∧ E 8 = v_a0 ∧ m_ref05_Set_L2 l11497 (a0.drop i) x16301 x16302 = some s15824) a0.length h_a0.len ⟨false, ((⟨0, (⟨zS, zS⟩ : Role), zS, (⟨zS, zS⟩ : Role), (⟨zS, zS⟩ : Role), zS⟩ : Cred)), _, ⟨rfl, rfl⟩, (hST.sublist (List.Sublist.refl _)), e14379, e14380, rfl, rfl, rfl, hm15825⟩ (by decide) (by decide) (by decide) (fun _ _ _ h => by obtain ⟨_, _, _, eIN, _⟩ := h; exact eIN) ?_ ?_
      · rintro i15827 E W hi15833 ⟨x16301, x16302, L16777, ⟨eI, eN⟩, hST, e16779, e16780, e16781, e16782, e16783, hm16778⟩
        obtain ⟨x15828, xs15829, hx15831, hx15830, hx15832⟩ := drop_cons hi15833
        rw [hx15831] at hm16778
        rw [m_ref05_Set_L2] at hm16778
        refine CW_block ?_
        refine CW_seq ?_
        refine CW_region ?_
        refine LQ (R_indexP (enc := encCred) (i := (i15827 : Int)) (x0 := x15828) Try.underlying24 Try.sizeOf36 e16783 eI h_a0 (Int.natCast_nonneg _) hx15830) (fun p16784 hp16785 => ?_)
        refine LV (R_load rfl (load_atA hST.has hp16785 Try.isAgg36 Try.sizeOf36)) ?_
        refine LE (E_alloc hST Try.zeroValue36 (fun W16788 b16787 hST => ?_))
        refine LW_e0 (.inl rfl) rfl (E_store [] (.agg (encCred x15828).toArray) ((encCred x15828).toArray) hST rfl rfl Try.sizeOf36 (oneCred x15828) (Nat.le_of_ble_eq_true rfl) rfl (fun W16789 hST => ?_))
        refine LW_nil ?_
        refine sq_n ?_
        refine CW_seq ?_
        refine PX_start (fun l W => Has (hp w) ((b16787, Obj.cells ((encCred x15828).toArray : Array Value) 36 (0, 0)) :: ((b14381, Obj.cells ((encCred x16302).toArray : Array Value) 36 (0, 0)) :: (R11499 ++ []))) W) Try_mixed ?_
        replace hST := hST.drew
        replace hST : ST true NoF w _ _ ((b16787, Obj.cells ((encCred x15828).toArray : Array Value) 36 (0, 0)) :: ((b14381, Obj.cells ((encCred x16302).toArray : Array Value) 36 (0, 0)) :: (R11499 ++ L16777))) := hST
        have hS0 : Has (hp w) ((b16787, Obj.cells ((encCred x15828).toArray : Array Value) 36 (0, 0)) :: ((b14381, Obj.cells ((encCred x16302).toArray : Array Value) 36 (0, 0)) :: (R11499 ++ []))) _ := hST.has.sub (Sub.refl _) (fun p hq => ((List.mem_cons.1 hq).elim (fun hq => by rw [hq]; exact (.head _)) (fun hq => ((List.mem_cons.1 hq).elim (fun hq => by rw [hq]; exact (.tail _ (.head _))) (fun hq => ((List.mem_append.1 hq).elim (fun hq => (.tail _ (.tail _ (List.mem_append_left _ hq)))) (fun hq => (absurd hq List.not_mem_nil))))))))
        refine PX_v 0 rfl (by kernel_rfl) (.inl rfl) rfl (by decide) (fun _ _ h => h) hS0 (fun l W hpd hs => have hS := hs; R_load (v := (.agg (encCred x15828).toArray)) rfl (load_boxA hS (.head _) (encCred x15828) rfl Try.isAgg36 Try.sizeOf36)) ?_
        obtain ⟨r17096, hr17097, hm16778⟩ := bind_some hm16778
        refine PX_e 1 rfl (by kernel_rfl) (.inl rfl) rfl (by decide) (E_gives (args := [(.agg (encCred x15828).toArray)]) hST rfl Try.call33 (by exact args1 rfl) ((w_ref05_Right x15828 _ _  hr17097)) (fun W17098 hST => ?_))
        have hS0 : Has (hp w) ((b16787, Obj.cells ((encCred x15828).toArray : Array Value) 36 (0, 0)) :: ((b14381, Obj.cells ((encCred x16302).toArray : Array Value) 36 (0, 0)) :: (R11499 ++ []))) _ := hST.has.sub (Sub.refl _) (fun p hq => ((List.mem_cons.1 hq).elim (fun hq => by rw [hq]; exact (.head _)) (fun hq => ((List.mem_cons.1 hq).elim (fun hq => by rw [hq]; exact (.tail _ (.head _))) (fun hq => ((List.mem_append.1 hq).elim (fun hq => (.tail _ (.tail _ (List.mem_append_left _ hq)))) (fun hq => (absurd hq List.not_mem_nil))))))))
        refine ⟨hS0, ?_⟩
        refine PV 2 rfl hS0 (R_move (v := (.bool r17096)) rfl) ?_
        obtain ⟨s17213, hm17214, hm17215⟩ := bind_some hm16778
        refine PX_join (J := fun E W => ∃ (x17134 : Bool) (L17135 : List (Nat × Obj)), ST true NoF w W (hp w) ((b16787, Obj.cells ((encCred x15828).toArray : Array Value) 36 (0, 0)) :: ((b14381, Obj.cells ((encCred x16302).toArray : Array Value) 36 (0, 0)) :: (R11499 ++ L17135))) ∧ E 0 = v_a0 ∧ E 3 = v11496 ∧ E 4 = (.pointer (some ⟨b14381, 0, none⟩)) ∧ E 5 = (.bool x16301) ∧ E 7 = (.pointer (some ⟨b16787, 0, none⟩)) ∧ E 8 = v_a0 ∧ E 9 = (.int .i64 ((a0.length : Int))) ∧ E 10 = (.int .i64 ((i15827 : Int))) ∧ E 31 = (.bool x17134) ∧ (((if x17134 then (((if (!x16301) then some true else (((m_ref05_Compare x15828 x16302)).bind fun r17210 => some ((decide (r17210 < 0))))) : Option Bool).bind fun x17193 => some x17193) else some false) : Option Bool).bind fun x17171 => (if x17171 then (m_ref05_Set_L2 l11497 xs15829 true x15828) else (m_ref05_Set_L2 l11497 xs15829 x16301 x16302))) = some s15824) #[true, true, true, true, true, true, true, true, true, true, true, true, true, true, true, true, true, true, false, false, false, false, false, false, false, false, false, false] 10 ?_ (fun key17216 => ?_)
        · rintro E W ⟨x17134, L17135, hST, e17137, e17138, e17139, e17140, e17141, e17142, e17143, e17144, e17145, hm17136⟩
          have hS0 : Has (hp w) ((b16787, Obj.cells ((encCred x15828).toArray : Array Value) 36 (0, 0)) :: ((b14381, Obj.cells ((encCred x16302).toArray : Array Value) 36 (0, 0)) :: (R11499 ++ []))) _ := hST.has.sub (Sub.refl _) (fun p hq => ((List.mem_cons.1 hq).elim (fun hq => by rw [hq]; exact (.head _)) (fun hq => ((List.mem_cons.1 hq).elim (fun hq => by rw [hq]; exact (.tail _ (.head _))) (fun hq => ((List.mem_append.1 hq).elim (fun hq => (.tail _ (.tail _ (List.mem_append_left _ hq)))) (fun hq => (absurd hq List.not_mem_nil))))))))
          refine PV 18 rfl hS0 (R_move (v := (.bool x17134)) e17145) ?_
          obtain ⟨s17185, hm17186, hm17187⟩ := bind_some hm17136
          refine PX_join (J := fun E W => ∃ (x17171 : Bool) (L17172 : List (Nat × Obj)), ST true NoF w W (hp w) ((b16787, Obj.cells ((encCred x15828).toArray : Array Value) 36 (0, 0)) :: ((b14381, Obj.cells ((encCred x16302).toArray : Array Value) 36 (0, 0)) :: (R11499 ++ L17172))) ∧ E 0 = v_a0 ∧ E 3 = v11496 ∧ E 4 = (.pointer (some ⟨b14381, 0, none⟩)) ∧ E 5 = (.bool x16301) ∧ E 7 = (.pointer (some ⟨b16787, 0, none⟩)) ∧ E 8 = v_a0 ∧ E 9 = (.int .i64 ((a0.length : Int))) ∧ E 10 = (.int .i64 ((i15827 : Int))) ∧ E 41 = (.bool x17171) ∧ (if x17171 then (m_ref05_Set_L2 l11497 xs15829 true x15828) else (m_ref05_Set_L2 l11497 xs15829 x16301 x16302)) = some s15824) #[true, true, true, true, true, true, true, true, true, true, true, true, true, true, true, true, true, true, true, true, true, true, true, true, true, true, true, true] 0 ?_ (fun key17188 => ?_)
          · rintro E W ⟨x17171, L17172, hST, e17174, e17175, e17176, e17177, e17178, e17179, e17180, e17181, e17182, hm17173⟩
            have hS0 : Has (hp w) ((b16787, Obj.cells ((encCred x15828).toArray : Array Value) 36 (0, 0)) :: ((b14381, Obj.cells ((encCred x16302).toArray : Array Value) 36 (0, 0)) :: (R11499 ++ []))) _ := hST.has.sub (Sub.refl _) (fun p hq => ((List.mem_cons.1 hq).elim (fun hq => by rw [hq]; exact (.head _)) (fun hq => ((List.mem_cons.1 hq).elim (fun hq => by rw [hq]; exact (.tail _ (.head _))) (fun hq => ((List.mem_append.1 hq).elim (fun hq => (.tail _ (.tail _ (List.mem_append_left _ hq)))) (fun hq => (absurd hq List.not_mem_nil))))))))
            refine PX_done (by kernel_rfl) ?_
            refine sq_n ?_
            refine CW_if (b := x17171) e17182 (fun hb17183 => ?_) (fun hb17183 => ?_)
            · replace hm17173 := if_t hb17183 hm17173
              refine CW_seq ?_
              refine CW_region ?_
              refine LV (R_load (v := (.agg (encCred x15828).toArray)) e17178 (load_boxA hST.has (.head _) (encCred x15828) rfl Try.isAgg36 Try.sizeOf36)) ?_
              refine LW_e0 (.inl rfl) rfl (E_store [_] (.agg (encCred x15828).toArray) ((encCred x15828).toArray) hST e17176 rfl Try.sizeOf36 (oneCred x15828) (Nat.le_of_ble_eq_true rfl) rfl (fun W17184 hST => ?_))
              refine LW_nil ?_
              refine sq_n ?_
              replace hST : ST true NoF w _ _ ((b16787, Obj.cells ((encCred x15828).toArray : Array Value) 36 (0, 0)) :: ((b14381, Obj.cells ((encCred x15828).toArray : Array Value) 36 (0, 0)) :: (R11499 ++ L17172))) := hST
              replace hST : ST true NoF w _ _ ((b14381, Obj.cells ((encCred x15828).toArray : Array Value) 36 (0, 0)) :: (R11499 ++ L17172)) := hST.sublist (List.Sublist.cons _ (List.Sublist.refl _))
              refine CW_region ?_
              refine LV (R_assign (v := (.bool true)) rfl) ?_
              refine LW_nil ?_
              refine bq_n ?_
              refine sq_n ?_
              exact ⟨e17181, true, x15828, _, ⟨rfl, e17180⟩, (hST.sublist (List.Sublist.refl _)), e17174, e17175, e17176, rfl, e17179, (by rw [hx15832]; exact hm17173)⟩
            · replace hm17173 := if_f hb17183 hm17173
              refine CW_skip ?_
              refine bq_n ?_
              refine sq_n ?_
              replace hST : ST true NoF w _ _ ((b14381, Obj.cells ((encCred x16302).toArray : Array Value) 36 (0, 0)) :: (R11499 ++ L17172)) := hST.sublist (List.Sublist.cons _ (List.Sublist.refl _))
              exact ⟨e17181, x16301, x16302, _, ⟨rfl, e17180⟩, (hST.sublist (List.Sublist.refl _)), e17174, e17175, e17176, e17177, e17179, (by rw [hx15832]; exact hm17173)⟩
          · rcases bool_cases x17134 with hb17146 | hb17146
            · replace hm17186 := if_t hb17146 hm17186
              refine PX_v 19 rfl (by kernel_rfl) (.inr ⟨18, true, 32, rfl, rfl, by decide, (congrArg Value.bool hb17146)⟩) rfl (by decide) (fun _ _ h => h) hS0 (fun _ _ _ _ => R_move (v := (.bool x16301)) e17140) ?_
              refine PX_v 20 rfl (by kernel_rfl) (.inr ⟨18, true, 32, rfl, rfl, by decide, (congrArg Value.bool hb17146)⟩) rfl (by decide) (fun _ _ h => h) hS0 (fun _ _ _ _ => R_not (b := x16301) rfl) ?_
              refine PX_v 21 rfl (by kernel_rfl) (.inr ⟨18, true, 32, rfl, rfl, by decide, (congrArg Value.bool hb17146)⟩) rfl (by decide) (fun _ _ h => h) hS0 (fun _ _ _ _ => R_move (v := (.bool ((!x16301)))) rfl) ?_
              obtain ⟨s17206, hm17207, hm17208⟩ := bind_some hm17186
              refine PX_join (J := fun E W => ∃ (x17193 : Bool) (L17194 : List (Nat × Obj)), ST true NoF w W (hp w) ((b16787, Obj.cells ((encCred x15828).toArray : Array Value) 36 (0, 0)) :: ((b14381, Obj.cells ((encCred x16302).toArray : Array Value) 36 (0, 0)) :: (R11499 ++ L17194))) ∧ E 0 = v_a0 ∧ E 3 = v11496 ∧ E 4 = (.pointer (some ⟨b14381, 0, none⟩)) ∧ E 5 = (.bool x16301) ∧ E 7 = (.pointer (some ⟨b16787, 0, none⟩)) ∧ E 8 = v_a0 ∧ E 9 = (.int .i64 ((a0.length : Int))) ∧ E 10 = (.int .i64 ((i15827 : Int))) ∧ E 32 = (.bool x17134) ∧ E 40 = (.bool x17193) ∧ some x17193 = some s17185) #[true, true, true, true, true, true, true, true, true, true, true, true, true, true, true, true, true, true, true, true, true, true, true, true, true, true, true, false] 1 ?_ (fun key17209 => ?_)
              · rintro E W ⟨x17193, L17194, hST, e17196, e17197, e17198, e17199, e17200, e17201, e17202, e17203, e17204, e17205, hm17195⟩
                have hS0 : Has (hp w) ((b16787, Obj.cells ((encCred x15828).toArray : Array Value) 36 (0, 0)) :: ((b14381, Obj.cells ((encCred x16302).toArray : Array Value) 36 (0, 0)) :: (R11499 ++ []))) _ := hST.has.sub (Sub.refl _) (fun p hq => ((List.mem_cons.1 hq).elim (fun hq => by rw [hq]; exact (.head _)) (fun hq => ((List.mem_cons.1 hq).elim (fun hq => by rw [hq]; exact (.tail _ (.head _))) (fun hq => ((List.mem_append.1 hq).elim (fun hq => (.tail _ (.tail _ (List.mem_append_left _ hq)))) (fun hq => (absurd hq List.not_mem_nil))))))))
                refine PV 27 rfl hS0 (R_pickT (v := (.bool x17193)) (e17204.trans (congrArg Value.bool hb17146)) e17205) ?_
                replace hm17195 := Option.some.inj hm17195; subst hm17195
                refine PX_at (by kernel_rfl) (key17188 _ _ ⟨x17193, _, (hST.sublist (List.Sublist.refl _)), e17196, e17197, e17198, e17199, e17200, e17201, e17202, e17203, rfl, hm17187⟩)
              · rcases bool_cases ((!x16301)) with hb17189 | hb17189
                · replace hm17207 := if_t hb17189 hm17207
                  refine PX_no 22 rfl (by kernel_rfl) rfl rfl (by decide) (congrArg Value.bool hb17189) rfl (by decide) (fun _ _ h => h) hS0 ?_
                  refine PX_no 23 rfl (by kernel_rfl) rfl rfl (by decide) (congrArg Value.bool hb17189) rfl (by decide) (fun _ _ h => h) hS0 ?_
                  refine PX_no 24 rfl (by kernel_rfl) rfl rfl (by decide) (congrArg Value.bool hb17189) rfl (by decide) (fun _ _ h => h) hS0 ?_
                  refine PX_no 25 rfl (by kernel_rfl) rfl rfl (by decide) (congrArg Value.bool hb17189) rfl (by decide) (fun _ _ h => h) hS0 ?_
                  refine PX_v 26 rfl (by kernel_rfl) (.inr ⟨18, true, 32, rfl, rfl, by decide, (congrArg Value.bool hb17146)⟩) rfl (by decide) (fun _ _ h => h) hS0 (fun _ _ _ _ => R_pickT (v := (.bool true)) (congrArg Value.bool hb17189) rfl) ?_
                  replace hm17207 := Option.some.inj hm17207; subst hm17207
                  refine PX_at (by kernel_rfl) (key17209 _ _ ⟨true, _, (hST.sublist (List.Sublist.refl _)), e17137, e17138, e17139, e17140, e17141, e17142, e17143, e17144, rfl, rfl, hm17208⟩)
                · replace hm17207 := if_f hb17189 hm17207
                  refine PX_v 22 rfl (by kernel_rfl) (.inr ⟨21, false, 35, rfl, rfl, by decide, (congrArg Value.bool hb17189)⟩) rfl (by decide) (fun _ _ h => h) hS0 (fun l W hpd hs => have hS := hs; R_load (v := (.agg (encCred x15828).toArray)) e17141 (load_boxA hS (.head _) (encCred x15828) rfl Try.isAgg36 Try.sizeOf36)) ?_
                  refine PX_v 23 rfl (by kernel_rfl) (.inr ⟨21, false, 35, rfl, rfl, by decide, (congrArg Value.bool hb17189)⟩) rfl (by decide) (fun _ _ h => h) hS0 (fun l W hpd hs => have hS := hs; R_load (v := (.agg (encCred x16302).toArray)) e17139 (load_boxA hS (.tail _ (.head _)) (encCred x16302) rfl Try.isAgg36 Try.sizeOf36)) ?_
                  obtain ⟨r17210, hr17211, hm17207⟩ := bind_some hm17207
                  refine PX_e 24 rfl (by kernel_rfl) (.inr ⟨21, false, 35, rfl, rfl, by decide, (congrArg Value.bool hb17189)⟩) rfl (by decide) (E_gives (args := [(.agg (encCred x15828).toArray), (.agg (encCred x16302).toArray)]) hST rfl Try.call34 (by exact args2 rfl rfl) ((w_ref05_Compare x15828 x16302 _ _  hr17211)) (fun W17212 hST => ?_))
                  have hS0 : Has (hp w) ((b16787, Obj.cells ((encCred x15828).toArray : Array Value) 36 (0, 0)) :: ((b14381, Obj.cells ((encCred x16302).toArray : Array Value) 36 (0, 0)) :: (R11499 ++ []))) _ := hST.has.sub (Sub.refl _) (fun p hq => ((List.mem_cons.1 hq).elim (fun hq => by rw [hq]; exact (.head _)) (fun hq => ((List.mem_cons.1 hq).elim (fun hq => by rw [hq]; exact (.tail _ (.head _))) (fun hq => ((List.mem_append.1 hq).elim (fun hq => (.tail _ (.tail _ (List.mem_append_left _ hq)))) (fun hq => (absurd hq List.not_mem_nil))))))))
                  refine ⟨hS0, ?_⟩
                  refine PX_v 25 rfl (by kernel_rfl) (.inr ⟨21, false, 35, rfl, rfl, by decide, (congrArg Value.bool hb17189)⟩) rfl (by decide) (fun _ _ h => h) hS0 (fun _ _ _ _ => R_int (k := .i64) (a := r17210) (b := 0) (v := (.bool ((decide (r17210 < 0))))) rfl rfl rfl) ?_
                  refine PX_v 26 rfl (by kernel_rfl) (.inr ⟨18, true, 32, rfl, rfl, by decide, (congrArg Value.bool hb17146)⟩) rfl (by decide) (fun _ _ h => h) hS0 (fun _ _ _ _ => R_pickF (v := (.bool ((decide (r17210 < 0))))) (congrArg Value.bool hb17189) rfl) ?_
                  replace hm17207 := Option.some.inj hm17207; subst hm17207
                  refine PX_at (by kernel_rfl) (key17209 _ _ ⟨((decide (r17210 < 0))), _, (hST.sublist (List.Sublist.refl _)), e17137, e17138, e17139, e17140, e17141, e17142, e17143, e17144, rfl, rfl, hm17208⟩)
            · replace hm17186 := if_f hb17146 hm17186
              refine PX_no 19 rfl (by kernel_rfl) rfl rfl (by decide) (congrArg Value.bool hb17146) rfl (by decide) (fun _ _ h => h) hS0 ?_
              refine PX_no 20 rfl (by kernel_rfl) rfl rfl (by decide) (congrArg Value.bool hb17146) rfl (by decide) (fun _ _ h => h) hS0 ?_
              refine PX_no 21 rfl (by kernel_rfl) rfl rfl (by decide) (congrArg Value.bool hb17146) rfl (by decide) (fun _ _ h => h) hS0 ?_
              refine PX_nou 22 rfl (by kernel_rfl) rfl rfl (by decide) rfl rfl (by decide) (fun _ _ h => h) hS0 ?_
              refine PX_nou 23 rfl (by kernel_rfl) rfl rfl (by decide) rfl rfl (by decide) (fun _ _ h => h) hS0 ?_
              refine PX_nou 24 rfl (by kernel_rfl) rfl rfl (by decide) rfl rfl (by decide) (fun _ _ h => h) hS0 ?_
              refine PX_nou 25 rfl (by kernel_rfl) rfl rfl (by decide) rfl rfl (by decide) (fun _ _ h => h) hS0 ?_
              refine PX_no 26 rfl (by kernel_rfl) rfl rfl (by decide) (congrArg Value.bool hb17146) rfl (by decide) (fun _ _ h => h) hS0 ?_
              refine PV 27 rfl hS0 (R_pickF (v := (.bool false)) (congrArg Value.bool hb17146) rfl) ?_
              replace hm17186 := Option.some.inj hm17186; subst hm17186
              refine PX_at (by kernel_rfl) (key17188 _ _ ⟨false, _, (hST.sublist (List.Sublist.refl _)), e17137, e17138, e17139, e17140, e17141, e17142, e17143, e17144, rfl, hm17187⟩)
        · rcases bool_cases r17096 with hb17099 | hb17099
          · replace hm17214 := if_t hb17099 hm17214
            refine PX_v 3 rfl (by kernel_rfl) (.inr ⟨2, true, 16, rfl, rfl, by decide, (congrArg Value.bool hb17099)⟩) rfl (by decide) (fun _ _ h => h) hS0 (fun _ _ _ _ => R_move (v := v11496) e16780) ?_
            refine PX_v 4 rfl (by kernel_rfl) (.inr ⟨2, true, 16, rfl, rfl, by decide, (congrArg Value.bool hb17099)⟩) rfl (by decide) (fun _ _ h => h) hS0 (fun _ _ _ _ => R_lenRow Try.underlying24 rfl hs11498) ?_
            refine PX_v 5 rfl (by kernel_rfl) (.inr ⟨2, true, 16, rfl, rfl, by decide, (congrArg Value.bool hb17099)⟩) rfl (by decide) (fun _ _ h => h) hS0 (fun _ _ _ _ => R_int (k := .i64) (a := ((l11497.length : Int))) (b := 0) (v := (.bool ((((l11497.length : Int)) == 0)))) rfl rfl rfl) ?_
            refine PX_v 6 rfl (by kernel_rfl) (.inr ⟨2, true, 16, rfl, rfl, by decide, (congrArg Value.bool hb17099)⟩) rfl (by decide) (fun _ _ h => h) hS0 (fun _ _ _ _ => R_move (v := (.bool ((((l11497.length : Int)) == 0)))) rfl) ?_
            obtain ⟨s17239, hm17240, hm17241⟩ := bind_some hm17214
            refine PX_join (J := fun E W => ∃ (x17226 : Bool) (L17227 : List (Nat × Obj)), ST true NoF w W (hp w) ((b16787, Obj.cells ((encCred x15828).toArray : Array Value) 36 (0, 0)) :: ((b14381, Obj.cells ((encCred x16302).toArray : Array Value) 36 (0, 0)) :: (R11499 ++ L17227))) ∧ E 0 = v_a0 ∧ E 3 = v11496 ∧ E 4 = (.pointer (some ⟨b14381, 0, none⟩)) ∧ E 5 = (.bool x16301) ∧ E 7 = (.pointer (some ⟨b16787, 0, none⟩)) ∧ E 8 = v_a0 ∧ E 9 = (.int .i64 ((a0.length : Int))) ∧ E 10 = (.int .i64 ((i15827 : Int))) ∧ E 16 = (.bool r17096) ∧ E 30 = (.bool x17226) ∧ some x17226 = some s17213) #[true, true, true, true, true, true, true, true, true, true, true, true, true, true, true, true, true, false, false, false, false, false, false, false, false, false, false, false] 11 ?_ (fun key17242 => ?_)
            · rintro E W ⟨x17226, L17227, hST, e17229, e17230, e17231, e17232, e17233, e17234, e17235, e17236, e17237, e17238, hm17228⟩
              have hS0 : Has (hp w) ((b16787, Obj.cells ((encCred x15828).toArray : Array Value) 36 (0, 0)) :: ((b14381, Obj.cells ((encCred x16302).toArray : Array Value) 36 (0, 0)) :: (R11499 ++ []))) _ := hST.has.sub (Sub.refl _) (fun p hq => ((List.mem_cons.1 hq).elim (fun hq => by rw [hq]; exact (.head _)) (fun hq => ((List.mem_cons.1 hq).elim (fun hq => by rw [hq]; exact (.tail _ (.head _))) (fun hq => ((List.mem_append.1 hq).elim (fun hq => (.tail _ (.tail _ (List.mem_append_left _ hq)))) (fun hq => (absurd hq List.not_mem_nil))))))))
              refine PV 17 rfl hS0 (R_pickT (v := (.bool x17226)) (e17237.trans (congrArg Value.bool hb17099)) e17238) ?_
              replace hm17228 := Option.some.inj hm17228; subst hm17228
              refine PX_at (by kernel_rfl) (key17216 _ _ ⟨x17226, _, (hST.sublist (List.Sublist.refl _)), e17229, e17230, e17231, e17232, e17233, e17234, e17235, e17236, rfl, hm17215⟩)
            · rcases bool_cases ((((l11497.length : Int)) == 0)) with hb17217 | hb17217
              · replace hm17240 := if_t hb17217 hm17240
                refine PX_no 7 rfl (by kernel_rfl) rfl rfl (by decide) (congrArg Value.bool hb17217) rfl (by decide) (fun _ _ h => h) hS0 ?_
                refine PX_no 8 rfl (by kernel_rfl) rfl rfl (by decide) (congrArg Value.bool hb17217) rfl (by decide) (fun _ _ h => h) hS0 ?_
                refine PX_no 9 rfl (by kernel_rfl) rfl rfl (by decide) (congrArg Value.bool hb17217) rfl (by decide) (fun _ _ h => h) hS0 ?_
                refine PX_no 10 rfl (by kernel_rfl) rfl rfl (by decide) (congrArg Value.bool hb17217) rfl (by decide) (fun _ _ h => h) hS0 ?_
                refine PX_no 11 rfl (by kernel_rfl) rfl rfl (by decide) (congrArg Value.bool hb17217) rfl (by decide) (fun _ _ h => h) hS0 ?_
                refine PX_no 12 rfl (by kernel_rfl) rfl rfl (by decide) (congrArg Value.bool hb17217) rfl (by decide) (fun _ _ h => h) hS0 ?_
                refine PX_no 13 rfl (by kernel_rfl) rfl rfl (by decide) (congrArg Value.bool hb17217) rfl (by decide) (fun _ _ h => h) hS0 ?_
                refine PX_no 14 rfl (by kernel_rfl) rfl rfl (by decide) (congrArg Value.bool hb17217) rfl (by decide) (fun _ _ h => h) hS0 ?_
                refine PX_no 15 rfl (by kernel_rfl) rfl rfl (by decide) (congrArg Value.bool hb17217) rfl (by decide) (fun _ _ h => h) hS0 ?_
                refine PX_v 16 rfl (by kernel_rfl) (.inr ⟨2, true, 16, rfl, rfl, by decide, (congrArg Value.bool hb17099)⟩) rfl (by decide) (fun _ _ h => h) hS0 (fun _ _ _ _ => R_pickT (v := (.bool true)) (congrArg Value.bool hb17217) rfl) ?_
                replace hm17240 := Option.some.inj hm17240; subst hm17240
                refine PX_at (by kernel_rfl) (key17242 _ _ ⟨true, _, (hST.sublist (List.Sublist.refl _)), e16779, e16780, e16781, e16782, rfl, e16783, eN, eI, rfl, rfl, hm17241⟩)
              · replace hm17240 := if_f hb17217 hm17240
                refine PX_v 7 rfl (by kernel_rfl) (.inr ⟨6, false, 20, rfl, rfl, by decide, (congrArg Value.bool hb17217)⟩) rfl (by decide) (fun _ _ h => h) hS0 (fun _ _ _ _ => R_move (v := v11496) e16780) ?_
                refine PX_v 8 rfl (by kernel_rfl) (.inr ⟨6, false, 20, rfl, rfl, by decide, (congrArg Value.bool hb17217)⟩) rfl (by decide) (fun _ _ h => h) hS0 (fun _ _ _ _ => R_move (v := v11496) e16780) ?_
                refine PX_v 9 rfl (by kernel_rfl) (.inr ⟨6, false, 20, rfl, rfl, by decide, (congrArg Value.bool hb17217)⟩) rfl (by decide) (fun _ _ h => h) hS0 (fun _ _ _ _ => R_lenRow Try.underlying24 rfl hs11498) ?_
                refine PX_v 10 rfl (by kernel_rfl) (.inr ⟨6, false, 20, rfl, rfl, by decide, (congrArg Value.bool hb17217)⟩) rfl (by decide) (fun _ _ h => h) hS0 (fun _ _ _ _ => R_int (k := .i64) (a := ((l11497.length : Int))) (b := 1) (v := (.int .i64 ((IntKind.i64.wrap (((l11497.length : Int)) - 1))))) rfl rfl rfl) ?_
                obtain ⟨x17246, hx17247, hm17240⟩ := bind_some hm17240
                refine PX_q 11 rfl (by kernel_rfl) (.inr ⟨6, false, 20, rfl, rfl, by decide, (congrArg Value.bool hb17217)⟩) rfl (by decide) (fun _ _ h => h) hS0 (R_indexRow (i := (IntKind.i64.wrap (((l11497.length : Int)) - 1))) (x0 := x17246) Try.underlying24 Try.sizeOf36 rfl rfl hs11498 (idx_nonneg hx17247) (idx_get hx17247)) (fun p17243 hp17244 => ?_)
                refine PX_v 12 rfl (by kernel_rfl) (.inr ⟨6, false, 20, rfl, rfl, by decide, (congrArg Value.bool hb17217)⟩) rfl (by decide) (fun _ _ h => h) hS0 (fun l W hpd hs => have hS := hs; R_load (v := (.agg (encCred x17246).toArray)) rfl (load_ixA hS (fun p hq => by simp [hq]) hs11498 lenCred hp17244 (idx_get hx17247) Try.isAgg36 Try.sizeOf36)) ?_
                refine PX_v 13 rfl (by kernel_rfl) (.inr ⟨6, false, 20, rfl, rfl, by decide, (congrArg Value.bool hb17217)⟩) rfl (by decide) (fun _ _ h => h) hS0 (fun l W hpd hs => have hS := hs; R_load (v := (.agg (encCred x15828).toArray)) rfl (load_boxA hS (.head _) (encCred x15828) rfl Try.isAgg36 Try.sizeOf36)) ?_
                obtain ⟨r17248, hr17249, hm17240⟩ := bind_some hm17240
                refine PX_e 14 rfl (by kernel_rfl) (.inr ⟨6, false, 20, rfl, rfl, by decide, (congrArg Value.bool hb17217)⟩) rfl (by decide) (E_gives (args := [(.agg (encCred x17246).toArray), (.agg (encCred x15828).toArray)]) hST rfl Try.call34 (by exact args2 rfl rfl) ((w_ref05_Compare x17246 x15828 _ _  hr17249)) (fun W17250 hST => ?_))
                have hS0 : Has (hp w) ((b16787, Obj.cells ((encCred x15828).toArray : Array Value) 36 (0, 0)) :: ((b14381, Obj.cells ((encCred x16302).toArray : Array Value) 36 (0, 0)) :: (R11499 ++ []))) _ := hST.has.sub (Sub.refl _) (fun p hq => ((List.mem_cons.1 hq).elim (fun hq => by rw [hq]; exact (.head _)) (fun hq => ((List.mem_cons.1 hq).elim (fun hq => by rw [hq]; exact (.tail _ (.head _))) (fun hq => ((List.mem_append.1 hq).elim (fun hq => (.tail _ (.tail _ (List.mem_append_left _ hq)))) (fun hq => (absurd hq List.not_mem_nil))))))))
                refine ⟨hS0, ?_⟩
                refine PX_v 15 rfl (by kernel_rfl) (.inr ⟨6, false, 20, rfl, rfl, by decide, (congrArg Value.bool hb17217)⟩) rfl (by decide) (fun _ _ h => h) hS0 (fun _ _ _ _ => R_int (k := .i64) (a := r17248) (b := 0) (v := (.bool ((decide (r17248 < 0))))) rfl rfl rfl) ?_
                refine PX_v 16 rfl (by kernel_rfl) (.inr ⟨2, true, 16, rfl, rfl, by decide, (congrArg Value.bool hb17099)⟩) rfl (by decide) (fun _ _ h => h) hS0 (fun _ _ _ _ => R_pickF (v := (.bool ((decide (r17248 < 0))))) (congrArg Value.bool hb17217) rfl) ?_
                replace hm17240 := Option.some.inj hm17240; subst hm17240
                refine PX_at (by kernel_rfl) (key17242 _ _ ⟨((decide (r17248 < 0))), _, (hST.sublist (List.Sublist.refl _)), e16779, e16780, e16781, e16782, rfl, e16783, eN, eI, rfl, rfl, hm17241⟩)
          · replace hm17214 := if_f hb17099 hm17214
            refine PX_no 3 rfl (by kernel_rfl) rfl rfl (by decide) (congrArg Value.bool hb17099) rfl (by decide) (fun _ _ h => h) hS0 ?_
            refine PX_no 4 rfl (by kernel_rfl) rfl rfl (by decide) (congrArg Value.bool hb17099) rfl (by decide) (fun _ _ h => h) hS0 ?_
            refine PX_no 5 rfl (by kernel_rfl) rfl rfl (by decide) (congrArg Value.bool hb17099) rfl (by decide) (fun _ _ h => h) hS0 ?_
            refine PX_no 6 rfl (by kernel_rfl) rfl rfl (by decide) (congrArg Value.bool hb17099) rfl (by decide) (fun _ _ h => h) hS0 ?_
            refine PX_nou 7 rfl (by kernel_rfl) rfl rfl (by decide) rfl rfl (by decide) (fun _ _ h => h) hS0 ?_
            refine PX_nou 8 rfl (by kernel_rfl) rfl rfl (by decide) rfl rfl (by decide) (fun _ _ h => h) hS0 ?_
            refine PX_nou 9 rfl (by kernel_rfl) rfl rfl (by decide) rfl rfl (by decide) (fun _ _ h => h) hS0 ?_
            refine PX_nou 10 rfl (by kernel_rfl) rfl rfl (by decide) rfl rfl (by decide) (fun _ _ h => h) hS0 ?_
            refine PX_nou 11 rfl (by kernel_rfl) rfl rfl (by decide) rfl rfl (by decide) (fun _ _ h => h) hS0 ?_
            refine PX_nou 12 rfl (by kernel_rfl) rfl rfl (by decide) rfl rfl (by decide) (fun _ _ h => h) hS0 ?_
            refine PX_nou 13 rfl (by kernel_rfl) rfl rfl (by decide) rfl rfl (by decide) (fun _ _ h => h) hS0 ?_
            refine PX_nou 14 rfl (by kernel_rfl) rfl rfl (by decide) rfl rfl (by decide) (fun _ _ h => h) hS0 ?_
            refine PX_nou 15 rfl (by kernel_rfl) rfl rfl (by decide) rfl rfl (by decide) (fun _ _ h => h) hS0 ?_
            refine PX_no 16 rfl (by kernel_rfl) rfl rfl (by decide) (congrArg Value.bool hb17099) rfl (by decide) (fun _ _ h => h) hS0 ?_
            refine PV 17 rfl hS0 (R_pickF (v := (.bool false)) (congrArg Value.bool hb17099) rfl) ?_
            replace hm17214 := Option.some.inj hm17214; subst hm17214
            refine PX_at (by kernel_rfl) (key17216 _ _ ⟨false, _, (hST.sublist (List.Sublist.refl _)), e16779, e16780, e16781, e16782, rfl, e16783, eN, eI, rfl, hm17215⟩)
      · rintro E W ⟨x16301, x16302, L16777, ⟨eI, eN⟩, hST, e16779, e16780, e16781, e16782, e16783, hm16778⟩
        rw [List.drop_length] at hm16778
        rw [m_ref05_Set_L2] at hm16778
        refine sq_n ?_
        replace hm16778 := Option.some.inj hm16778; subst hm16778
        exact ⟨x16301, x16302, _, (hST.sublist (List.Sublist.refl _)), e16779, e16780, e16781, e16782, hm15826⟩
    · rintro E W ⟨x15807, x15808, L15809, hST, e15811, e15812, e15813, e15814, hm15810⟩
      refine CW_seq ?_
      refine CW_seq ?_
      refine CW_region ?_
      refine LV (R_move (v := (.bool x15807)) e15814) ?_
      refine LV (R_not (b := x15807) rfl) ?_
      refine LW_nil ?_
      refine sq_n ?_
      refine CW_if (b := (!x15807)) rfl (fun hb15815 => ?_) (fun hb15815 => ?_)
      · replace hm15810 := if_t hb15815 hm15810
        refine CW_seq ?_
        refine CW_region ?_
        refine LV (R_move (v := v11496) e15812) ?_
        refine LV (R_assign (v := v11496) rfl) ?_
        refine LW_nil ?_
        refine sq_n ?_
        replace hST : ST true NoF w _ _ (R11499 ++ L15809) := hST.sublist (List.Sublist.cons _ (List.Sublist.refl _))
        refine CW_ret ?_
        refine sq_r (bq_r (sq_r (bq_r (sq_r ?_))))
        replace hm15810 := Option.some.inj hm15810; subst hm15810
        refine retQ_1 (v := v11496) rfl rfl ?_
        exact ⟨_, R11499, rfl, hST.backRow (fun p hq => by simp [hq]) hs11498.nd, hs11498⟩
      · replace hm15810 := if_f hb15815 hm15810
        refine CW_skip ?_
        refine sq_n ?_
        refine CW_region ?_
        refine LV (R_move (v := v11496) e15812) ?_
        refine LV (R_load (v := (.agg (encCred x15808).toArray)) e15813 (load_boxA hST.has (.head _) (encCred x15808) rfl Try.isAgg36 Try.sizeOf36)) ?_
        refine LE (E_buildSlice (qs := #[(0, (.agg (encCred x15808).toArray))]) (cs := (encCred x15808).toArray) hST (parts1 rfl) (run_lit [(.agg (encCred x15808).toArray)] Try.underlying24 Try.sizeOf36 Try.zeroValue36 (by decide) rfl (by intro v hv; simp only [List.mem_cons, List.not_mem_nil, or_false] at hv; rcases hv with rfl <;> rfl) rfl rfl) (fun W15817 b15816 hST => ?_))
        obtain ⟨l15818, hb15819, hm15810⟩ := bind_some hm15810
        refine LE (E_append (enc := encCred) (v := v11496) (vs := (.slice (some ⟨b15816, 0, none⟩) 1 1)) (R := R11499) [_, _] hST lenCred (by decide) oneCred Try.underlying24 info36.1 info36.2.1 rfl info36.2.2.1 info36.2.2.2 rfl rfl hs11498 (Sl.lit (enc := encCred) (l := [x15808]) lenCred rfl (Nat.le_of_ble_eq_true rfl) rfl (hST.at_ (.head _))) hb15819 (fun W15820 v15823 R15821 hST hR15822 => ?_))
        refine LV (R_assign (v := v15823) rfl) ?_
        refine LW_nil ?_
        refine bq_n ?_
        refine sq_n ?_
        replace hST : ST true NoF w _ _ ((b15816, Obj.cells ((encCred x15808).toArray : Array Value) 36 (0, 0)) :: ((b14381, Obj.cells ((encCred x15808).toArray : Array Value) 36 (0, 0)) :: (R15821 ++ L15809))) := hST
        replace hST : ST true NoF w _ _ (R15821 ++ L15809) := hST.sublist (List.Sublist.cons _ (List.Sublist.cons _ (List.Sublist.refl _)))
        exact ⟨n14378, Nat.lt_succ_self _, v15823, l15818, R15821, _, (hST.sublist (List.Sublist.refl _)), e15811, rfl, hR15822, hm15810⟩
theorem w_ref03_Set (v_a0 : Value) (a0 : List ByteArray) (r : List ByteArray) (w : World) (h_a0 : Sl (Pl encSk) 1 (hp w) v_a0 a0) (hm : m_ref03_Set a0 = some r) :
    GivesRow true Try.prog 32 [v_a0] w 9 encSk 1 r := by
  have hST := ST.start (dd := true) w
  unfold m_ref03_Set at hm
  refine calls_of_CW (n := 48) Try.func32 rfl rfl (Nat.le_of_ble_eq_true rfl) ?_
  refine CW_seq ?_
  refine CW_region ?_
  refine LV (R_assign (v := (.slice none 0 0)) rfl) ?_
  refine LW_nil ?_
  refine sq_n ?_
  refine CW_seq ?_
  refine CW_region ?_
  refine LV (R_assign (v := (.slice none 0 0)) rfl) ?_
  refine LW_nil ?_
  refine sq_n ?_
  refine CW_tail ?_
  refine CW_block (CW_loop (fun m E W => ∃ (v3288 : Value) (l3289 : List ByteArray) (R3291 : List (Nat × Obj)) (L4116 : List (Nat × Obj)), ST true NoF w W (hp w) (R3291 ++ L4116) ∧ E 0 = v_a0 ∧ E 3 = v3288 ∧ Row 9 encSk 1 v3288 l3289 R3291 ∧ m_ref03_Set_L1 a0 m l3289 = some r) FUEL ⟨(.slice none 0 0), ([]), [], _, (hST.sublist (List.Sublist.refl _)), rfl, rfl, (Row.nil _ _ _), hm⟩ ?_)
  rintro m E W ⟨v3288, l3289, R3291, L4116, hST, e4119, e4120, hs3290, hm4117⟩
  cases m with
  | zero => rw [m_ref03_Set_L1] at hm4117; cases hm4117
  | succ n4118 =>
    rw [m_ref03_Set_L1] at hm4117
    refine CW_block ?_
    refine CW_seq ?_
    refine CW_region ?_
    refine LV (R_assign (v := (.string zS)) rfl) ?_
    refine LW_nil ?_
    refine sq_n ?_
    refine CW_seq ?_
    refine CW_seq ?_
    refine CW_region ?_
    refine LV (R_move (v := v_a0) e4119) ?_
    refine LV (R_len Try.underlying37 rfl h_a0) ?_
    refine LV (R_move (v := (.int .i64 0)) rfl) ?_
    refine LW_nil ?_
    refine sq_n ?_
    obtain ⟨s4536, hm4537, hm4538⟩ := bind_some hm4117
    refine CW_cut (fun E W => ∃ (x4521 : ByteArray) (L4522 : List (Nat × Obj)), ST true NoF w W (hp w) (R3291 ++ L4522) ∧ E 0 = v_a0 ∧ E 3 = v3288 ∧ E 4 = (.string x4521) ∧ (if (beqS x4521 zS) then some l3289 else (((appB 16 l3289 ([x4521]))).bind fun l4530 => (m_ref03_Set_L1 a0 n4118 l4530))) = some r) ?_ ?_
    · refine CW_range (fun i E W => ∃ (x4673 : ByteArray) (L4806 : List (Nat × Obj)), (E 9 = .int .i64 (i : Nat) ∧ E 8 = .int .i64 (a0.length : Nat)) ∧ ST true NoF w W (hp w) (R3291 ++ L4806) ∧ E 0 = v_a0 ∧ E 3 = v3288 ∧ E 4 = (.string x4673) ∧ E 7 = v_a0 ∧ m_ref03_Set_L2 l3289 (a0.drop i) x4673 = some s4536) a0.length h_a0.len ⟨zS, _, ⟨rfl, rfl⟩, (hST.sublist (List.Sublist.refl _)), e4119, e4120, rfl, rfl, hm4537⟩ (by decide) (by decide) (by decide) (fun _ _ _ h => by obtain ⟨_, _, eIN, _⟩ := h; exact eIN) ?_ ?_
      · rintro i4539 E W hi4545 ⟨x4673, L4806, ⟨eI, eN⟩, hST, e4808, e4809, e4810, e4811, hm4807⟩
        obtain ⟨x4540, xs4541, hx4543, hx4542, hx4544⟩ := drop_cons hi4545
        rw [hx4543] at hm4807
        rw [m_ref03_Set_L2] at hm4807
        refine CW_block ?_
        refine CW_seq ?_
        refine CW_region ?_
        refine LQ (R_indexP (enc := encSk) (i := (i4539 : Int)) (x0 := x4540) Try.underlying37 Try.sizeOf9 e4811 eI h_a0 (Int.natCast_nonneg _) hx4542) (fun p4812 hp4813 => ?_)
        refine LV (R_load rfl (load_at1 hST.has (y := (.string x4540)) hp4813 Try.isAgg9)) ?_
        refine LV (R_assign (v := (.string x4540)) rfl) ?_
        refine LW_nil ?_
        refine sq_n ?_
        refine CW_seq ?_
        refine CW_region ?_
        refine LV (R_move (v := (.string x4540)) rfl) ?_
        obtain ⟨r4815, hr4816, hm4807⟩ := bind_some hm4807
        refine LE (E_gives (args := [(.string x4540)]) hST rfl Try.call50 (by exact args1 rfl) ((w_ref03_Right x4540 _ _  hr4816)) (fun W4817 hST => ?_))
        refine LV (R_move (v := (.bool r4815)) rfl) ?_
        obtain ⟨s4908, hm4909, hm4910⟩ := bind_some hm4807
        refine LW_join (J := fun E W => ∃ (x4846 : Bool) (L4847 : List (Nat × Obj)), ST true NoF w W (hp w) (R3291 ++ L4847) ∧ E 0 = v_a0 ∧ E 3 = v3288 ∧ E 4 = (.string x4673) ∧ E 6 = (.string x4540) ∧ E 7 = v_a0 ∧ E 8 = (.int .i64 ((a0.length : Int))) ∧ E 9 = (.int .i64 ((i4539 : Int))) ∧ E 29 = (.bool x4846) ∧ (((if x4846 then (((if (beqS x4673 zS) then some true else some ((ltS x4540 x4673))) : Option Bool).bind fun x4892 => some x4892) else some false) : Option Bool).bind fun x4875 => (if x4875 then (m_ref03_Set_L2 l3289 xs4541 x4540) else (m_ref03_Set_L2 l3289 xs4541 x4673))) = some s4536) 14 ?_ (fun key4911 => ?_)
        · rintro E W ⟨x4846, L4847, hST, e4849, e4850, e4851, e4852, e4853, e4854, e4855, e4856, hm4848⟩
          refine LV (R_move (v := (.bool x4846)) e4856) ?_
          obtain ⟨s4887, hm4888, hm4889⟩ := bind_some hm4848
          refine LW_join (J := fun E W => ∃ (x4875 : Bool) (L4876 : List (Nat × Obj)), ST true NoF w W (hp w) (R3291 ++ L4876) ∧ E 0 = v_a0 ∧ E 3 = v3288 ∧ E 4 = (.string x4673) ∧ E 6 = (.string x4540) ∧ E 7 = v_a0 ∧ E 8 = (.int .i64 ((a0.length : Int))) ∧ E 9 = (.int .i64 ((i4539 : Int))) ∧ E 38 = (.bool x4875) ∧ (if x4875 then (m_ref03_Set_L2 l3289 xs4541 x4540) else (m_ref03_Set_L2 l3289 xs4541 x4673)) = some s4536) 8 ?_ (fun key4890 => ?_)
          · rintro E W ⟨x4875, L4876, hST, e4878, e4879, e4880, e4881, e4882, e4883, e4884, e4885, hm4877⟩
            refine LW_nil ?_
            refine sq_n ?_
            refine CW_if (b := x4875) e4885 (fun hb4886 => ?_) (fun hb4886 => ?_)
            · replace hm4877 := if_t hb4886 hm4877
              refine CW_region ?_
              refine LV (R_move (v := (.string x4540)) e4881) ?_
              refine LV (R_assign (v := (.string x4540)) rfl) ?_
              refine LW_nil ?_
              refine bq_n ?_
              refine sq_n ?_
              exact ⟨e4884, x4540, _, ⟨rfl, e4883⟩, (hST.sublist (List.Sublist.refl _)), e4878, e4879, rfl, e4882, (by rw [hx4544]; exact hm4877)⟩
            · replace hm4877 := if_f hb4886 hm4877
              refine CW_skip ?_
              refine bq_n ?_
              refine sq_n ?_
              exact ⟨e4884, x4673, _, ⟨rfl, e4883⟩, (hST.sublist (List.Sublist.refl _)), e4878, e4879, e4880, e4882, (by rw [hx4544]; exact hm4877)⟩
          · rcases bool_cases x4846 with hb4857 | hb4857
            · replace hm4888 := if_t hb4857 hm4888
              refine LW_v (.inr ⟨17, true, 30, rfl, rfl, by decide, (congrArg Value.bool hb4857)⟩) rfl (by decide) (R_move (v := (.string x4673)) e4851) ?_
              refine LW_v (.inr ⟨17, true, 30, rfl, rfl, by decide, (congrArg Value.bool hb4857)⟩) rfl (by decide) (R_str (a := x4673) (b := zS) (v := (.bool ((beqS x4673 zS)))) rfl rfl rfl) ?_
              refine LW_v (.inr ⟨17, true, 30, rfl, rfl, by decide, (congrArg Value.bool hb4857)⟩) rfl (by decide) (R_move (v := (.bool ((beqS x4673 zS)))) rfl) ?_
              obtain ⟨s4904, hm4905, hm4906⟩ := bind_some hm4888
              refine LW_join (J := fun E W => ∃ (x4892 : Bool) (L4893 : List (Nat × Obj)), ST true NoF w W (hp w) (R3291 ++ L4893) ∧ E 0 = v_a0 ∧ E 3 = v3288 ∧ E 4 = (.string x4673) ∧ E 6 = (.string x4540) ∧ E 7 = v_a0 ∧ E 8 = (.int .i64 ((a0.length : Int))) ∧ E 9 = (.int .i64 ((i4539 : Int))) ∧ E 30 = (.bool x4846) ∧ E 37 = (.bool x4892) ∧ some x4892 = some s4887) 4 ?_ (fun key4907 => ?_)
              · rintro E W ⟨x4892, L4893, hST, e4895, e4896, e4897, e4898, e4899, e4900, e4901, e4902, e4903, hm4894⟩
                refine LV (R_pickT (v := (.bool x4892)) (e4902.trans (congrArg Value.bool hb4857)) e4903) ?_
                replace hm4894 := Option.some.inj hm4894; subst hm4894
                exact key4890 _ _ ⟨x4892, _, (hST.sublist (List.Sublist.refl _)), e4895, e4896, e4897, e4898, e4899, e4900, e4901, rfl, hm4889⟩
              · rcases bool_cases ((beqS x4673 zS)) with hb4891 | hb4891
                · replace hm4905 := if_t hb4891 hm4905
                  refine LW_no rfl (by decide) rfl rfl (by decide) (congrArg Value.bool hb4891) ?_
                  refine LW_no rfl (by decide) rfl rfl (by decide) (congrArg Value.bool hb4891) ?_
                  refine LW_no rfl (by decide) rfl rfl (by decide) (congrArg Value.bool hb4891) ?_
                  refine LW_v (.inr ⟨17, true, 30, rfl, rfl, by decide, (congrArg Value.bool hb4857)⟩) rfl (by decide) (R_pickT (v := (.bool true)) (congrArg Value.bool hb4891) rfl) ?_
                  replace hm4905 := Option.some.inj hm4905; subst hm4905
                  exact key4907 _ _ ⟨true, _, (hST.sublist (List.Sublist.refl _)), e4849, e4850, e4851, e4852, e4853, e4854, e4855, rfl, rfl, hm4906⟩
                · replace hm4905 := if_f hb4891 hm4905
                  refine LW_v (.inr ⟨20, false, 33, rfl, rfl, by decide, (congrArg Value.bool hb4891)⟩) rfl (by decide) (R_move (v := (.string x4540)) e4852) ?_
                  refine LW_v (.inr ⟨20, false, 33, rfl, rfl, by decide, (congrArg Value.bool hb4891)⟩) rfl (by decide) (R_move (v := (.string x4673)) e4851) ?_
                  refine LW_v (.inr ⟨20, false, 33, rfl, rfl, by decide, (congrArg Value.bool hb4891)⟩) rfl (by decide) (R_str (a := x4540) (b := x4673) (v := (.bool ((ltS x4540 x4673)))) rfl rfl rfl) ?_
                  refine LW_v (.inr ⟨17, true, 30, rfl, rfl, by decide, (congrArg Value.bool hb4857)⟩) rfl (by decide) (R_pickF (v := (.bool ((ltS x4540 x4673)))) (congrArg Value.bool hb4891) rfl) ?_
                  replace hm4905 := Option.some.inj hm4905; subst hm4905
                  exact key4907 _ _ ⟨((ltS x4540 x4673)), _, (hST.sublist (List.Sublist.refl _)), e4849, e4850, e4851, e4852, e4853, e4854, e4855, rfl, rfl, hm4906⟩
            · replace hm4888 := if_f hb4857 hm4888
              refine LW_no rfl (by decide) rfl rfl (by decide) (congrArg Value.bool hb4857) ?_
              refine LW_no rfl (by decide) rfl rfl (by decide) (congrArg Value.bool hb4857) ?_
              refine LW_no rfl (by decide) rfl rfl (by decide) (congrArg Value.bool hb4857) ?_
              refine LW_nou rfl (by decide) rfl rfl (by decide) rfl ?_
              refine LW_nou rfl (by decide) rfl rfl (by decide) rfl ?_
              refine LW_nou rfl (by decide) rfl rfl (by decide) rfl ?_
              refine LW_no rfl (by decide) rfl rfl (by decide) (congrArg Value.bool hb4857) ?_
              refine LV (R_pickF (v := (.bool false)) (congrArg Value.bool hb4857) rfl) ?_
              replace hm4888 := Option.some.inj hm4888; subst hm4888
              exact key4890 _ _ ⟨false, _, (hST.sublist (List.Sublist.refl _)), e4849, e4850, e4851, e4852, e4853, e4854, e4855, rfl, hm4889⟩
        · rcases bool_cases r4815 with hb4818 | hb4818
          · replace hm4909 := if_t hb4818 hm4909
            refine LW_v (.inr ⟨2, true, 15, rfl, rfl, by decide, (congrArg Value.bool hb4818)⟩) rfl (by decide) (R_move (v := v3288) e4809) ?_
            refine LW_v (.inr ⟨2, true, 15, rfl, rfl, by decide, (congrArg Value.bool hb4818)⟩) rfl (by decide) (R_lenRow Try.underlying37 rfl hs3290) ?_
            refine LW_v (.inr ⟨2, true, 15, rfl, rfl, by decide, (congrArg Value.bool hb4818)⟩) rfl (by decide) (R_int (k := .i64) (a := ((l3289.length : Int))) (b := 0) (v := (.bool ((((l3289.length : Int)) == 0)))) rfl rfl rfl) ?_
            refine LW_v (.inr ⟨2, true, 15, rfl, rfl, by decide, (congrArg Value.bool hb4818)⟩) rfl (by decide) (R_move (v := (.bool ((((l3289.length : Int)) == 0)))) rfl) ?_
            obtain ⟨s4930, hm4931, hm4932⟩ := bind_some hm4909
            refine LW_join (J := fun E W => ∃ (x4918 : Bool) (L4919 : List (Nat × Obj)), ST true NoF w W (hp w) (R3291 ++ L4919) ∧ E 0 = v_a0 ∧ E 3 = v3288 ∧ E 4 = (.string x4673) ∧ E 6 = (.string x4540) ∧ E 7 = v_a0 ∧ E 8 = (.int .i64 ((a0.length : Int))) ∧ E 9 = (.int .i64 ((i4539 : Int))) ∧ E 15 = (.bool r4815) ∧ E 28 = (.bool x4918) ∧ some x4918 = some s4908) 9 ?_ (fun key4933 => ?_)
            · rintro E W ⟨x4918, L4919, hST, e4921, e4922, e4923, e4924, e4925, e4926, e4927, e4928, e4929, hm4920⟩
              refine LV (R_pickT (v := (.bool x4918)) (e4928.trans (congrArg Value.bool hb4818)) e4929) ?_
              replace hm4920 := Option.some.inj hm4920; subst hm4920
              exact key4911 _ _ ⟨x4918, _, (hST.sublist (List.Sublist.refl _)), e4921, e4922, e4923, e4924, e4925, e4926, e4927, rfl, hm4910⟩
            · rcases bool_cases ((((l3289.length : Int)) == 0)) with hb4912 | hb4912
              · replace hm4931 := if_t hb4912 hm4931
                refine LW_no rfl (by decide) rfl rfl (by decide) (congrArg Value.bool hb4912) ?_
                refine LW_no rfl (by decide) rfl rfl (by decide) (congrArg Value.bool hb4912) ?_
                refine LW_no rfl (by decide) rfl rfl (by decide) (congrArg Value.bool hb4912) ?_
                refine LW_no rfl (by decide) rfl rfl (by decide) (congrArg Value.bool hb4912) ?_
                refine LW_no rfl (by decide) rfl rfl (by decide) (congrArg Value.bool hb4912) ?_
                refine LW_no rfl (by decide) rfl rfl (by decide) (congrArg Value.bool hb4912) ?_
                refine LW_no rfl (by decide) rfl rfl (by decide) (congrArg Value.bool hb4912) ?_
                refine LW_no rfl (by decide) rfl rfl (by decide) (congrArg Value.bool hb4912) ?_
                refine LW_v (.inr ⟨2, true, 15, rfl, rfl, by decide, (congrArg Value.bool hb4818)⟩) rfl (by decide) (R_pickT (v := (.bool true)) (congrArg Value.bool hb4912) rfl) ?_
                replace hm4931 := Option.some.inj hm4931; subst hm4931
                exact key4933 _ _ ⟨true, _, (hST.sublist (List.Sublist.refl _)), e4808, e4809, e4810, rfl, e4811, eN, eI, rfl, rfl, hm4932⟩
              · replace hm4931 := if_f hb4912 hm4931
                refine LW_v (.inr ⟨6, false, 19, rfl, rfl, by decide, (congrArg Value.bool hb4912)⟩) rfl (by decide) (R_move (v := (.string x4540)) rfl) ?_
                refine LW_v (.inr ⟨6, false, 19, rfl, rfl, by decide, (congrArg Value.bool hb4912)⟩) rfl (by decide) (R_move (v := v3288) e4809) ?_
                refine LW_v (.inr ⟨6, false, 19, rfl, rfl, by decide, (congrArg Value.bool hb4912)⟩) rfl (by decide) (R_move (v := v3288) e4809) ?_
                refine LW_v (.inr ⟨6, false, 19, rfl, rfl, by decide, (congrArg Value.bool hb4912)⟩) rfl (by decide) (R_lenRow Try.underlying37 rfl hs3290) ?_
                refine LW_v (.inr ⟨6, false, 19, rfl, rfl, by decide, (congrArg Value.bool hb4912)⟩) rfl (by decide) (R_int (k := .i64) (a := ((l3289.length : Int))) (b := 1) (v := (.int .i64 ((IntKind.i64.wrap (((l3289.length : Int)) - 1))))) rfl rfl rfl) ?_
                obtain ⟨x4937, hx4938, hm4931⟩ := bind_some hm4931
                refine LW_q (.inr ⟨6, false, 19, rfl, rfl, by decide, (congrArg Value.bool hb4912)⟩) rfl (by decide) (R_indexRow (i := (IntKind.i64.wrap (((l3289.length : Int)) - 1))) (x0 := x4937) Try.underlying37 Try.sizeOf9 rfl rfl hs3290 (idx_nonneg hx4938) (idx_get hx4938)) (fun p4934 hp4935 => ?_)
                refine LW_v (.inr ⟨6, false, 19, rfl, rfl, by decide, (congrArg Value.bool hb4912)⟩) rfl (by decide) (R_load (v := (.string x4937)) rfl (load_ix1 hST.has (fun p hq => by simp [hq]) hs3290 (fun _ => rfl) hp4935 (idx_get hx4938) (y := (.string x4937)) rfl Try.isAgg9)) ?_
                refine LW_v (.inr ⟨6, false, 19, rfl, rfl, by decide, (congrArg Value.bool hb4912)⟩) rfl (by decide) (R_str (a := x4540) (b := x4937) (v := (.bool ((!(ltS x4540 x4937 || beqS x4540 x4937))))) rfl rfl rfl) ?_
                refine LW_v (.inr ⟨2, true, 15, rfl, rfl, by decide, (congrArg Value.bool hb4818)⟩) rfl (by decide) (R_pickF (v := (.bool ((!(ltS x4540 x4937 || beqS x4540 x4937))))) (congrArg Value.bool hb4912) rfl) ?_
                replace hm4931 := Option.some.inj hm4931; subst hm4931
                exact key4933 _ _ ⟨((!(ltS x4540 x4937 || beqS x4540 x4937))), _, (hST.sublist (List.Sublist.refl _)), e4808, e4809, e4810, rfl, e4811, eN, eI, rfl, rfl, hm4932⟩
          · replace hm4909 := if_f hb4818 hm4909
            refine LW_no rfl (by decide) rfl rfl (by decide) (congrArg Value.bool hb4818) ?_
            refine LW_no rfl (by decide) rfl rfl (by decide) (congrArg Value.bool hb4818) ?_
            refine LW_no rfl (by decide) rfl rfl (by decide) (congrArg Value.bool hb4818) ?_
            refine LW_no rfl (by decide) rfl rfl (by decide) (congrArg Value.bool hb4818) ?_
            refine LW_nou rfl (by decide) rfl rfl (by decide) rfl ?_
            refine LW_nou rfl (by decide) rfl rfl (by decide) rfl ?_
            refine LW_nou rfl (by decide) rfl rfl (by decide) rfl ?_
            refine LW_nou rfl (by decide) rfl rfl (by decide) rfl ?_
            refine LW_nou rfl (by decide) rfl rfl (by decide) rfl ?_
            refine LW_nou rfl (by decide) rfl rfl (by decide) rfl ?_
            refine LW_nou rfl (by decide) rfl rfl (by decide) rfl ?_
            refine LW_nou rfl (by decide) rfl rfl (by decide) rfl ?_
            refine LW_no rfl (by decide) rfl rfl (by decide) (congrArg Value.bool hb4818) ?_
            refine LV (R_pickF (v := (.bool false)) (congrArg Value.bool hb4818) rfl) ?_
            replace hm4909 := Option.some.inj hm4909; subst hm4909
            exact key4911 _ _ ⟨false, _, (hST.sublist (List.Sublist.refl _)), e4808, e4809, e4810, rfl, e4811, eN, eI, rfl, hm4910⟩
      · rintro E W ⟨x4673, L4806, ⟨eI, eN⟩, hST, e4808, e4809, e4810, e4811, hm4807⟩
        rw [List.drop_length] at hm4807
        rw [m_ref03_Set_L2] at hm4807
        refine sq_n ?_
        replace hm4807 := Option.some.inj hm4807; subst hm4807
        exact ⟨x4673, _, (hST.sublist (List.Sublist.refl _)), e4808, e4809, e4810, hm4538⟩
    · rintro E W ⟨x4521, L4522, hST, e4524, e4525, e4526, hm4523⟩
      refine CW_seq ?_
      refine CW_seq ?_
      refine CW_region ?_
      refine LV (R_move (v := (.string x4521)) e4526) ?_
      refine LV (R_str (a := x4521) (b := zS) (v := (.bool ((beqS x4521 zS)))) rfl rfl rfl) ?_
      refine LW_nil ?_
      refine sq_n ?_
      refine CW_if (b := (beqS x4521 zS)) rfl (fun hb4527 => ?_) (fun hb4527 => ?_)
      · replace hm4523 := if_t hb4527 hm4523
        refine CW_seq ?_
        refine CW_region ?_
        refine LV (R_move (v := v3288) e4525) ?_
        refine LV (R_assign (v := v3288) rfl) ?_
        refine LW_nil ?_
        refine sq_n ?_
        refine CW_ret ?_
        refine sq_r (bq_r (sq_r (bq_r (sq_r ?_))))
        replace hm4523 := Option.some.inj hm4523; subst hm4523
        refine retQ_1 (v := v3288) rfl rfl ?_
        exact ⟨_, R3291, rfl, hST.backRow (fun p hq => by simp [hq]) hs3290.nd, hs3290⟩
      · replace hm4523 := if_f hb4527 hm4523
        refine CW_skip ?_
        refine sq_n ?_
        refine CW_region ?_
        refine LV (R_move (v := v3288) e4525) ?_
        refine LV (R_move (v := (.string x4521)) e4526) ?_
        refine LE (E_buildSlice (qs := #[(0, (.string x4521))]) (cs := [(.string x4521)].toArray) hST (parts1 rfl) (run_lit [(.string x4521)] Try.underlying37 Try.sizeOf9 Try.zeroValue9 (by decide) rfl (by intro v hv; simp only [List.mem_cons, List.not_mem_nil, or_false] at hv; rcases hv with rfl <;> rfl) rfl rfl) (fun W4529 b4528 hST => ?_))
        obtain ⟨l4530, hb4531, hm4523⟩ := bind_some hm4523
        refine LE (E_append (enc := encSk) (v := v3288) (vs := (.slice (some ⟨b4528, 0, none⟩) 1 1)) (R := R3291) [_] hST (fun _ => rfl) (by decide) oneS Try.underlying37 info9.1 info9.2.1 rfl info9.2.2.1 info9.2.2.2 rfl rfl hs3290 (Sl.lit (enc := encSk) (l := [x4521]) (fun _ => rfl) rfl (Nat.le_of_ble_eq_true rfl) rfl (hST.at_ (.head _))) hb4531 (fun W4532 v4535 R4533 hST hR4534 => ?_))
        refine LV (R_assign (v := v4535) rfl) ?_
        refine LW_nil ?_
        refine bq_n ?_
        refine sq_n ?_
        replace hST : ST true NoF w _ _ ((b4528, Obj.cells ([(.string x4521)].toArray : Array Value) 9 (0, 0)) :: (R4533 ++ L4522)) := hST
        replace hST : ST true NoF w _ _ (R4533 ++ L4522) := hST.sublist (List.Sublist.cons _ (List.Sublist.refl _))
        exact ⟨n4118, Nat.lt_succ_self _, v4535, l4530, R4533, _, (hST.sublist (List.Sublist.refl _)), e4524, rfl, hR4534, hm4523⟩
theorem w_ref08_Names (v_a0 : Value) (a0 : List Cred) (r : List ByteArray) (w : World) (h_a0 : Sl (Pl encCred) 9 (hp w) v_a0 a0) (hm : m_ref08_Names a0 = some r) :
    GivesRow true Try.prog 12 [v_a0] w 9 encSk 1 r := by
  have hST := ST.start (dd := true) w
  unfold m_ref08_Names at hm
  refine calls_of_CW (n := 29) Try.func12 rfl rfl (Nat.le_of_ble_eq_true rfl) ?_
  refine CW_seq ?_
  refine CW_region ?_
  refine LV (R_assign (v := (.slice none 0 0)) rfl) ?_
  refine LW_nil ?_
  refine sq_n ?_
  refine CW_seq ?_
  refine CW_region ?_
  refine LV (R_assign (v := (.slice none 0 0)) rfl) ?_
  refine LW_nil ?_
  refine sq_n ?_
  refine CW_seq ?_
  refine CW_seq ?_
  refine CW_region ?_
  refine LV (R_move (v := v_a0) rfl) ?_
  refine LV (R_len Try.underlying24 rfl h_a0) ?_
  refine LV (R_move (v := (.int .i64 0)) rfl) ?_
  refine LW_nil ?_
  refine sq_n ?_
  refine CW_range (fun i E W => ∃ (v85 : Value) (l86 : List ByteArray) (R88 : List (Nat × Obj)) (L109 : List (Nat × Obj)), (E 8 = .int .i64 (i : Nat) ∧ E 7 = .int .i64 (a0.length : Nat)) ∧ ST true NoF w W (hp w) (R88 ++ L109) ∧ E 3 = v85 ∧ E 6 = v_a0 ∧ Row 9 encSk 1 v85 l86 R88 ∧ m_ref08_Names_L1 (a0.drop i) l86 = some r) a0.length h_a0.len ⟨(.slice none 0 0), ([]), [], _, ⟨rfl, rfl⟩, (hST.sublist (List.Sublist.refl _)), rfl, rfl, (Row.nil _ _ _), hm⟩ (by decide) (by decide) (by decide) (fun _ _ _ h => by obtain ⟨_, _, _, _, eIN, _⟩ := h; exact eIN) ?_ ?_
  · rintro i64 E W hi70 ⟨v85, l86, R88, L109, ⟨eI, eN⟩, hST, e111, e112, hs87, hm110⟩
    obtain ⟨x65, xs66, hx68, hx67, hx69⟩ := drop_cons hi70
    rw [hx68] at hm110
    rw [m_ref08_Names_L1] at hm110
    refine CW_block ?_
    refine CW_seq ?_
    refine CW_region ?_
    refine LQ (R_indexP (enc := encCred) (i := (i64 : Int)) (x0 := x65) Try.underlying24 Try.sizeOf36 e112 eI h_a0 (Int.natCast_nonneg _) hx67) (fun p113 hp114 => ?_)
    refine LV (R_load rfl (load_atA hST.has hp114 Try.isAgg36 Try.sizeOf36)) ?_
    refine LE (E_alloc hST Try.zeroValue36 (fun W117 b116 hST => ?_))
    refine LW_e0 (.inl rfl) rfl (E_store [] (.agg (encCred x65).toArray) ((encCred x65).toArray) hST rfl rfl Try.sizeOf36 (oneCred x65) (Nat.le_of_ble_eq_true rfl) rfl (fun W118 hST => ?_))
    refine LW_nil ?_
    refine sq_n ?_
    refine CW_region ?_
    refine LV (R_move (v := v85) e111) ?_
    refine LV (R_field fa36_2 rfl) ?_
    refine LV (R_load (v := (.string x65.Who)) rfl (load_box1 hST.has (.head _) rfl Try.isAgg9)) ?_
    refine LV (R_field fa36_1 rfl) ?_
    refine LV (R_field fa34_0 rfl) ?_
    refine LV (R_load (v := (.string x65.Head.Owner)) rfl (load_box1 hST.has (.head _) rfl Try.isAgg9)) ?_
    refine LV (R_field fa36_3 rfl) ?_
    refine LV (R_field fa34_0 rfl) ?_
    refine LV (R_load (v := (.string x65.B.Owner)) rfl (load_box1 hST.has (.head _) rfl Try.isAgg9)) ?_
    refine LV (R_field fa36_4 rfl) ?_
    refine LV (R_field fa34_0 rfl) ?_
    refine LV (R_load (v := (.string x65.C.Owner)) rfl (load_box1 hST.has (.head _) rfl Try.isAgg9)) ?_
    refine LE (E_buildSlice (qs := #[(0, (.string x65.Who)), (1, (.string x65.Head.Owner)), (2, (.string x65.B.Owner)), (3, (.string x65.C.Owner))]) (cs := #[(.string x65.Who), (.string x65.Head.Owner), (.string x65.B.Owner), (.string x65.C.Owner)]) hST (parts4 rfl rfl rfl rfl) (run_lit [(.string x65.Who), (.string x65.Head.Owner), (.string x65.B.Owner), (.string x65.C.Owner)] Try.underlying37 Try.sizeOf9 Try.zeroValue9 (by decide) rfl (by intro v hv; simp only [List.mem_cons, List.not_mem_nil, or_false] at hv; rcases hv with rfl | rfl | rfl | rfl <;> rfl) rfl rfl) (fun W120 b119 hST => ?_))
    replace hST : ST true NoF w _ _ ((b119, Obj.cells (#[(.string x65.Who), (.string x65.Head.Owner), (.string x65.B.Owner), (.string x65.C.Owner)] : Array Value) 9 (0, 0)) :: ((b116, Obj.cells ((encCred x65).toArray : Array Value) 36 (0, 0)) :: (R88 ++ L109))) := hST
    obtain ⟨l121, hb122, hm110⟩ := bind_some hm110
    refine LE (E_append (enc := encSk) (v := v85) (vs := (.slice (some ⟨b119, 0, none⟩) 4 4)) (R := R88) [_, _] hST (fun _ => rfl) (by decide) oneS Try.underlying37 info9.1 info9.2.1 rfl info9.2.2.1 info9.2.2.2 rfl rfl hs87 (Sl.lit (enc := encSk) (l := [x65.Who, x65.Head.Owner, x65.B.Owner, x65.C.Owner]) (fun _ => rfl) rfl (Nat.le_of_ble_eq_true rfl) rfl (hST.at_ (.head _))) hb122 (fun W123 v126 R124 hST hR125 => ?_))
    refine LV (R_assign (v := v126) rfl) ?_
    refine LW_nil ?_
    refine bq_n ?_
    refine sq_n ?_
    replace hST : ST true NoF w _ _ ((b119, Obj.cells (#[(.string x65.Who), (.string x65.Head.Owner), (.string x65.B.Owner), (.string x65.C.Owner)] : Array Value) 9 (0, 0)) :: ((b116, Obj.cells ((encCred x65).toArray : Array Value) 36 (0, 0)) :: (R124 ++ L109))) := hST
    replace hST : ST true NoF w _ _ (R124 ++ L109) := hST.sublist (List.Sublist.cons _ (List.Sublist.cons _ (List.Sublist.refl _)))
    exact ⟨eI, v126, l121, R124, _, ⟨rfl, eN⟩, (hST.sublist (List.Sublist.refl _)), rfl, e112, hR125, (by rw [hx69]; exact hm110)⟩
  · rintro E W ⟨v85, l86, R88, L109, ⟨eI, eN⟩, hST, e111, e112, hs87, hm110⟩
    rw [List.drop_length] at hm110
    rw [m_ref08_Names_L1] at hm110
    refine sq_n ?_
    refine CW_seq ?_
    refine CW_region ?_
    refine LV (R_move (v := v85) e111) ?_
    obtain ⟨r127, hr128, hm110⟩ := bind_some hm110
    refine LE (E_givesRow (args := [v85]) [] _ hST rfl Try.call32 (by exact args1 rfl) ((w_ref03_Set v85 l86 _ _ (hs87.sl (fun _ => rfl) (fun b o hq => hST.at_ (List.mem_append_left _ hq))) hr128)) (fun W129 v132 μ130 R133 hST hle131 hR134 => ?_))
    refine LV (R_assign (v := v132) rfl) ?_
    refine LW_nil ?_
    refine sq_n ?_
    replace hST : ST true NoF w _ _ (R133 ++ (R88 ++ L109)) := hST
    replace hST : ST true NoF w _ _ (R133 ++ L109) := hST.sublist (List.Sublist.append (List.Sublist.refl _) ((List.Sublist.refl _).trans (List.sublist_append_right _ _)))
    refine CW_ret ?_
    replace hm110 := Option.some.inj hm110; subst hm110
    refine retQ_1 (v := v132) rfl rfl ?_
    exact ⟨_, R133, rfl, hST.backRow (fun p hq => by simp [hq]) hR134.nd, hR134⟩
theorem w_ref08_Same (v_a0 : Value) (a0 : List Fact) (v_a1 : Value) (a1 : List Fact) (r : Bool) (w : World) (h_a0 : Sl (Pl encFact) 3 (hp w) v_a0 a0) (h_a1 : Sl (Pl encFact) 3 (hp w) v_a1 a1) (hm : m_ref08_Same a0 a1 = some r) :
    Gives true Try.prog 10 [v_a0, v_a1] w (.bool r) := by
  have hST := ST.start (dd := true) w
  unfold m_ref08_Same at hm
  refine calls_of_CW (n := 26) Try.func10 rfl rfl (Nat.le_of_ble_eq_true rfl) ?_
  refine CW_seq ?_
  refine CW_region ?_
  refine LV (R_assign (v := (.bool false)) rfl) ?_
  refine LW_nil ?_
  refine sq_n ?_
  refine CW_seq ?_
  refine CW_seq ?_
  refine CW_region ?_
  refine LV (R_move (v := v_a0) rfl) ?_
  refine LV (R_len Try.underlying28 rfl h_a0) ?_
  refine LV (R_move (v := v_a1) rfl) ?_
  refine LV (R_len Try.underlying28 rfl h_a1) ?_
  refine LV (R_int (k := .i64) (a := ((a0.length : Int))) (b := ((a1.length : Int))) (v := (.bool ((((a0.length : Int)) != ((a1.length : Int)))))) rfl rfl rfl) ?_
  refine LW_nil ?_
  refine sq_n ?_
  refine CW_if (b := (((a0.length : Int)) != ((a1.length : Int)))) rfl (fun hb1 => ?_) (fun hb1 => ?_)
  · replace hm := if_t hb1 hm
    refine CW_seq ?_
    refine CW_region ?_
    refine LV (R_assign (v := (.bool false)) rfl) ?_
    refine LW_nil ?_
    refine sq_n ?_
    refine CW_ret ?_
    refine sq_r ?_
    replace hm := Option.some.inj hm; subst hm
    refine retQ_1 (v := (.bool false)) rfl rfl ?_
    exact ⟨rfl, hST.ex⟩
  · replace hm := if_f hb1 hm
    refine CW_skip ?_
    refine sq_n ?_
    refine CW_seq ?_
    refine CW_seq ?_
    refine CW_region ?_
    refine LV (R_move (v := v_a0) rfl) ?_
    refine LV (R_len Try.underlying28 rfl h_a0) ?_
    refine LV (R_move (v := (.int .i64 0)) rfl) ?_
    refine LW_nil ?_
    refine sq_n ?_
    refine CW_range (fun i E W => ∃  (L149 : List (Nat × Obj)), (E 13 = .int .i64 (i : Nat) ∧ E 12 = .int .i64 (a0.length : Nat)) ∧ ST true NoF w W (hp w) L149 ∧ E 0 = v_a0 ∧ E 1 = v_a1 ∧ m_ref08_Same_L1 a1 (a0.drop i) i = some r) a0.length h_a0.len ⟨_, ⟨rfl, rfl⟩, (hST.sublist (List.Sublist.refl _)), rfl, rfl, hm⟩ (by decide) (by decide) (by decide) (fun _ _ _ h => by obtain ⟨_, eIN, _⟩ := h; exact eIN) ?_ ?_
    · rintro i90 E W hi96 ⟨L149, ⟨eI, eN⟩, hST, e151, e152, hm150⟩
      obtain ⟨x91, xs92, hx94, hx93, hx95⟩ := drop_cons hi96
      rw [hx94] at hm150
      rw [m_ref08_Same_L1] at hm150
      refine CW_block ?_
      refine CW_seq ?_
      refine CW_region ?_
      refine LV (R_move (v := (.int .i64 ((i90 : Int)))) eI) ?_
      refine LV (R_assign (v := (.int .i64 ((i90 : Int)))) rfl) ?_
      refine LW_nil ?_
      refine sq_n ?_
      refine CW_seq ?_
      refine PX_start (fun l W => Has (hp w) [] W) Try_mixed ?_
      replace hST := hST.drew
      have hS0 : Has (hp w) [] _ := hST.has.sub (Sub.refl _) (fun p hq => (absurd hq List.not_mem_nil))
      refine PV 0 rfl hS0 (R_move (v := v_a0) e151) ?_
      refine PV 1 rfl hS0 (R_move (v := (.int .i64 ((i90 : Int)))) rfl) ?_
      refine PX_q 2 rfl (by kernel_rfl) (.inl rfl) rfl (by decide) (fun _ _ h => h) hS0 (R_indexP (enc := encFact) (i := (i90 : Int)) (x0 := x91) Try.underlying28 Try.sizeOf43 rfl rfl h_a0 (Int.natCast_nonneg _) hx93) (fun p169 hp170 => ?_)
      refine PX_v 3 rfl (by kernel_rfl) (.inl rfl) rfl (by decide) (fun _ _ h => h) hS0 (fun l W hpd hs => have hS := hs; R_load rfl (load_atA hS hp170 Try.isAgg43 Try.sizeOf43)) ?_
      refine PV 4 rfl hS0 (R_move (v := v_a1) e152) ?_
      refine PV 5 rfl hS0 (R_move (v := (.int .i64 ((i90 : Int)))) rfl) ?_
      obtain ⟨x175, hx176, hm150⟩ := bind_some hm150
      refine PX_q 6 rfl (by kernel_rfl) (.inl rfl) rfl (by decide) (fun _ _ h => h) hS0 (R_indexP (enc := encFact) (i := (i90 : Int)) (x0 := x175) Try.underlying28 Try.sizeOf43 rfl rfl h_a1 (idx_nonneg hx176) (idx_get hx176)) (fun p172 hp173 => ?_)
      refine PX_v 7 rfl (by kernel_rfl) (.inl rfl) rfl (by decide) (fun _ _ h => h) hS0 (fun l W hpd hs => have hS := hs; R_load rfl (load_atA hS hp173 Try.isAgg43 Try.sizeOf43)) ?_
      refine PV 8 rfl hS0 (R_neq (a := (encFact x91).toArray) (b := (encFact x175).toArray) rfl rfl (guard_agg Try.eqGuardType43) (bin_neq (eqInFact _ x91 x175))) ?_
      refine PX_done (by kernel_rfl) ?_
      refine sq_n ?_
      refine CW_if (b := (!(beqFact x91 x175))) rfl (fun hb177 => ?_) (fun hb177 => ?_)
      · replace hm150 := if_t hb177 hm150
        refine CW_seq ?_
        refine CW_region ?_
        refine LV (R_assign (v := (.bool false)) rfl) ?_
        refine LW_nil ?_
        refine sq_n ?_
        refine CW_ret ?_
        refine bq_r (sq_r (bq_r (sq_r ?_)))
        replace hm150 := Option.some.inj hm150; subst hm150
        refine retQ_1 (v := (.bool false)) rfl rfl ?_
        exact ⟨rfl, hST.ex⟩
      · replace hm150 := if_f hb177 hm150
        refine CW_skip ?_
        refine bq_n ?_
        refine sq_n ?_
        exact ⟨eI, _, ⟨rfl, eN⟩, (hST.sublist (List.Sublist.refl _)), e151, e152, (by rw [hx95]; exact hm150)⟩
    · rintro E W ⟨L149, ⟨eI, eN⟩, hST, e151, e152, hm150⟩
      rw [List.drop_length] at hm150
      rw [m_ref08_Same_L1] at hm150
      refine sq_n ?_
      refine CW_seq ?_
      refine CW_region ?_
      refine LV (R_assign (v := (.bool true)) rfl) ?_
      refine LW_nil ?_
      refine sq_n ?_
      refine CW_ret ?_
      replace hm150 := Option.some.inj hm150; subst hm150
      refine retQ_1 (v := (.bool true)) rfl rfl ?_
      exact ⟨rfl, hST.ex⟩
theorem w_law08_founded_c1 (a0 : Role) (a1 : ByteArray) (b_c0 : Nat) (v_c0 : Value) (c0 : List (Fact × Bool)) (r : Bool) (w : World) (h_c0 : MapAt (fun (x : Fact) => (.agg (encFact x).toArray)) (fun (x : Bool) => (Value.bool x)) (hp w) v_c0 c0) (hA_c0 : At (hp w) (.pointer (some ⟨b_c0, 0, none⟩)) [v_c0]) (hm : m_law08_founded_c1 a0 a1 c0 = some r) :
    Gives true Try.prog 37 [(.agg (encRole a0).toArray), (.string a1), (.pointer (some ⟨b_c0, 0, none⟩))] w (.bool r) := by
  have hST := ST.start (dd := true) w
  unfold m_law08_founded_c1 at hm
  refine calls_of_CW (n := 11) Try.func37 rfl rfl (Nat.le_of_ble_eq_true rfl) ?_
  refine CW_seq ?_
  refine CW_region ?_
  refine LE (E_box (v := (.agg (encRole a0).toArray)) hST rfl (fun W2 b1 hST => ?_))
  refine LV (R_assign (v := (.bool false)) rfl) ?_
  refine LW_nil ?_
  refine sq_n ?_
  refine CW_seq ?_
  refine CW_region ?_
  refine LV (R_load rfl (load_at1 hST.has (y := v_c0) hA_c0 Try.isAgg69)) ?_
  refine LV (R_load (v := (.agg (encRole a0).toArray)) rfl (load_boxA hST.has (.head _) (encRole a0) rfl Try.isAgg34 Try.sizeOf34)) ?_
  refine LV (R_move (v := (.string a1)) rfl) ?_
  refine LV (R_build (qs := #[(0, (.agg (encRole a0).toArray)), (1, (.string a1))]) (v := (.agg (encFact ((⟨a0, a1⟩ : Fact))).toArray)) (parts2 rfl rfl) (run_build Try.zeroValue43 Try.underlying43 (pl43 _ Try.underlying43) (by kernel_rfl))) ?_
  refine LV (R_lookupD (k := ((⟨a0, a1⟩ : Fact))) (z := false) (vf := (fun (x : Bool) => (Value.bool x))) kl43 Try.underlying69 Try.zeroValue4 rfl rfl (h_c0.mono (fun b o hq => hST.has.1 b o hq))) ?_
  refine LV (R_assign (v := (.bool ((mgetD beqFact c0 ((⟨a0, a1⟩ : Fact)) false)))) rfl) ?_
  refine LW_nil ?_
  refine sq_n ?_
  replace hST : ST true NoF w _ _ [] := hST.sublist (List.Sublist.cons _ (List.Sublist.refl _))
  refine CW_ret ?_
  replace hm := Option.some.inj hm; subst hm
  refine retQ_1 (v := (.bool ((mgetD beqFact c0 ((⟨a0, a1⟩ : Fact)) false)))) rfl rfl ?_
  exact ⟨rfl, hST.ex⟩
theorem w_law08_founded (v_a0 : Value) (a0 : List Cred) (v_a1 : Value) (a1 : List Fact) (v_a2 : Value) (a2 : List ByteArray) (r : Bool) (w : World) (h_a0 : Sl (Pl encCred) 9 (hp w) v_a0 a0) (h_a1 : Sl (Pl encFact) 3 (hp w) v_a1 a1) (h_a2 : Sl (Pl encSk) 1 (hp w) v_a2 a2) (hm : m_law08_founded a0 a1 a2 = some r) :
    Gives true Try.prog 16 [v_a0, v_a1, v_a2] w (.bool r) := by
  have hST := ST.start (dd := true) w
  unfold m_law08_founded at hm
  refine calls_of_CW (n := 51) Try.func16 rfl rfl (Nat.le_of_ble_eq_true rfl) ?_
  refine CW_seq ?_
  refine CW_region ?_
  refine LV (R_assign (v := (.bool false)) rfl) ?_
  refine LW_nil ?_
  refine sq_n ?_
  refine CW_seq ?_
  refine CW_region ?_
  refine LE (E_makeMap (P := Try.prog) (fun (x : Fact) => (.agg (encFact x).toArray)) (fun (x : Bool) => (Value.bool x)) hST (fun W1 v4 R2 hST hR3 => ?_))
  refine LE (E_alloc hST Try.zeroValue69 (fun W6 b5 hST => ?_))
  obtain ⟨m7, rfl⟩ := hR3.form
  refine LW_e0 (.inl rfl) rfl (E_store [] (.map (some m7)) (#[(.map (some m7))]) hST rfl rfl Try.sizeOf69 (by simp [Value.cells, Value.oneCell']) (Nat.le_of_ble_eq_true rfl) rfl (fun W8 hST => ?_))
  refine LW_nil ?_
  refine sq_n ?_
  refine CW_seq ?_
  refine CW_region ?_
  refine LV (R_makeFuncC (by exact args1 rfl) rfl) ?_
  refine LV (R_assign (v := (.func (.func 37) #[] #[(.pointer (some ⟨b5, 0, none⟩))])) rfl) ?_
  refine LW_nil ?_
  refine sq_n ?_
  refine CW_seq ?_
  refine CW_seq ?_
  refine CW_region ?_
  refine LV (R_move (v := v_a1) rfl) ?_
  refine LV (R_len Try.underlying28 rfl h_a1) ?_
  refine LV (R_move (v := (.int .i64 0)) rfl) ?_
  refine LW_nil ?_
  refine sq_n ?_
  obtain ⟨s3296, hm3297, hm3298⟩ := bind_some hm
  refine CW_cut (fun E W => ∃ (l3288 : List (Fact × Bool)) (R3290 : List (Nat × Obj)) (μ3287 : Mem) (L3291 : List (Nat × Obj)), Sub (hp w) μ3287 ∧ ST true NoF w W μ3287 ((b5, Obj.cells (#[(.map (some m7))] : Array Value) 69 (0, 0)) :: (R3290 ++ L3291)) ∧ E 1 = v_a1 ∧ E 7 = (.pointer (some ⟨b5, 0, none⟩)) ∧ MapRow (fun (x : Fact) => (.agg (encFact x).toArray)) (fun (x : Bool) => (Value.bool x)) (.map (some m7)) l3288 R3290 ∧ some (((l3288.length : Int)) == ((a1.length : Int))) = some r) ?_ ?_
  · replace hST : ST true NoF w _ _ ((b5, Obj.cells (#[(.map (some m7))] : Array Value) 69 (0, 0)) :: (R2 ++ [])) := hST
    refine CW_range (fun i E W => ∃ (l4390 : List (Fact × Bool)) (R4392 : List (Nat × Obj)) (μ4389 : Mem) (L5486 : List (Nat × Obj)), (E 18 = .int .i64 (i : Nat) ∧ E 17 = .int .i64 (a1.length : Nat)) ∧ Sub (hp w) μ4389 ∧ ST true NoF w W μ4389 ((b5, Obj.cells (#[(.map (some m7))] : Array Value) 69 (0, 0)) :: (R4392 ++ L5486)) ∧ E 0 = v_a0 ∧ E 1 = v_a1 ∧ E 2 = v_a2 ∧ E 7 = (.pointer (some ⟨b5, 0, none⟩)) ∧ E 8 = (.func (.func 37) #[] #[(.pointer (some ⟨b5, 0, none⟩))]) ∧ MapRow (fun (x : Fact) => (.agg (encFact x).toArray)) (fun (x : Bool) => (Value.bool x)) (.map (some m7)) l4390 R4392 ∧ m_law08_founded_L1 a2 a0 (a1.drop i) l4390 = some s3296) a1.length h_a1.len ⟨([]), R2, (hp w), _, ⟨rfl, rfl⟩, (Sub.refl _), (hST.sublist (List.Sublist.refl _)), rfl, rfl, rfl, rfl, rfl, hR3, hm3297⟩ (by decide) (by decide) (by decide) (fun _ _ _ h => by obtain ⟨_, _, _, _, eIN, _⟩ := h; exact eIN) ?_ ?_
    · rintro i3299 E W hi3305 ⟨l4390, R4392, μ4389, L5486, ⟨eI, eN⟩, hle5488, hST, e5489, e5490, e5491, e5492, e5493, hs4391, hm5487⟩
      obtain ⟨x3300, xs3301, hx3303, hx3302, hx3304⟩ := drop_cons hi3305
      rw [hx3303] at hm5487
      rw [m_law08_founded_L1] at hm5487
      refine CW_block ?_
      refine CW_seq ?_
      refine CW_region ?_
      refine LV (R_load (v := (.map (some m7))) e5492 (load_box1 hST.has (.head _) rfl Try.isAgg69)) ?_
      refine LV (R_lenMap (vf := (fun (x : Bool) => (Value.bool x))) (kenc := (fun (x : Fact) => (.agg (encFact x).toArray))) Try.underlying69 rfl (hs4391.at (fun b o hq => hST.has.2 b o (.tail _ (List.mem_append_left _ hq))))) ?_
      refine LV (R_assign (v := (.int .i64 ((l4390.length : Int)))) rfl) ?_
      refine LW_nil ?_
      refine sq_n ?_
      refine CW_seq ?_
      refine CW_seq ?_
      refine CW_region ?_
      refine LV (R_move (v := v_a0) e5489) ?_
      refine LV (R_len Try.underlying24 rfl h_a0) ?_
      refine LV (R_move (v := (.int .i64 0)) rfl) ?_
      refine LW_nil ?_
      refine sq_n ?_
      obtain ⟨s6042, hm6043, hm6044⟩ := bind_some hm5487
      refine CW_cut (fun E W => ∃ (l6027 : List (Fact × Bool)) (R6029 : List (Nat × Obj)) (μ6026 : Mem) (L6030 : List (Nat × Obj)), Sub μ4389 μ6026 ∧ ST true NoF w W μ6026 ((b5, Obj.cells (#[(.map (some m7))] : Array Value) 69 (0, 0)) :: (R6029 ++ L6030)) ∧ E 0 = v_a0 ∧ E 1 = v_a1 ∧ E 2 = v_a2 ∧ E 7 = (.pointer (some ⟨b5, 0, none⟩)) ∧ E 8 = (.func (.func 37) #[] #[(.pointer (some ⟨b5, 0, none⟩))]) ∧ E 9 = (.int .i64 ((l4390.length : Int))) ∧ E 17 = (.int .i64 ((a1.length : Int))) ∧ E 18 = (.int .i64 ((i3299 : Int))) ∧ MapRow (fun (x : Fact) => (.agg (encFact x).toArray)) (fun (x : Bool) => (Value.bool x)) (.map (some m7)) l6027 R6029 ∧ (if (((l6027.length : Int)) == ((l4390.length : Int))) then some l6027 else (m_law08_founded_L1 a2 a0 xs3301 l6027)) = some s3296) ?_ ?_
      · refine CW_range (fun i E W => ∃ (l6218 : List (Fact × Bool)) (R6220 : List (Nat × Obj)) (μ6217 : Mem) (L6400 : List (Nat × Obj)), (E 24 = .int .i64 (i : Nat) ∧ E 23 = .int .i64 (a0.length : Nat)) ∧ Sub μ4389 μ6217 ∧ ST true NoF w W μ6217 ((b5, Obj.cells (#[(.map (some m7))] : Array Value) 69 (0, 0)) :: (R6220 ++ L6400)) ∧ E 0 = v_a0 ∧ E 1 = v_a1 ∧ E 2 = v_a2 ∧ E 7 = (.pointer (some ⟨b5, 0, none⟩)) ∧ E 8 = (.func (.func 37) #[] #[(.pointer (some ⟨b5, 0, none⟩))]) ∧ E 9 = (.int .i64 ((l4390.length : Int))) ∧ E 17 = (.int .i64 ((a1.length : Int))) ∧ E 18 = (.int .i64 ((i3299 : Int))) ∧ E 22 = v_a0 ∧ MapRow (fun (x : Fact) => (.agg (encFact x).toArray)) (fun (x : Bool) => (Value.bool x)) (.map (some m7)) l6218 R6220 ∧ m_law08_founded_L2 a2 (a0.drop i) l6218 = some s6042) a0.length h_a0.len ⟨l4390, R4392, μ4389, _, ⟨rfl, rfl⟩, (Sub.refl _), (hST.sublist (List.Sublist.refl _)), e5489, e5490, e5491, e5492, e5493, rfl, eN, eI, rfl, hs4391, hm6043⟩ (by decide) (by decide) (by decide) (fun _ _ _ h => by obtain ⟨_, _, _, _, eIN, _⟩ := h; exact eIN) ?_ ?_
        · rintro i6045 E W hi6051 ⟨l6218, R6220, μ6217, L6400, ⟨eI, eN⟩, hle6402, hST, e6403, e6404, e6405, e6406, e6407, e6408, e6409, e6410, e6411, hs6219, hm6401⟩
          obtain ⟨x6046, xs6047, hx6049, hx6048, hx6050⟩ := drop_cons hi6051
          rw [hx6049] at hm6401
          rw [m_law08_founded_L2] at hm6401
          refine CW_block ?_
          refine CW_seq ?_
          refine CW_region ?_
          refine LQ (R_indexP (enc := encCred) (i := (i6045 : Int)) (x0 := x6046) Try.underlying24 Try.sizeOf36 e6411 eI (h_a0.mono (Pl.mono _) (hle5488.trans hle6402)) (Int.natCast_nonneg _) hx6048) (fun p6412 hp6413 => ?_)
          refine LV (R_load rfl (load_atA hST.has hp6413 Try.isAgg36 Try.sizeOf36)) ?_
          refine LE (E_alloc hST Try.zeroValue36 (fun W6416 b6415 hST => ?_))
          refine LW_e0 (.inl rfl) rfl (E_store [] (.agg (encCred x6046).toArray) ((encCred x6046).toArray) hST rfl rfl Try.sizeOf36 (oneCred x6046) (Nat.le_of_ble_eq_true rfl) rfl (fun W6417 hST => ?_))
          refine LW_nil ?_
          refine sq_n ?_
          refine CW_seq ?_
          refine CW_region ?_
          refine LV (R_load (v := (.agg (encCred x6046).toArray)) rfl (load_boxA hST.has (.head _) (encCred x6046) rfl Try.isAgg36 Try.sizeOf36)) ?_
          refine LV (R_move (v := (.func (.func 37) #[] #[(.pointer (some ⟨b5, 0, none⟩))])) e6407) ?_
          refine LV (R_move (v := v_a2) e6405) ?_
          replace hST : ST true NoF w _ _ ((b6415, Obj.cells ((encCred x6046).toArray : Array Value) 36 (0, 0)) :: ((b5, Obj.cells (#[(.map (some m7))] : Array Value) 69 (0, 0)) :: (R6220 ++ L6400))) := hST
          obtain ⟨r6418, hr6419, hm6401⟩ := bind_some hm6401
          refine LE (E_givesRow (args := [(.agg (encCred x6046).toArray), (.func (.func 37) #[] #[(.pointer (some ⟨b5, 0, none⟩))]), v_a2]) [_, _] _ hST rfl Try.call14 (by exact args3 rfl rfl rfl) ((w_model_Holds x6046 (.func (.func 37) #[] #[(.pointer (some ⟨b5, 0, none⟩))]) (fun (x : (Role × ByteArray)) => m_law08_founded_c1 x.1 x.2 l6218) v_a2 a2 _ _ ⟨37, #[], #[(.pointer (some ⟨b5, 0, none⟩))], rfl, Try.call37, fun W x r hs hm => w_law08_founded_c1 x.1 x.2 b5 (.map (some m7)) l6218 r W (hs6219.at (fun b o hq => hs _ _ ((fun b o hq => hST.at_ (.tail _ (.tail _ (List.mem_append_left _ hq)))) b o hq))) (At.of (hs _ _ (hST.at_ (.tail _ (.head _)))) _ rfl) hm⟩ (h_a2.mono (Pl.mono _) ((hle5488.trans hle6402).trans hST.sub_hp)) hr6419)) (fun W6420 v6423 μ6421 R6424 hST hle6422 hR6425 => ?_))
          refine LV (R_lenRow Try.underlying28 rfl hR6425) ?_
          refine LV (R_move (v := (.int .i64 0)) rfl) ?_
          refine LW_nil ?_
          refine sq_n ?_
          replace hST : ST true NoF w _ _ ((b6415, Obj.cells ((encCred x6046).toArray : Array Value) 36 (0, 0)) :: ((b5, Obj.cells (#[(.map (some m7))] : Array Value) 69 (0, 0)) :: (R6424 ++ (R6220 ++ L6400)))) := hST
          replace hST : ST true NoF w _ _ ((b5, Obj.cells (#[(.map (some m7))] : Array Value) 69 (0, 0)) :: (R6424 ++ (R6220 ++ L6400))) := hST.sublist (List.Sublist.cons _ (List.Sublist.refl _))
          refine CW_tail ?_
          obtain ⟨s6508, hm6509, hm6510⟩ := bind_some hm6401
          refine CW_cut (fun E W => ∃ (l6492 : List (Fact × Bool)) (R6494 : List (Nat × Obj)) (L6495 : List (Nat × Obj)), ST true NoF w W μ6421 ((b5, Obj.cells (#[(.map (some m7))] : Array Value) 69 (0, 0)) :: (R6494 ++ L6495)) ∧ E 0 = v_a0 ∧ E 1 = v_a1 ∧ E 2 = v_a2 ∧ E 7 = (.pointer (some ⟨b5, 0, none⟩)) ∧ E 8 = (.func (.func 37) #[] #[(.pointer (some ⟨b5, 0, none⟩))]) ∧ E 9 = (.int .i64 ((l4390.length : Int))) ∧ E 17 = (.int .i64 ((a1.length : Int))) ∧ E 18 = (.int .i64 ((i3299 : Int))) ∧ E 22 = v_a0 ∧ E 23 = (.int .i64 ((a0.length : Int))) ∧ E 24 = (.int .i64 ((i6045 : Int))) ∧ MapRow (fun (x : Fact) => (.agg (encFact x).toArray)) (fun (x : Bool) => (Value.bool x)) (.map (some m7)) l6492 R6494 ∧ (m_law08_founded_L2 a2 xs6047 l6492) = some s6042) ?_ ?_
          · replace hST : ST true NoF w _ _ ((b5, Obj.cells (#[(.map (some m7))] : Array Value) 69 (0, 0)) :: (R6220 ++ (R6424 ++ L6400))) := hST.perm (permD [[(b5, Obj.cells (#[(.map (some m7))] : Array Value) 69 (0, 0))], R6424, R6220] [0, 1, 2] [0, 2, 1] L6400 (by decide) rfl rfl)
            refine CW_range (fun i E W => ∃ (l6527 : List (Fact × Bool)) (R6529 : List (Nat × Obj)) (L6554 : List (Nat × Obj)), (E 33 = .int .i64 (i : Nat) ∧ E 32 = .int .i64 (r6418.length : Nat)) ∧ ST true NoF w W μ6421 ((b5, Obj.cells (#[(.map (some m7))] : Array Value) 69 (0, 0)) :: (R6529 ++ (R6424 ++ L6554))) ∧ E 0 = v_a0 ∧ E 1 = v_a1 ∧ E 2 = v_a2 ∧ E 7 = (.pointer (some ⟨b5, 0, none⟩)) ∧ E 8 = (.func (.func 37) #[] #[(.pointer (some ⟨b5, 0, none⟩))]) ∧ E 9 = (.int .i64 ((l4390.length : Int))) ∧ E 17 = (.int .i64 ((a1.length : Int))) ∧ E 18 = (.int .i64 ((i3299 : Int))) ∧ E 22 = v_a0 ∧ E 23 = (.int .i64 ((a0.length : Int))) ∧ E 24 = (.int .i64 ((i6045 : Int))) ∧ E 31 = v6423 ∧ MapRow (fun (x : Fact) => (.agg (encFact x).toArray)) (fun (x : Bool) => (Value.bool x)) (.map (some m7)) l6527 R6529 ∧ m_law08_founded_L3 (r6418.drop i) l6527 = some s6508) r6418.length hR6425.len ⟨l6218, R6220, _, ⟨rfl, rfl⟩, (hST.sublist (List.Sublist.refl _)), e6403, e6404, e6405, e6406, e6407, e6408, e6409, e6410, e6411, eN, eI, rfl, hs6219, hm6509⟩ (by decide) (by decide) (by decide) (fun _ _ _ h => by obtain ⟨_, _, _, eIN, _⟩ := h; exact eIN) ?_ ?_
            · rintro i6511 E W hi6517 ⟨l6527, R6529, L6554, ⟨eI, eN⟩, hST, e6556, e6557, e6558, e6559, e6560, e6561, e6562, e6563, e6564, e6565, e6566, e6567, hs6528, hm6555⟩
              obtain ⟨x6512, xs6513, hx6515, hx6514, hx6516⟩ := drop_cons hi6517
              rw [hx6515] at hm6555
              rw [m_law08_founded_L3] at hm6555
              refine CW_block ?_
              refine CW_seq ?_
              refine CW_region ?_
              refine LQ (R_indexRow (i := (i6511 : Int)) (x0 := x6512) Try.underlying28 Try.sizeOf43 e6567 eI hR6425 (Int.natCast_nonneg _) hx6514) (fun p6568 hp6569 => ?_)
              refine LV (R_load (v := (.agg (encFact x6512).toArray)) rfl (load_ixA hST.has (fun p hq => by simp [hq]) hR6425 lenFact hp6569 hx6514 Try.isAgg43 Try.sizeOf43)) ?_
              refine LE (E_alloc hST Try.zeroValue43 (fun W6572 b6571 hST => ?_))
              refine LW_e0 (.inl rfl) rfl (E_store [] (.agg (encFact x6512).toArray) ((encFact x6512).toArray) hST rfl rfl Try.sizeOf43 (oneFact x6512) (Nat.le_of_ble_eq_true rfl) rfl (fun W6573 hST => ?_))
              refine LW_nil ?_
              refine sq_n ?_
              refine CW_region ?_
              refine LV (R_load (v := (.map (some m7))) e6559 (load_box1 hST.has (.tail _ (.head _)) rfl Try.isAgg69)) ?_
              refine LV (R_load (v := (.agg (encFact x6512).toArray)) rfl (load_boxA hST.has (.head _) (encFact x6512) rfl Try.isAgg43 Try.sizeOf43)) ?_
              replace hST : ST true NoF w _ _ ((b6571, Obj.cells ((encFact x6512).toArray : Array Value) 43 (0, 0)) :: ((b5, Obj.cells (#[(.map (some m7))] : Array Value) 69 (0, 0)) :: (R6529 ++ (R6424 ++ L6554)))) := hST
              refine LW_e0 (.inl rfl) rfl (E_mapUpdate (k := x6512) (v := true) (vf := (fun (x : Bool) => (Value.bool x))) [_, _] kl43 Try.underlying69 hST hs6528 rfl rfl rfl (fun W6574 R6575 hST hR6576 => ?_))
              refine LW_nil ?_
              refine bq_n ?_
              refine sq_n ?_
              replace hST : ST true NoF w _ _ ((b6571, Obj.cells ((encFact x6512).toArray : Array Value) 43 (0, 0)) :: ((b5, Obj.cells (#[(.map (some m7))] : Array Value) 69 (0, 0)) :: (R6575 ++ (R6424 ++ L6554)))) := hST
              replace hST : ST true NoF w _ _ ((b5, Obj.cells (#[(.map (some m7))] : Array Value) 69 (0, 0)) :: (R6575 ++ (R6424 ++ L6554))) := hST.sublist (List.Sublist.cons _ (List.Sublist.refl _))
              exact ⟨eI, ((mput beqFact l6527 x6512 true)), R6575, _, ⟨rfl, eN⟩, (hST.sublist (List.Sublist.refl _)), e6556, e6557, e6558, e6559, e6560, e6561, e6562, e6563, e6564, e6565, e6566, e6567, hR6576, (by rw [hx6516]; exact hm6555)⟩
            · rintro E W ⟨l6527, R6529, L6554, ⟨eI, eN⟩, hST, e6556, e6557, e6558, e6559, e6560, e6561, e6562, e6563, e6564, e6565, e6566, e6567, hs6528, hm6555⟩
              rw [List.drop_length] at hm6555
              rw [m_law08_founded_L3] at hm6555
              refine sq_n ?_
              replace hm6555 := Option.some.inj hm6555; subst hm6555
              exact ⟨l6527, R6529, _, (hST.sublist (List.Sublist.cons_cons _ (List.Sublist.append (List.Sublist.refl _) ((List.Sublist.refl _).trans (List.sublist_append_right _ _))))), e6556, e6557, e6558, e6559, e6560, e6561, e6562, e6563, e6564, e6565, e6566, hs6528, hm6510⟩
          · rintro E W ⟨l6492, R6494, L6495, hST, e6497, e6498, e6499, e6500, e6501, e6502, e6503, e6504, e6505, e6506, e6507, hs6493, hm6496⟩
            refine bq_n ?_
            refine sq_n ?_
            exact ⟨e6507, l6492, R6494, μ6421, _, ⟨rfl, e6506⟩, (hle6402.trans hle6422), (hST.sublist (List.Sublist.refl _)), e6497, e6498, e6499, e6500, e6501, e6502, e6503, e6504, e6505, hs6493, (by rw [hx6050]; exact hm6496)⟩
        · rintro E W ⟨l6218, R6220, μ6217, L6400, ⟨eI, eN⟩, hle6402, hST, e6403, e6404, e6405, e6406, e6407, e6408, e6409, e6410, e6411, hs6219, hm6401⟩
          rw [List.drop_length] at hm6401
          rw [m_law08_founded_L2] at hm6401
          refine sq_n ?_
          replace hm6401 := Option.some.inj hm6401; subst hm6401
          exact ⟨l6218, R6220, μ6217, _, hle6402, (hST.sublist (List.Sublist.refl _)), e6403, e6404, e6405, e6406, e6407, e6408, e6409, e6410, hs6219, hm6044⟩
      · rintro E W ⟨l6027, R6029, μ6026, L6030, hle6032, hST, e6033, e6034, e6035, e6036, e6037, e6038, e6039, e6040, hs6028, hm6031⟩
        refine CW_seq ?_
        refine CW_region ?_
        refine LV (R_load (v := (.map (some m7))) e6036 (load_box1 hST.has (.head _) rfl Try.isAgg69)) ?_
        refine LV (R_lenMap (vf := (fun (x : Bool) => (Value.bool x))) (kenc := (fun (x : Fact) => (.agg (encFact x).toArray))) Try.underlying69 rfl (hs6028.at (fun b o hq => hST.has.2 b o (.tail _ (List.mem_append_left _ hq))))) ?_
        refine LV (R_move (v := (.int .i64 ((l4390.length : Int)))) e6038) ?_
        refine LV (R_int (k := .i64) (a := ((l6027.length : Int))) (b := ((l4390.length : Int))) (v := (.bool ((((l6027.length : Int)) == ((l4390.length : Int)))))) rfl rfl rfl) ?_
        refine LW_nil ?_
        refine sq_n ?_
        refine CW_if (b := (((l6027.length : Int)) == ((l4390.length : Int)))) rfl (fun hb6041 => ?_) (fun hb6041 => ?_)
        · replace hm6031 := if_t hb6041 hm6031
          refine CW_exit ?_
          refine bq_o (by simp) (sq_e (bq_e ?_))
          refine sq_n ?_
          replace hm6031 := Option.some.inj hm6031; subst hm6031
          exact ⟨l6027, R6029, μ6026, _, (hle5488.trans hle6032), (hST.sublist (List.Sublist.refl _)), e6034, e6036, hs6028, hm3298⟩
        · replace hm6031 := if_f hb6041 hm6031
          refine CW_skip ?_
          refine bq_n ?_
          refine sq_n ?_
          exact ⟨e6040, l6027, R6029, μ6026, _, ⟨rfl, e6039⟩, (hle5488.trans hle6032), (hST.sublist (List.Sublist.refl _)), e6033, e6034, e6035, e6036, e6037, hs6028, (by rw [hx3304]; exact hm6031)⟩
    · rintro E W ⟨l4390, R4392, μ4389, L5486, ⟨eI, eN⟩, hle5488, hST, e5489, e5490, e5491, e5492, e5493, hs4391, hm5487⟩
      rw [List.drop_length] at hm5487
      rw [m_law08_founded_L1] at hm5487
      refine sq_n ?_
      replace hm5487 := Option.some.inj hm5487; subst hm5487
      exact ⟨l4390, R4392, μ4389, _, hle5488, (hST.sublist (List.Sublist.refl _)), e5490, e5492, hs4391, hm3298⟩
  · rintro E W ⟨l3288, R3290, μ3287, L3291, hle3293, hST, e3294, e3295, hs3289, hm3292⟩
    refine CW_seq ?_
    refine CW_region ?_
    refine LV (R_load (v := (.map (some m7))) e3295 (load_box1 hST.has (.head _) rfl Try.isAgg69)) ?_
    refine LV (R_lenMap (vf := (fun (x : Bool) => (Value.bool x))) (kenc := (fun (x : Fact) => (.agg (encFact x).toArray))) Try.underlying69 rfl (hs3289.at (fun b o hq => hST.has.2 b o (.tail _ (List.mem_append_left _ hq))))) ?_
    refine LV (R_move (v := v_a1) e3294) ?_
    refine LV (R_len Try.underlying28 rfl h_a1) ?_
    refine LV (R_int (k := .i64) (a := ((l3288.length : Int))) (b := ((a1.length : Int))) (v := (.bool ((((l3288.length : Int)) == ((a1.length : Int)))))) rfl rfl rfl) ?_
    refine LV (R_assign (v := (.bool ((((l3288.length : Int)) == ((a1.length : Int)))))) rfl) ?_
    refine LW_nil ?_
    refine sq_n ?_
    replace hST : ST true NoF w _ _ L3291 := hST.sublist (List.Sublist.cons _ ((List.Sublist.refl _).trans (List.sublist_append_right _ _)))
    refine CW_ret ?_
    replace hm3292 := Option.some.inj hm3292; subst hm3292
    refine retQ_1 (v := (.bool ((((l3288.length : Int)) == ((a1.length : Int)))))) rfl rfl ?_
    exact ⟨rfl, hST.ex⟩
theorem w_law08_ModelLeast (v_a0 : Value) (a0 : List Cred) (a1 : Cred) (r : Bool) (w : World) (h_a0 : Sl (Pl encCred) 9 (hp w) v_a0 a0) (hm : m_law08_ModelLeast a0 a1 = some r) :
    Gives false Try.prog 4 [v_a0, (.agg (encCred a1).toArray)] w (.bool r) := by
  have hST := ST.start (dd := false) w
  unfold m_law08_ModelLeast at hm
  refine calls_of_CW (n := 113) Try.func4 rfl rfl (Nat.le_of_ble_eq_true rfl) ?_
  refine CW_seq ?_
  refine CW_region ?_
  refine LE (E_box (v := (.agg (encCred a1).toArray)) hST rfl (fun W2 b1 hST => ?_))
  refine LV (R_assign (v := (.bool false)) rfl) ?_
  refine LW_nil ?_
  refine sq_n ?_
  refine CW_seq ?_
  refine CW_seq ?_
  refine CW_region ?_
  obtain ⟨r3, hr4, hm⟩ := bind_some hm
  refine LE (E_gives (args := []) hST rfl Try.call5 (by exact args0 ) ((w_law08_first  _ _  hr4)) (fun W5 hST => ?_))
  refine LV (R_not (b := r3) rfl) ?_
  refine LW_nil ?_
  refine sq_n ?_
  refine CW_if (b := (!r3)) rfl (fun hb6 => ?_) (fun hb6 => ?_)
  · replace hm := if_t hb6 hm
    refine CW_seq ?_
    refine CW_region ?_
    refine LV (R_assign (v := (.bool false)) rfl) ?_
    refine LW_nil ?_
    refine sq_n ?_
    replace hST : ST false NoF w _ _ [] := hST.sublist (List.Sublist.cons _ (List.Sublist.refl _))
    refine CW_ret ?_
    refine sq_r ?_
    replace hm := Option.some.inj hm; subst hm
    refine retQ_1 (v := (.bool false)) rfl rfl ?_
    exact ⟨rfl, hST.ex⟩
  · replace hm := if_f hb6 hm
    refine CW_skip ?_
    refine sq_n ?_
    refine CW_seq ?_
    refine CW_seq ?_
    refine CW_region ?_
    refine LV (R_move (v := v_a0) rfl) ?_
    obtain ⟨r7, hr8, hm⟩ := bind_some hm
    refine LE (E_gives (args := [v_a0]) hST rfl Try.call7 (by exact args1 rfl) (Gives.weak (w_law05_Great v_a0 a0 _ _ (h_a0.mono (Pl.mono _) hST.sub_hp) hr8)) (fun W9 hST => ?_))
    refine LV (R_int (k := .i64) (a := r7) (b := 1200) (v := (.bool ((decide (r7 > 1200))))) rfl rfl rfl) ?_
    refine LV (R_move (v := (.bool ((decide (r7 > 1200))))) rfl) ?_
    obtain ⟨s1732, hm1733, hm1734⟩ := bind_some hm
    refine LW_join (J := fun E W => ∃ (x16 : Bool) (L17 : List (Nat × Obj)), ST false NoF w W (hp w) ((b1, Obj.cells ((encCred a1).toArray : Array Value) 36 (0, 0)) :: L17) ∧ E 0 = v_a0 ∧ E 3 = (.pointer (some ⟨b1, 0, none⟩)) ∧ E 27 = (.bool x16) ∧ (if x16 then some true else (((m_model_Of a0)).bind fun r23 => (((m_model_Model_Facts r23.1 r23.2.1 r23.2.2.1 r23.2.2.2.1 r23.2.2.2.2.1 r23.2.2.2.2.2)).bind fun r48 => (((((appB 136 ([]) a0)).bind fun l1706 => some (l1706, ([a1]))) : Option (((List Cred) × (List Cred)))).bind fun (l215, l219) => (((appB 136 l215 l219)).bind fun l230 => (((m_ref05_Set l230)).bind fun r236 => (((m_ref08_Names r236)).bind fun r244 => m_law08_ModelLeast_L1 r23 r244 a0 r48 a1 a0))))))) = some r) 5 ?_ (fun key1735 => ?_)
    · rintro E W ⟨x16, L17, hST, e19, e20, e21, hm18⟩
      refine LW_nil ?_
      refine sq_n ?_
      refine CW_if (b := x16) e21 (fun hb22 => ?_) (fun hb22 => ?_)
      · replace hm18 := if_t hb22 hm18
        refine CW_seq ?_
        refine CW_region ?_
        refine LV (R_assign (v := (.bool true)) rfl) ?_
        refine LW_nil ?_
        refine sq_n ?_
        replace hST : ST false NoF w _ _ L17 := hST.sublist (List.Sublist.cons _ (List.Sublist.refl _))
        refine CW_ret ?_
        refine sq_r ?_
        replace hm18 := Option.some.inj hm18; subst hm18
        refine retQ_1 (v := (.bool true)) rfl rfl ?_
        exact ⟨rfl, hST.ex⟩
      · replace hm18 := if_f hb22 hm18
        refine CW_skip ?_
        refine sq_n ?_
        refine CW_seq ?_
        refine CW_region ?_
        refine LV (R_move (v := v_a0) e19) ?_
        obtain ⟨r23, hr24, hm18⟩ := bind_some hm18
        have hsz := hST.size
        refine LE (E_callM (args := [v_a0]) (caps := #[]) [] (((b1, Obj.cells ((encCred a1).toArray : Array Value) 36 (0, 0)) :: L17)) hST (List.Perm.refl _) rfl Try.call6 (by exact args1 rfl) (fun _ _ _ _ => (w_model_Of v_a0 a0 _ _ (h_a0.mono (Pl.mono _) hST.sub_hp) hr24)) (fun W25 v28 μ26 L30 hST hle27 hlift hK29 => ?_))
        obtain ⟨b31, y32, S33, y35, S36, y38, S39, y41, S42, y44, S45, hv47, rfl, hy34, hy37, hy40, hy43, hy46⟩ := hK29
        replace hv47 := hv47.symm; subst hv47
        simp only [List.append_assoc, List.cons_append, List.nil_append] at hST
        replace hST : ST false NoF w _ _ ((b31, Obj.cells (#[y32, y35, y38, y41, y44, (.int .i64 (r23.2.2.2.2.2))] : Array Value) 53 (0, 0)) :: ((b1, Obj.cells ((encCred a1).toArray : Array Value) 36 (0, 0)) :: (S33 ++ (S36 ++ (S39 ++ (S42 ++ (S45 ++ L17))))))) := hST.perm (permD [[(b31, Obj.cells (#[y32, y35, y38, y41, y44, (.int .i64 (r23.2.2.2.2.2))] : Array Value) 53 (0, 0))], S33, S36, S39, S42, S45, [(b1, Obj.cells ((encCred a1).toArray : Array Value) 36 (0, 0))]] [0, 1, 2, 3, 4, 5, 6] [0, 6, 1, 2, 3, 4, 5] L17 (by decide) rfl rfl)
        refine LV (R_assign (v := (.pointer (some ⟨b31, 0, none⟩))) rfl) ?_
        refine LW_nil ?_
        refine sq_n ?_
        refine CW_seq ?_
        refine CW_region ?_
        refine LV (R_move (v := (.pointer (some ⟨b31, 0, none⟩))) rfl) ?_
        obtain ⟨r48, hr49, hm18⟩ := bind_some hm18
        refine LE (E_givesRow (args := [(.pointer (some ⟨b31, 0, none⟩))]) [_, _] _ hST rfl Try.call11 (by exact args1 rfl) (GivesRow.weak (w_model_Model_Facts b31 y32 r23.1 y35 r23.2.1 y38 r23.2.2.1 y41 r23.2.2.2.1 y44 r23.2.2.2.2.1 r23.2.2.2.2.2 _ _ (hy34.at (fun b o hq => hST.at_ (.tail _ (.tail _ (List.mem_append_left _ hq))))) (hy37.sl lenCred (fun b o hq => hST.at_ (.tail _ (.tail _ (List.mem_append_right _ (List.mem_append_left _ hq)))))) (hy40.at (fun b o hq => hST.at_ (.tail _ (.tail _ (List.mem_append_right _ (List.mem_append_right _ (List.mem_append_left _ hq))))))) (hy43.at (fun b o hq => hST.at_ (.tail _ (.tail _ (List.mem_append_right _ (List.mem_append_right _ (List.mem_append_right _ (List.mem_append_left _ hq)))))))) ((hy46.slL lenFact).mono (Pl.mono _) (memL_held (fun b o hq => hST.at_ (.tail _ (.tail _ (List.mem_append_right _ (List.mem_append_right _ (List.mem_append_right _ (List.mem_append_right _ (List.mem_append_left _ hq)))))))))) (At.of (hST.at_ (.head _)) _ rfl) hr49)) (fun W50 v53 μ51 R54 hST hle52 hR55 => ?_))
        refine LV (R_assign (v := v53) rfl) ?_
        refine LW_nil ?_
        refine sq_n ?_
        refine CW_seq ?_
        refine PX_start (fun l W => Has μ51 ((b1, Obj.cells ((encCred a1).toArray : Array Value) 36 (0, 0)) :: []) W) Try_mixed ?_
        replace hST := hST.drew
        replace hST : ST false NoF w _ _ ((b31, Obj.cells (#[y32, y35, y38, y41, y44, (.int .i64 (r23.2.2.2.2.2))] : Array Value) 53 (0, 0)) :: ((b1, Obj.cells ((encCred a1).toArray : Array Value) 36 (0, 0)) :: (R54 ++ (S33 ++ (S36 ++ (S39 ++ (S42 ++ (S45 ++ L17)))))))) := hST
        have hS0 : Has μ51 ((b1, Obj.cells ((encCred a1).toArray : Array Value) 36 (0, 0)) :: []) _ := hST.has.sub (Sub.refl _) (fun p hq => ((List.mem_cons.1 hq).elim (fun hq => by rw [hq]; exact (.tail _ (.head _))) (fun hq => (absurd hq List.not_mem_nil))))
        refine PV 1 rfl hS0 (R_move (v := v_a0) e19) ?_
        refine PX_v 3 rfl (by kernel_rfl) (.inl rfl) rfl (by decide) (fun _ _ h => h) hS0 (fun l W hpd hs => have hS := hs; R_load (v := (.agg (encCred a1).toArray)) e20 (load_boxA hS (.head _) (encCred a1) rfl Try.isAgg36 Try.sizeOf36)) ?_
        obtain ⟨s1700, hm1701, hm1702⟩ := bind_some hm18
        refine PX_join (J := fun E W => ∃ (v214 : Value) (l215 : List Cred) (R217 : List (Nat × Obj)) (v218 : Value) (l219 : List Cred) (R221 : List (Nat × Obj)) (L222 : List (Nat × Obj)), ST false NoF w W μ51 ((b31, Obj.cells (#[y32, y35, y38, y41, y44, (.int .i64 r23.2.2.2.2.2)] : Array Value) 53 (0, 0)) :: ((b1, Obj.cells ((encCred a1).toArray : Array Value) 36 (0, 0)) :: (R217 ++ (R54 ++ (S33 ++ (S36 ++ (S39 ++ (S42 ++ (S45 ++ (R221 ++ L222)))))))))) ∧ E 0 = v_a0 ∧ E 3 = (.pointer (some ⟨b1, 0, none⟩)) ∧ E 5 = (.pointer (some ⟨b31, 0, none⟩)) ∧ E 6 = v53 ∧ E 34 = v214 ∧ E 36 = v218 ∧ Row 36 encCred 9 v214 l215 R217 ∧ Row 36 encCred 9 v218 l219 R221 ∧ (((appB 136 l215 l219)).bind fun l230 => (((m_ref05_Set l230)).bind fun r236 => (((m_ref08_Names r236)).bind fun r244 => m_law08_ModelLeast_L1 r23 r244 a0 r48 a1 a0))) = some r) #[true, true, true, true, true, false, false, false, false] 4 ?_ (fun key1703 => ?_)
        · rintro E W ⟨v214, l215, R217, v218, l219, R221, L222, hST, e224, e225, e226, e227, e228, e229, hs216, hs220, hm223⟩
          have hS0 : Has μ51 ((b1, Obj.cells ((encCred a1).toArray : Array Value) 36 (0, 0)) :: []) _ := hST.has.sub (Sub.refl _) (fun p hq => ((List.mem_cons.1 hq).elim (fun hq => by rw [hq]; exact (.tail _ (.head _))) (fun hq => (absurd hq List.not_mem_nil))))
          obtain ⟨l230, hb231, hm223⟩ := bind_some hm223
          refine PX_e 5 rfl (by kernel_rfl) (.inl rfl) rfl (by decide) (E_append (enc := encCred) (v := v214) (vs := v218) (R := R217) [_, _] hST lenCred (by decide) oneCred Try.underlying24 info36.1 info36.2.1 rfl info36.2.2.1 info36.2.2.2 e228 e229 hs216 (hs220.slM lenCred hST (fun p hq => by simp [hq])) hb231 (fun W232 v235 R233 hST hR234 => ?_))
          replace hST : ST false NoF w _ _ ((b31, Obj.cells (#[y32, y35, y38, y41, y44, (.int .i64 r23.2.2.2.2.2)] : Array Value) 53 (0, 0)) :: ((b1, Obj.cells ((encCred a1).toArray : Array Value) 36 (0, 0)) :: (R233 ++ (R54 ++ (S33 ++ (S36 ++ (S39 ++ (S42 ++ (S45 ++ (R221 ++ L222)))))))))) := hST
          have hS0 : Has μ51 ((b1, Obj.cells ((encCred a1).toArray : Array Value) 36 (0, 0)) :: []) _ := hST.has.sub (Sub.refl _) (fun p hq => ((List.mem_cons.1 hq).elim (fun hq => by rw [hq]; exact (.tail _ (.head _))) (fun hq => (absurd hq List.not_mem_nil))))
          refine ⟨hS0, ?_⟩
          obtain ⟨r236, hr237, hm223⟩ := bind_some hm223
          refine PX_e 6 rfl (by kernel_rfl) (.inl rfl) rfl (by decide) (E_givesRow (args := [v235]) [_, _] _ hST rfl Try.call13 (by exact args1 rfl) (GivesRow.weak (w_ref05_Set v235 l230 _ _ (hR234.sl lenCred (fun b o hq => hST.at_ (.tail _ (.tail _ (List.mem_append_left _ hq))))) hr237)) (fun W238 v241 μ239 R242 hST hle240 hR243 => ?_))
          replace hST : ST false NoF w _ _ ((b31, Obj.cells (#[y32, y35, y38, y41, y44, (.int .i64 r23.2.2.2.2.2)] : Array Value) 53 (0, 0)) :: ((b1, Obj.cells ((encCred a1).toArray : Array Value) 36 (0, 0)) :: (R242 ++ (R233 ++ (R54 ++ (S33 ++ (S36 ++ (S39 ++ (S42 ++ (S45 ++ (R221 ++ L222))))))))))) := hST
          have hS0 : Has μ51 ((b1, Obj.cells ((encCred a1).toArray : Array Value) 36 (0, 0)) :: []) _ := hST.has.sub hle240 (fun p hq => ((List.mem_cons.1 hq).elim (fun hq => by rw [hq]; exact (.tail _ (.head _))) (fun hq => (absurd hq List.not_mem_nil))))
          refine ⟨hS0, ?_⟩
          obtain ⟨r244, hr245, hm223⟩ := bind_some hm223
          refine PX_e 7 rfl (by kernel_rfl) (.inl rfl) rfl (by decide) (E_givesRow (args := [v241]) [_, _] _ hST rfl Try.call12 (by exact args1 rfl) (GivesRow.weak (w_ref08_Names v241 r236 _ _ (hR243.sl lenCred (fun b o hq => hST.at_ (.tail _ (.tail _ (List.mem_append_left _ hq))))) hr245)) (fun W246 v249 μ247 R250 hST hle248 hR251 => ?_))
          replace hST : ST false NoF w _ _ ((b31, Obj.cells (#[y32, y35, y38, y41, y44, (.int .i64 r23.2.2.2.2.2)] : Array Value) 53 (0, 0)) :: ((b1, Obj.cells ((encCred a1).toArray : Array Value) 36 (0, 0)) :: (R250 ++ (R242 ++ (R233 ++ (R54 ++ (S33 ++ (S36 ++ (S39 ++ (S42 ++ (S45 ++ (R221 ++ L222)))))))))))) := hST
          have hS0 : Has μ51 ((b1, Obj.cells ((encCred a1).toArray : Array Value) 36 (0, 0)) :: []) _ := hST.has.sub (hle240.trans hle248) (fun p hq => ((List.mem_cons.1 hq).elim (fun hq => by rw [hq]; exact (.tail _ (.head _))) (fun hq => (absurd hq List.not_mem_nil))))
          refine ⟨hS0, ?_⟩
          refine PV 8 rfl hS0 (R_assign (v := v249) rfl) ?_
          refine PX_done (by kernel_rfl) ?_
          refine sq_n ?_
          replace hST : ST false NoF w _ _ ((b31, Obj.cells (#[y32, y35, y38, y41, y44, (.int .i64 r23.2.2.2.2.2)] : Array Value) 53 (0, 0)) :: ((b1, Obj.cells ((encCred a1).toArray : Array Value) 36 (0, 0)) :: (R250 ++ (R54 ++ (S33 ++ (S36 ++ (S39 ++ (S42 ++ (S45 ++ L222))))))))) := hST.sublist (List.Sublist.cons_cons _ (List.Sublist.cons_cons _ (List.Sublist.append (List.Sublist.refl _) (((List.Sublist.append (List.Sublist.refl _) (List.Sublist.append (List.Sublist.refl _) (List.Sublist.append (List.Sublist.refl _) (List.Sublist.append (List.Sublist.refl _) (List.Sublist.append (List.Sublist.refl _) (List.Sublist.append (List.Sublist.refl _) ((List.Sublist.refl _).trans (List.sublist_append_right _ _)))))))).trans (List.sublist_append_right _ _)).trans (List.sublist_append_right _ _)))))
          refine CW_seq ?_
          refine CW_seq ?_
          refine CW_region ?_
          refine LV (R_move (v := v_a0) e224) ?_
          refine LV (R_len Try.underlying24 rfl h_a0) ?_
          refine LV (R_move (v := (.int .i64 0)) rfl) ?_
          refine LW_nil ?_
          refine sq_n ?_
          refine CW_range (fun i E W => ∃  (μ852 : Mem) (L1003 : List (Nat × Obj)), (E 42 = .int .i64 (i : Nat) ∧ E 41 = .int .i64 (a0.length : Nat)) ∧ Sub μ247 μ852 ∧ ST false NoF w W μ852 ((b31, Obj.cells (#[y32, y35, y38, y41, y44, (.int .i64 r23.2.2.2.2.2)] : Array Value) 53 (0, 0)) :: ((b1, Obj.cells ((encCred a1).toArray : Array Value) 36 (0, 0)) :: (R250 ++ (R54 ++ (S33 ++ (S36 ++ (S39 ++ (S42 ++ (S45 ++ L1003))))))))) ∧ E 0 = v_a0 ∧ E 3 = (.pointer (some ⟨b1, 0, none⟩)) ∧ E 5 = (.pointer (some ⟨b31, 0, none⟩)) ∧ E 6 = v53 ∧ E 7 = v249 ∧ E 40 = v_a0 ∧ m_law08_ModelLeast_L1 r23 r244 a0 r48 a1 (a0.drop i) = some r) a0.length h_a0.len ⟨μ247, _, ⟨rfl, rfl⟩, (Sub.refl _), (hST.sublist (List.Sublist.refl _)), e224, e225, e226, e227, rfl, rfl, hm223⟩ (by decide) (by decide) (by decide) (fun _ _ _ h => by obtain ⟨_, _, eIN, _⟩ := h; exact eIN) ?_ ?_
          · rintro i703 E W hi709 ⟨μ852, L1003, ⟨eI, eN⟩, hle1005, hST, e1006, e1007, e1008, e1009, e1010, e1011, hm1004⟩
            obtain ⟨x704, xs705, hx707, hx706, hx708⟩ := drop_cons hi709
            rw [hx707] at hm1004
            rw [m_law08_ModelLeast_L1] at hm1004
            refine CW_block ?_
            refine CW_seq ?_
            refine CW_region ?_
            refine LQ (R_indexP (enc := encCred) (i := (i703 : Int)) (x0 := x704) Try.underlying24 Try.sizeOf36 e1011 eI (h_a0.mono (Pl.mono _) ((((hle27.trans hle52).trans hle240).trans hle248).trans hle1005)) (Int.natCast_nonneg _) hx706) (fun p1012 hp1013 => ?_)
            refine LV (R_load rfl (load_atA hST.has hp1013 Try.isAgg36 Try.sizeOf36)) ?_
            refine LE (E_alloc hST Try.zeroValue36 (fun W1016 b1015 hST => ?_))
            refine LW_e0 (.inl rfl) rfl (E_store [] (.agg (encCred x704).toArray) ((encCred x704).toArray) hST rfl rfl Try.sizeOf36 (oneCred x704) (Nat.le_of_ble_eq_true rfl) rfl (fun W1017 hST => ?_))
            refine LW_nil ?_
            refine sq_n ?_
            refine CW_seq ?_
            refine CW_region ?_
            refine LV (R_load (v := (.agg (encCred x704).toArray)) rfl (load_boxA hST.has (.head _) (encCred x704) rfl Try.isAgg36 Try.sizeOf36)) ?_
            refine LV (R_move (v := (.pointer (some ⟨b31, 0, none⟩))) e1008) ?_
            refine LV (R_makeFuncF (by exact args1 rfl) rfl) ?_
            refine LV (R_move (v := v249) e1010) ?_
            replace hST : ST false NoF w _ _ ((b1015, Obj.cells ((encCred x704).toArray : Array Value) 36 (0, 0)) :: ((b31, Obj.cells (#[y32, y35, y38, y41, y44, (.int .i64 r23.2.2.2.2.2)] : Array Value) 53 (0, 0)) :: ((b1, Obj.cells ((encCred a1).toArray : Array Value) 36 (0, 0)) :: (R250 ++ (R54 ++ (S33 ++ (S36 ++ (S39 ++ (S42 ++ (S45 ++ L1003)))))))))) := hST
            obtain ⟨r1018, hr1019, hm1004⟩ := bind_some hm1004
            refine LE (E_givesRow (args := [(.agg (encCred x704).toArray), (.func (.func 15) #[(.pointer (some ⟨b31, 0, none⟩))] #[]), v249]) [_, _, _] _ hST rfl Try.call14 (by exact args3 rfl rfl rfl) (GivesRow.weak (w_model_Holds x704 (.func (.func 15) #[(.pointer (some ⟨b31, 0, none⟩))] #[]) (fun (x : (Role × ByteArray)) => m_model_Model_In r23.1 r23.2.1 r23.2.2.1 r23.2.2.2.1 r23.2.2.2.2.1 r23.2.2.2.2.2 x.1 x.2) v249 r244 _ _ ⟨15, #[(.pointer (some ⟨b31, 0, none⟩))], #[], rfl, Try.call15, fun W x r hs hm => w_model_Model_In b31 y32 r23.1 y35 r23.2.1 y38 r23.2.2.1 y41 r23.2.2.2.1 y44 r23.2.2.2.2.1 r23.2.2.2.2.2 x.1 x.2 r W (hy34.at (fun b o hq => hs _ _ ((fun b o hq => hST.at_ (.tail _ (.tail _ (.tail _ (List.mem_append_right _ (List.mem_append_right _ (List.mem_append_left _ hq))))))) b o hq))) (hy37.sl lenCred (fun b o hq => hs _ _ ((fun b o hq => hST.at_ (.tail _ (.tail _ (.tail _ (List.mem_append_right _ (List.mem_append_right _ (List.mem_append_right _ (List.mem_append_left _ hq)))))))) b o hq))) (hy40.at (fun b o hq => hs _ _ ((fun b o hq => hST.at_ (.tail _ (.tail _ (.tail _ (List.mem_append_right _ (List.mem_append_right _ (List.mem_append_right _ (List.mem_append_right _ (List.mem_append_left _ hq))))))))) b o hq))) (hy43.at (fun b o hq => hs _ _ ((fun b o hq => hST.at_ (.tail _ (.tail _ (.tail _ (List.mem_append_right _ (List.mem_append_right _ (List.mem_append_right _ (List.mem_append_right _ (List.mem_append_right _ (List.mem_append_left _ hq)))))))))) b o hq))) ((hy46.slL lenFact).mono (Pl.mono _) (memL_held (fun b o hq => hs _ _ ((fun b o hq => hST.at_ (.tail _ (.tail _ (.tail _ (List.mem_append_right _ (List.mem_append_right _ (List.mem_append_right _ (List.mem_append_right _ (List.mem_append_right _ (List.mem_append_right _ (List.mem_append_left _ hq))))))))))) b o hq)))) (At.of (hs _ _ (hST.at_ (.tail _ (.head _)))) _ rfl) hm⟩ (hR251.sl (fun _ => rfl) (fun b o hq => hST.at_ (.tail _ (.tail _ (.tail _ (List.mem_append_left _ hq)))))) hr1019)) (fun W1020 v1023 μ1021 R1024 hST hle1022 hR1025 => ?_))
            refine LV (R_lenRow Try.underlying28 rfl hR1025) ?_
            refine LV (R_move (v := (.int .i64 0)) rfl) ?_
            refine LW_nil ?_
            refine sq_n ?_
            replace hST : ST false NoF w _ _ ((b1015, Obj.cells ((encCred x704).toArray : Array Value) 36 (0, 0)) :: ((b31, Obj.cells (#[y32, y35, y38, y41, y44, (.int .i64 r23.2.2.2.2.2)] : Array Value) 53 (0, 0)) :: ((b1, Obj.cells ((encCred a1).toArray : Array Value) 36 (0, 0)) :: (R1024 ++ (R250 ++ (R54 ++ (S33 ++ (S36 ++ (S39 ++ (S42 ++ (S45 ++ L1003))))))))))) := hST
            replace hST : ST false NoF w _ _ ((b31, Obj.cells (#[y32, y35, y38, y41, y44, (.int .i64 r23.2.2.2.2.2)] : Array Value) 53 (0, 0)) :: ((b1, Obj.cells ((encCred a1).toArray : Array Value) 36 (0, 0)) :: (R1024 ++ (R250 ++ (R54 ++ (S33 ++ (S36 ++ (S39 ++ (S42 ++ (S45 ++ L1003)))))))))) := hST.sublist (List.Sublist.cons _ (List.Sublist.refl _))
            refine CW_tail ?_
            obtain ⟨s1093, hm1094, hm1095⟩ := bind_some hm1004
            refine CW_cut (fun E W => ∃  (L1083 : List (Nat × Obj)), ST false NoF w W μ1021 ((b31, Obj.cells (#[y32, y35, y38, y41, y44, (.int .i64 r23.2.2.2.2.2)] : Array Value) 53 (0, 0)) :: ((b1, Obj.cells ((encCred a1).toArray : Array Value) 36 (0, 0)) :: (R250 ++ (R54 ++ (S33 ++ (S36 ++ (S39 ++ (S42 ++ (S45 ++ L1083))))))))) ∧ E 0 = v_a0 ∧ E 3 = (.pointer (some ⟨b1, 0, none⟩)) ∧ E 5 = (.pointer (some ⟨b31, 0, none⟩)) ∧ E 6 = v53 ∧ E 7 = v249 ∧ E 40 = v_a0 ∧ E 41 = (.int .i64 ((a0.length : Int))) ∧ E 42 = (.int .i64 ((i703 : Int))) ∧ (m_law08_ModelLeast_L1 r23 r244 a0 r48 a1 xs705) = some r) ?_ ?_
            · refine CW_range (fun i E W => ∃  (L1132 : List (Nat × Obj)), (E 52 = .int .i64 (i : Nat) ∧ E 51 = .int .i64 (r1018.length : Nat)) ∧ ST false NoF w W μ1021 ((b31, Obj.cells (#[y32, y35, y38, y41, y44, (.int .i64 r23.2.2.2.2.2)] : Array Value) 53 (0, 0)) :: ((b1, Obj.cells ((encCred a1).toArray : Array Value) 36 (0, 0)) :: (R1024 ++ (R250 ++ (R54 ++ (S33 ++ (S36 ++ (S39 ++ (S42 ++ (S45 ++ L1132)))))))))) ∧ E 0 = v_a0 ∧ E 3 = (.pointer (some ⟨b1, 0, none⟩)) ∧ E 5 = (.pointer (some ⟨b31, 0, none⟩)) ∧ E 6 = v53 ∧ E 7 = v249 ∧ E 40 = v_a0 ∧ E 41 = (.int .i64 ((a0.length : Int))) ∧ E 42 = (.int .i64 ((i703 : Int))) ∧ E 50 = v1023 ∧ m_law08_ModelLeast_L2 r23 (r1018.drop i) = some s1093) r1018.length hR1025.len ⟨_, ⟨rfl, rfl⟩, (hST.sublist (List.Sublist.refl _)), e1006, e1007, e1008, e1009, e1010, e1011, eN, eI, rfl, hm1094⟩ (by decide) (by decide) (by decide) (fun _ _ _ h => by obtain ⟨_, eIN, _⟩ := h; exact eIN) ?_ ?_
              · rintro i1096 E W hi1102 ⟨L1132, ⟨eI, eN⟩, hST, e1134, e1135, e1136, e1137, e1138, e1139, e1140, e1141, e1142, hm1133⟩
                obtain ⟨x1097, xs1098, hx1100, hx1099, hx1101⟩ := drop_cons hi1102
                rw [hx1100] at hm1133
                rw [m_law08_ModelLeast_L2] at hm1133
                refine CW_block ?_
                refine CW_seq ?_
                refine CW_region ?_
                refine LQ (R_indexRow (i := (i1096 : Int)) (x0 := x1097) Try.underlying28 Try.sizeOf43 e1142 eI hR1025 (Int.natCast_nonneg _) hx1099) (fun p1143 hp1144 => ?_)
                refine LV (R_load (v := (.agg (encFact x1097).toArray)) rfl (load_ixA hST.has (fun p hq => by simp [hq]) hR1025 lenFact hp1144 hx1099 Try.isAgg43 Try.sizeOf43)) ?_
                refine LE (E_alloc hST Try.zeroValue43 (fun W1147 b1146 hST => ?_))
                refine LW_e0 (.inl rfl) rfl (E_store [] (.agg (encFact x1097).toArray) ((encFact x1097).toArray) hST rfl rfl Try.sizeOf43 (oneFact x1097) (Nat.le_of_ble_eq_true rfl) rfl (fun W1148 hST => ?_))
                refine LW_nil ?_
                refine sq_n ?_
                refine CW_seq ?_
                refine CW_region ?_
                refine LV (R_move (v := (.pointer (some ⟨b31, 0, none⟩))) e1136) ?_
                refine LV (R_field fa43_0 rfl) ?_
                refine LV (R_load (v := (.agg (encRole x1097.Role).toArray)) rfl (load_boxA hST.has (.head _) (encRole x1097.Role) rfl Try.isAgg34 Try.sizeOf34)) ?_
                refine LV (R_field fa43_1 rfl) ?_
                refine LV (R_load (v := (.string x1097.Who)) rfl (load_box1 hST.has (.head _) rfl Try.isAgg9)) ?_
                replace hST : ST false NoF w _ _ ((b1146, Obj.cells ((encFact x1097).toArray : Array Value) 43 (0, 0)) :: ((b31, Obj.cells (#[y32, y35, y38, y41, y44, (.int .i64 r23.2.2.2.2.2)] : Array Value) 53 (0, 0)) :: ((b1, Obj.cells ((encCred a1).toArray : Array Value) 36 (0, 0)) :: (R1024 ++ (R250 ++ (R54 ++ (S33 ++ (S36 ++ (S39 ++ (S42 ++ (S45 ++ L1132))))))))))) := hST
                obtain ⟨r1149, hr1150, hm1133⟩ := bind_some hm1133
                refine LE (E_gives (args := [(.pointer (some ⟨b31, 0, none⟩)), (.agg (encRole x1097.Role).toArray), (.string x1097.Who)]) hST rfl Try.call15 (by exact args3 rfl rfl rfl) (Gives.weak (w_model_Model_In b31 y32 r23.1 y35 r23.2.1 y38 r23.2.2.1 y41 r23.2.2.2.1 y44 r23.2.2.2.2.1 r23.2.2.2.2.2 x1097.Role x1097.Who _ _ (hy34.at (fun b o hq => hST.at_ (.tail _ (.tail _ (.tail _ (List.mem_append_right _ (List.mem_append_right _ (List.mem_append_right _ (List.mem_append_left _ hq))))))))) (hy37.sl lenCred (fun b o hq => hST.at_ (.tail _ (.tail _ (.tail _ (List.mem_append_right _ (List.mem_append_right _ (List.mem_append_right _ (List.mem_append_right _ (List.mem_append_left _ hq)))))))))) (hy40.at (fun b o hq => hST.at_ (.tail _ (.tail _ (.tail _ (List.mem_append_right _ (List.mem_append_right _ (List.mem_append_right _ (List.mem_append_right _ (List.mem_append_right _ (List.mem_append_left _ hq))))))))))) (hy43.at (fun b o hq => hST.at_ (.tail _ (.tail _ (.tail _ (List.mem_append_right _ (List.mem_append_right _ (List.mem_append_right _ (List.mem_append_right _ (List.mem_append_right _ (List.mem_append_right _ (List.mem_append_left _ hq)))))))))))) ((hy46.slL lenFact).mono (Pl.mono _) (memL_held (fun b o hq => hST.at_ (.tail _ (.tail _ (.tail _ (List.mem_append_right _ (List.mem_append_right _ (List.mem_append_right _ (List.mem_append_right _ (List.mem_append_right _ (List.mem_append_right _ (List.mem_append_right _ (List.mem_append_left _ hq)))))))))))))) (At.of (hST.at_ (.tail _ (.head _))) _ rfl) hr1150)) (fun W1151 hST => ?_))
                refine LV (R_not (b := r1149) rfl) ?_
                refine LW_nil ?_
                refine sq_n ?_
                replace hST : ST false NoF w _ _ ((b31, Obj.cells (#[y32, y35, y38, y41, y44, (.int .i64 r23.2.2.2.2.2)] : Array Value) 53 (0, 0)) :: ((b1, Obj.cells ((encCred a1).toArray : Array Value) 36 (0, 0)) :: (R1024 ++ (R250 ++ (R54 ++ (S33 ++ (S36 ++ (S39 ++ (S42 ++ (S45 ++ L1132)))))))))) := hST.sublist (List.Sublist.cons _ (List.Sublist.refl _))
                refine CW_if (b := (!r1149)) rfl (fun hb1152 => ?_) (fun hb1152 => ?_)
                · replace hm1133 := if_t hb1152 hm1133
                  refine CW_seq ?_
                  refine CW_region ?_
                  refine LV (R_assign (v := (.bool false)) rfl) ?_
                  refine LW_nil ?_
                  refine sq_n ?_
                  replace hST : ST false NoF w _ _ L1132 := hST.sublist (List.Sublist.cons _ (List.Sublist.cons _ (((((((((List.Sublist.refl _).trans (List.sublist_append_right _ _)).trans (List.sublist_append_right _ _)).trans (List.sublist_append_right _ _)).trans (List.sublist_append_right _ _)).trans (List.sublist_append_right _ _)).trans (List.sublist_append_right _ _)).trans (List.sublist_append_right _ _)).trans (List.sublist_append_right _ _))))
                  refine CW_ret ?_
                  refine bq_r (sq_r (bq_r (sq_r (bq_r (sq_r (bq_r (sq_r ?_)))))))
                  replace hm1133 := Option.some.inj hm1133; subst hm1133
                  replace hm1095 : some false = some r := hm1095
                  replace hm1095 := Option.some.inj hm1095; subst hm1095
                  refine retQ_1 (v := (.bool false)) rfl rfl ?_
                  exact ⟨rfl, hST.ex⟩
                · replace hm1133 := if_f hb1152 hm1133
                  refine CW_skip ?_
                  refine bq_n ?_
                  refine sq_n ?_
                  exact ⟨eI, _, ⟨rfl, eN⟩, (hST.sublist (List.Sublist.refl _)), e1134, e1135, e1136, e1137, e1138, e1139, e1140, e1141, e1142, (by rw [hx1101]; exact hm1133)⟩
              · rintro E W ⟨L1132, ⟨eI, eN⟩, hST, e1134, e1135, e1136, e1137, e1138, e1139, e1140, e1141, e1142, hm1133⟩
                rw [List.drop_length] at hm1133
                rw [m_law08_ModelLeast_L2] at hm1133
                refine sq_n ?_
                replace hm1133 := Option.some.inj hm1133; subst hm1133
                exact ⟨_, (hST.sublist (List.Sublist.cons_cons _ (List.Sublist.cons_cons _ ((List.Sublist.refl _).trans (List.sublist_append_right _ _))))), e1134, e1135, e1136, e1137, e1138, e1139, e1140, e1141, hm1095⟩
            · rintro E W ⟨L1083, hST, e1085, e1086, e1087, e1088, e1089, e1090, e1091, e1092, hm1084⟩
              refine bq_n ?_
              refine sq_n ?_
              exact ⟨e1092, μ1021, _, ⟨rfl, e1091⟩, (hle1005.trans hle1022), (hST.sublist (List.Sublist.refl _)), e1085, e1086, e1087, e1088, e1089, e1090, (by rw [hx708]; exact hm1084)⟩
          · rintro E W ⟨μ852, L1003, ⟨eI, eN⟩, hle1005, hST, e1006, e1007, e1008, e1009, e1010, e1011, hm1004⟩
            rw [List.drop_length] at hm1004
            rw [m_law08_ModelLeast_L1] at hm1004
            refine sq_n ?_
            replace hST : ST false NoF w _ _ ((b1, Obj.cells ((encCred a1).toArray : Array Value) 36 (0, 0)) :: (R250 ++ (R54 ++ L1003))) := hST.sublist (List.Sublist.cons _ (List.Sublist.cons_cons _ (List.Sublist.append (List.Sublist.refl _) (List.Sublist.append (List.Sublist.refl _) ((((((List.Sublist.refl _).trans (List.sublist_append_right _ _)).trans (List.sublist_append_right _ _)).trans (List.sublist_append_right _ _)).trans (List.sublist_append_right _ _)).trans (List.sublist_append_right _ _))))))
            refine CW_seq ?_
            refine CW_region ?_
            refine LV (R_assign (v := (.slice none 0 0)) rfl) ?_
            refine LW_nil ?_
            refine sq_n ?_
            refine CW_seq ?_
            refine CW_seq ?_
            refine CW_region ?_
            refine LV (R_move (v := v_a0) e1006) ?_
            refine LV (R_len Try.underlying24 rfl h_a0) ?_
            refine LV (R_move (v := (.int .i64 0)) rfl) ?_
            refine LW_nil ?_
            refine sq_n ?_
            obtain ⟨s1631, hm1632, hm1633⟩ := bind_some hm1004
            refine CW_cut (fun E W => ∃ (v1220 : Value) (l1221 : List Cred) (R1223 : List (Nat × Obj)) (L1224 : List (Nat × Obj)), ST false NoF w W μ852 ((b1, Obj.cells ((encCred a1).toArray : Array Value) 36 (0, 0)) :: (R1223 ++ (R250 ++ (R54 ++ L1224)))) ∧ E 0 = v_a0 ∧ E 3 = (.pointer (some ⟨b1, 0, none⟩)) ∧ E 6 = v53 ∧ E 7 = v249 ∧ E 12 = v1220 ∧ Row 36 encCred 9 v1220 l1221 R1223 ∧ (((m_model_Of l1221)).bind fun r1231 => (((m_model_Model_Facts r1231.1 r1231.2.1 r1231.2.2.1 r1231.2.2.2.1 r1231.2.2.2.2.1 r1231.2.2.2.2.2)).bind fun r1256 => (((m_ref08_Same r1256 r48)).bind fun r1264 => (if (!r1264) then some false else (((((appB 136 ([]) a0)).bind fun l1605 => some (l1605, ([a1]))) : Option (((List Cred) × (List Cred)))).bind fun (l1444, l1448) => (((appB 136 l1444 l1448)).bind fun l1458 => (((m_model_Of l1458)).bind fun r1464 => ((m_law08_ModelLeast_L3 r1464 r48 : Option ((Bool ⊕ Unit))).bind fun s => match s with | .inl q1598 => some q1598 | .inr _ => (((m_law08_founded a0 r48 r244)).bind fun r1543 => some r1543))))))))) = some r) ?_ ?_
            · refine CW_range (fun i E W => ∃ (v1654 : Value) (l1655 : List Cred) (R1657 : List (Nat × Obj)) (L1680 : List (Nat × Obj)), (E 67 = .int .i64 (i : Nat) ∧ E 66 = .int .i64 (a0.length : Nat)) ∧ ST false NoF w W μ852 ((b1, Obj.cells ((encCred a1).toArray : Array Value) 36 (0, 0)) :: (R1657 ++ (R250 ++ (R54 ++ L1680)))) ∧ E 0 = v_a0 ∧ E 3 = (.pointer (some ⟨b1, 0, none⟩)) ∧ E 6 = v53 ∧ E 7 = v249 ∧ E 12 = v1654 ∧ Row 36 encCred 9 v1654 l1655 R1657 ∧ m_law08_ModelLeast_L4 a0 (a0.drop i) i l1655 = some s1631) a0.length h_a0.len ⟨(.slice none 0 0), ([]), [], _, ⟨rfl, rfl⟩, (hST.sublist (List.Sublist.refl _)), e1006, e1007, e1009, e1010, rfl, (Row.nil _ _ _), hm1632⟩ (by decide) (by decide) (by decide) (fun _ _ _ h => by obtain ⟨_, _, _, _, eIN, _⟩ := h; exact eIN) ?_ ?_
              · rintro i1634 E W hi1640 ⟨v1654, l1655, R1657, L1680, ⟨eI, eN⟩, hST, e1682, e1683, e1684, e1685, e1686, hs1656, hm1681⟩
                obtain ⟨x1635, xs1636, hx1638, hx1637, hx1639⟩ := drop_cons hi1640
                rw [hx1638] at hm1681
                rw [m_law08_ModelLeast_L4] at hm1681
                refine CW_block ?_
                refine CW_seq ?_
                refine CW_region ?_
                refine LV (R_move (v := (.int .i64 ((i1634 : Int)))) eI) ?_
                refine LV (R_assign (v := (.int .i64 ((i1634 : Int)))) rfl) ?_
                refine LW_nil ?_
                refine sq_n ?_
                refine CW_region ?_
                refine LV (R_move (v := v1654) e1686) ?_
                refine LV (R_move (v := v_a0) e1682) ?_
                refine LV (R_move (v := v_a0) e1682) ?_
                refine LV (R_len Try.underlying24 rfl h_a0) ?_
                refine LV (R_int (k := .i64) (a := ((a0.length : Int))) (b := 1) (v := (.int .i64 ((IntKind.i64.wrap (((a0.length : Int)) - 1))))) rfl rfl rfl) ?_
                refine LV (R_move (v := (.int .i64 ((i1634 : Int)))) rfl) ?_
                refine LV (R_int (k := .i64) (a := ((IntKind.i64.wrap (((a0.length : Int)) - 1)))) (b := ((i1634 : Int))) (v := (.int .i64 ((IntKind.i64.wrap (((IntKind.i64.wrap (((a0.length : Int)) - 1))) - ((i1634 : Int))))))) rfl rfl rfl) ?_
                obtain ⟨x1690, hx1691, hm1681⟩ := bind_some hm1681
                refine LQ (R_indexP (enc := encCred) (i := (IntKind.i64.wrap (((IntKind.i64.wrap (((a0.length : Int)) - 1))) - ((i1634 : Int))))) (x0 := x1690) Try.underlying24 Try.sizeOf36 rfl rfl (h_a0.mono (Pl.mono _) ((((hle27.trans hle52).trans hle240).trans hle248).trans hle1005)) (idx_nonneg hx1691) (idx_get hx1691)) (fun p1687 hp1688 => ?_)
                refine LV (R_load rfl (load_atA hST.has hp1688 Try.isAgg36 Try.sizeOf36)) ?_
                refine LE (E_buildSlice (qs := #[(0, (.agg (encCred x1690).toArray))]) (cs := (encCred x1690).toArray) hST (parts1 rfl) (run_lit [(.agg (encCred x1690).toArray)] Try.underlying24 Try.sizeOf36 Try.zeroValue36 (by decide) rfl (by intro v hv; simp only [List.mem_cons, List.not_mem_nil, or_false] at hv; rcases hv with rfl <;> rfl) rfl rfl) (fun W1693 b1692 hST => ?_))
                obtain ⟨l1694, hb1695, hm1681⟩ := bind_some hm1681
                refine LE (E_append (enc := encCred) (v := v1654) (vs := (.slice (some ⟨b1692, 0, none⟩) 1 1)) (R := R1657) [_, _] hST lenCred (by decide) oneCred Try.underlying24 info36.1 info36.2.1 rfl info36.2.2.1 info36.2.2.2 rfl rfl hs1656 (Sl.lit (enc := encCred) (l := [x1690]) lenCred rfl (Nat.le_of_ble_eq_true rfl) rfl (hST.at_ (.head _))) hb1695 (fun W1696 v1699 R1697 hST hR1698 => ?_))
                refine LV (R_assign (v := v1699) rfl) ?_
                refine LW_nil ?_
                refine bq_n ?_
                refine sq_n ?_
                replace hST : ST false NoF w _ _ ((b1692, Obj.cells ((encCred x1690).toArray : Array Value) 36 (0, 0)) :: ((b1, Obj.cells ((encCred a1).toArray : Array Value) 36 (0, 0)) :: (R1697 ++ (R250 ++ (R54 ++ L1680))))) := hST
                replace hST : ST false NoF w _ _ ((b1, Obj.cells ((encCred a1).toArray : Array Value) 36 (0, 0)) :: (R1697 ++ (R250 ++ (R54 ++ L1680)))) := hST.sublist (List.Sublist.cons _ (List.Sublist.refl _))
                exact ⟨eI, v1699, l1694, R1697, _, ⟨rfl, eN⟩, (hST.sublist (List.Sublist.refl _)), e1682, e1683, e1684, e1685, rfl, hR1698, (by rw [hx1639]; exact hm1681)⟩
              · rintro E W ⟨v1654, l1655, R1657, L1680, ⟨eI, eN⟩, hST, e1682, e1683, e1684, e1685, e1686, hs1656, hm1681⟩
                rw [List.drop_length] at hm1681
                rw [m_law08_ModelLeast_L4] at hm1681
                refine sq_n ?_
                replace hm1681 := Option.some.inj hm1681; subst hm1681
                exact ⟨v1654, l1655, R1657, _, (hST.sublist (List.Sublist.refl _)), e1682, e1683, e1684, e1685, e1686, hs1656, hm1633⟩
            · rintro E W ⟨v1220, l1221, R1223, L1224, hST, e1226, e1227, e1228, e1229, e1230, hs1222, hm1225⟩
              refine CW_seq ?_
              refine CW_seq ?_
              refine CW_region ?_
              refine LV (R_move (v := v1220) e1230) ?_
              obtain ⟨r1231, hr1232, hm1225⟩ := bind_some hm1225
              have hsz := hST.size
              refine LE (E_callM (args := [v1220]) (caps := #[]) [] (((b1, Obj.cells ((encCred a1).toArray : Array Value) 36 (0, 0)) :: (R1223 ++ (R250 ++ (R54 ++ L1224))))) hST (List.Perm.refl _) rfl Try.call6 (by exact args1 rfl) (fun _ _ _ _ => (w_model_Of v1220 l1221 _ _ (hs1222.sl lenCred (fun b o hq => hST.at_ (.tail _ (List.mem_append_left _ hq)))) hr1232)) (fun W1233 v1236 μ1234 L1238 hST hle1235 hlift hK1237 => ?_))
              obtain ⟨b1239, y1240, S1241, y1243, S1244, y1246, S1247, y1249, S1250, y1252, S1253, hv1255, rfl, hy1242, hy1245, hy1248, hy1251, hy1254⟩ := hK1237
              replace hv1255 := hv1255.symm; subst hv1255
              simp only [List.append_assoc, List.cons_append, List.nil_append] at hST
              replace hST : ST false NoF w _ _ ((b1239, Obj.cells (#[y1240, y1243, y1246, y1249, y1252, (.int .i64 (r1231.2.2.2.2.2))] : Array Value) 53 (0, 0)) :: ((b1, Obj.cells ((encCred a1).toArray : Array Value) 36 (0, 0)) :: (S1241 ++ (S1244 ++ (S1247 ++ (S1250 ++ (S1253 ++ (R1223 ++ (R250 ++ (R54 ++ L1224)))))))))) := hST.perm (permD [[(b1239, Obj.cells (#[y1240, y1243, y1246, y1249, y1252, (.int .i64 (r1231.2.2.2.2.2))] : Array Value) 53 (0, 0))], S1241, S1244, S1247, S1250, S1253, [(b1, Obj.cells ((encCred a1).toArray : Array Value) 36 (0, 0))]] [0, 1, 2, 3, 4, 5, 6] [0, 6, 1, 2, 3, 4, 5] ((R1223 ++ (R250 ++ (R54 ++ L1224)))) (by decide) rfl rfl)
              obtain ⟨r1256, hr1257, hm1225⟩ := bind_some hm1225
              refine LE (E_givesRow (args := [(.pointer (some ⟨b1239, 0, none⟩))]) [_, _] _ hST rfl Try.call11 (by exact args1 rfl) (GivesRow.weak (w_model_Model_Facts b1239 y1240 r1231.1 y1243 r1231.2.1 y1246 r1231.2.2.1 y1249 r1231.2.2.2.1 y1252 r1231.2.2.2.2.1 r1231.2.2.2.2.2 _ _ (hy1242.at (fun b o hq => hST.at_ (.tail _ (.tail _ (List.mem_append_left _ hq))))) (hy1245.sl lenCred (fun b o hq => hST.at_ (.tail _ (.tail _ (List.mem_append_right _ (List.mem_append_left _ hq)))))) (hy1248.at (fun b o hq => hST.at_ (.tail _ (.tail _ (List.mem_append_right _ (List.mem_append_right _ (List.mem_append_left _ hq))))))) (hy1251.at (fun b o hq => hST.at_ (.tail _ (.tail _ (List.mem_append_right _ (List.mem_append_right _ (List.mem_append_right _ (List.mem_append_left _ hq)))))))) ((hy1254.slL lenFact).mono (Pl.mono _) (memL_held (fun b o hq => hST.at_ (.tail _ (.tail _ (List.mem_append_right _ (List.mem_append_right _ (List.mem_append_right _ (List.mem_append_right _ (List.mem_append_left _ hq)))))))))) (At.of (hST.at_ (.head _)) _ rfl) hr1257)) (fun W1258 v1261 μ1259 R1262 hST hle1260 hR1263 => ?_))
              refine LV (R_move (v := v53) e1228) ?_
              replace hST : ST false NoF w _ _ ((b1239, Obj.cells (#[y1240, y1243, y1246, y1249, y1252, (.int .i64 (r1231.2.2.2.2.2))] : Array Value) 53 (0, 0)) :: ((b1, Obj.cells ((encCred a1).toArray : Array Value) 36 (0, 0)) :: (R1262 ++ (S1241 ++ (S1244 ++ (S1247 ++ (S1250 ++ (S1253 ++ (R1223 ++ (R250 ++ (R54 ++ L1224))))))))))) := hST
              obtain ⟨r1264, hr1265, hm1225⟩ := bind_some hm1225
              refine LE (E_gives (args := [v1261, v53]) hST rfl Try.call10 (by exact args2 rfl rfl) (Gives.weak (w_ref08_Same v1261 r1256 v53 r48 _ _ (hR1263.sl lenFact (fun b o hq => hST.at_ (.tail _ (.tail _ (List.mem_append_left _ hq))))) (hR55.sl lenFact (fun b o hq => hST.at_ (.tail _ (.tail _ (List.mem_append_right _ (List.mem_append_right _ (List.mem_append_right _ (List.mem_append_right _ (List.mem_append_right _ (List.mem_append_right _ (List.mem_append_right _ (List.mem_append_right _ (List.mem_append_left _ hq))))))))))))) hr1265)) (fun W1266 hST => ?_))
              refine LV (R_not (b := r1264) rfl) ?_
              refine LW_nil ?_
              refine sq_n ?_
              replace hST : ST false NoF w _ _ ((b1, Obj.cells ((encCred a1).toArray : Array Value) 36 (0, 0)) :: (R250 ++ (R54 ++ L1224))) := hST.sublist (List.Sublist.cons _ (List.Sublist.cons_cons _ ((((((((List.Sublist.refl _).trans (List.sublist_append_right _ _)).trans (List.sublist_append_right _ _)).trans (List.sublist_append_right _ _)).trans (List.sublist_append_right _ _)).trans (List.sublist_append_right _ _)).trans (List.sublist_append_right _ _)).trans (List.sublist_append_right _ _))))
              refine CW_if (b := (!r1264)) rfl (fun hb1267 => ?_) (fun hb1267 => ?_)
              · replace hm1225 := if_t hb1267 hm1225
                refine CW_seq ?_
                refine CW_region ?_
                refine LV (R_assign (v := (.bool false)) rfl) ?_
                refine LW_nil ?_
                refine sq_n ?_
                replace hST : ST false NoF w _ _ L1224 := hST.sublist (List.Sublist.cons _ (((List.Sublist.refl _).trans (List.sublist_append_right _ _)).trans (List.sublist_append_right _ _)))
                refine CW_ret ?_
                refine sq_r ?_
                replace hm1225 := Option.some.inj hm1225; subst hm1225
                refine retQ_1 (v := (.bool false)) rfl rfl ?_
                exact ⟨rfl, hST.ex⟩
              · replace hm1225 := if_f hb1267 hm1225
                refine CW_skip ?_
                refine sq_n ?_
                refine CW_seq ?_
                refine PX_start (fun l W => Has μ1259 ((b1, Obj.cells ((encCred a1).toArray : Array Value) 36 (0, 0)) :: []) W) Try_mixed ?_
                replace hST := hST.drew
                have hS0 : Has μ1259 ((b1, Obj.cells ((encCred a1).toArray : Array Value) 36 (0, 0)) :: []) _ := hST.has.sub (Sub.refl _) (fun p hq => ((List.mem_cons.1 hq).elim (fun hq => by rw [hq]; exact (.head _)) (fun hq => (absurd hq List.not_mem_nil))))
                refine PV 1 rfl hS0 (R_move (v := v_a0) e1226) ?_
                refine PX_v 3 rfl (by kernel_rfl) (.inl rfl) rfl (by decide) (fun _ _ h => h) hS0 (fun l W hpd hs => have hS := hs; R_load (v := (.agg (encCred a1).toArray)) e1227 (load_boxA hS (.head _) (encCred a1) rfl Try.isAgg36 Try.sizeOf36)) ?_
                obtain ⟨s1599, hm1600, hm1601⟩ := bind_some hm1225
                refine PX_join (J := fun E W => ∃ (v1443 : Value) (l1444 : List Cred) (R1446 : List (Nat × Obj)) (v1447 : Value) (l1448 : List Cred) (R1450 : List (Nat × Obj)) (L1451 : List (Nat × Obj)), ST false NoF w W μ1259 ((b1, Obj.cells ((encCred a1).toArray : Array Value) 36 (0, 0)) :: (R1446 ++ (R250 ++ (R54 ++ (R1450 ++ L1451))))) ∧ E 0 = v_a0 ∧ E 6 = v53 ∧ E 7 = v249 ∧ E 90 = v1443 ∧ E 92 = v1447 ∧ Row 36 encCred 9 v1443 l1444 R1446 ∧ Row 36 encCred 9 v1447 l1448 R1450 ∧ (((appB 136 l1444 l1448)).bind fun l1458 => (((m_model_Of l1458)).bind fun r1464 => ((m_law08_ModelLeast_L3 r1464 r48 : Option ((Bool ⊕ Unit))).bind fun s => match s with | .inl q1598 => some q1598 | .inr _ => (((m_law08_founded a0 r48 r244)).bind fun r1543 => some r1543)))) = some r) #[true, true, true, true, true, false, false, false] 3 ?_ (fun key1602 => ?_)
                · rintro E W ⟨v1443, l1444, R1446, v1447, l1448, R1450, L1451, hST, e1453, e1454, e1455, e1456, e1457, hs1445, hs1449, hm1452⟩
                  have hS0 : Has μ1259 ((b1, Obj.cells ((encCred a1).toArray : Array Value) 36 (0, 0)) :: []) _ := hST.has.sub (Sub.refl _) (fun p hq => ((List.mem_cons.1 hq).elim (fun hq => by rw [hq]; exact (.head _)) (fun hq => (absurd hq List.not_mem_nil))))
                  obtain ⟨l1458, hb1459, hm1452⟩ := bind_some hm1452
                  refine PX_e 5 rfl (by kernel_rfl) (.inl rfl) rfl (by decide) (E_append (enc := encCred) (v := v1443) (vs := v1447) (R := R1446) [_] hST lenCred (by decide) oneCred Try.underlying24 info36.1 info36.2.1 rfl info36.2.2.1 info36.2.2.2 e1456 e1457 hs1445 (hs1449.slM lenCred hST (fun p hq => by simp [hq])) hb1459 (fun W1460 v1463 R1461 hST hR1462 => ?_))
                  replace hST : ST false NoF w _ _ ((b1, Obj.cells ((encCred a1).toArray : Array Value) 36 (0, 0)) :: (R1461 ++ (R250 ++ (R54 ++ (R1450 ++ L1451))))) := hST
                  have hS0 : Has μ1259 ((b1, Obj.cells ((encCred a1).toArray : Array Value) 36 (0, 0)) :: []) _ := hST.has.sub (Sub.refl _) (fun p hq => ((List.mem_cons.1 hq).elim (fun hq => by rw [hq]; exact (.head _)) (fun hq => (absurd hq List.not_mem_nil))))
                  refine ⟨hS0, ?_⟩
                  obtain ⟨r1464, hr1465, hm1452⟩ := bind_some hm1452
                  have hsz := hST.size
                  refine PX_e 6 rfl (by kernel_rfl) (.inl rfl) rfl (by decide) (E_callM (args := [v1463]) (caps := #[]) [] (((b1, Obj.cells ((encCred a1).toArray : Array Value) 36 (0, 0)) :: (R1461 ++ (R250 ++ (R54 ++ (R1450 ++ L1451)))))) hST (List.Perm.refl _) rfl Try.call6 (by exact args1 rfl) (fun _ _ _ _ => (w_model_Of v1463 l1458 _ _ (hR1462.sl lenCred (fun b o hq => hST.at_ (.tail _ (List.mem_append_left _ hq)))) hr1465)) (fun W1466 v1469 μ1467 L1471 hST hle1468 hlift hK1470 => ?_))
                  obtain ⟨b1472, y1473, S1474, y1476, S1477, y1479, S1480, y1482, S1483, y1485, S1486, hv1488, rfl, hy1475, hy1478, hy1481, hy1484, hy1487⟩ := hK1470
                  replace hv1488 := hv1488.symm; subst hv1488
                  simp only [List.append_assoc, List.cons_append, List.nil_append] at hST
                  replace hST : ST false NoF w _ _ ((b1472, Obj.cells (#[y1473, y1476, y1479, y1482, y1485, (.int .i64 (r1464.2.2.2.2.2))] : Array Value) 53 (0, 0)) :: ((b1, Obj.cells ((encCred a1).toArray : Array Value) 36 (0, 0)) :: (S1474 ++ (S1477 ++ (S1480 ++ (S1483 ++ (S1486 ++ (R1461 ++ (R250 ++ (R54 ++ (R1450 ++ L1451))))))))))) := hST.perm (permD [[(b1472, Obj.cells (#[y1473, y1476, y1479, y1482, y1485, (.int .i64 (r1464.2.2.2.2.2))] : Array Value) 53 (0, 0))], S1474, S1477, S1480, S1483, S1486, [(b1, Obj.cells ((encCred a1).toArray : Array Value) 36 (0, 0))]] [0, 1, 2, 3, 4, 5, 6] [0, 6, 1, 2, 3, 4, 5] ((R1461 ++ (R250 ++ (R54 ++ (R1450 ++ L1451))))) (by decide) rfl rfl)
                  have hS0 : Has μ1259 ((b1, Obj.cells ((encCred a1).toArray : Array Value) 36 (0, 0)) :: []) _ := hST.has.sub hle1468 (fun p hq => ((List.mem_cons.1 hq).elim (fun hq => by rw [hq]; exact (.tail _ (.head _))) (fun hq => (absurd hq List.not_mem_nil))))
                  refine ⟨hS0, ?_⟩
                  refine PV 7 rfl hS0 (R_assign (v := (.pointer (some ⟨b1472, 0, none⟩))) rfl) ?_
                  refine PX_done (by kernel_rfl) ?_
                  refine sq_n ?_
                  replace hST : ST false NoF w _ _ ((b1472, Obj.cells (#[y1473, y1476, y1479, y1482, y1485, (.int .i64 (r1464.2.2.2.2.2))] : Array Value) 53 (0, 0)) :: (S1474 ++ (S1477 ++ (S1480 ++ (S1483 ++ (S1486 ++ (R250 ++ (R54 ++ L1451)))))))) := hST.sublist (List.Sublist.cons_cons _ (List.Sublist.cons _ (List.Sublist.append (List.Sublist.refl _) (List.Sublist.append (List.Sublist.refl _) (List.Sublist.append (List.Sublist.refl _) (List.Sublist.append (List.Sublist.refl _) (List.Sublist.append (List.Sublist.refl _) ((List.Sublist.append (List.Sublist.refl _) (List.Sublist.append (List.Sublist.refl _) ((List.Sublist.refl _).trans (List.sublist_append_right _ _)))).trans (List.sublist_append_right _ _)))))))))
                  refine CW_seq ?_
                  refine CW_seq ?_
                  refine CW_region ?_
                  refine LV (R_move (v := v53) e1454) ?_
                  refine LV (R_lenRow Try.underlying28 rfl hR55) ?_
                  refine LV (R_move (v := (.int .i64 0)) rfl) ?_
                  refine LW_nil ?_
                  refine sq_n ?_
                  obtain ⟨s1546, hm1547, hm1548⟩ := bind_some hm1452
                  refine CW_cut (fun E W => ∃  (L1538 : List (Nat × Obj)), ST false NoF w W μ1467 (R250 ++ (R54 ++ L1538)) ∧ E 0 = v_a0 ∧ E 6 = v53 ∧ E 7 = v249 ∧ (((m_law08_founded a0 r48 r244)).bind fun r1543 => some r1543) = some r) ?_ ?_
                  · refine CW_range (fun i E W => ∃  (L1581 : List (Nat × Obj)), (E 97 = .int .i64 (i : Nat) ∧ E 96 = .int .i64 (r48.length : Nat)) ∧ ST false NoF w W μ1467 ((b1472, Obj.cells (#[y1473, y1476, y1479, y1482, y1485, (.int .i64 r1464.2.2.2.2.2)] : Array Value) 53 (0, 0)) :: (S1474 ++ (S1477 ++ (S1480 ++ (S1483 ++ (S1486 ++ (R250 ++ (R54 ++ L1581)))))))) ∧ E 0 = v_a0 ∧ E 6 = v53 ∧ E 7 = v249 ∧ E 14 = (.pointer (some ⟨b1472, 0, none⟩)) ∧ E 95 = v53 ∧ m_law08_ModelLeast_L3 r1464 (r48.drop i) = some s1546) r48.length hR55.len ⟨_, ⟨rfl, rfl⟩, (hST.sublist (List.Sublist.refl _)), e1453, e1454, e1455, rfl, rfl, hm1547⟩ (by decide) (by decide) (by decide) (fun _ _ _ h => by obtain ⟨_, eIN, _⟩ := h; exact eIN) ?_ ?_
                    · rintro i1549 E W hi1555 ⟨L1581, ⟨eI, eN⟩, hST, e1583, e1584, e1585, e1586, e1587, hm1582⟩
                      obtain ⟨x1550, xs1551, hx1553, hx1552, hx1554⟩ := drop_cons hi1555
                      rw [hx1553] at hm1582
                      rw [m_law08_ModelLeast_L3] at hm1582
                      refine CW_block ?_
                      refine CW_seq ?_
                      refine CW_region ?_
                      refine LQ (R_indexRow (i := (i1549 : Int)) (x0 := x1550) Try.underlying28 Try.sizeOf43 e1587 eI hR55 (Int.natCast_nonneg _) hx1552) (fun p1588 hp1589 => ?_)
                      refine LV (R_load (v := (.agg (encFact x1550).toArray)) rfl (load_ixA hST.has (fun p hq => by simp [hq]) hR55 lenFact hp1589 hx1552 Try.isAgg43 Try.sizeOf43)) ?_
                      refine LE (E_alloc hST Try.zeroValue43 (fun W1592 b1591 hST => ?_))
                      refine LW_e0 (.inl rfl) rfl (E_store [] (.agg (encFact x1550).toArray) ((encFact x1550).toArray) hST rfl rfl Try.sizeOf43 (oneFact x1550) (Nat.le_of_ble_eq_true rfl) rfl (fun W1593 hST => ?_))
                      refine LW_nil ?_
                      refine sq_n ?_
                      refine CW_seq ?_
                      refine CW_region ?_
                      refine LV (R_move (v := (.pointer (some ⟨b1472, 0, none⟩))) e1586) ?_
                      refine LV (R_field fa43_0 rfl) ?_
                      refine LV (R_load (v := (.agg (encRole x1550.Role).toArray)) rfl (load_boxA hST.has (.head _) (encRole x1550.Role) rfl Try.isAgg34 Try.sizeOf34)) ?_
                      refine LV (R_field fa43_1 rfl) ?_
                      refine LV (R_load (v := (.string x1550.Who)) rfl (load_box1 hST.has (.head _) rfl Try.isAgg9)) ?_
                      replace hST : ST false NoF w _ _ ((b1591, Obj.cells ((encFact x1550).toArray : Array Value) 43 (0, 0)) :: ((b1472, Obj.cells (#[y1473, y1476, y1479, y1482, y1485, (.int .i64 r1464.2.2.2.2.2)] : Array Value) 53 (0, 0)) :: (S1474 ++ (S1477 ++ (S1480 ++ (S1483 ++ (S1486 ++ (R250 ++ (R54 ++ L1581))))))))) := hST
                      obtain ⟨r1594, hr1595, hm1582⟩ := bind_some hm1582
                      refine LE (E_gives (args := [(.pointer (some ⟨b1472, 0, none⟩)), (.agg (encRole x1550.Role).toArray), (.string x1550.Who)]) hST rfl Try.call15 (by exact args3 rfl rfl rfl) (Gives.weak (w_model_Model_In b1472 y1473 r1464.1 y1476 r1464.2.1 y1479 r1464.2.2.1 y1482 r1464.2.2.2.1 y1485 r1464.2.2.2.2.1 r1464.2.2.2.2.2 x1550.Role x1550.Who _ _ (hy1475.at (fun b o hq => hST.at_ (.tail _ (.tail _ (List.mem_append_left _ hq))))) (hy1478.sl lenCred (fun b o hq => hST.at_ (.tail _ (.tail _ (List.mem_append_right _ (List.mem_append_left _ hq)))))) (hy1481.at (fun b o hq => hST.at_ (.tail _ (.tail _ (List.mem_append_right _ (List.mem_append_right _ (List.mem_append_left _ hq))))))) (hy1484.at (fun b o hq => hST.at_ (.tail _ (.tail _ (List.mem_append_right _ (List.mem_append_right _ (List.mem_append_right _ (List.mem_append_left _ hq)))))))) ((hy1487.slL lenFact).mono (Pl.mono _) (memL_held (fun b o hq => hST.at_ (.tail _ (.tail _ (List.mem_append_right _ (List.mem_append_right _ (List.mem_append_right _ (List.mem_append_right _ (List.mem_append_left _ hq)))))))))) (At.of (hST.at_ (.tail _ (.head _))) _ rfl) hr1595)) (fun W1596 hST => ?_))
                      refine LV (R_not (b := r1594) rfl) ?_
                      refine LW_nil ?_
                      refine sq_n ?_
                      replace hST : ST false NoF w _ _ ((b1472, Obj.cells (#[y1473, y1476, y1479, y1482, y1485, (.int .i64 r1464.2.2.2.2.2)] : Array Value) 53 (0, 0)) :: (S1474 ++ (S1477 ++ (S1480 ++ (S1483 ++ (S1486 ++ (R250 ++ (R54 ++ L1581)))))))) := hST.sublist (List.Sublist.cons _ (List.Sublist.refl _))
                      refine CW_if (b := (!r1594)) rfl (fun hb1597 => ?_) (fun hb1597 => ?_)
                      · replace hm1582 := if_t hb1597 hm1582
                        refine CW_seq ?_
                        refine CW_region ?_
                        refine LV (R_assign (v := (.bool false)) rfl) ?_
                        refine LW_nil ?_
                        refine sq_n ?_
                        replace hST : ST false NoF w _ _ L1581 := hST.sublist (List.Sublist.cons _ ((((((((List.Sublist.refl _).trans (List.sublist_append_right _ _)).trans (List.sublist_append_right _ _)).trans (List.sublist_append_right _ _)).trans (List.sublist_append_right _ _)).trans (List.sublist_append_right _ _)).trans (List.sublist_append_right _ _)).trans (List.sublist_append_right _ _)))
                        refine CW_ret ?_
                        refine bq_r (sq_r (bq_r (sq_r ?_)))
                        replace hm1582 := Option.some.inj hm1582; subst hm1582
                        replace hm1548 : some false = some r := hm1548
                        replace hm1548 := Option.some.inj hm1548; subst hm1548
                        refine retQ_1 (v := (.bool false)) rfl rfl ?_
                        exact ⟨rfl, hST.ex⟩
                      · replace hm1582 := if_f hb1597 hm1582
                        refine CW_skip ?_
                        refine bq_n ?_
                        refine sq_n ?_
                        exact ⟨eI, _, ⟨rfl, eN⟩, (hST.sublist (List.Sublist.refl _)), e1583, e1584, e1585, e1586, e1587, (by rw [hx1554]; exact hm1582)⟩
                    · rintro E W ⟨L1581, ⟨eI, eN⟩, hST, e1583, e1584, e1585, e1586, e1587, hm1582⟩
                      rw [List.drop_length] at hm1582
                      rw [m_law08_ModelLeast_L3] at hm1582
                      refine sq_n ?_
                      replace hm1582 := Option.some.inj hm1582; subst hm1582
                      exact ⟨_, (hST.sublist (List.Sublist.cons _ ((((((List.Sublist.refl _).trans (List.sublist_append_right _ _)).trans (List.sublist_append_right _ _)).trans (List.sublist_append_right _ _)).trans (List.sublist_append_right _ _)).trans (List.sublist_append_right _ _)))), e1583, e1584, e1585, hm1548⟩
                  · rintro E W ⟨L1538, hST, e1540, e1541, e1542, hm1539⟩
                    refine CW_seq ?_
                    refine CW_region ?_
                    refine LV (R_move (v := v_a0) e1540) ?_
                    refine LV (R_move (v := v53) e1541) ?_
                    refine LV (R_move (v := v249) e1542) ?_
                    obtain ⟨r1543, hr1544, hm1539⟩ := bind_some hm1539
                    refine LE (E_gives (args := [v_a0, v53, v249]) hST rfl Try.call16 (by exact args3 rfl rfl rfl) (Gives.weak (w_law08_founded v_a0 a0 v53 r48 v249 r244 _ _ (h_a0.mono (Pl.mono _) ((((((((hle27.trans hle52).trans hle240).trans hle248).trans hle1005).trans hle1235).trans hle1260).trans hle1468).trans hST.sub_hp)) (hR55.sl lenFact (fun b o hq => hST.at_ (List.mem_append_right _ (List.mem_append_left _ hq)))) (hR251.sl (fun _ => rfl) (fun b o hq => hST.at_ (List.mem_append_left _ hq))) hr1544)) (fun W1545 hST => ?_))
                    refine LV (R_assign (v := (.bool r1543)) rfl) ?_
                    refine LW_nil ?_
                    refine sq_n ?_
                    replace hST : ST false NoF w _ _ L1538 := hST.sublist (((List.Sublist.refl _).trans (List.sublist_append_right _ _)).trans (List.sublist_append_right _ _))
                    refine CW_ret ?_
                    replace hm1539 := Option.some.inj hm1539; subst hm1539
                    refine retQ_1 (v := (.bool r1543)) rfl rfl ?_
                    exact ⟨rfl, hST.ex⟩
                · refine PX_two 0 4 rfl rfl (by kernel_rfl) (.inl rfl) (.inl rfl) rfl rfl (by decide) (by decide) ?_ ?_
                  · refine E_buildSlice (qs := #[]) (cs := #[]) hST parts0 (run_lit [] Try.underlying24 Try.sizeOf36 Try.zeroValue36 (by decide) rfl (by simp) rfl rfl) (fun W1604 b1603 hST => ?_)
                    have hS0 : Has μ1259 ((b1, Obj.cells ((encCred a1).toArray : Array Value) 36 (0, 0)) :: []) _ := hST.has.sub (Sub.refl _) (fun p hq => ((List.mem_cons.1 hq).elim (fun hq => by rw [hq]; exact (.tail _ (.head _))) (fun hq => (absurd hq List.not_mem_nil))))
                    refine ⟨hS0, ?_⟩
                    refine PX_two 2 4 rfl rfl (by kernel_rfl) (.inl rfl) (.inl rfl) rfl rfl (by decide) (by decide) ?_ ?_
                    · obtain ⟨l1605, hb1606, hm1600⟩ := bind_some hm1600
                      replace hST := hST.perm (List.Perm.append_left [] (List.perm_middle (l₁ := [_])).symm)
                      refine E_append (enc := encCred) (v := (.slice (some ⟨b1603, 0, none⟩) 0 0)) (vs := v_a0) (R := [(b1603, Obj.cells (#[] : Array Value) 36 (0, 0))]) [_] hST lenCred (by decide) oneCred Try.underlying24 info36.1 info36.2.1 rfl info36.2.2.1 info36.2.2.2 rfl rfl (Row.lit (l := []) (enc := encCred) rfl (by decide) rfl rfl) (h_a0.mono (Pl.mono _) (((((((hle27.trans hle52).trans hle240).trans hle248).trans hle1005).trans hle1235).trans hle1260).trans hST.sub_hp)) hb1606 (fun W1607 v1610 R1608 hST hR1609 => ?_)
                      replace hST : ST false NoF w _ _ ((b1, Obj.cells ((encCred a1).toArray : Array Value) 36 (0, 0)) :: (R1608 ++ (R250 ++ (R54 ++ L1224)))) := hST
                      have hS0 : Has μ1259 ((b1, Obj.cells ((encCred a1).toArray : Array Value) 36 (0, 0)) :: []) _ := hST.has.sub (Sub.refl _) (fun p hq => ((List.mem_cons.1 hq).elim (fun hq => by rw [hq]; exact (.head _)) (fun hq => (absurd hq List.not_mem_nil))))
                      refine ⟨hS0, ?_⟩
                      refine PX_e 4 rfl (by kernel_rfl) (.inl rfl) rfl (by decide) (E_buildSlice (qs := #[(0, (.agg (encCred a1).toArray))]) (cs := (encCred a1).toArray) hST (parts1 rfl) (run_lit [(.agg (encCred a1).toArray)] Try.underlying24 Try.sizeOf36 Try.zeroValue36 (by decide) rfl (by intro v hv; simp only [List.mem_cons, List.not_mem_nil, or_false] at hv; rcases hv with rfl <;> rfl) rfl rfl) (fun W1612 b1611 hST => ?_))
                      have hS0 : Has μ1259 ((b1, Obj.cells ((encCred a1).toArray : Array Value) 36 (0, 0)) :: []) _ := hST.has.sub (Sub.refl _) (fun p hq => ((List.mem_cons.1 hq).elim (fun hq => by rw [hq]; exact (.tail _ (.head _))) (fun hq => (absurd hq List.not_mem_nil))))
                      refine ⟨hS0, ?_⟩
                      replace hm1600 := Option.some.inj hm1600; subst hm1600
                      replace hST := hST.perm (List.Perm.append_left [] (List.perm_middle (l₁ := [_])).symm)
                      replace hST : ST false NoF w _ _ ((b1, Obj.cells ((encCred a1).toArray : Array Value) 36 (0, 0)) :: (R1608 ++ (R250 ++ (R54 ++ ([(b1611, Obj.cells ((encCred a1).toArray : Array Value) 36 (0, 0))] ++ L1224))))) := hST.perm (permD [[(b1, Obj.cells ((encCred a1).toArray : Array Value) 36 (0, 0))], [(b1611, Obj.cells ((encCred a1).toArray : Array Value) 36 (0, 0))], R1608, R250, R54] [0, 1, 2, 3, 4] [0, 2, 3, 4, 1] L1224 (by decide) rfl rfl)
                      refine PX_at (by kernel_rfl) (key1602 _ _ ⟨v1610, l1605, R1608, (.slice (some ⟨b1611, 0, none⟩) 1 1), ([a1]), [(b1611, Obj.cells ((encCred a1).toArray : Array Value) 36 (0, 0))], _, (hST.sublist (List.Sublist.refl _)), e1226, e1228, e1229, rfl, rfl, hR1609, (Row.lit (l := [a1]) (enc := encCred) rfl (by decide) rfl rfl), hm1601⟩)
                    · refine E_buildSlice (qs := #[(0, (.agg (encCred a1).toArray))]) (cs := (encCred a1).toArray) hST (parts1 rfl) (run_lit [(.agg (encCred a1).toArray)] Try.underlying24 Try.sizeOf36 Try.zeroValue36 (by decide) rfl (by intro v hv; simp only [List.mem_cons, List.not_mem_nil, or_false] at hv; rcases hv with rfl <;> rfl) rfl rfl) (fun W1614 b1613 hST => ?_)
                      have hS0 : Has μ1259 ((b1, Obj.cells ((encCred a1).toArray : Array Value) 36 (0, 0)) :: []) _ := hST.has.sub (Sub.refl _) (fun p hq => ((List.mem_cons.1 hq).elim (fun hq => by rw [hq]; exact (.tail _ (.tail _ (.head _)))) (fun hq => (absurd hq List.not_mem_nil))))
                      refine ⟨hS0, ?_⟩
                      obtain ⟨l1615, hb1616, hm1600⟩ := bind_some hm1600
                      replace hST := hST.perm (List.Perm.append_left [_] (List.perm_middle (l₁ := [_])).symm)
                      refine PX_e 2 rfl (by kernel_rfl) (.inl rfl) rfl (by decide) (E_append (enc := encCred) (v := (.slice (some ⟨b1603, 0, none⟩) 0 0)) (vs := v_a0) (R := [(b1603, Obj.cells (#[] : Array Value) 36 (0, 0))]) [_, _] hST lenCred (by decide) oneCred Try.underlying24 info36.1 info36.2.1 rfl info36.2.2.1 info36.2.2.2 rfl rfl (Row.lit (l := []) (enc := encCred) rfl (by decide) rfl rfl) (h_a0.mono (Pl.mono _) (((((((hle27.trans hle52).trans hle240).trans hle248).trans hle1005).trans hle1235).trans hle1260).trans hST.sub_hp)) hb1616 (fun W1617 v1620 R1618 hST hR1619 => ?_))
                      replace hST : ST false NoF w _ _ ((b1613, Obj.cells ((encCred a1).toArray : Array Value) 36 (0, 0)) :: ((b1, Obj.cells ((encCred a1).toArray : Array Value) 36 (0, 0)) :: (R1618 ++ (R250 ++ (R54 ++ L1224))))) := hST
                      have hS0 : Has μ1259 ((b1, Obj.cells ((encCred a1).toArray : Array Value) 36 (0, 0)) :: []) _ := hST.has.sub (Sub.refl _) (fun p hq => ((List.mem_cons.1 hq).elim (fun hq => by rw [hq]; exact (.tail _ (.head _))) (fun hq => (absurd hq List.not_mem_nil))))
                      refine ⟨hS0, ?_⟩
                      replace hm1600 := Option.some.inj hm1600; subst hm1600
                      replace hST := hST.perm (List.Perm.append_left [] (List.perm_middle (l₁ := [_])).symm)
                      replace hST : ST false NoF w _ _ ((b1, Obj.cells ((encCred a1).toArray : Array Value) 36 (0, 0)) :: (R1618 ++ (R250 ++ (R54 ++ ([(b1613, Obj.cells ((encCred a1).toArray : Array Value) 36 (0, 0))] ++ L1224))))) := hST.perm (permD [[(b1, Obj.cells ((encCred a1).toArray : Array Value) 36 (0, 0))], [(b1613, Obj.cells ((encCred a1).toArray : Array Value) 36 (0, 0))], R1618, R250, R54] [0, 1, 2, 3, 4] [0, 2, 3, 4, 1] L1224 (by decide) rfl rfl)
                      refine PX_at (by kernel_rfl) (key1602 _ _ ⟨v1620, l1615, R1618, (.slice (some ⟨b1613, 0, none⟩) 1 1), ([a1]), [(b1613, Obj.cells ((encCred a1).toArray : Array Value) 36 (0, 0))], _, (hST.sublist (List.Sublist.refl _)), e1226, e1228, e1229, rfl, rfl, hR1619, (Row.lit (l := [a1]) (enc := encCred) rfl (by decide) rfl rfl), hm1601⟩)
                  · refine E_buildSlice (qs := #[(0, (.agg (encCred a1).toArray))]) (cs := (encCred a1).toArray) hST (parts1 rfl) (run_lit [(.agg (encCred a1).toArray)] Try.underlying24 Try.sizeOf36 Try.zeroValue36 (by decide) rfl (by intro v hv; simp only [List.mem_cons, List.not_mem_nil, or_false] at hv; rcases hv with rfl <;> rfl) rfl rfl) (fun W1622 b1621 hST => ?_)
                    have hS0 : Has μ1259 ((b1, Obj.cells ((encCred a1).toArray : Array Value) 36 (0, 0)) :: []) _ := hST.has.sub (Sub.refl _) (fun p hq => ((List.mem_cons.1 hq).elim (fun hq => by rw [hq]; exact (.tail _ (.head _))) (fun hq => (absurd hq List.not_mem_nil))))
                    refine ⟨hS0, ?_⟩
                    refine PX_e 0 rfl (by kernel_rfl) (.inl rfl) rfl (by decide) (E_buildSlice (qs := #[]) (cs := #[]) hST parts0 (run_lit [] Try.underlying24 Try.sizeOf36 Try.zeroValue36 (by decide) rfl (by simp) rfl rfl) (fun W1624 b1623 hST => ?_))
                    have hS0 : Has μ1259 ((b1, Obj.cells ((encCred a1).toArray : Array Value) 36 (0, 0)) :: []) _ := hST.has.sub (Sub.refl _) (fun p hq => ((List.mem_cons.1 hq).elim (fun hq => by rw [hq]; exact (.tail _ (.tail _ (.head _)))) (fun hq => (absurd hq List.not_mem_nil))))
                    refine ⟨hS0, ?_⟩
                    obtain ⟨l1625, hb1626, hm1600⟩ := bind_some hm1600
                    replace hST := hST.perm (List.Perm.append_left [] (List.perm_middle (l₁ := [_, _])).symm)
                    refine PX_e 2 rfl (by kernel_rfl) (.inl rfl) rfl (by decide) (E_append (enc := encCred) (v := (.slice (some ⟨b1623, 0, none⟩) 0 0)) (vs := v_a0) (R := [(b1623, Obj.cells (#[] : Array Value) 36 (0, 0))]) [_, _] hST lenCred (by decide) oneCred Try.underlying24 info36.1 info36.2.1 rfl info36.2.2.1 info36.2.2.2 rfl rfl (Row.lit (l := []) (enc := encCred) rfl (by decide) rfl rfl) (h_a0.mono (Pl.mono _) (((((((hle27.trans hle52).trans hle240).trans hle248).trans hle1005).trans hle1235).trans hle1260).trans hST.sub_hp)) hb1626 (fun W1627 v1630 R1628 hST hR1629 => ?_))
                    replace hST : ST false NoF w _ _ ((b1621, Obj.cells ((encCred a1).toArray : Array Value) 36 (0, 0)) :: ((b1, Obj.cells ((encCred a1).toArray : Array Value) 36 (0, 0)) :: (R1628 ++ (R250 ++ (R54 ++ L1224))))) := hST
                    have hS0 : Has μ1259 ((b1, Obj.cells ((encCred a1).toArray : Array Value) 36 (0, 0)) :: []) _ := hST.has.sub (Sub.refl _) (fun p hq => ((List.mem_cons.1 hq).elim (fun hq => by rw [hq]; exact (.tail _ (.head _))) (fun hq => (absurd hq List.not_mem_nil))))
                    refine ⟨hS0, ?_⟩
                    replace hm1600 := Option.some.inj hm1600; subst hm1600
                    replace hST := hST.perm (List.Perm.append_left [] (List.perm_middle (l₁ := [_])).symm)
                    replace hST : ST false NoF w _ _ ((b1, Obj.cells ((encCred a1).toArray : Array Value) 36 (0, 0)) :: (R1628 ++ (R250 ++ (R54 ++ ([(b1621, Obj.cells ((encCred a1).toArray : Array Value) 36 (0, 0))] ++ L1224))))) := hST.perm (permD [[(b1, Obj.cells ((encCred a1).toArray : Array Value) 36 (0, 0))], [(b1621, Obj.cells ((encCred a1).toArray : Array Value) 36 (0, 0))], R1628, R250, R54] [0, 1, 2, 3, 4] [0, 2, 3, 4, 1] L1224 (by decide) rfl rfl)
                    refine PX_at (by kernel_rfl) (key1602 _ _ ⟨v1630, l1625, R1628, (.slice (some ⟨b1621, 0, none⟩) 1 1), ([a1]), [(b1621, Obj.cells ((encCred a1).toArray : Array Value) 36 (0, 0))], _, (hST.sublist (List.Sublist.refl _)), e1226, e1228, e1229, rfl, rfl, hR1629, (Row.lit (l := [a1]) (enc := encCred) rfl (by decide) rfl rfl), hm1601⟩)
        · refine PX_two 0 4 rfl rfl (by kernel_rfl) (.inl rfl) (.inl rfl) rfl rfl (by decide) (by decide) ?_ ?_
          · refine E_buildSlice (qs := #[]) (cs := #[]) hST parts0 (run_lit [] Try.underlying24 Try.sizeOf36 Try.zeroValue36 (by decide) rfl (by simp) rfl rfl) (fun W1705 b1704 hST => ?_)
            have hS0 : Has μ51 ((b1, Obj.cells ((encCred a1).toArray : Array Value) 36 (0, 0)) :: []) _ := hST.has.sub (Sub.refl _) (fun p hq => ((List.mem_cons.1 hq).elim (fun hq => by rw [hq]; exact (.tail _ (.tail _ (.head _)))) (fun hq => (absurd hq List.not_mem_nil))))
            refine ⟨hS0, ?_⟩
            refine PX_two 2 4 rfl rfl (by kernel_rfl) (.inl rfl) (.inl rfl) rfl rfl (by decide) (by decide) ?_ ?_
            · obtain ⟨l1706, hb1707, hm1701⟩ := bind_some hm1701
              replace hST := hST.perm (List.Perm.append_left [] (List.perm_middle (l₁ := [_, _])).symm)
              refine E_append (enc := encCred) (v := (.slice (some ⟨b1704, 0, none⟩) 0 0)) (vs := v_a0) (R := [(b1704, Obj.cells (#[] : Array Value) 36 (0, 0))]) [_, _] hST lenCred (by decide) oneCred Try.underlying24 info36.1 info36.2.1 rfl info36.2.2.1 info36.2.2.2 rfl rfl (Row.lit (l := []) (enc := encCred) rfl (by decide) rfl rfl) (h_a0.mono (Pl.mono _) ((hle27.trans hle52).trans hST.sub_hp)) hb1707 (fun W1708 v1711 R1709 hST hR1710 => ?_)
              replace hST : ST false NoF w _ _ ((b31, Obj.cells (#[y32, y35, y38, y41, y44, (.int .i64 (r23.2.2.2.2.2))] : Array Value) 53 (0, 0)) :: ((b1, Obj.cells ((encCred a1).toArray : Array Value) 36 (0, 0)) :: (R1709 ++ (R54 ++ (S33 ++ (S36 ++ (S39 ++ (S42 ++ (S45 ++ L17))))))))) := hST
              have hS0 : Has μ51 ((b1, Obj.cells ((encCred a1).toArray : Array Value) 36 (0, 0)) :: []) _ := hST.has.sub (Sub.refl _) (fun p hq => ((List.mem_cons.1 hq).elim (fun hq => by rw [hq]; exact (.tail _ (.head _))) (fun hq => (absurd hq List.not_mem_nil))))
              refine ⟨hS0, ?_⟩
              refine PX_e 4 rfl (by kernel_rfl) (.inl rfl) rfl (by decide) (E_buildSlice (qs := #[(0, (.agg (encCred a1).toArray))]) (cs := (encCred a1).toArray) hST (parts1 rfl) (run_lit [(.agg (encCred a1).toArray)] Try.underlying24 Try.sizeOf36 Try.zeroValue36 (by decide) rfl (by intro v hv; simp only [List.mem_cons, List.not_mem_nil, or_false] at hv; rcases hv with rfl <;> rfl) rfl rfl) (fun W1713 b1712 hST => ?_))
              have hS0 : Has μ51 ((b1, Obj.cells ((encCred a1).toArray : Array Value) 36 (0, 0)) :: []) _ := hST.has.sub (Sub.refl _) (fun p hq => ((List.mem_cons.1 hq).elim (fun hq => by rw [hq]; exact (.tail _ (.tail _ (.head _)))) (fun hq => (absurd hq List.not_mem_nil))))
              refine ⟨hS0, ?_⟩
              replace hm1701 := Option.some.inj hm1701; subst hm1701
              replace hST := hST.perm (List.Perm.append_left [] (List.perm_middle (l₁ := [_, _])).symm)
              replace hST : ST false NoF w _ _ ((b31, Obj.cells (#[y32, y35, y38, y41, y44, (.int .i64 (r23.2.2.2.2.2))] : Array Value) 53 (0, 0)) :: ((b1, Obj.cells ((encCred a1).toArray : Array Value) 36 (0, 0)) :: (R1709 ++ (R54 ++ (S33 ++ (S36 ++ (S39 ++ (S42 ++ (S45 ++ ([(b1712, Obj.cells ((encCred a1).toArray : Array Value) 36 (0, 0))] ++ L17)))))))))) := hST.perm (permD [[(b31, Obj.cells (#[y32, y35, y38, y41, y44, (.int .i64 (r23.2.2.2.2.2))] : Array Value) 53 (0, 0))], [(b1, Obj.cells ((encCred a1).toArray : Array Value) 36 (0, 0))], [(b1712, Obj.cells ((encCred a1).toArray : Array Value) 36 (0, 0))], R1709, R54, S33, S36, S39, S42, S45] [0, 1, 2, 3, 4, 5, 6, 7, 8, 9] [0, 1, 3, 4, 5, 6, 7, 8, 9, 2] L17 (by decide) rfl rfl)
              refine PX_at (by kernel_rfl) (key1703 _ _ ⟨v1711, l1706, R1709, (.slice (some ⟨b1712, 0, none⟩) 1 1), ([a1]), [(b1712, Obj.cells ((encCred a1).toArray : Array Value) 36 (0, 0))], _, (hST.sublist (List.Sublist.refl _)), e19, e20, rfl, rfl, rfl, rfl, hR1710, (Row.lit (l := [a1]) (enc := encCred) rfl (by decide) rfl rfl), hm1702⟩)
            · refine E_buildSlice (qs := #[(0, (.agg (encCred a1).toArray))]) (cs := (encCred a1).toArray) hST (parts1 rfl) (run_lit [(.agg (encCred a1).toArray)] Try.underlying24 Try.sizeOf36 Try.zeroValue36 (by decide) rfl (by intro v hv; simp only [List.mem_cons, List.not_mem_nil, or_false] at hv; rcases hv with rfl <;> rfl) rfl rfl) (fun W1715 b1714 hST => ?_)
              have hS0 : Has μ51 ((b1, Obj.cells ((encCred a1).toArray : Array Value) 36 (0, 0)) :: []) _ := hST.has.sub (Sub.refl _) (fun p hq => ((List.mem_cons.1 hq).elim (fun hq => by rw [hq]; exact (.tail _ (.tail _ (.tail _ (.head _))))) (fun hq => (absurd hq List.not_mem_nil))))
              refine ⟨hS0, ?_⟩
              obtain ⟨l1716, hb1717, hm1701⟩ := bind_some hm1701
              replace hST := hST.perm (List.Perm.append_left [_] (List.perm_middle (l₁ := [_, _])).symm)
              refine PX_e 2 rfl (by kernel_rfl) (.inl rfl) rfl (by decide) (E_append (enc := encCred) (v := (.slice (some ⟨b1704, 0, none⟩) 0 0)) (vs := v_a0) (R := [(b1704, Obj.cells (#[] : Array Value) 36 (0, 0))]) [_, _, _] hST lenCred (by decide) oneCred Try.underlying24 info36.1 info36.2.1 rfl info36.2.2.1 info36.2.2.2 rfl rfl (Row.lit (l := []) (enc := encCred) rfl (by decide) rfl rfl) (h_a0.mono (Pl.mono _) ((hle27.trans hle52).trans hST.sub_hp)) hb1717 (fun W1718 v1721 R1719 hST hR1720 => ?_))
              replace hST : ST false NoF w _ _ ((b1714, Obj.cells ((encCred a1).toArray : Array Value) 36 (0, 0)) :: ((b31, Obj.cells (#[y32, y35, y38, y41, y44, (.int .i64 (r23.2.2.2.2.2))] : Array Value) 53 (0, 0)) :: ((b1, Obj.cells ((encCred a1).toArray : Array Value) 36 (0, 0)) :: (R1719 ++ (R54 ++ (S33 ++ (S36 ++ (S39 ++ (S42 ++ (S45 ++ L17)))))))))) := hST
              have hS0 : Has μ51 ((b1, Obj.cells ((encCred a1).toArray : Array Value) 36 (0, 0)) :: []) _ := hST.has.sub (Sub.refl _) (fun p hq => ((List.mem_cons.1 hq).elim (fun hq => by rw [hq]; exact (.tail _ (.tail _ (.head _)))) (fun hq => (absurd hq List.not_mem_nil))))
              refine ⟨hS0, ?_⟩
              replace hm1701 := Option.some.inj hm1701; subst hm1701
              replace hST := hST.perm (List.Perm.append_left [] (List.perm_middle (l₁ := [_, _])).symm)
              replace hST : ST false NoF w _ _ ((b31, Obj.cells (#[y32, y35, y38, y41, y44, (.int .i64 (r23.2.2.2.2.2))] : Array Value) 53 (0, 0)) :: ((b1, Obj.cells ((encCred a1).toArray : Array Value) 36 (0, 0)) :: (R1719 ++ (R54 ++ (S33 ++ (S36 ++ (S39 ++ (S42 ++ (S45 ++ ([(b1714, Obj.cells ((encCred a1).toArray : Array Value) 36 (0, 0))] ++ L17)))))))))) := hST.perm (permD [[(b31, Obj.cells (#[y32, y35, y38, y41, y44, (.int .i64 (r23.2.2.2.2.2))] : Array Value) 53 (0, 0))], [(b1, Obj.cells ((encCred a1).toArray : Array Value) 36 (0, 0))], [(b1714, Obj.cells ((encCred a1).toArray : Array Value) 36 (0, 0))], R1719, R54, S33, S36, S39, S42, S45] [0, 1, 2, 3, 4, 5, 6, 7, 8, 9] [0, 1, 3, 4, 5, 6, 7, 8, 9, 2] L17 (by decide) rfl rfl)
              refine PX_at (by kernel_rfl) (key1703 _ _ ⟨v1721, l1716, R1719, (.slice (some ⟨b1714, 0, none⟩) 1 1), ([a1]), [(b1714, Obj.cells ((encCred a1).toArray : Array Value) 36 (0, 0))], _, (hST.sublist (List.Sublist.refl _)), e19, e20, rfl, rfl, rfl, rfl, hR1720, (Row.lit (l := [a1]) (enc := encCred) rfl (by decide) rfl rfl), hm1702⟩)
          · refine E_buildSlice (qs := #[(0, (.agg (encCred a1).toArray))]) (cs := (encCred a1).toArray) hST (parts1 rfl) (run_lit [(.agg (encCred a1).toArray)] Try.underlying24 Try.sizeOf36 Try.zeroValue36 (by decide) rfl (by intro v hv; simp only [List.mem_cons, List.not_mem_nil, or_false] at hv; rcases hv with rfl <;> rfl) rfl rfl) (fun W1723 b1722 hST => ?_)
            have hS0 : Has μ51 ((b1, Obj.cells ((encCred a1).toArray : Array Value) 36 (0, 0)) :: []) _ := hST.has.sub (Sub.refl _) (fun p hq => ((List.mem_cons.1 hq).elim (fun hq => by rw [hq]; exact (.tail _ (.tail _ (.head _)))) (fun hq => (absurd hq List.not_mem_nil))))
            refine ⟨hS0, ?_⟩
            refine PX_e 0 rfl (by kernel_rfl) (.inl rfl) rfl (by decide) (E_buildSlice (qs := #[]) (cs := #[]) hST parts0 (run_lit [] Try.underlying24 Try.sizeOf36 Try.zeroValue36 (by decide) rfl (by simp) rfl rfl) (fun W1725 b1724 hST => ?_))
            have hS0 : Has μ51 ((b1, Obj.cells ((encCred a1).toArray : Array Value) 36 (0, 0)) :: []) _ := hST.has.sub (Sub.refl _) (fun p hq => ((List.mem_cons.1 hq).elim (fun hq => by rw [hq]; exact (.tail _ (.tail _ (.tail _ (.head _))))) (fun hq => (absurd hq List.not_mem_nil))))
            refine ⟨hS0, ?_⟩
            obtain ⟨l1726, hb1727, hm1701⟩ := bind_some hm1701
            replace hST := hST.perm (List.Perm.append_left [] (List.perm_middle (l₁ := [_, _, _])).symm)
            refine PX_e 2 rfl (by kernel_rfl) (.inl rfl) rfl (by decide) (E_append (enc := encCred) (v := (.slice (some ⟨b1724, 0, none⟩) 0 0)) (vs := v_a0) (R := [(b1724, Obj.cells (#[] : Array Value) 36 (0, 0))]) [_, _, _] hST lenCred (by decide) oneCred Try.underlying24 info36.1 info36.2.1 rfl info36.2.2.1 info36.2.2.2 rfl rfl (Row.lit (l := []) (enc := encCred) rfl (by decide) rfl rfl) (h_a0.mono (Pl.mono _) ((hle27.trans hle52).trans hST.sub_hp)) hb1727 (fun W1728 v1731 R1729 hST hR1730 => ?_))
            replace hST : ST false NoF w _ _ ((b1722, Obj.cells ((encCred a1).toArray : Array Value) 36 (0, 0)) :: ((b31, Obj.cells (#[y32, y35, y38, y41, y44, (.int .i64 (r23.2.2.2.2.2))] : Array Value) 53 (0, 0)) :: ((b1, Obj.cells ((encCred a1).toArray : Array Value) 36 (0, 0)) :: (R1729 ++ (R54 ++ (S33 ++ (S36 ++ (S39 ++ (S42 ++ (S45 ++ L17)))))))))) := hST
            have hS0 : Has μ51 ((b1, Obj.cells ((encCred a1).toArray : Array Value) 36 (0, 0)) :: []) _ := hST.has.sub (Sub.refl _) (fun p hq => ((List.mem_cons.1 hq).elim (fun hq => by rw [hq]; exact (.tail _ (.tail _ (.head _)))) (fun hq => (absurd hq List.not_mem_nil))))
            refine ⟨hS0, ?_⟩
            replace hm1701 := Option.some.inj hm1701; subst hm1701
            replace hST := hST.perm (List.Perm.append_left [] (List.perm_middle (l₁ := [_, _])).symm)
            replace hST : ST false NoF w _ _ ((b31, Obj.cells (#[y32, y35, y38, y41, y44, (.int .i64 (r23.2.2.2.2.2))] : Array Value) 53 (0, 0)) :: ((b1, Obj.cells ((encCred a1).toArray : Array Value) 36 (0, 0)) :: (R1729 ++ (R54 ++ (S33 ++ (S36 ++ (S39 ++ (S42 ++ (S45 ++ ([(b1722, Obj.cells ((encCred a1).toArray : Array Value) 36 (0, 0))] ++ L17)))))))))) := hST.perm (permD [[(b31, Obj.cells (#[y32, y35, y38, y41, y44, (.int .i64 (r23.2.2.2.2.2))] : Array Value) 53 (0, 0))], [(b1, Obj.cells ((encCred a1).toArray : Array Value) 36 (0, 0))], [(b1722, Obj.cells ((encCred a1).toArray : Array Value) 36 (0, 0))], R1729, R54, S33, S36, S39, S42, S45] [0, 1, 2, 3, 4, 5, 6, 7, 8, 9] [0, 1, 3, 4, 5, 6, 7, 8, 9, 2] L17 (by decide) rfl rfl)
            refine PX_at (by kernel_rfl) (key1703 _ _ ⟨v1731, l1726, R1729, (.slice (some ⟨b1722, 0, none⟩) 1 1), ([a1]), [(b1722, Obj.cells ((encCred a1).toArray : Array Value) 36 (0, 0))], _, (hST.sublist (List.Sublist.refl _)), e19, e20, rfl, rfl, rfl, rfl, hR1730, (Row.lit (l := [a1]) (enc := encCred) rfl (by decide) rfl rfl), hm1702⟩)
    · rcases bool_cases ((decide (r7 > 1200))) with hb10 | hb10
      · replace hm1733 := if_t hb10 hm1733
        refine LW_no rfl (by decide) rfl rfl (by decide) (congrArg Value.bool hb10) ?_
        refine LW_no rfl (by decide) rfl rfl (by decide) (congrArg Value.bool hb10) ?_
        refine LW_no rfl (by decide) rfl rfl (by decide) (congrArg Value.bool hb10) ?_
        refine LW_no rfl (by decide) rfl rfl (by decide) (congrArg Value.bool hb10) ?_
        refine LV (R_pickT (v := (.bool true)) (congrArg Value.bool hb10) rfl) ?_
        replace hm1733 := Option.some.inj hm1733; subst hm1733
        exact key1735 _ _ ⟨true, _, (hST.sublist (List.Sublist.refl _)), rfl, rfl, rfl, hm1734⟩
      · replace hm1733 := if_f hb10 hm1733
        refine LW_v (.inr ⟨3, false, 22, rfl, rfl, by decide, (congrArg Value.bool hb10)⟩) rfl (by decide) (R_load (v := (.agg (encCred a1).toArray)) rfl (load_boxA hST.has (.head _) (encCred a1) rfl Try.isAgg36 Try.sizeOf36)) ?_
        refine LW_e (.inr ⟨3, false, 22, rfl, rfl, by decide, (congrArg Value.bool hb10)⟩) rfl (by decide) (E_buildSlice (qs := #[(0, (.agg (encCred a1).toArray))]) (cs := (encCred a1).toArray) hST (parts1 rfl) (run_lit [(.agg (encCred a1).toArray)] Try.underlying24 Try.sizeOf36 Try.zeroValue36 (by decide) rfl (by intro v hv; simp only [List.mem_cons, List.not_mem_nil, or_false] at hv; rcases hv with rfl <;> rfl) rfl rfl) (fun W1737 b1736 hST => ?_))
        obtain ⟨r1738, hr1739, hm1733⟩ := bind_some hm1733
        refine LW_e (.inr ⟨3, false, 22, rfl, rfl, by decide, (congrArg Value.bool hb10)⟩) rfl (by decide) (E_gives (args := [(.slice (some ⟨b1736, 0, none⟩) 1 1)]) hST rfl Try.call7 (by exact args1 rfl) (Gives.weak (w_law05_Great (.slice (some ⟨b1736, 0, none⟩) 1 1) ([a1]) _ _ (Sl.lit (enc := encCred) (l := [a1]) lenCred rfl (Nat.le_of_ble_eq_true rfl) rfl (hST.at_ (.head _))) hr1739)) (fun W1740 hST => ?_))
        refine LW_v (.inr ⟨3, false, 22, rfl, rfl, by decide, (congrArg Value.bool hb10)⟩) rfl (by decide) (R_int (k := .i64) (a := r1738) (b := 300) (v := (.bool ((decide (r1738 > 300))))) rfl rfl rfl) ?_
        refine LV (R_pickF (v := (.bool ((decide (r1738 > 300))))) (congrArg Value.bool hb10) rfl) ?_
        replace hm1733 := Option.some.inj hm1733; subst hm1733
        exact key1735 _ _ ⟨((decide (r1738 > 300))), _, (hST.sublist (List.Sublist.cons _ (List.Sublist.refl _))), rfl, rfl, rfl, hm1734⟩
end Go.Proofs.Ytfjdjbdnnoijgaa
