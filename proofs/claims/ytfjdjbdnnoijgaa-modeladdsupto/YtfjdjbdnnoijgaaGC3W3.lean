/- a part of a proof of ModelAdds -/
import Derived.Test.YtfjdjbdnnoijgaaGC3W2
set_option linter.all false
namespace Go.Proofs.Ytfjdjbdnnoijgaa
open Go.RowKit
set_option maxRecDepth 10000
theorem w_ref03_Right (a0 : ByteArray) (r : Bool) (w : World)  (hm : m_ref03_Right a0 = some r) :
    Gives true Try.prog 50 [(.string a0)] w (.bool r) := by
  have hST := ST.start (dd := true) w
  unfold m_ref03_Right at hm
  refine calls_of_CW (n := 49) Try.func50 rfl rfl (Nat.le_of_ble_eq_true rfl) ?_
  refine CW_seq ?_
  refine CW_region ?_
  refine LV (R_assign (v := (.bool false)) rfl) ?_
  refine LW_nil ?_
  refine sq_n ?_
  refine CW_seq ?_
  refine CW_seq ?_
  refine CW_region ?_
  refine LV (R_move (v := (.string a0)) rfl) ?_
  refine LV (R_str (a := a0) (b := zS) (v := (.bool ((beqS a0 zS)))) rfl rfl rfl) ?_
  refine LV (R_move (v := (.bool ((beqS a0 zS)))) rfl) ?_
  obtain ⟨s444, hm445, hm446⟩ := bind_some hm
  refine LW_join (J := fun E W => ∃ (x2 : Bool) (L3 : List (Nat × Obj)), ST true NoF w W (hp w) L3 ∧ E 0 = (.string a0) ∧ E 11 = (.bool x2) ∧ (((if x2 then some true else (((idxS a0 0)).bind fun c442 => some ((decide (((c442.toNat : Int)) < 97))))) : Option Bool).bind fun x10 => (((if x10 then some true else (((idxS a0 0)).bind fun c436 => some ((decide (((c436.toNat : Int)) > 122))))) : Option Bool).bind fun x18 => (if x18 then some false else m_ref03_Right_L1 a0 FUEL 0))) = some r) 4 ?_ (fun key447 => ?_)
  · rintro E W ⟨x2, L3, hST, e5, e6, hm4⟩
    refine LV (R_move (v := (.bool x2)) e6) ?_
    obtain ⟨s438, hm439, hm440⟩ := bind_some hm4
    refine LW_join (J := fun E W => ∃ (x10 : Bool) (L11 : List (Nat × Obj)), ST true NoF w W (hp w) L11 ∧ E 0 = (.string a0) ∧ E 16 = (.bool x10) ∧ (((if x10 then some true else (((idxS a0 0)).bind fun c436 => some ((decide (((c436.toNat : Int)) > 122))))) : Option Bool).bind fun x18 => (if x18 then some false else m_ref03_Right_L1 a0 FUEL 0)) = some r) 4 ?_ (fun key441 => ?_)
    · rintro E W ⟨x10, L11, hST, e13, e14, hm12⟩
      refine LV (R_move (v := (.bool x10)) e14) ?_
      obtain ⟨s432, hm433, hm434⟩ := bind_some hm12
      refine LW_join (J := fun E W => ∃ (x18 : Bool) (L19 : List (Nat × Obj)), ST true NoF w W (hp w) L19 ∧ E 0 = (.string a0) ∧ E 21 = (.bool x18) ∧ (if x18 then some false else m_ref03_Right_L1 a0 FUEL 0) = some r) 4 ?_ (fun key435 => ?_)
      · rintro E W ⟨x18, L19, hST, e21, e22, hm20⟩
        refine LW_nil ?_
        refine sq_n ?_
        refine CW_if (b := x18) e22 (fun hb23 => ?_) (fun hb23 => ?_)
        · replace hm20 := if_t hb23 hm20
          refine CW_seq ?_
          refine CW_region ?_
          refine LV (R_assign (v := (.bool false)) rfl) ?_
          refine LW_nil ?_
          refine sq_n ?_
          refine CW_ret ?_
          refine sq_r ?_
          replace hm20 := Option.some.inj hm20; subst hm20
          refine retQ_1 (v := (.bool false)) rfl rfl ?_
          exact ⟨rfl, hST.ex⟩
        · replace hm20 := if_f hb23 hm20
          refine CW_skip ?_
          refine sq_n ?_
          refine CW_seq ?_
          refine CW_seq ?_
          refine CW_region ?_
          refine LV (R_assign (v := (.int .i64 0)) rfl) ?_
          refine LW_nil ?_
          refine sq_n ?_
          refine CW_block (CW_loop (fun m E W => ∃ (x293 : Int) (L362 : List (Nat × Obj)), ST true NoF w W (hp w) L362 ∧ E 0 = (.string a0) ∧ E 3 = (.int .i64 x293) ∧ m_ref03_Right_L1 a0 m x293 = some r) FUEL ⟨0, _, (hST.sublist (List.Sublist.refl _)), e21, rfl, hm20⟩ ?_)
          rintro m E W ⟨x293, L362, hST, e365, e366, hm363⟩
          cases m with
          | zero => rw [m_ref03_Right_L1] at hm363; cases hm363
          | succ n364 =>
            rw [m_ref03_Right_L1] at hm363
            refine CW_seq ?_
            refine CW_seq ?_
            refine CW_region ?_
            refine LV (R_move (v := (.int .i64 x293)) e366) ?_
            refine LV (R_move (v := (.string a0)) e365) ?_
            refine LV (R_lenStr (s := a0) Try.underlying9 rfl) ?_
            refine LV (R_int (k := .i64) (a := x293) (b := ((a0.size : Int))) (v := (.bool ((decide (x293 < ((a0.size : Int))))))) rfl rfl rfl) ?_
            refine LW_nil ?_
            refine sq_n ?_
            refine CW_if (b := (decide (x293 < ((a0.size : Int))))) rfl (fun hb367 => ?_) (fun hb367 => ?_)
            · replace hm363 := if_t hb367 hm363
              refine CW_skip ?_
              refine sq_n ?_
              refine CW_seq ?_
              refine CW_block ?_
              refine CW_seq ?_
              refine CW_region ?_
              refine LV (R_move (v := (.string a0)) e365) ?_
              refine LV (R_move (v := (.int .i64 x293)) e366) ?_
              obtain ⟨c368, hx369, hm363⟩ := bind_some hm363
              refine LV (R_indexStr (i := x293) Try.underlying9 rfl rfl (idxS_nonneg hx369) (idxS_get hx369)) ?_
              refine LV (R_assign (v := (.int .u8 ((c368.toNat : Int)))) rfl) ?_
              refine LW_nil ?_
              refine sq_n ?_
              refine CW_seq ?_
              refine CW_region ?_
              refine LV (R_move (v := (.int .u8 ((c368.toNat : Int)))) rfl) ?_
              refine LV (R_int (k := .u8) (a := ((c368.toNat : Int))) (b := 97) (v := (.bool ((decide (((c368.toNat : Int)) < 97))))) rfl rfl rfl) ?_
              refine LV (R_move (v := (.bool ((decide (((c368.toNat : Int)) < 97))))) rfl) ?_
              obtain ⟨s428, hm429, hm430⟩ := bind_some hm363
              refine LW_join (J := fun E W => ∃ (x371 : Bool) (L372 : List (Nat × Obj)), ST true NoF w W (hp w) L372 ∧ E 0 = (.string a0) ∧ E 3 = (.int .i64 x293) ∧ E 4 = (.int .u8 ((c368.toNat : Int))) ∧ E 36 = (.bool x371) ∧ (((if x371 then (((if (decide (((c368.toNat : Int)) < 48)) then some true else some ((decide (((c368.toNat : Int)) > 57)))) : Option Bool).bind fun x416 => some x416) else some false) : Option Bool).bind fun x392 => (((if x392 then some ((((c368.toNat : Int)) != 45)) else some false) : Option Bool).bind fun x400 => (if x400 then some false else (m_ref03_Right_L1 a0 n364 ((IntKind.i64.wrap (x293 + 1))))))) = some r) 3 ?_ (fun key431 => ?_)
              · rintro E W ⟨x371, L372, hST, e374, e375, e376, e377, hm373⟩
                refine LV (R_move (v := (.bool x371)) e377) ?_
                obtain ⟨s411, hm412, hm413⟩ := bind_some hm373
                refine LW_join (J := fun E W => ∃ (x392 : Bool) (L393 : List (Nat × Obj)), ST true NoF w W (hp w) L393 ∧ E 0 = (.string a0) ∧ E 3 = (.int .i64 x293) ∧ E 4 = (.int .u8 ((c368.toNat : Int))) ∧ E 44 = (.bool x392) ∧ (((if x392 then some ((((c368.toNat : Int)) != 45)) else some false) : Option Bool).bind fun x400 => (if x400 then some false else (m_ref03_Right_L1 a0 n364 ((IntKind.i64.wrap (x293 + 1)))))) = some r) 7 ?_ (fun key414 => ?_)
                · rintro E W ⟨x392, L393, hST, e395, e396, e397, e398, hm394⟩
                  refine LV (R_move (v := (.bool x392)) e398) ?_
                  obtain ⟨s407, hm408, hm409⟩ := bind_some hm394
                  refine LW_join (J := fun E W => ∃ (x400 : Bool) (L401 : List (Nat × Obj)), ST true NoF w W (hp w) L401 ∧ E 0 = (.string a0) ∧ E 3 = (.int .i64 x293) ∧ E 48 = (.bool x400) ∧ (if x400 then some false else (m_ref03_Right_L1 a0 n364 ((IntKind.i64.wrap (x293 + 1))))) = some r) 3 ?_ (fun key410 => ?_)
                  · rintro E W ⟨x400, L401, hST, e403, e404, e405, hm402⟩
                    refine LW_nil ?_
                    refine sq_n ?_
                    refine CW_if (b := x400) e405 (fun hb406 => ?_) (fun hb406 => ?_)
                    · replace hm402 := if_t hb406 hm402
                      refine CW_seq ?_
                      refine CW_region ?_
                      refine LV (R_assign (v := (.bool false)) rfl) ?_
                      refine LW_nil ?_
                      refine sq_n ?_
                      refine CW_ret ?_
                      refine bq_r (sq_r (sq_r (bq_r (sq_r ?_))))
                      replace hm402 := Option.some.inj hm402; subst hm402
                      refine retQ_1 (v := (.bool false)) rfl rfl ?_
                      exact ⟨rfl, hST.ex⟩
                    · replace hm402 := if_f hb406 hm402
                      refine CW_skip ?_
                      refine bq_n ?_
                      refine sq_n ?_
                      refine CW_region ?_
                      refine LV (R_move (v := (.int .i64 x293)) e404) ?_
                      refine LV (R_int (k := .i64) (a := x293) (b := 1) (v := (.int .i64 ((IntKind.i64.wrap (x293 + 1))))) rfl rfl rfl) ?_
                      refine LV (R_assign (v := (.int .i64 ((IntKind.i64.wrap (x293 + 1))))) rfl) ?_
                      refine LW_nil ?_
                      refine sq_n ?_
                      exact ⟨n364, Nat.lt_succ_self _, ((IntKind.i64.wrap (x293 + 1))), _, (hST.sublist (List.Sublist.refl _)), e403, rfl, hm402⟩
                  · rcases bool_cases x392 with hb399 | hb399
                    · replace hm408 := if_t hb399 hm408
                      refine LW_v (.inr ⟨14, true, 45, rfl, rfl, by decide, (congrArg Value.bool hb399)⟩) rfl (by decide) (R_move (v := (.int .u8 ((c368.toNat : Int)))) e397) ?_
                      refine LW_v (.inr ⟨14, true, 45, rfl, rfl, by decide, (congrArg Value.bool hb399)⟩) rfl (by decide) (R_int (k := .u8) (a := ((c368.toNat : Int))) (b := 45) (v := (.bool ((((c368.toNat : Int)) != 45)))) rfl rfl rfl) ?_
                      refine LV (R_pickT (v := (.bool ((((c368.toNat : Int)) != 45)))) (congrArg Value.bool hb399) rfl) ?_
                      replace hm408 := Option.some.inj hm408; subst hm408
                      exact key410 _ _ ⟨((((c368.toNat : Int)) != 45)), _, (hST.sublist (List.Sublist.refl _)), e395, e396, rfl, hm409⟩
                    · replace hm408 := if_f hb399 hm408
                      refine LW_no rfl (by decide) rfl rfl (by decide) (congrArg Value.bool hb399) ?_
                      refine LW_no rfl (by decide) rfl rfl (by decide) (congrArg Value.bool hb399) ?_
                      refine LV (R_pickF (v := (.bool false)) (congrArg Value.bool hb399) rfl) ?_
                      replace hm408 := Option.some.inj hm408; subst hm408
                      exact key410 _ _ ⟨false, _, (hST.sublist (List.Sublist.refl _)), e395, e396, rfl, hm409⟩
                · rcases bool_cases x371 with hb378 | hb378
                  · replace hm412 := if_t hb378 hm412
                    refine LW_v (.inr ⟨6, true, 37, rfl, rfl, by decide, (congrArg Value.bool hb378)⟩) rfl (by decide) (R_move (v := (.int .u8 ((c368.toNat : Int)))) e376) ?_
                    refine LW_v (.inr ⟨6, true, 37, rfl, rfl, by decide, (congrArg Value.bool hb378)⟩) rfl (by decide) (R_int (k := .u8) (a := ((c368.toNat : Int))) (b := 48) (v := (.bool ((decide (((c368.toNat : Int)) < 48))))) rfl rfl rfl) ?_
                    refine LW_v (.inr ⟨6, true, 37, rfl, rfl, by decide, (congrArg Value.bool hb378)⟩) rfl (by decide) (R_move (v := (.bool ((decide (((c368.toNat : Int)) < 48))))) rfl) ?_
                    obtain ⟨s424, hm425, hm426⟩ := bind_some hm412
                    refine LW_join (J := fun E W => ∃ (x416 : Bool) (L417 : List (Nat × Obj)), ST true NoF w W (hp w) L417 ∧ E 0 = (.string a0) ∧ E 3 = (.int .i64 x293) ∧ E 4 = (.int .u8 ((c368.toNat : Int))) ∧ E 37 = (.bool x371) ∧ E 43 = (.bool x416) ∧ some x416 = some s411) 3 ?_ (fun key427 => ?_)
                    · rintro E W ⟨x416, L417, hST, e419, e420, e421, e422, e423, hm418⟩
                      refine LV (R_pickT (v := (.bool x416)) (e422.trans (congrArg Value.bool hb378)) e423) ?_
                      replace hm418 := Option.some.inj hm418; subst hm418
                      exact key414 _ _ ⟨x416, _, (hST.sublist (List.Sublist.refl _)), e419, e420, e421, rfl, hm413⟩
                    · rcases bool_cases ((decide (((c368.toNat : Int)) < 48))) with hb415 | hb415
                      · replace hm425 := if_t hb415 hm425
                        refine LW_no rfl (by decide) rfl rfl (by decide) (congrArg Value.bool hb415) ?_
                        refine LW_no rfl (by decide) rfl rfl (by decide) (congrArg Value.bool hb415) ?_
                        refine LW_v (.inr ⟨6, true, 37, rfl, rfl, by decide, (congrArg Value.bool hb378)⟩) rfl (by decide) (R_pickT (v := (.bool true)) (congrArg Value.bool hb415) rfl) ?_
                        replace hm425 := Option.some.inj hm425; subst hm425
                        exact key427 _ _ ⟨true, _, (hST.sublist (List.Sublist.refl _)), e374, e375, e376, rfl, rfl, hm426⟩
                      · replace hm425 := if_f hb415 hm425
                        refine LW_v (.inr ⟨9, false, 40, rfl, rfl, by decide, (congrArg Value.bool hb415)⟩) rfl (by decide) (R_move (v := (.int .u8 ((c368.toNat : Int)))) e376) ?_
                        refine LW_v (.inr ⟨9, false, 40, rfl, rfl, by decide, (congrArg Value.bool hb415)⟩) rfl (by decide) (R_int (k := .u8) (a := ((c368.toNat : Int))) (b := 57) (v := (.bool ((decide (((c368.toNat : Int)) > 57))))) rfl rfl rfl) ?_
                        refine LW_v (.inr ⟨6, true, 37, rfl, rfl, by decide, (congrArg Value.bool hb378)⟩) rfl (by decide) (R_pickF (v := (.bool ((decide (((c368.toNat : Int)) > 57))))) (congrArg Value.bool hb415) rfl) ?_
                        replace hm425 := Option.some.inj hm425; subst hm425
                        exact key427 _ _ ⟨((decide (((c368.toNat : Int)) > 57))), _, (hST.sublist (List.Sublist.refl _)), e374, e375, e376, rfl, rfl, hm426⟩
                  · replace hm412 := if_f hb378 hm412
                    refine LW_no rfl (by decide) rfl rfl (by decide) (congrArg Value.bool hb378) ?_
                    refine LW_no rfl (by decide) rfl rfl (by decide) (congrArg Value.bool hb378) ?_
                    refine LW_no rfl (by decide) rfl rfl (by decide) (congrArg Value.bool hb378) ?_
                    refine LW_nou rfl (by decide) rfl rfl (by decide) rfl ?_
                    refine LW_nou rfl (by decide) rfl rfl (by decide) rfl ?_
                    refine LW_no rfl (by decide) rfl rfl (by decide) (congrArg Value.bool hb378) ?_
                    refine LV (R_pickF (v := (.bool false)) (congrArg Value.bool hb378) rfl) ?_
                    replace hm412 := Option.some.inj hm412; subst hm412
                    exact key414 _ _ ⟨false, _, (hST.sublist (List.Sublist.refl _)), e374, e375, e376, rfl, hm413⟩
              · rcases bool_cases ((decide (((c368.toNat : Int)) < 97))) with hb370 | hb370
                · replace hm429 := if_t hb370 hm429
                  refine LW_no rfl (by decide) rfl rfl (by decide) (congrArg Value.bool hb370) ?_
                  refine LW_no rfl (by decide) rfl rfl (by decide) (congrArg Value.bool hb370) ?_
                  refine LV (R_pickT (v := (.bool true)) (congrArg Value.bool hb370) rfl) ?_
                  replace hm429 := Option.some.inj hm429; subst hm429
                  exact key431 _ _ ⟨true, _, (hST.sublist (List.Sublist.refl _)), e365, e366, rfl, rfl, hm430⟩
                · replace hm429 := if_f hb370 hm429
                  refine LW_v (.inr ⟨2, false, 33, rfl, rfl, by decide, (congrArg Value.bool hb370)⟩) rfl (by decide) (R_move (v := (.int .u8 ((c368.toNat : Int)))) rfl) ?_
                  refine LW_v (.inr ⟨2, false, 33, rfl, rfl, by decide, (congrArg Value.bool hb370)⟩) rfl (by decide) (R_int (k := .u8) (a := ((c368.toNat : Int))) (b := 122) (v := (.bool ((decide (((c368.toNat : Int)) > 122))))) rfl rfl rfl) ?_
                  refine LV (R_pickF (v := (.bool ((decide (((c368.toNat : Int)) > 122))))) (congrArg Value.bool hb370) rfl) ?_
                  replace hm429 := Option.some.inj hm429; subst hm429
                  exact key431 _ _ ⟨((decide (((c368.toNat : Int)) > 122))), _, (hST.sublist (List.Sublist.refl _)), e365, e366, rfl, rfl, hm430⟩
            · replace hm363 := if_f hb367 hm363
              refine CW_exit ?_
              refine sq_e (sq_e (bq_e ?_))
              refine sq_n ?_
              refine CW_seq ?_
              refine CW_region ?_
              refine LV (R_assign (v := (.bool true)) rfl) ?_
              refine LW_nil ?_
              refine sq_n ?_
              refine CW_ret ?_
              replace hm363 := Option.some.inj hm363; subst hm363
              refine retQ_1 (v := (.bool true)) rfl rfl ?_
              exact ⟨rfl, hST.ex⟩
      · rcases bool_cases x10 with hb15 | hb15
        · replace hm433 := if_t hb15 hm433
          refine LW_no rfl (by decide) rfl rfl (by decide) (congrArg Value.bool hb15) ?_
          refine LW_no rfl (by decide) rfl rfl (by decide) (congrArg Value.bool hb15) ?_
          refine LW_no rfl (by decide) rfl rfl (by decide) (congrArg Value.bool hb15) ?_
          refine LV (R_pickT (v := (.bool true)) (congrArg Value.bool hb15) rfl) ?_
          replace hm433 := Option.some.inj hm433; subst hm433
          exact key435 _ _ ⟨true, _, (hST.sublist (List.Sublist.refl _)), e13, rfl, hm434⟩
        · replace hm433 := if_f hb15 hm433
          refine LW_v (.inr ⟨12, false, 17, rfl, rfl, by decide, (congrArg Value.bool hb15)⟩) rfl (by decide) (R_move (v := (.string a0)) e13) ?_
          obtain ⟨c436, hx437, hm433⟩ := bind_some hm433
          refine LW_v (.inr ⟨12, false, 17, rfl, rfl, by decide, (congrArg Value.bool hb15)⟩) rfl (by decide) (R_indexStr (i := 0) Try.underlying9 rfl rfl (idxS_nonneg hx437) (idxS_get hx437)) ?_
          refine LW_v (.inr ⟨12, false, 17, rfl, rfl, by decide, (congrArg Value.bool hb15)⟩) rfl (by decide) (R_int (k := .u8) (a := ((c436.toNat : Int))) (b := 122) (v := (.bool ((decide (((c436.toNat : Int)) > 122))))) rfl rfl rfl) ?_
          refine LV (R_pickF (v := (.bool ((decide (((c436.toNat : Int)) > 122))))) (congrArg Value.bool hb15) rfl) ?_
          replace hm433 := Option.some.inj hm433; subst hm433
          exact key435 _ _ ⟨((decide (((c436.toNat : Int)) > 122))), _, (hST.sublist (List.Sublist.refl _)), e13, rfl, hm434⟩
    · rcases bool_cases x2 with hb7 | hb7
      · replace hm439 := if_t hb7 hm439
        refine LW_no rfl (by decide) rfl rfl (by decide) (congrArg Value.bool hb7) ?_
        refine LW_no rfl (by decide) rfl rfl (by decide) (congrArg Value.bool hb7) ?_
        refine LW_no rfl (by decide) rfl rfl (by decide) (congrArg Value.bool hb7) ?_
        refine LV (R_pickT (v := (.bool true)) (congrArg Value.bool hb7) rfl) ?_
        replace hm439 := Option.some.inj hm439; subst hm439
        exact key441 _ _ ⟨true, _, (hST.sublist (List.Sublist.refl _)), e5, rfl, hm440⟩
      · replace hm439 := if_f hb7 hm439
        refine LW_v (.inr ⟨7, false, 12, rfl, rfl, by decide, (congrArg Value.bool hb7)⟩) rfl (by decide) (R_move (v := (.string a0)) e5) ?_
        obtain ⟨c442, hx443, hm439⟩ := bind_some hm439
        refine LW_v (.inr ⟨7, false, 12, rfl, rfl, by decide, (congrArg Value.bool hb7)⟩) rfl (by decide) (R_indexStr (i := 0) Try.underlying9 rfl rfl (idxS_nonneg hx443) (idxS_get hx443)) ?_
        refine LW_v (.inr ⟨7, false, 12, rfl, rfl, by decide, (congrArg Value.bool hb7)⟩) rfl (by decide) (R_int (k := .u8) (a := ((c442.toNat : Int))) (b := 97) (v := (.bool ((decide (((c442.toNat : Int)) < 97))))) rfl rfl rfl) ?_
        refine LV (R_pickF (v := (.bool ((decide (((c442.toNat : Int)) < 97))))) (congrArg Value.bool hb7) rfl) ?_
        replace hm439 := Option.some.inj hm439; subst hm439
        exact key441 _ _ ⟨((decide (((c442.toNat : Int)) < 97))), _, (hST.sublist (List.Sublist.refl _)), e5, rfl, hm440⟩
  · rcases bool_cases ((beqS a0 zS)) with hb1 | hb1
    · replace hm445 := if_t hb1 hm445
      refine LW_no rfl (by decide) rfl rfl (by decide) (congrArg Value.bool hb1) ?_
      refine LW_no rfl (by decide) rfl rfl (by decide) (congrArg Value.bool hb1) ?_
      refine LW_no rfl (by decide) rfl rfl (by decide) (congrArg Value.bool hb1) ?_
      refine LV (R_pickT (v := (.bool true)) (congrArg Value.bool hb1) rfl) ?_
      replace hm445 := Option.some.inj hm445; subst hm445
      exact key447 _ _ ⟨true, _, (hST.sublist (List.Sublist.refl _)), rfl, rfl, hm446⟩
    · replace hm445 := if_f hb1 hm445
      refine LW_v (.inr ⟨2, false, 7, rfl, rfl, by decide, (congrArg Value.bool hb1)⟩) rfl (by decide) (R_move (v := (.string a0)) rfl) ?_
      refine LW_v (.inr ⟨2, false, 7, rfl, rfl, by decide, (congrArg Value.bool hb1)⟩) rfl (by decide) (R_lenStr (s := a0) Try.underlying9 rfl) ?_
      refine LW_v (.inr ⟨2, false, 7, rfl, rfl, by decide, (congrArg Value.bool hb1)⟩) rfl (by decide) (R_int (k := .i64) (a := ((a0.size : Int))) (b := 16) (v := (.bool ((decide (((a0.size : Int)) > 16))))) rfl rfl rfl) ?_
      refine LV (R_pickF (v := (.bool ((decide (((a0.size : Int)) > 16))))) (congrArg Value.bool hb1) rfl) ?_
      replace hm445 := Option.some.inj hm445; subst hm445
      exact key447 _ _ ⟨((decide (((a0.size : Int)) > 16))), _, (hST.sublist (List.Sublist.refl _)), rfl, rfl, hm446⟩
theorem w_ref04_Right (a0 : Role) (r : Bool) (w : World)  (hm : m_ref04_Right a0 = some r) :
    Gives true Try.prog 51 [(.agg (encRole a0).toArray)] w (.bool r) := by
  have hST := ST.start (dd := true) w
  unfold m_ref04_Right at hm
  refine calls_of_CW (n := 11) Try.func51 rfl rfl (Nat.le_of_ble_eq_true rfl) ?_
  refine CW_seq ?_
  refine CW_region ?_
  refine LE (E_box (v := (.agg (encRole a0).toArray)) hST rfl (fun W2 b1 hST => ?_))
  refine LV (R_assign (v := (.bool false)) rfl) ?_
  refine LW_nil ?_
  refine sq_n ?_
  refine CW_seq ?_
  refine CW_region ?_
  refine LV (R_field fa34_0 rfl) ?_
  refine LV (R_load (v := (.string a0.Owner)) rfl (load_box1 hST.has (.head _) rfl Try.isAgg9)) ?_
  obtain ⟨r3, hr4, hm⟩ := bind_some hm
  refine LE (E_gives (args := [(.string a0.Owner)]) hST rfl Try.call50 (by exact args1 rfl) ((w_ref03_Right a0.Owner _ _  hr4)) (fun W5 hST => ?_))
  refine LV (R_move (v := (.bool r3)) rfl) ?_
  obtain ⟨s15, hm16, hm17⟩ := bind_some hm
  refine LW_join (J := fun E W => ∃ (x10 : Bool) (L11 : List (Nat × Obj)), ST true NoF w W (hp w) L11 ∧ E 2 = (.bool false) ∧ E 10 = (.bool x10) ∧ some x10 = some r) 4 ?_ (fun key18 => ?_)
  · rintro E W ⟨x10, L11, hST, e13, e14, hm12⟩
    refine LV (R_assign (v := (.bool x10)) e14) ?_
    refine LW_nil ?_
    refine sq_n ?_
    refine CW_ret ?_
    replace hm12 := Option.some.inj hm12; subst hm12
    refine retQ_1 (v := (.bool x10)) rfl rfl ?_
    exact ⟨rfl, hST.ex⟩
  · rcases bool_cases r3 with hb6 | hb6
    · replace hm16 := if_t hb6 hm16
      refine LW_v (.inr ⟨3, true, 6, rfl, rfl, by decide, (congrArg Value.bool hb6)⟩) rfl (by decide) (R_field fa34_1 rfl) ?_
      refine LW_v (.inr ⟨3, true, 6, rfl, rfl, by decide, (congrArg Value.bool hb6)⟩) rfl (by decide) (R_load (v := (.string a0.Word)) rfl (load_box1 hST.has (.head _) rfl Try.isAgg9)) ?_
      obtain ⟨r19, hr20, hm16⟩ := bind_some hm16
      refine LW_e (.inr ⟨3, true, 6, rfl, rfl, by decide, (congrArg Value.bool hb6)⟩) rfl (by decide) (E_gives (args := [(.string a0.Word)]) hST rfl Try.call50 (by exact args1 rfl) ((w_ref03_Right a0.Word _ _  hr20)) (fun W21 hST => ?_))
      refine LV (R_pickT (v := (.bool r19)) (congrArg Value.bool hb6) rfl) ?_
      replace hm16 := Option.some.inj hm16; subst hm16
      exact key18 _ _ ⟨r19, _, (hST.sublist (List.Sublist.cons _ (List.Sublist.refl _))), rfl, rfl, hm17⟩
    · replace hm16 := if_f hb6 hm16
      refine LW_no rfl (by decide) rfl rfl (by decide) (congrArg Value.bool hb6) ?_
      refine LW_no rfl (by decide) rfl rfl (by decide) (congrArg Value.bool hb6) ?_
      refine LW_no rfl (by decide) rfl rfl (by decide) (congrArg Value.bool hb6) ?_
      refine LV (R_pickF (v := (.bool false)) (congrArg Value.bool hb6) rfl) ?_
      replace hm16 := Option.some.inj hm16; subst hm16
      exact key18 _ _ ⟨false, _, (hST.sublist (List.Sublist.cons _ (List.Sublist.refl _))), rfl, rfl, hm17⟩
theorem w_ref04_Less (a0 : Role) (a1 : Role) (r : Bool) (w : World)  (hm : m_ref04_Less a0 a1 = some r) :
    Gives true Try.prog 52 [(.agg (encRole a0).toArray), (.agg (encRole a1).toArray)] w (.bool r) := by
  have hST := ST.start (dd := true) w
  unfold m_ref04_Less at hm
  refine calls_of_CW (n := 24) Try.func52 rfl rfl (Nat.le_of_ble_eq_true rfl) ?_
  refine CW_seq ?_
  refine CW_region ?_
  refine LE (E_box (v := (.agg (encRole a0).toArray)) hST rfl (fun W2 b1 hST => ?_))
  refine LE (E_box (v := (.agg (encRole a1).toArray)) hST rfl (fun W4 b3 hST => ?_))
  refine LV (R_assign (v := (.bool false)) rfl) ?_
  refine LW_nil ?_
  refine sq_n ?_
  refine CW_seq ?_
  refine CW_region ?_
  refine LV (R_field fa34_0 rfl) ?_
  refine LV (R_load (v := (.string a0.Owner)) rfl (load_box1 hST.has (.tail _ (.head _)) rfl Try.isAgg9)) ?_
  refine LV (R_field fa34_0 rfl) ?_
  refine LV (R_load (v := (.string a1.Owner)) rfl (load_box1 hST.has (.head _) rfl Try.isAgg9)) ?_
  refine LV (R_str (a := a0.Owner) (b := a1.Owner) (v := (.bool ((ltS a0.Owner a1.Owner)))) rfl rfl rfl) ?_
  refine LV (R_move (v := (.bool ((ltS a0.Owner a1.Owner)))) rfl) ?_
  obtain ⟨s22, hm23, hm24⟩ := bind_some hm
  refine LW_join (J := fun E W => ∃ (x17 : Bool) (L18 : List (Nat × Obj)), ST true NoF w W (hp w) L18 ∧ E 4 = (.bool false) ∧ E 23 = (.bool x17) ∧ some x17 = some r) 13 ?_ (fun key25 => ?_)
  · rintro E W ⟨x17, L18, hST, e20, e21, hm19⟩
    refine LV (R_assign (v := (.bool x17)) e21) ?_
    refine LW_nil ?_
    refine sq_n ?_
    refine CW_ret ?_
    replace hm19 := Option.some.inj hm19; subst hm19
    refine retQ_1 (v := (.bool x17)) rfl rfl ?_
    exact ⟨rfl, hST.ex⟩
  · rcases bool_cases ((ltS a0.Owner a1.Owner)) with hb5 | hb5
    · replace hm23 := if_t hb5 hm23
      refine LW_no rfl (by decide) rfl rfl (by decide) (congrArg Value.bool hb5) ?_
      refine LW_no rfl (by decide) rfl rfl (by decide) (congrArg Value.bool hb5) ?_
      refine LW_no rfl (by decide) rfl rfl (by decide) (congrArg Value.bool hb5) ?_
      refine LW_no rfl (by decide) rfl rfl (by decide) (congrArg Value.bool hb5) ?_
      refine LW_no rfl (by decide) rfl rfl (by decide) (congrArg Value.bool hb5) ?_
      refine LW_no rfl (by decide) rfl rfl (by decide) (congrArg Value.bool hb5) ?_
      refine LW_nou rfl (by decide) rfl rfl (by decide) rfl ?_
      refine LW_nou rfl (by decide) rfl rfl (by decide) rfl ?_
      refine LW_nou rfl (by decide) rfl rfl (by decide) rfl ?_
      refine LW_nou rfl (by decide) rfl rfl (by decide) rfl ?_
      refine LW_nou rfl (by decide) rfl rfl (by decide) rfl ?_
      refine LW_no rfl (by decide) rfl rfl (by decide) (congrArg Value.bool hb5) ?_
      refine LV (R_pickT (v := (.bool true)) (congrArg Value.bool hb5) rfl) ?_
      replace hm23 := Option.some.inj hm23; subst hm23
      exact key25 _ _ ⟨true, _, (hST.sublist (List.Sublist.cons _ (List.Sublist.cons _ (List.Sublist.refl _)))), rfl, rfl, hm24⟩
    · replace hm23 := if_f hb5 hm23
      refine LW_v (.inr ⟨5, false, 10, rfl, rfl, by decide, (congrArg Value.bool hb5)⟩) rfl (by decide) (R_field fa34_0 rfl) ?_
      refine LW_v (.inr ⟨5, false, 10, rfl, rfl, by decide, (congrArg Value.bool hb5)⟩) rfl (by decide) (R_load (v := (.string a0.Owner)) rfl (load_box1 hST.has (.tail _ (.head _)) rfl Try.isAgg9)) ?_
      refine LW_v (.inr ⟨5, false, 10, rfl, rfl, by decide, (congrArg Value.bool hb5)⟩) rfl (by decide) (R_field fa34_0 rfl) ?_
      refine LW_v (.inr ⟨5, false, 10, rfl, rfl, by decide, (congrArg Value.bool hb5)⟩) rfl (by decide) (R_load (v := (.string a1.Owner)) rfl (load_box1 hST.has (.head _) rfl Try.isAgg9)) ?_
      refine LW_v (.inr ⟨5, false, 10, rfl, rfl, by decide, (congrArg Value.bool hb5)⟩) rfl (by decide) (R_str (a := a0.Owner) (b := a1.Owner) (v := (.bool ((beqS a0.Owner a1.Owner)))) rfl rfl rfl) ?_
      refine LW_v (.inr ⟨5, false, 10, rfl, rfl, by decide, (congrArg Value.bool hb5)⟩) rfl (by decide) (R_move (v := (.bool ((beqS a0.Owner a1.Owner)))) rfl) ?_
      obtain ⟨s33, hm34, hm35⟩ := bind_some hm23
      refine LW_join (J := fun E W => ∃ (x27 : Bool) (L28 : List (Nat × Obj)), ST true NoF w W (hp w) L28 ∧ E 4 = (.bool false) ∧ E 10 = (.bool ((ltS a0.Owner a1.Owner))) ∧ E 22 = (.bool x27) ∧ some x27 = some s22) 6 ?_ (fun key36 => ?_)
      · rintro E W ⟨x27, L28, hST, e30, e31, e32, hm29⟩
        refine LV (R_pickF (v := (.bool x27)) (e31.trans (congrArg Value.bool hb5)) e32) ?_
        replace hm29 := Option.some.inj hm29; subst hm29
        exact key25 _ _ ⟨x27, _, (hST.sublist (List.Sublist.refl _)), e30, rfl, hm24⟩
      · rcases bool_cases ((beqS a0.Owner a1.Owner)) with hb26 | hb26
        · replace hm34 := if_t hb26 hm34
          refine LW_v (.inr ⟨11, true, 16, rfl, rfl, by decide, (congrArg Value.bool hb26)⟩) rfl (by decide) (R_field fa34_1 rfl) ?_
          refine LW_v (.inr ⟨11, true, 16, rfl, rfl, by decide, (congrArg Value.bool hb26)⟩) rfl (by decide) (R_load (v := (.string a0.Word)) rfl (load_box1 hST.has (.tail _ (.head _)) rfl Try.isAgg9)) ?_
          refine LW_v (.inr ⟨11, true, 16, rfl, rfl, by decide, (congrArg Value.bool hb26)⟩) rfl (by decide) (R_field fa34_1 rfl) ?_
          refine LW_v (.inr ⟨11, true, 16, rfl, rfl, by decide, (congrArg Value.bool hb26)⟩) rfl (by decide) (R_load (v := (.string a1.Word)) rfl (load_box1 hST.has (.head _) rfl Try.isAgg9)) ?_
          refine LW_v (.inr ⟨11, true, 16, rfl, rfl, by decide, (congrArg Value.bool hb26)⟩) rfl (by decide) (R_str (a := a0.Word) (b := a1.Word) (v := (.bool ((ltS a0.Word a1.Word)))) rfl rfl rfl) ?_
          refine LW_v (.inr ⟨5, false, 10, rfl, rfl, by decide, (congrArg Value.bool hb5)⟩) rfl (by decide) (R_pickT (v := (.bool ((ltS a0.Word a1.Word)))) (congrArg Value.bool hb26) rfl) ?_
          replace hm34 := Option.some.inj hm34; subst hm34
          exact key36 _ _ ⟨((ltS a0.Word a1.Word)), _, (hST.sublist (List.Sublist.cons _ (List.Sublist.cons _ (List.Sublist.refl _)))), rfl, rfl, rfl, hm35⟩
        · replace hm34 := if_f hb26 hm34
          refine LW_no rfl (by decide) rfl rfl (by decide) (congrArg Value.bool hb26) ?_
          refine LW_no rfl (by decide) rfl rfl (by decide) (congrArg Value.bool hb26) ?_
          refine LW_no rfl (by decide) rfl rfl (by decide) (congrArg Value.bool hb26) ?_
          refine LW_no rfl (by decide) rfl rfl (by decide) (congrArg Value.bool hb26) ?_
          refine LW_no rfl (by decide) rfl rfl (by decide) (congrArg Value.bool hb26) ?_
          refine LW_v (.inr ⟨5, false, 10, rfl, rfl, by decide, (congrArg Value.bool hb5)⟩) rfl (by decide) (R_pickF (v := (.bool false)) (congrArg Value.bool hb26) rfl) ?_
          replace hm34 := Option.some.inj hm34; subst hm34
          exact key36 _ _ ⟨false, _, (hST.sublist (List.Sublist.cons _ (List.Sublist.cons _ (List.Sublist.refl _)))), rfl, rfl, rfl, hm35⟩
theorem w_ref05_Right (a0 : Cred) (r : Bool) (w : World)  (hm : m_ref05_Right a0 = some r) :
    Gives true Try.prog 33 [(.agg (encCred a0).toArray)] w (.bool r) := by
  have hST := ST.start (dd := true) w
  unfold m_ref05_Right at hm
  refine calls_of_CW (n := 93) Try.func33 rfl rfl (Nat.le_of_ble_eq_true rfl) ?_
  refine CW_seq ?_
  refine CW_region ?_
  refine LE (E_box (v := (.agg (encCred a0).toArray)) hST rfl (fun W2 b1 hST => ?_))
  refine LV (R_assign (v := (.bool false)) rfl) ?_
  refine LW_nil ?_
  refine sq_n ?_
  refine CW_seq ?_
  refine CW_region ?_
  refine LE (E_alloc hST Try.zeroValue34 (fun W4 b3 hST => ?_))
  refine LW_nil ?_
  refine sq_n ?_
  refine CW_seq ?_
  refine CW_seq ?_
  refine CW_region ?_
  refine LV (R_field fa36_1 rfl) ?_
  refine LV (R_load (v := (.agg (encRole a0.Head).toArray)) rfl (load_boxA hST.has (.tail _ (.head _)) (encRole a0.Head) rfl Try.isAgg34 Try.sizeOf34)) ?_
  obtain ⟨r5, hr6, hm⟩ := bind_some hm
  refine LE (E_gives (args := [(.agg (encRole a0.Head).toArray)]) hST rfl Try.call51 (by exact args1 rfl) ((w_ref04_Right a0.Head _ _  hr6)) (fun W7 hST => ?_))
  refine LV (R_not (b := r5) rfl) ?_
  refine LW_nil ?_
  refine sq_n ?_
  refine CW_if (b := (!r5)) rfl (fun hb8 => ?_) (fun hb8 => ?_)
  · replace hm := if_t hb8 hm
    refine CW_seq ?_
    refine CW_region ?_
    refine LV (R_assign (v := (.bool false)) rfl) ?_
    refine LW_nil ?_
    refine sq_n ?_
    replace hST : ST true NoF w _ _ [] := hST.sublist (List.Sublist.cons _ (List.Sublist.cons _ (List.Sublist.refl _)))
    refine CW_ret ?_
    refine sq_r ?_
    replace hm := Option.some.inj hm; subst hm
    refine retQ_1 (v := (.bool false)) rfl rfl ?_
    exact ⟨rfl, hST.ex⟩
  · replace hm := if_f hb8 hm
    refine CW_skip ?_
    refine sq_n ?_
    refine CW_seq ?_
    refine CW_seq ?_
    refine CW_region ?_
    refine LV (R_field fa36_0 rfl) ?_
    refine LV (R_load (v := (.int .i64 a0.Kind)) rfl (load_box1 hST.has (.tail _ (.head _)) rfl Try.isAgg3)) ?_
    refine LV (R_int (k := .i64) (a := a0.Kind) (b := 1) (v := (.bool ((a0.Kind == 1)))) rfl rfl rfl) ?_
    refine LW_nil ?_
    refine sq_n ?_
    refine CW_if (b := (a0.Kind == 1)) rfl (fun hb9 => ?_) (fun hb9 => ?_)
    · replace hm := if_t hb9 hm
      refine CW_seq ?_
      refine CW_region ?_
      refine LV (R_field fa36_2 rfl) ?_
      refine LV (R_load (v := (.string a0.Who)) rfl (load_box1 hST.has (.tail _ (.head _)) rfl Try.isAgg9)) ?_
      obtain ⟨r10, hr11, hm⟩ := bind_some hm
      refine LE (E_gives (args := [(.string a0.Who)]) hST rfl Try.call50 (by exact args1 rfl) ((w_ref03_Right a0.Who _ _  hr11)) (fun W12 hST => ?_))
      refine LV (R_move (v := (.bool r10)) rfl) ?_
      obtain ⟨s42, hm43, hm44⟩ := bind_some hm
      refine LW_join (J := fun E W => ∃ (x14 : Bool) (L15 : List (Nat × Obj)), ST true NoF w W (hp w) ((b3, Obj.cells ((encRole ((⟨zS, zS⟩ : Role))).toArray : Array Value) 34 (0, 0)) :: ((b1, Obj.cells ((encCred a0).toArray : Array Value) 36 (0, 0)) :: L15)) ∧ E 1 = (.pointer (some ⟨b1, 0, none⟩)) ∧ E 2 = (.bool false) ∧ E 3 = (.pointer (some ⟨b3, 0, none⟩)) ∧ E 19 = (.bool x14) ∧ (((if x14 then some ((beqRole a0.C ((⟨zS, zS⟩ : Role)))) else some false) : Option Bool).bind fun x22 => (((if x22 then some ((beqS a0.Word2 zS)) else some false) : Option Bool).bind fun x29 => some x29)) = some r) 5 ?_ (fun key45 => ?_)
      · rintro E W ⟨x14, L15, hST, e17, e18, e19, e20, hm16⟩
        refine LV (R_move (v := (.bool x14)) e20) ?_
        obtain ⟨s38, hm39, hm40⟩ := bind_some hm16
        refine LW_join (J := fun E W => ∃ (x22 : Bool) (L23 : List (Nat × Obj)), ST true NoF w W (hp w) ((b1, Obj.cells ((encCred a0).toArray : Array Value) 36 (0, 0)) :: L23) ∧ E 1 = (.pointer (some ⟨b1, 0, none⟩)) ∧ E 2 = (.bool false) ∧ E 25 = (.bool x22) ∧ (((if x22 then some ((beqS a0.Word2 zS)) else some false) : Option Bool).bind fun x29 => some x29) = some r) 5 ?_ (fun key41 => ?_)
        · rintro E W ⟨x22, L23, hST, e25, e26, e27, hm24⟩
          refine LV (R_move (v := (.bool x22)) e27) ?_
          obtain ⟨s34, hm35, hm36⟩ := bind_some hm24
          refine LW_join (J := fun E W => ∃ (x29 : Bool) (L30 : List (Nat × Obj)), ST true NoF w W (hp w) L30 ∧ E 2 = (.bool false) ∧ E 30 = (.bool x29) ∧ some x29 = some r) 4 ?_ (fun key37 => ?_)
          · rintro E W ⟨x29, L30, hST, e32, e33, hm31⟩
            refine LV (R_assign (v := (.bool x29)) e33) ?_
            refine LW_nil ?_
            refine sq_n ?_
            refine CW_ret ?_
            refine sq_r ?_
            replace hm31 := Option.some.inj hm31; subst hm31
            refine retQ_1 (v := (.bool x29)) rfl rfl ?_
            exact ⟨rfl, hST.ex⟩
          · rcases bool_cases x22 with hb28 | hb28
            · replace hm35 := if_t hb28 hm35
              refine LW_v (.inr ⟨15, true, 26, rfl, rfl, by decide, (congrArg Value.bool hb28)⟩) rfl (by decide) (R_field fa36_5 e25) ?_
              refine LW_v (.inr ⟨15, true, 26, rfl, rfl, by decide, (congrArg Value.bool hb28)⟩) rfl (by decide) (R_load (v := (.string a0.Word2)) rfl (load_box1 hST.has (.head _) rfl Try.isAgg9)) ?_
              refine LW_v (.inr ⟨15, true, 26, rfl, rfl, by decide, (congrArg Value.bool hb28)⟩) rfl (by decide) (R_str (a := a0.Word2) (b := zS) (v := (.bool ((beqS a0.Word2 zS)))) rfl rfl rfl) ?_
              refine LV (R_pickT (v := (.bool ((beqS a0.Word2 zS)))) (congrArg Value.bool hb28) rfl) ?_
              replace hm35 := Option.some.inj hm35; subst hm35
              exact key37 _ _ ⟨((beqS a0.Word2 zS)), _, (hST.sublist (List.Sublist.cons _ (List.Sublist.refl _))), e26, rfl, hm36⟩
            · replace hm35 := if_f hb28 hm35
              refine LW_no rfl (by decide) rfl rfl (by decide) (congrArg Value.bool hb28) ?_
              refine LW_no rfl (by decide) rfl rfl (by decide) (congrArg Value.bool hb28) ?_
              refine LW_no rfl (by decide) rfl rfl (by decide) (congrArg Value.bool hb28) ?_
              refine LV (R_pickF (v := (.bool false)) (congrArg Value.bool hb28) rfl) ?_
              replace hm35 := Option.some.inj hm35; subst hm35
              exact key37 _ _ ⟨false, _, (hST.sublist (List.Sublist.cons _ (List.Sublist.refl _))), e26, rfl, hm36⟩
        · rcases bool_cases x14 with hb21 | hb21
          · replace hm39 := if_t hb21 hm39
            refine LW_v (.inr ⟨9, true, 20, rfl, rfl, by decide, (congrArg Value.bool hb21)⟩) rfl (by decide) (R_field fa36_4 e17) ?_
            refine LW_v (.inr ⟨9, true, 20, rfl, rfl, by decide, (congrArg Value.bool hb21)⟩) rfl (by decide) (R_load (v := (.agg (encRole a0.C).toArray)) rfl (load_boxA hST.has (.tail _ (.head _)) (encRole a0.C) rfl Try.isAgg34 Try.sizeOf34)) ?_
            refine LW_v (.inr ⟨9, true, 20, rfl, rfl, by decide, (congrArg Value.bool hb21)⟩) rfl (by decide) (R_load (v := (.agg (encRole ((⟨zS, zS⟩ : Role))).toArray)) e19 (load_boxA hST.has (.head _) (encRole ((⟨zS, zS⟩ : Role))) rfl Try.isAgg34 Try.sizeOf34)) ?_
            refine LW_v (.inr ⟨9, true, 20, rfl, rfl, by decide, (congrArg Value.bool hb21)⟩) rfl (by decide) (R_eql (a := (encRole a0.C).toArray) (b := (encRole ((⟨zS, zS⟩ : Role))).toArray) rfl rfl (guard_agg Try.eqGuardType34) (bin_eql (eqInRole _ a0.C ((⟨zS, zS⟩ : Role))))) ?_
            refine LV (R_pickT (v := (.bool ((beqRole a0.C ((⟨zS, zS⟩ : Role)))))) (congrArg Value.bool hb21) rfl) ?_
            replace hm39 := Option.some.inj hm39; subst hm39
            exact key41 _ _ ⟨((beqRole a0.C ((⟨zS, zS⟩ : Role)))), _, (hST.sublist (List.Sublist.cons _ (List.Sublist.refl _))), e17, e18, rfl, hm40⟩
          · replace hm39 := if_f hb21 hm39
            refine LW_no rfl (by decide) rfl rfl (by decide) (congrArg Value.bool hb21) ?_
            refine LW_no rfl (by decide) rfl rfl (by decide) (congrArg Value.bool hb21) ?_
            refine LW_no rfl (by decide) rfl rfl (by decide) (congrArg Value.bool hb21) ?_
            refine LW_no rfl (by decide) rfl rfl (by decide) (congrArg Value.bool hb21) ?_
            refine LV (R_pickF (v := (.bool false)) (congrArg Value.bool hb21) rfl) ?_
            replace hm39 := Option.some.inj hm39; subst hm39
            exact key41 _ _ ⟨false, _, (hST.sublist (List.Sublist.cons _ (List.Sublist.refl _))), e17, e18, rfl, hm40⟩
      · rcases bool_cases r10 with hb13 | hb13
        · replace hm43 := if_t hb13 hm43
          refine LW_v (.inr ⟨3, true, 14, rfl, rfl, by decide, (congrArg Value.bool hb13)⟩) rfl (by decide) (R_field fa36_3 rfl) ?_
          refine LW_v (.inr ⟨3, true, 14, rfl, rfl, by decide, (congrArg Value.bool hb13)⟩) rfl (by decide) (R_load (v := (.agg (encRole a0.B).toArray)) rfl (load_boxA hST.has (.tail _ (.head _)) (encRole a0.B) rfl Try.isAgg34 Try.sizeOf34)) ?_
          refine LW_v (.inr ⟨3, true, 14, rfl, rfl, by decide, (congrArg Value.bool hb13)⟩) rfl (by decide) (R_load (v := (.agg (encRole ((⟨zS, zS⟩ : Role))).toArray)) rfl (load_boxA hST.has (.head _) (encRole ((⟨zS, zS⟩ : Role))) rfl Try.isAgg34 Try.sizeOf34)) ?_
          refine LW_v (.inr ⟨3, true, 14, rfl, rfl, by decide, (congrArg Value.bool hb13)⟩) rfl (by decide) (R_eql (a := (encRole a0.B).toArray) (b := (encRole ((⟨zS, zS⟩ : Role))).toArray) rfl rfl (guard_agg Try.eqGuardType34) (bin_eql (eqInRole _ a0.B ((⟨zS, zS⟩ : Role))))) ?_
          refine LV (R_pickT (v := (.bool ((beqRole a0.B ((⟨zS, zS⟩ : Role)))))) (congrArg Value.bool hb13) rfl) ?_
          replace hm43 := Option.some.inj hm43; subst hm43
          exact key45 _ _ ⟨((beqRole a0.B ((⟨zS, zS⟩ : Role)))), _, (hST.sublist (List.Sublist.refl _)), rfl, rfl, rfl, rfl, hm44⟩
        · replace hm43 := if_f hb13 hm43
          refine LW_no rfl (by decide) rfl rfl (by decide) (congrArg Value.bool hb13) ?_
          refine LW_no rfl (by decide) rfl rfl (by decide) (congrArg Value.bool hb13) ?_
          refine LW_no rfl (by decide) rfl rfl (by decide) (congrArg Value.bool hb13) ?_
          refine LW_no rfl (by decide) rfl rfl (by decide) (congrArg Value.bool hb13) ?_
          refine LV (R_pickF (v := (.bool false)) (congrArg Value.bool hb13) rfl) ?_
          replace hm43 := Option.some.inj hm43; subst hm43
          exact key45 _ _ ⟨false, _, (hST.sublist (List.Sublist.refl _)), rfl, rfl, rfl, rfl, hm44⟩
    · replace hm := if_f hb9 hm
      refine CW_skip ?_
      refine sq_n ?_
      refine CW_seq ?_
      refine CW_seq ?_
      refine CW_region ?_
      refine LV (R_field fa36_2 rfl) ?_
      refine LV (R_load (v := (.string a0.Who)) rfl (load_box1 hST.has (.tail _ (.head _)) rfl Try.isAgg9)) ?_
      refine LV (R_str (a := a0.Who) (b := zS) (v := (.bool ((!(beqS a0.Who zS))))) rfl rfl rfl) ?_
      refine LV (R_move (v := (.bool ((!(beqS a0.Who zS))))) rfl) ?_
      obtain ⟨s134, hm135, hm136⟩ := bind_some hm
      refine LW_join (J := fun E W => ∃ (x50 : Bool) (L51 : List (Nat × Obj)), ST true NoF w W (hp w) ((b3, Obj.cells ((encRole ((⟨zS, zS⟩ : Role))).toArray : Array Value) 34 (0, 0)) :: ((b1, Obj.cells ((encCred a0).toArray : Array Value) 36 (0, 0)) :: L51)) ∧ E 1 = (.pointer (some ⟨b1, 0, none⟩)) ∧ E 3 = (.pointer (some ⟨b3, 0, none⟩)) ∧ E 39 = (.bool x50) ∧ (if x50 then some false else (if (a0.Kind == 2) then (((if (beqRole a0.C ((⟨zS, zS⟩ : Role))) then some ((beqS a0.Word2 zS)) else some false) : Option Bool).bind fun x59 => some x59) else (if (a0.Kind == 3) then (((if (beqRole a0.C ((⟨zS, zS⟩ : Role))) then some ((beqS a0.B.Owner a0.Head.Owner)) else some false) : Option Bool).bind fun x69 => (((if x69 then (((m_ref03_Right a0.Word2)).bind fun r86 => some r86) else some false) : Option Bool).bind fun x78 => some x78)) else (((if (a0.Kind == 4) then some ((beqS a0.Word2 zS)) else some false) : Option Bool).bind fun x94 => (((if x94 then (((m_ref04_Right a0.C)).bind fun r127 => some r127) else some false) : Option Bool).bind fun x103 => (((if x103 then (((m_ref04_Less a0.B a0.C)).bind fun r120 => some r120) else some false) : Option Bool).bind fun x112 => some x112)))))) = some r) 5 ?_ (fun key137 => ?_)
      · rintro E W ⟨x50, L51, hST, e53, e54, e55, hm52⟩
        refine LW_nil ?_
        refine sq_n ?_
        refine CW_if (b := x50) e55 (fun hb56 => ?_) (fun hb56 => ?_)
        · replace hm52 := if_t hb56 hm52
          refine CW_seq ?_
          refine CW_region ?_
          refine LV (R_assign (v := (.bool false)) rfl) ?_
          refine LW_nil ?_
          refine sq_n ?_
          replace hST : ST true NoF w _ _ L51 := hST.sublist (List.Sublist.cons _ (List.Sublist.cons _ (List.Sublist.refl _)))
          refine CW_ret ?_
          refine sq_r ?_
          replace hm52 := Option.some.inj hm52; subst hm52
          refine retQ_1 (v := (.bool false)) rfl rfl ?_
          exact ⟨rfl, hST.ex⟩
        · replace hm52 := if_f hb56 hm52
          refine CW_skip ?_
          refine sq_n ?_
          refine CW_seq ?_
          refine CW_seq ?_
          refine CW_region ?_
          refine LV (R_field fa36_0 e53) ?_
          refine LV (R_load (v := (.int .i64 a0.Kind)) rfl (load_box1 hST.has (.tail _ (.head _)) rfl Try.isAgg3)) ?_
          refine LV (R_int (k := .i64) (a := a0.Kind) (b := 2) (v := (.bool ((a0.Kind == 2)))) rfl rfl rfl) ?_
          refine LW_nil ?_
          refine sq_n ?_
          refine CW_if (b := (a0.Kind == 2)) rfl (fun hb57 => ?_) (fun hb57 => ?_)
          · replace hm52 := if_t hb57 hm52
            refine CW_seq ?_
            refine CW_region ?_
            refine LV (R_field fa36_4 e53) ?_
            refine LV (R_load (v := (.agg (encRole a0.C).toArray)) rfl (load_boxA hST.has (.tail _ (.head _)) (encRole a0.C) rfl Try.isAgg34 Try.sizeOf34)) ?_
            refine LV (R_load (v := (.agg (encRole ((⟨zS, zS⟩ : Role))).toArray)) e54 (load_boxA hST.has (.head _) (encRole ((⟨zS, zS⟩ : Role))) rfl Try.isAgg34 Try.sizeOf34)) ?_
            refine LV (R_eql (a := (encRole a0.C).toArray) (b := (encRole ((⟨zS, zS⟩ : Role))).toArray) rfl rfl (guard_agg Try.eqGuardType34) (bin_eql (eqInRole _ a0.C ((⟨zS, zS⟩ : Role))))) ?_
            refine LV (R_move (v := (.bool ((beqRole a0.C ((⟨zS, zS⟩ : Role)))))) rfl) ?_
            obtain ⟨s63, hm64, hm65⟩ := bind_some hm52
            refine LW_join (J := fun E W => ∃ (x59 : Bool) (L60 : List (Nat × Obj)), ST true NoF w W (hp w) L60 ∧ E 51 = (.bool x59) ∧ some x59 = some r) 4 ?_ (fun key66 => ?_)
            · rintro E W ⟨x59, L60, hST, e62, hm61⟩
              refine LV (R_assign (v := (.bool x59)) e62) ?_
              refine LW_nil ?_
              refine sq_n ?_
              refine CW_ret ?_
              refine sq_r ?_
              replace hm61 := Option.some.inj hm61; subst hm61
              refine retQ_1 (v := (.bool x59)) rfl rfl ?_
              exact ⟨rfl, hST.ex⟩
            · rcases bool_cases ((beqRole a0.C ((⟨zS, zS⟩ : Role)))) with hb58 | hb58
              · replace hm64 := if_t hb58 hm64
                refine LW_v (.inr ⟨4, true, 47, rfl, rfl, by decide, (congrArg Value.bool hb58)⟩) rfl (by decide) (R_field fa36_5 e53) ?_
                refine LW_v (.inr ⟨4, true, 47, rfl, rfl, by decide, (congrArg Value.bool hb58)⟩) rfl (by decide) (R_load (v := (.string a0.Word2)) rfl (load_box1 hST.has (.tail _ (.head _)) rfl Try.isAgg9)) ?_
                refine LW_v (.inr ⟨4, true, 47, rfl, rfl, by decide, (congrArg Value.bool hb58)⟩) rfl (by decide) (R_str (a := a0.Word2) (b := zS) (v := (.bool ((beqS a0.Word2 zS)))) rfl rfl rfl) ?_
                refine LV (R_pickT (v := (.bool ((beqS a0.Word2 zS)))) (congrArg Value.bool hb58) rfl) ?_
                replace hm64 := Option.some.inj hm64; subst hm64
                exact key66 _ _ ⟨((beqS a0.Word2 zS)), _, (hST.sublist (List.Sublist.cons _ (List.Sublist.cons _ (List.Sublist.refl _)))), rfl, hm65⟩
              · replace hm64 := if_f hb58 hm64
                refine LW_no rfl (by decide) rfl rfl (by decide) (congrArg Value.bool hb58) ?_
                refine LW_no rfl (by decide) rfl rfl (by decide) (congrArg Value.bool hb58) ?_
                refine LW_no rfl (by decide) rfl rfl (by decide) (congrArg Value.bool hb58) ?_
                refine LV (R_pickF (v := (.bool false)) (congrArg Value.bool hb58) rfl) ?_
                replace hm64 := Option.some.inj hm64; subst hm64
                exact key66 _ _ ⟨false, _, (hST.sublist (List.Sublist.cons _ (List.Sublist.cons _ (List.Sublist.refl _)))), rfl, hm65⟩
          · replace hm52 := if_f hb57 hm52
            refine CW_skip ?_
            refine sq_n ?_
            refine CW_seq ?_
            refine CW_seq ?_
            refine CW_region ?_
            refine LV (R_field fa36_0 e53) ?_
            refine LV (R_load (v := (.int .i64 a0.Kind)) rfl (load_box1 hST.has (.tail _ (.head _)) rfl Try.isAgg3)) ?_
            refine LV (R_int (k := .i64) (a := a0.Kind) (b := 3) (v := (.bool ((a0.Kind == 3)))) rfl rfl rfl) ?_
            refine LW_nil ?_
            refine sq_n ?_
            refine CW_if (b := (a0.Kind == 3)) rfl (fun hb67 => ?_) (fun hb67 => ?_)
            · replace hm52 := if_t hb67 hm52
              refine CW_seq ?_
              refine CW_region ?_
              refine LV (R_field fa36_4 e53) ?_
              refine LV (R_load (v := (.agg (encRole a0.C).toArray)) rfl (load_boxA hST.has (.tail _ (.head _)) (encRole a0.C) rfl Try.isAgg34 Try.sizeOf34)) ?_
              refine LV (R_load (v := (.agg (encRole ((⟨zS, zS⟩ : Role))).toArray)) e54 (load_boxA hST.has (.head _) (encRole ((⟨zS, zS⟩ : Role))) rfl Try.isAgg34 Try.sizeOf34)) ?_
              refine LV (R_eql (a := (encRole a0.C).toArray) (b := (encRole ((⟨zS, zS⟩ : Role))).toArray) rfl rfl (guard_agg Try.eqGuardType34) (bin_eql (eqInRole _ a0.C ((⟨zS, zS⟩ : Role))))) ?_
              refine LV (R_move (v := (.bool ((beqRole a0.C ((⟨zS, zS⟩ : Role)))))) rfl) ?_
              obtain ⟨s89, hm90, hm91⟩ := bind_some hm52
              refine LW_join (J := fun E W => ∃ (x69 : Bool) (L70 : List (Nat × Obj)), ST true NoF w W (hp w) ((b1, Obj.cells ((encCred a0).toArray : Array Value) 36 (0, 0)) :: L70) ∧ E 1 = (.pointer (some ⟨b1, 0, none⟩)) ∧ E 67 = (.bool x69) ∧ (((if x69 then (((m_ref03_Right a0.Word2)).bind fun r86 => some r86) else some false) : Option Bool).bind fun x78 => some x78) = some r) 8 ?_ (fun key92 => ?_)
              · rintro E W ⟨x69, L70, hST, e72, e73, hm71⟩
                refine LV (R_move (v := (.bool x69)) e73) ?_
                obtain ⟨s82, hm83, hm84⟩ := bind_some hm71
                refine LW_join (J := fun E W => ∃ (x78 : Bool) (L79 : List (Nat × Obj)), ST true NoF w W (hp w) L79 ∧ E 72 = (.bool x78) ∧ some x78 = some r) 4 ?_ (fun key85 => ?_)
                · rintro E W ⟨x78, L79, hST, e81, hm80⟩
                  refine LV (R_assign (v := (.bool x78)) e81) ?_
                  refine LW_nil ?_
                  refine sq_n ?_
                  refine CW_ret ?_
                  refine sq_r ?_
                  replace hm80 := Option.some.inj hm80; subst hm80
                  refine retQ_1 (v := (.bool x78)) rfl rfl ?_
                  exact ⟨rfl, hST.ex⟩
                · rcases bool_cases x69 with hb74 | hb74
                  · replace hm83 := if_t hb74 hm83
                    refine LW_v (.inr ⟨13, true, 68, rfl, rfl, by decide, (congrArg Value.bool hb74)⟩) rfl (by decide) (R_field fa36_5 e72) ?_
                    refine LW_v (.inr ⟨13, true, 68, rfl, rfl, by decide, (congrArg Value.bool hb74)⟩) rfl (by decide) (R_load (v := (.string a0.Word2)) rfl (load_box1 hST.has (.head _) rfl Try.isAgg9)) ?_
                    obtain ⟨r86, hr87, hm83⟩ := bind_some hm83
                    refine LW_e (.inr ⟨13, true, 68, rfl, rfl, by decide, (congrArg Value.bool hb74)⟩) rfl (by decide) (E_gives (args := [(.string a0.Word2)]) hST rfl Try.call50 (by exact args1 rfl) ((w_ref03_Right a0.Word2 _ _  hr87)) (fun W88 hST => ?_))
                    refine LV (R_pickT (v := (.bool r86)) (congrArg Value.bool hb74) rfl) ?_
                    replace hm83 := Option.some.inj hm83; subst hm83
                    exact key85 _ _ ⟨r86, _, (hST.sublist (List.Sublist.cons _ (List.Sublist.refl _))), rfl, hm84⟩
                  · replace hm83 := if_f hb74 hm83
                    refine LW_no rfl (by decide) rfl rfl (by decide) (congrArg Value.bool hb74) ?_
                    refine LW_no rfl (by decide) rfl rfl (by decide) (congrArg Value.bool hb74) ?_
                    refine LW_no rfl (by decide) rfl rfl (by decide) (congrArg Value.bool hb74) ?_
                    refine LV (R_pickF (v := (.bool false)) (congrArg Value.bool hb74) rfl) ?_
                    replace hm83 := Option.some.inj hm83; subst hm83
                    exact key85 _ _ ⟨false, _, (hST.sublist (List.Sublist.cons _ (List.Sublist.refl _))), rfl, hm84⟩
              · rcases bool_cases ((beqRole a0.C ((⟨zS, zS⟩ : Role)))) with hb68 | hb68
                · replace hm90 := if_t hb68 hm90
                  refine LW_v (.inr ⟨4, true, 59, rfl, rfl, by decide, (congrArg Value.bool hb68)⟩) rfl (by decide) (R_field fa36_3 e53) ?_
                  refine LW_v (.inr ⟨4, true, 59, rfl, rfl, by decide, (congrArg Value.bool hb68)⟩) rfl (by decide) (R_field fa34_0 rfl) ?_
                  refine LW_v (.inr ⟨4, true, 59, rfl, rfl, by decide, (congrArg Value.bool hb68)⟩) rfl (by decide) (R_load (v := (.string a0.B.Owner)) rfl (load_box1 hST.has (.tail _ (.head _)) rfl Try.isAgg9)) ?_
                  refine LW_v (.inr ⟨4, true, 59, rfl, rfl, by decide, (congrArg Value.bool hb68)⟩) rfl (by decide) (R_field fa36_1 e53) ?_
                  refine LW_v (.inr ⟨4, true, 59, rfl, rfl, by decide, (congrArg Value.bool hb68)⟩) rfl (by decide) (R_field fa34_0 rfl) ?_
                  refine LW_v (.inr ⟨4, true, 59, rfl, rfl, by decide, (congrArg Value.bool hb68)⟩) rfl (by decide) (R_load (v := (.string a0.Head.Owner)) rfl (load_box1 hST.has (.tail _ (.head _)) rfl Try.isAgg9)) ?_
                  refine LW_v (.inr ⟨4, true, 59, rfl, rfl, by decide, (congrArg Value.bool hb68)⟩) rfl (by decide) (R_str (a := a0.B.Owner) (b := a0.Head.Owner) (v := (.bool ((beqS a0.B.Owner a0.Head.Owner)))) rfl rfl rfl) ?_
                  refine LV (R_pickT (v := (.bool ((beqS a0.B.Owner a0.Head.Owner)))) (congrArg Value.bool hb68) rfl) ?_
                  replace hm90 := Option.some.inj hm90; subst hm90
                  exact key92 _ _ ⟨((beqS a0.B.Owner a0.Head.Owner)), _, (hST.sublist (List.Sublist.cons _ (List.Sublist.refl _))), e53, rfl, hm91⟩
                · replace hm90 := if_f hb68 hm90
                  refine LW_no rfl (by decide) rfl rfl (by decide) (congrArg Value.bool hb68) ?_
                  refine LW_no rfl (by decide) rfl rfl (by decide) (congrArg Value.bool hb68) ?_
                  refine LW_no rfl (by decide) rfl rfl (by decide) (congrArg Value.bool hb68) ?_
                  refine LW_no rfl (by decide) rfl rfl (by decide) (congrArg Value.bool hb68) ?_
                  refine LW_no rfl (by decide) rfl rfl (by decide) (congrArg Value.bool hb68) ?_
                  refine LW_no rfl (by decide) rfl rfl (by decide) (congrArg Value.bool hb68) ?_
                  refine LW_no rfl (by decide) rfl rfl (by decide) (congrArg Value.bool hb68) ?_
                  refine LV (R_pickF (v := (.bool false)) (congrArg Value.bool hb68) rfl) ?_
                  replace hm90 := Option.some.inj hm90; subst hm90
                  exact key92 _ _ ⟨false, _, (hST.sublist (List.Sublist.cons _ (List.Sublist.refl _))), e53, rfl, hm91⟩
            · replace hm52 := if_f hb67 hm52
              refine CW_skip ?_
              refine sq_n ?_
              replace hST : ST true NoF w _ _ ((b1, Obj.cells ((encCred a0).toArray : Array Value) 36 (0, 0)) :: L51) := hST.sublist (List.Sublist.cons _ (List.Sublist.refl _))
              refine CW_seq ?_
              refine CW_region ?_
              refine LV (R_field fa36_0 e53) ?_
              refine LV (R_load (v := (.int .i64 a0.Kind)) rfl (load_box1 hST.has (.head _) rfl Try.isAgg3)) ?_
              refine LV (R_int (k := .i64) (a := a0.Kind) (b := 4) (v := (.bool ((a0.Kind == 4)))) rfl rfl rfl) ?_
              refine LV (R_move (v := (.bool ((a0.Kind == 4)))) rfl) ?_
              obtain ⟨s130, hm131, hm132⟩ := bind_some hm52
              refine LW_join (J := fun E W => ∃ (x94 : Bool) (L95 : List (Nat × Obj)), ST true NoF w W (hp w) ((b1, Obj.cells ((encCred a0).toArray : Array Value) 36 (0, 0)) :: L95) ∧ E 1 = (.pointer (some ⟨b1, 0, none⟩)) ∧ E 80 = (.bool x94) ∧ (((if x94 then (((m_ref04_Right a0.C)).bind fun r127 => some r127) else some false) : Option Bool).bind fun x103 => (((if x103 then (((m_ref04_Less a0.B a0.C)).bind fun r120 => some r120) else some false) : Option Bool).bind fun x112 => some x112)) = some r) 4 ?_ (fun key133 => ?_)
              · rintro E W ⟨x94, L95, hST, e97, e98, hm96⟩
                refine LV (R_move (v := (.bool x94)) e98) ?_
                obtain ⟨s123, hm124, hm125⟩ := bind_some hm96
                refine LW_join (J := fun E W => ∃ (x103 : Bool) (L104 : List (Nat × Obj)), ST true NoF w W (hp w) ((b1, Obj.cells ((encCred a0).toArray : Array Value) 36 (0, 0)) :: L104) ∧ E 1 = (.pointer (some ⟨b1, 0, none⟩)) ∧ E 85 = (.bool x103) ∧ (((if x103 then (((m_ref04_Less a0.B a0.C)).bind fun r120 => some r120) else some false) : Option Bool).bind fun x112 => some x112) = some r) 4 ?_ (fun key126 => ?_)
                · rintro E W ⟨x103, L104, hST, e106, e107, hm105⟩
                  refine LV (R_move (v := (.bool x103)) e107) ?_
                  obtain ⟨s116, hm117, hm118⟩ := bind_some hm105
                  refine LW_join (J := fun E W => ∃ (x112 : Bool) (L113 : List (Nat × Obj)), ST true NoF w W (hp w) L113 ∧ E 92 = (.bool x112) ∧ some x112 = some r) 6 ?_ (fun key119 => ?_)
                  · rintro E W ⟨x112, L113, hST, e115, hm114⟩
                    refine LV (R_assign (v := (.bool x112)) e115) ?_
                    refine LW_nil ?_
                    refine sq_n ?_
                    refine CW_ret ?_
                    replace hm114 := Option.some.inj hm114; subst hm114
                    refine retQ_1 (v := (.bool x112)) rfl rfl ?_
                    exact ⟨rfl, hST.ex⟩
                  · rcases bool_cases x103 with hb108 | hb108
                    · replace hm117 := if_t hb108 hm117
                      refine LW_v (.inr ⟨13, true, 86, rfl, rfl, by decide, (congrArg Value.bool hb108)⟩) rfl (by decide) (R_field fa36_3 e106) ?_
                      refine LW_v (.inr ⟨13, true, 86, rfl, rfl, by decide, (congrArg Value.bool hb108)⟩) rfl (by decide) (R_load (v := (.agg (encRole a0.B).toArray)) rfl (load_boxA hST.has (.head _) (encRole a0.B) rfl Try.isAgg34 Try.sizeOf34)) ?_
                      refine LW_v (.inr ⟨13, true, 86, rfl, rfl, by decide, (congrArg Value.bool hb108)⟩) rfl (by decide) (R_field fa36_4 e106) ?_
                      refine LW_v (.inr ⟨13, true, 86, rfl, rfl, by decide, (congrArg Value.bool hb108)⟩) rfl (by decide) (R_load (v := (.agg (encRole a0.C).toArray)) rfl (load_boxA hST.has (.head _) (encRole a0.C) rfl Try.isAgg34 Try.sizeOf34)) ?_
                      obtain ⟨r120, hr121, hm117⟩ := bind_some hm117
                      refine LW_e (.inr ⟨13, true, 86, rfl, rfl, by decide, (congrArg Value.bool hb108)⟩) rfl (by decide) (E_gives (args := [(.agg (encRole a0.B).toArray), (.agg (encRole a0.C).toArray)]) hST rfl Try.call52 (by exact args2 rfl rfl) ((w_ref04_Less a0.B a0.C _ _  hr121)) (fun W122 hST => ?_))
                      refine LV (R_pickT (v := (.bool r120)) (congrArg Value.bool hb108) rfl) ?_
                      replace hm117 := Option.some.inj hm117; subst hm117
                      exact key119 _ _ ⟨r120, _, (hST.sublist (List.Sublist.cons _ (List.Sublist.refl _))), rfl, hm118⟩
                    · replace hm117 := if_f hb108 hm117
                      refine LW_no rfl (by decide) rfl rfl (by decide) (congrArg Value.bool hb108) ?_
                      refine LW_no rfl (by decide) rfl rfl (by decide) (congrArg Value.bool hb108) ?_
                      refine LW_no rfl (by decide) rfl rfl (by decide) (congrArg Value.bool hb108) ?_
                      refine LW_no rfl (by decide) rfl rfl (by decide) (congrArg Value.bool hb108) ?_
                      refine LW_no rfl (by decide) rfl rfl (by decide) (congrArg Value.bool hb108) ?_
                      refine LV (R_pickF (v := (.bool false)) (congrArg Value.bool hb108) rfl) ?_
                      replace hm117 := Option.some.inj hm117; subst hm117
                      exact key119 _ _ ⟨false, _, (hST.sublist (List.Sublist.cons _ (List.Sublist.refl _))), rfl, hm118⟩
                · rcases bool_cases x94 with hb99 | hb99
                  · replace hm124 := if_t hb99 hm124
                    refine LW_v (.inr ⟨8, true, 81, rfl, rfl, by decide, (congrArg Value.bool hb99)⟩) rfl (by decide) (R_field fa36_4 e97) ?_
                    refine LW_v (.inr ⟨8, true, 81, rfl, rfl, by decide, (congrArg Value.bool hb99)⟩) rfl (by decide) (R_load (v := (.agg (encRole a0.C).toArray)) rfl (load_boxA hST.has (.head _) (encRole a0.C) rfl Try.isAgg34 Try.sizeOf34)) ?_
                    obtain ⟨r127, hr128, hm124⟩ := bind_some hm124
                    refine LW_e (.inr ⟨8, true, 81, rfl, rfl, by decide, (congrArg Value.bool hb99)⟩) rfl (by decide) (E_gives (args := [(.agg (encRole a0.C).toArray)]) hST rfl Try.call51 (by exact args1 rfl) ((w_ref04_Right a0.C _ _  hr128)) (fun W129 hST => ?_))
                    refine LV (R_pickT (v := (.bool r127)) (congrArg Value.bool hb99) rfl) ?_
                    replace hm124 := Option.some.inj hm124; subst hm124
                    exact key126 _ _ ⟨r127, _, (hST.sublist (List.Sublist.refl _)), e97, rfl, hm125⟩
                  · replace hm124 := if_f hb99 hm124
                    refine LW_no rfl (by decide) rfl rfl (by decide) (congrArg Value.bool hb99) ?_
                    refine LW_no rfl (by decide) rfl rfl (by decide) (congrArg Value.bool hb99) ?_
                    refine LW_no rfl (by decide) rfl rfl (by decide) (congrArg Value.bool hb99) ?_
                    refine LV (R_pickF (v := (.bool false)) (congrArg Value.bool hb99) rfl) ?_
                    replace hm124 := Option.some.inj hm124; subst hm124
                    exact key126 _ _ ⟨false, _, (hST.sublist (List.Sublist.refl _)), e97, rfl, hm125⟩
              · rcases bool_cases ((a0.Kind == 4)) with hb93 | hb93
                · replace hm131 := if_t hb93 hm131
                  refine LW_v (.inr ⟨3, true, 76, rfl, rfl, by decide, (congrArg Value.bool hb93)⟩) rfl (by decide) (R_field fa36_5 e53) ?_
                  refine LW_v (.inr ⟨3, true, 76, rfl, rfl, by decide, (congrArg Value.bool hb93)⟩) rfl (by decide) (R_load (v := (.string a0.Word2)) rfl (load_box1 hST.has (.head _) rfl Try.isAgg9)) ?_
                  refine LW_v (.inr ⟨3, true, 76, rfl, rfl, by decide, (congrArg Value.bool hb93)⟩) rfl (by decide) (R_str (a := a0.Word2) (b := zS) (v := (.bool ((beqS a0.Word2 zS)))) rfl rfl rfl) ?_
                  refine LV (R_pickT (v := (.bool ((beqS a0.Word2 zS)))) (congrArg Value.bool hb93) rfl) ?_
                  replace hm131 := Option.some.inj hm131; subst hm131
                  exact key133 _ _ ⟨((beqS a0.Word2 zS)), _, (hST.sublist (List.Sublist.refl _)), e53, rfl, hm132⟩
                · replace hm131 := if_f hb93 hm131
                  refine LW_no rfl (by decide) rfl rfl (by decide) (congrArg Value.bool hb93) ?_
                  refine LW_no rfl (by decide) rfl rfl (by decide) (congrArg Value.bool hb93) ?_
                  refine LW_no rfl (by decide) rfl rfl (by decide) (congrArg Value.bool hb93) ?_
                  refine LV (R_pickF (v := (.bool false)) (congrArg Value.bool hb93) rfl) ?_
                  replace hm131 := Option.some.inj hm131; subst hm131
                  exact key133 _ _ ⟨false, _, (hST.sublist (List.Sublist.refl _)), e53, rfl, hm132⟩
      · rcases bool_cases ((!(beqS a0.Who zS))) with hb46 | hb46
        · replace hm135 := if_t hb46 hm135
          refine LW_no rfl (by decide) rfl rfl (by decide) (congrArg Value.bool hb46) ?_
          refine LW_no rfl (by decide) rfl rfl (by decide) (congrArg Value.bool hb46) ?_
          refine LW_no rfl (by decide) rfl rfl (by decide) (congrArg Value.bool hb46) ?_
          refine LW_no rfl (by decide) rfl rfl (by decide) (congrArg Value.bool hb46) ?_
          refine LV (R_pickT (v := (.bool true)) (congrArg Value.bool hb46) rfl) ?_
          replace hm135 := Option.some.inj hm135; subst hm135
          exact key137 _ _ ⟨true, _, (hST.sublist (List.Sublist.refl _)), rfl, rfl, rfl, hm136⟩
        · replace hm135 := if_f hb46 hm135
          refine LW_v (.inr ⟨3, false, 34, rfl, rfl, by decide, (congrArg Value.bool hb46)⟩) rfl (by decide) (R_field fa36_3 rfl) ?_
          refine LW_v (.inr ⟨3, false, 34, rfl, rfl, by decide, (congrArg Value.bool hb46)⟩) rfl (by decide) (R_load (v := (.agg (encRole a0.B).toArray)) rfl (load_boxA hST.has (.tail _ (.head _)) (encRole a0.B) rfl Try.isAgg34 Try.sizeOf34)) ?_
          obtain ⟨r138, hr139, hm135⟩ := bind_some hm135
          refine LW_e (.inr ⟨3, false, 34, rfl, rfl, by decide, (congrArg Value.bool hb46)⟩) rfl (by decide) (E_gives (args := [(.agg (encRole a0.B).toArray)]) hST rfl Try.call51 (by exact args1 rfl) ((w_ref04_Right a0.B _ _  hr139)) (fun W140 hST => ?_))
          refine LW_v (.inr ⟨3, false, 34, rfl, rfl, by decide, (congrArg Value.bool hb46)⟩) rfl (by decide) (R_not (b := r138) rfl) ?_
          refine LV (R_pickF (v := (.bool ((!r138)))) (congrArg Value.bool hb46) rfl) ?_
          replace hm135 := Option.some.inj hm135; subst hm135
          exact key137 _ _ ⟨((!r138)), _, (hST.sublist (List.Sublist.refl _)), rfl, rfl, rfl, hm136⟩
theorem w_ref01_Number (a0 : Int) (r : ByteArray) (w : World)  (hm : m_ref01_Number a0 = some r) :
    Gives true Try.prog 85 [(.int .i64 a0)] w (.string r) := by
  have hST := ST.start (dd := true) w
  unfold m_ref01_Number at hm
  refine calls_of_CW (n := 22) Try.func85 rfl rfl (Nat.le_of_ble_eq_true rfl) ?_
  refine CW_seq ?_
  refine CW_region ?_
  refine LV (R_assign (v := (.string zS)) rfl) ?_
  refine LW_nil ?_
  refine sq_n ?_
  refine CW_seq ?_
  refine CW_region ?_
  refine LV (R_assign (v := (.string zS)) rfl) ?_
  refine LW_nil ?_
  refine sq_n ?_
  refine CW_seq ?_
  refine CW_block (CW_loop (fun m E W => ∃ (x32 : Int) (x33 : ByteArray) (L43 : List (Nat × Obj)), ST true NoF w W (hp w) L43 ∧ E 0 = (.int .i64 x32) ∧ E 3 = (.string x33) ∧ m_ref01_Number_L1 m x32 x33 = some r) FUEL ⟨a0, zS, _, (hST.sublist (List.Sublist.refl _)), rfl, rfl, hm⟩ ?_)
  rintro m E W ⟨x32, x33, L43, hST, e46, e47, hm44⟩
  cases m with
  | zero => rw [m_ref01_Number_L1] at hm44; cases hm44
  | succ n45 =>
    rw [m_ref01_Number_L1] at hm44
    refine CW_seq ?_
    refine CW_seq ?_
    refine CW_region ?_
    refine LV (R_move (v := (.int .i64 x32)) e46) ?_
    refine LV (R_int (k := .i64) (a := x32) (b := 128) (v := (.bool ((decide (x32 ≥ 128))))) rfl rfl rfl) ?_
    refine LW_nil ?_
    refine sq_n ?_
    refine CW_if (b := (decide (x32 ≥ 128))) rfl (fun hb48 => ?_) (fun hb48 => ?_)
    · replace hm44 := if_t hb48 hm44
      refine CW_skip ?_
      refine sq_n ?_
      refine CW_block ?_
      refine CW_seq ?_
      refine CW_region ?_
      refine LV (R_move (v := (.string x33)) e47) ?_
      refine LV (R_move (v := (.int .i64 x32)) e46) ?_
      refine LV (R_div (k := .i64) (a := x32) (b := 128) (v := (.int .i64 ((Int.tmod x32 128)))) rfl rfl (by decide) rfl) ?_
      refine LV (R_int (k := .i64) (a := 128) (b := ((Int.tmod x32 128))) (v := (.int .i64 ((IntKind.i64.wrap (128 + ((Int.tmod x32 128))))))) rfl rfl rfl) ?_
      refine LV (R_convInt (k' := .i64) (a := (IntKind.i64.wrap (128 + ((Int.tmod x32 128))))) Try.underlying3 Try.underlying5 rfl) ?_
      refine LE (E_buildSlice (qs := #[(0, (.int .u8 ((IntKind.u8.wrap ((IntKind.i64.wrap (128 + ((Int.tmod x32 128)))))))))]) (cs := [(.int .u8 ((IntKind.u8.wrap ((IntKind.i64.wrap (128 + ((Int.tmod x32 128))))))))].toArray) hST (parts1 rfl) (run_lit [(.int .u8 ((IntKind.u8.wrap ((IntKind.i64.wrap (128 + ((Int.tmod x32 128))))))))] Try.underlying106 Try.sizeOf5 Try.zeroValue5 (by decide) rfl (by intro v hv; simp only [List.mem_cons, List.not_mem_nil, or_false] at hv; rcases hv with rfl <;> rfl) rfl rfl) (fun W50 b49 hST => ?_))
      refine LV (R_strOf Try.underlying106 Try.underlying5 Try.underlying9 rfl (Sl.lit (enc := (encIk .u8)) (l := [(IntKind.u8.wrap ((IntKind.i64.wrap (128 + ((Int.tmod x32 128))))))]) (fun _ => rfl) rfl (Nat.le_of_ble_eq_true rfl) rfl (hST.at_ (.head _)))) ?_
      obtain ⟨s51, hs52, hm44⟩ := bind_some hm44
      refine LV (R_cat rfl rfl hs52) ?_
      refine LV (R_assign (v := (.string s51)) rfl) ?_
      refine LW_nil ?_
      refine sq_n ?_
      replace hST : ST true NoF w _ _ L43 := hST.sublist (List.Sublist.cons _ (List.Sublist.refl _))
      refine CW_region ?_
      refine LV (R_move (v := (.int .i64 x32)) e46) ?_
      refine LV (R_div (k := .i64) (a := x32) (b := 128) (v := (.int .i64 ((IntKind.i64.wrap (Int.tdiv x32 128))))) rfl rfl (by decide) rfl) ?_
      refine LV (R_assign (v := (.int .i64 ((IntKind.i64.wrap (Int.tdiv x32 128))))) rfl) ?_
      refine LW_nil ?_
      refine bq_n ?_
      refine sq_n ?_
      exact ⟨n45, Nat.lt_succ_self _, ((IntKind.i64.wrap (Int.tdiv x32 128))), s51, _, (hST.sublist (List.Sublist.refl _)), rfl, rfl, hm44⟩
    · replace hm44 := if_f hb48 hm44
      refine CW_exit ?_
      refine sq_e (sq_e (bq_e ?_))
      refine sq_n ?_
      refine CW_seq ?_
      refine CW_region ?_
      refine LV (R_move (v := (.string x33)) e47) ?_
      refine LV (R_move (v := (.int .i64 x32)) e46) ?_
      refine LV (R_convInt (k' := .i64) (a := x32) Try.underlying3 Try.underlying5 rfl) ?_
      refine LE (E_buildSlice (qs := #[(0, (.int .u8 ((IntKind.u8.wrap x32))))]) (cs := [(.int .u8 ((IntKind.u8.wrap x32)))].toArray) hST (parts1 rfl) (run_lit [(.int .u8 ((IntKind.u8.wrap x32)))] Try.underlying106 Try.sizeOf5 Try.zeroValue5 (by decide) rfl (by intro v hv; simp only [List.mem_cons, List.not_mem_nil, or_false] at hv; rcases hv with rfl <;> rfl) rfl rfl) (fun W54 b53 hST => ?_))
      refine LV (R_strOf Try.underlying106 Try.underlying5 Try.underlying9 rfl (Sl.lit (enc := (encIk .u8)) (l := [(IntKind.u8.wrap x32)]) (fun _ => rfl) rfl (Nat.le_of_ble_eq_true rfl) rfl (hST.at_ (.head _)))) ?_
      obtain ⟨s55, hs56, hm44⟩ := bind_some hm44
      refine LV (R_cat rfl rfl hs56) ?_
      refine LV (R_assign (v := (.string s55)) rfl) ?_
      refine LW_nil ?_
      refine sq_n ?_
      replace hST : ST true NoF w _ _ L43 := hST.sublist (List.Sublist.cons _ (List.Sublist.refl _))
      refine CW_ret ?_
      replace hm44 := Option.some.inj hm44; subst hm44
      refine retQ_1 (v := (.string s55)) rfl rfl ?_
      exact ⟨rfl, hST.ex⟩
theorem w_ref01_Text (a0 : ByteArray) (r : ByteArray) (w : World)  (hm : m_ref01_Text a0 = some r) :
    Gives true Try.prog 87 [(.string a0)] w (.string r) := by
  have hST := ST.start (dd := true) w
  unfold m_ref01_Text at hm
  refine calls_of_CW (n := 8) Try.func87 rfl rfl (Nat.le_of_ble_eq_true rfl) ?_
  refine CW_seq ?_
  refine CW_region ?_
  refine LV (R_assign (v := (.string zS)) rfl) ?_
  refine LW_nil ?_
  refine sq_n ?_
  refine CW_seq ?_
  refine CW_region ?_
  refine LV (R_move (v := (.string a0)) rfl) ?_
  refine LV (R_lenStr (s := a0) Try.underlying9 rfl) ?_
  obtain ⟨r1, hr2, hm⟩ := bind_some hm
  refine LE (E_gives (args := [(.int .i64 ((a0.size : Int)))]) hST rfl Try.call85 (by exact args1 rfl) ((w_ref01_Number ((a0.size : Int)) _ _  hr2)) (fun W3 hST => ?_))
  refine LV (R_move (v := (.string a0)) rfl) ?_
  obtain ⟨s4, hs5, hm⟩ := bind_some hm
  refine LV (R_cat rfl rfl hs5) ?_
  refine LV (R_assign (v := (.string s4)) rfl) ?_
  refine LW_nil ?_
  refine sq_n ?_
  refine CW_ret ?_
  replace hm := Option.some.inj hm; subst hm
  refine retQ_1 (v := (.string s4)) rfl rfl ?_
  exact ⟨rfl, hST.ex⟩
theorem w_ref04_Bytes (a0 : Role) (r : ByteArray) (w : World)  (hm : m_ref04_Bytes a0 = some r) :
    Gives true Try.prog 86 [(.agg (encRole a0).toArray)] w (.string r) := by
  have hST := ST.start (dd := true) w
  unfold m_ref04_Bytes at hm
  refine calls_of_CW (n := 10) Try.func86 rfl rfl (Nat.le_of_ble_eq_true rfl) ?_
  refine CW_seq ?_
  refine CW_region ?_
  refine LE (E_box (v := (.agg (encRole a0).toArray)) hST rfl (fun W2 b1 hST => ?_))
  refine LV (R_assign (v := (.string zS)) rfl) ?_
  refine LW_nil ?_
  refine sq_n ?_
  refine CW_seq ?_
  refine PX_start (fun l W => Has (hp w) ((b1, Obj.cells ((encRole a0).toArray : Array Value) 34 (0, 0)) :: []) W) Try_mixed ?_
  replace hST := hST.drew
  have hS0 : Has (hp w) ((b1, Obj.cells ((encRole a0).toArray : Array Value) 34 (0, 0)) :: []) _ := hST.has.sub (Sub.refl _) (fun p hq => ((List.mem_cons.1 hq).elim (fun hq => by rw [hq]; exact (.head _)) (fun hq => (absurd hq List.not_mem_nil))))
  refine PV 0 rfl hS0 (R_field fa34_0 rfl) ?_
  refine PX_v 1 rfl (by kernel_rfl) (.inl rfl) rfl (by decide) (fun _ _ h => h) hS0 (fun l W hpd hs => have hS := hs; R_load (v := (.string a0.Owner)) rfl (load_box1 hS (.head _) rfl Try.isAgg9)) ?_
  refine PV 3 rfl hS0 (R_field fa34_1 rfl) ?_
  refine PX_v 4 rfl (by kernel_rfl) (.inl rfl) rfl (by decide) (fun _ _ h => h) hS0 (fun l W hpd hs => have hS := hs; R_load (v := (.string a0.Word)) rfl (load_box1 hS (.head _) rfl Try.isAgg9)) ?_
  obtain ⟨r19, hr20, hm⟩ := bind_some hm
  refine PX_e 2 rfl (by kernel_rfl) (.inl rfl) rfl (by decide) (E_gives (args := [(.string a0.Owner)]) hST rfl Try.call87 (by exact args1 rfl) ((w_ref01_Text a0.Owner _ _  hr20)) (fun W21 hST => ?_))
  have hS0 : Has (hp w) ((b1, Obj.cells ((encRole a0).toArray : Array Value) 34 (0, 0)) :: []) _ := hST.has.sub (Sub.refl _) (fun p hq => ((List.mem_cons.1 hq).elim (fun hq => by rw [hq]; exact (.head _)) (fun hq => (absurd hq List.not_mem_nil))))
  refine ⟨hS0, ?_⟩
  obtain ⟨r22, hr23, hm⟩ := bind_some hm
  refine PX_e 5 rfl (by kernel_rfl) (.inl rfl) rfl (by decide) (E_gives (args := [(.string a0.Word)]) hST rfl Try.call87 (by exact args1 rfl) ((w_ref01_Text a0.Word _ _  hr23)) (fun W24 hST => ?_))
  have hS0 : Has (hp w) ((b1, Obj.cells ((encRole a0).toArray : Array Value) 34 (0, 0)) :: []) _ := hST.has.sub (Sub.refl _) (fun p hq => ((List.mem_cons.1 hq).elim (fun hq => by rw [hq]; exact (.head _)) (fun hq => (absurd hq List.not_mem_nil))))
  refine ⟨hS0, ?_⟩
  obtain ⟨s25, hs26, hm⟩ := bind_some hm
  refine PV 6 rfl hS0 (R_cat rfl rfl hs26) ?_
  refine PV 7 rfl hS0 (R_assign (v := (.string s25)) rfl) ?_
  refine PX_done (by kernel_rfl) ?_
  refine sq_n ?_
  replace hST : ST true NoF w _ _ [] := hST.sublist (List.Sublist.cons _ (List.Sublist.refl _))
  refine CW_ret ?_
  replace hm := Option.some.inj hm; subst hm
  refine retQ_1 (v := (.string s25)) rfl rfl ?_
  exact ⟨rfl, hST.ex⟩
theorem w_ref05_Bytes (a0 : Cred) (r : ByteArray) (w : World)  (hm : m_ref05_Bytes a0 = some r) :
    Gives true Try.prog 75 [(.agg (encCred a0).toArray)] w (.string r) := by
  have hST := ST.start (dd := true) w
  unfold m_ref05_Bytes at hm
  refine calls_of_CW (n := 41) Try.func75 rfl rfl (Nat.le_of_ble_eq_true rfl) ?_
  refine CW_seq ?_
  refine CW_region ?_
  refine LE (E_box (v := (.agg (encCred a0).toArray)) hST rfl (fun W2 b1 hST => ?_))
  refine LV (R_assign (v := (.string zS)) rfl) ?_
  refine LW_nil ?_
  refine sq_n ?_
  refine CW_seq ?_
  refine PX_start (fun l W => Has (hp w) ((b1, Obj.cells ((encCred a0).toArray : Array Value) 36 (0, 0)) :: []) W) Try_mixed ?_
  replace hST := hST.drew
  have hS0 : Has (hp w) ((b1, Obj.cells ((encCred a0).toArray : Array Value) 36 (0, 0)) :: []) _ := hST.has.sub (Sub.refl _) (fun p hq => ((List.mem_cons.1 hq).elim (fun hq => by rw [hq]; exact (.head _)) (fun hq => (absurd hq List.not_mem_nil))))
  refine PV 0 rfl hS0 (R_field fa36_0 rfl) ?_
  refine PX_v 1 rfl (by kernel_rfl) (.inl rfl) rfl (by decide) (fun _ _ h => h) hS0 (fun l W hpd hs => have hS := hs; R_load (v := (.int .i64 a0.Kind)) rfl (load_box1 hS (.head _) rfl Try.isAgg3)) ?_
  refine PV 3 rfl hS0 (R_field fa36_1 rfl) ?_
  refine PX_v 4 rfl (by kernel_rfl) (.inl rfl) rfl (by decide) (fun _ _ h => h) hS0 (fun l W hpd hs => have hS := hs; R_load (v := (.agg (encRole a0.Head).toArray)) rfl (load_boxA hS (.head _) (encRole a0.Head) rfl Try.isAgg34 Try.sizeOf34)) ?_
  obtain ⟨r19, hr20, hm⟩ := bind_some hm
  refine PX_e 2 rfl (by kernel_rfl) (.inl rfl) rfl (by decide) (E_gives (args := [(.int .i64 a0.Kind)]) hST rfl Try.call85 (by exact args1 rfl) ((w_ref01_Number a0.Kind _ _  hr20)) (fun W21 hST => ?_))
  have hS0 : Has (hp w) ((b1, Obj.cells ((encCred a0).toArray : Array Value) 36 (0, 0)) :: []) _ := hST.has.sub (Sub.refl _) (fun p hq => ((List.mem_cons.1 hq).elim (fun hq => by rw [hq]; exact (.head _)) (fun hq => (absurd hq List.not_mem_nil))))
  refine ⟨hS0, ?_⟩
  obtain ⟨r22, hr23, hm⟩ := bind_some hm
  refine PX_e 5 rfl (by kernel_rfl) (.inl rfl) rfl (by decide) (E_gives (args := [(.agg (encRole a0.Head).toArray)]) hST rfl Try.call86 (by exact args1 rfl) ((w_ref04_Bytes a0.Head _ _  hr23)) (fun W24 hST => ?_))
  have hS0 : Has (hp w) ((b1, Obj.cells ((encCred a0).toArray : Array Value) 36 (0, 0)) :: []) _ := hST.has.sub (Sub.refl _) (fun p hq => ((List.mem_cons.1 hq).elim (fun hq => by rw [hq]; exact (.head _)) (fun hq => (absurd hq List.not_mem_nil))))
  refine ⟨hS0, ?_⟩
  obtain ⟨s25, hs26, hm⟩ := bind_some hm
  refine PV 6 rfl hS0 (R_cat rfl rfl hs26) ?_
  refine PV 7 rfl hS0 (R_assign (v := (.string s25)) rfl) ?_
  refine PX_done (by kernel_rfl) ?_
  refine sq_n ?_
  refine CW_seq ?_
  refine CW_seq ?_
  refine CW_region ?_
  refine LV (R_field fa36_0 rfl) ?_
  refine LV (R_load (v := (.int .i64 a0.Kind)) rfl (load_box1 hST.has (.head _) rfl Try.isAgg3)) ?_
  refine LV (R_int (k := .i64) (a := a0.Kind) (b := 1) (v := (.bool ((a0.Kind == 1)))) rfl rfl rfl) ?_
  refine LW_nil ?_
  refine sq_n ?_
  refine CW_if (b := (a0.Kind == 1)) rfl (fun hb27 => ?_) (fun hb27 => ?_)
  · replace hm := if_t hb27 hm
    refine CW_seq ?_
    refine CW_region ?_
    refine LV (R_move (v := (.string s25)) rfl) ?_
    refine LV (R_field fa36_2 rfl) ?_
    refine LV (R_load (v := (.string a0.Who)) rfl (load_box1 hST.has (.head _) rfl Try.isAgg9)) ?_
    obtain ⟨r28, hr29, hm⟩ := bind_some hm
    refine LE (E_gives (args := [(.string a0.Who)]) hST rfl Try.call87 (by exact args1 rfl) ((w_ref01_Text a0.Who _ _  hr29)) (fun W30 hST => ?_))
    obtain ⟨s31, hs32, hm⟩ := bind_some hm
    refine LV (R_cat rfl rfl hs32) ?_
    refine LV (R_assign (v := (.string s31)) rfl) ?_
    refine LW_nil ?_
    refine sq_n ?_
    replace hST : ST true NoF w _ _ [] := hST.sublist (List.Sublist.cons _ (List.Sublist.refl _))
    refine CW_ret ?_
    refine sq_r ?_
    replace hm := Option.some.inj hm; subst hm
    refine retQ_1 (v := (.string s31)) rfl rfl ?_
    exact ⟨rfl, hST.ex⟩
  · replace hm := if_f hb27 hm
    refine CW_skip ?_
    refine sq_n ?_
    refine CW_seq ?_
    refine CW_region ?_
    refine LV (R_move (v := (.string s25)) rfl) ?_
    refine LV (R_field fa36_3 rfl) ?_
    refine LV (R_load (v := (.agg (encRole a0.B).toArray)) rfl (load_boxA hST.has (.head _) (encRole a0.B) rfl Try.isAgg34 Try.sizeOf34)) ?_
    obtain ⟨r33, hr34, hm⟩ := bind_some hm
    refine LE (E_gives (args := [(.agg (encRole a0.B).toArray)]) hST rfl Try.call86 (by exact args1 rfl) ((w_ref04_Bytes a0.B _ _  hr34)) (fun W35 hST => ?_))
    obtain ⟨s36, hs37, hm⟩ := bind_some hm
    refine LV (R_cat rfl rfl hs37) ?_
    refine LV (R_assign (v := (.string s36)) rfl) ?_
    refine LW_nil ?_
    refine sq_n ?_
    refine CW_seq ?_
    obtain ⟨s68, hm69, hm70⟩ := bind_some hm
    refine CW_cut (fun E W => ∃ (x44 : ByteArray) (L45 : List (Nat × Obj)), ST true NoF w W (hp w) ((b1, Obj.cells ((encCred a0).toArray : Array Value) 36 (0, 0)) :: L45) ∧ E 1 = (.pointer (some ⟨b1, 0, none⟩)) ∧ E 3 = (.string x44) ∧ (((if (a0.Kind == 4) then (((m_ref04_Bytes a0.C)).bind fun r63 => (((catS x44 r63)).bind fun s66 => some s66)) else some x44) : Option ByteArray).bind fun x55 => some x55) = some r) ?_ ?_
    · refine CW_seq ?_
      refine CW_region ?_
      refine LV (R_field fa36_0 rfl) ?_
      refine LV (R_load (v := (.int .i64 a0.Kind)) rfl (load_box1 hST.has (.head _) rfl Try.isAgg3)) ?_
      refine LV (R_int (k := .i64) (a := a0.Kind) (b := 3) (v := (.bool ((a0.Kind == 3)))) rfl rfl rfl) ?_
      refine LW_nil ?_
      refine sq_n ?_
      refine CW_if (b := (a0.Kind == 3)) rfl (fun hb71 => ?_) (fun hb71 => ?_)
      · replace hm69 := if_t hb71 hm69
        refine CW_region ?_
        refine LV (R_move (v := (.string s36)) rfl) ?_
        refine LV (R_field fa36_5 rfl) ?_
        refine LV (R_load (v := (.string a0.Word2)) rfl (load_box1 hST.has (.head _) rfl Try.isAgg9)) ?_
        obtain ⟨r72, hr73, hm69⟩ := bind_some hm69
        refine LE (E_gives (args := [(.string a0.Word2)]) hST rfl Try.call87 (by exact args1 rfl) ((w_ref01_Text a0.Word2 _ _  hr73)) (fun W74 hST => ?_))
        obtain ⟨s75, hs76, hm69⟩ := bind_some hm69
        refine LV (R_cat rfl rfl hs76) ?_
        refine LV (R_assign (v := (.string s75)) rfl) ?_
        refine LW_nil ?_
        refine sq_n ?_
        replace hm69 := Option.some.inj hm69; subst hm69
        exact ⟨s75, _, (hST.sublist (List.Sublist.refl _)), rfl, rfl, hm70⟩
      · replace hm69 := if_f hb71 hm69
        refine CW_skip ?_
        refine sq_n ?_
        replace hm69 := Option.some.inj hm69; subst hm69
        exact ⟨s36, _, (hST.sublist (List.Sublist.refl _)), rfl, rfl, hm70⟩
    · rintro E W ⟨x44, L45, hST, e47, e48, hm46⟩
      refine CW_seq ?_
      obtain ⟨s59, hm60, hm61⟩ := bind_some hm46
      refine CW_cut (fun E W => ∃ (x55 : ByteArray) (L56 : List (Nat × Obj)), ST true NoF w W (hp w) L56 ∧ E 3 = (.string x55) ∧ some x55 = some r) ?_ ?_
      · refine CW_seq ?_
        refine CW_region ?_
        refine LV (R_field fa36_0 e47) ?_
        refine LV (R_load (v := (.int .i64 a0.Kind)) rfl (load_box1 hST.has (.head _) rfl Try.isAgg3)) ?_
        refine LV (R_int (k := .i64) (a := a0.Kind) (b := 4) (v := (.bool ((a0.Kind == 4)))) rfl rfl rfl) ?_
        refine LW_nil ?_
        refine sq_n ?_
        refine CW_if (b := (a0.Kind == 4)) rfl (fun hb62 => ?_) (fun hb62 => ?_)
        · replace hm60 := if_t hb62 hm60
          refine CW_region ?_
          refine LV (R_move (v := (.string x44)) e48) ?_
          refine LV (R_field fa36_4 e47) ?_
          refine LV (R_load (v := (.agg (encRole a0.C).toArray)) rfl (load_boxA hST.has (.head _) (encRole a0.C) rfl Try.isAgg34 Try.sizeOf34)) ?_
          obtain ⟨r63, hr64, hm60⟩ := bind_some hm60
          refine LE (E_gives (args := [(.agg (encRole a0.C).toArray)]) hST rfl Try.call86 (by exact args1 rfl) ((w_ref04_Bytes a0.C _ _  hr64)) (fun W65 hST => ?_))
          obtain ⟨s66, hs67, hm60⟩ := bind_some hm60
          refine LV (R_cat rfl rfl hs67) ?_
          refine LV (R_assign (v := (.string s66)) rfl) ?_
          refine LW_nil ?_
          refine sq_n ?_
          replace hm60 := Option.some.inj hm60; subst hm60
          exact ⟨s66, _, (hST.sublist (List.Sublist.cons _ (List.Sublist.refl _))), rfl, hm61⟩
        · replace hm60 := if_f hb62 hm60
          refine CW_skip ?_
          refine sq_n ?_
          replace hm60 := Option.some.inj hm60; subst hm60
          exact ⟨x44, _, (hST.sublist (List.Sublist.cons _ (List.Sublist.refl _))), e48, hm61⟩
      · rintro E W ⟨x55, L56, hST, e58, hm57⟩
        refine CW_seq ?_
        refine CW_region ?_
        refine LV (R_move (v := (.string x55)) e58) ?_
        refine LV (R_assign (v := (.string x55)) rfl) ?_
        refine LW_nil ?_
        refine sq_n ?_
        refine CW_ret ?_
        replace hm57 := Option.some.inj hm57; subst hm57
        refine retQ_1 (v := (.string x55)) rfl rfl ?_
        exact ⟨rfl, hST.ex⟩
theorem w_ref05_bytes (a0 : Cred) (r : ByteArray) (w : World)  (hm : m_ref05_bytes a0 = some r) :
    Gives true Try.prog 53 [(.agg (encCred a0).toArray)] w (.string r) := by
  have hST := ST.start (dd := true) w
  unfold m_ref05_bytes at hm
  refine calls_of_CW (n := 8) Try.func53 rfl rfl (Nat.le_of_ble_eq_true rfl) ?_
  refine CW_seq ?_
  refine CW_region ?_
  refine LE (E_box (v := (.agg (encCred a0).toArray)) hST rfl (fun W2 b1 hST => ?_))
  refine LV (R_assign (v := (.string zS)) rfl) ?_
  refine LW_nil ?_
  refine sq_n ?_
  refine CW_seq ?_
  refine CW_seq ?_
  refine CW_region ?_
  refine LV (R_load (v := (.agg (encCred a0).toArray)) rfl (load_boxA hST.has (.head _) (encCred a0) rfl Try.isAgg36 Try.sizeOf36)) ?_
  obtain ⟨r3, hr4, hm⟩ := bind_some hm
  refine LE (E_gives (args := [(.agg (encCred a0).toArray)]) hST rfl Try.call33 (by exact args1 rfl) ((w_ref05_Right a0 _ _  hr4)) (fun W5 hST => ?_))
  refine LV (R_not (b := r3) rfl) ?_
  refine LW_nil ?_
  refine sq_n ?_
  refine CW_if (b := (!r3)) rfl (fun hb6 => ?_) (fun hb6 => ?_)
  · replace hm := if_t hb6 hm
    refine CW_seq ?_
    refine CW_region ?_
    refine LV (R_assign (v := (.string zS)) rfl) ?_
    refine LW_nil ?_
    refine sq_n ?_
    replace hST : ST true NoF w _ _ [] := hST.sublist (List.Sublist.cons _ (List.Sublist.refl _))
    refine CW_ret ?_
    refine sq_r ?_
    replace hm := Option.some.inj hm; subst hm
    refine retQ_1 (v := (.string zS)) rfl rfl ?_
    exact ⟨rfl, hST.ex⟩
  · replace hm := if_f hb6 hm
    refine CW_skip ?_
    refine sq_n ?_
    refine CW_seq ?_
    refine CW_region ?_
    refine LV (R_load (v := (.agg (encCred a0).toArray)) rfl (load_boxA hST.has (.head _) (encCred a0) rfl Try.isAgg36 Try.sizeOf36)) ?_
    obtain ⟨r7, hr8, hm⟩ := bind_some hm
    refine LE (E_gives (args := [(.agg (encCred a0).toArray)]) hST rfl Try.call75 (by exact args1 rfl) ((w_ref05_Bytes a0 _ _  hr8)) (fun W9 hST => ?_))
    refine LV (R_assign (v := (.string r7)) rfl) ?_
    refine LW_nil ?_
    refine sq_n ?_
    replace hST : ST true NoF w _ _ [] := hST.sublist (List.Sublist.cons _ (List.Sublist.refl _))
    refine CW_ret ?_
    replace hm := Option.some.inj hm; subst hm
    refine retQ_1 (v := (.string r7)) rfl rfl ?_
    exact ⟨rfl, hST.ex⟩
theorem w_ref05_Compare (a0 : Cred) (a1 : Cred) (r : Int) (w : World)  (hm : m_ref05_Compare a0 a1 = some r) :
    Gives true Try.prog 34 [(.agg (encCred a0).toArray), (.agg (encCred a1).toArray)] w (.int .i64 r) := by
  have hST := ST.start (dd := true) w
  unfold m_ref05_Compare at hm
  refine calls_of_CW (n := 17) Try.func34 rfl rfl (Nat.le_of_ble_eq_true rfl) ?_
  refine CW_seq ?_
  refine CW_region ?_
  refine LE (E_box (v := (.agg (encCred a0).toArray)) hST rfl (fun W2 b1 hST => ?_))
  refine LE (E_box (v := (.agg (encCred a1).toArray)) hST rfl (fun W4 b3 hST => ?_))
  refine LV (R_assign (v := (.int .i64 0)) rfl) ?_
  refine LW_nil ?_
  refine sq_n ?_
  refine CW_seq ?_
  refine CW_region ?_
  refine LV (R_load (v := (.agg (encCred a0).toArray)) rfl (load_boxA hST.has (.tail _ (.head _)) (encCred a0) rfl Try.isAgg36 Try.sizeOf36)) ?_
  obtain ⟨r5, hr6, hm⟩ := bind_some hm
  refine LE (E_gives (args := [(.agg (encCred a0).toArray)]) hST rfl Try.call53 (by exact args1 rfl) ((w_ref05_bytes a0 _ _  hr6)) (fun W7 hST => ?_))
  refine LV (R_assign (v := (.string r5)) rfl) ?_
  refine LW_nil ?_
  refine sq_n ?_
  replace hST : ST true NoF w _ _ ((b3, Obj.cells ((encCred a1).toArray : Array Value) 36 (0, 0)) :: []) := hST.sublist (List.Sublist.cons_cons _ (List.Sublist.cons _ (List.Sublist.refl _)))
  refine CW_seq ?_
  refine CW_region ?_
  refine LV (R_load (v := (.agg (encCred a1).toArray)) rfl (load_boxA hST.has (.head _) (encCred a1) rfl Try.isAgg36 Try.sizeOf36)) ?_
  obtain ⟨r8, hr9, hm⟩ := bind_some hm
  refine LE (E_gives (args := [(.agg (encCred a1).toArray)]) hST rfl Try.call53 (by exact args1 rfl) ((w_ref05_bytes a1 _ _  hr9)) (fun W10 hST => ?_))
  refine LV (R_assign (v := (.string r8)) rfl) ?_
  refine LW_nil ?_
  refine sq_n ?_
  replace hST : ST true NoF w _ _ [] := hST.sublist (List.Sublist.cons _ (List.Sublist.refl _))
  refine CW_seq ?_
  refine CW_seq ?_
  refine CW_region ?_
  refine LV (R_move (v := (.string r5)) rfl) ?_
  refine LV (R_move (v := (.string r8)) rfl) ?_
  refine LV (R_str (a := r5) (b := r8) (v := (.bool ((ltS r5 r8)))) rfl rfl rfl) ?_
  refine LW_nil ?_
  refine sq_n ?_
  refine CW_if (b := (ltS r5 r8)) rfl (fun hb11 => ?_) (fun hb11 => ?_)
  · replace hm := if_t hb11 hm
    refine CW_seq ?_
    refine CW_region ?_
    refine LV (R_assign (v := (.int .i64 ((-1)))) rfl) ?_
    refine LW_nil ?_
    refine sq_n ?_
    refine CW_ret ?_
    refine sq_r ?_
    replace hm := Option.some.inj hm; subst hm
    refine retQ_1 (v := (.int .i64 ((-1)))) rfl rfl ?_
    exact ⟨rfl, hST.ex⟩
  · replace hm := if_f hb11 hm
    refine CW_skip ?_
    refine sq_n ?_
    refine CW_seq ?_
    refine CW_seq ?_
    refine CW_region ?_
    refine LV (R_move (v := (.string r5)) rfl) ?_
    refine LV (R_move (v := (.string r8)) rfl) ?_
    refine LV (R_str (a := r5) (b := r8) (v := (.bool ((!(ltS r5 r8 || beqS r5 r8))))) rfl rfl rfl) ?_
    refine LW_nil ?_
    refine sq_n ?_
    refine CW_if (b := (!(ltS r5 r8 || beqS r5 r8))) rfl (fun hb12 => ?_) (fun hb12 => ?_)
    · replace hm := if_t hb12 hm
      refine CW_seq ?_
      refine CW_region ?_
      refine LV (R_assign (v := (.int .i64 1)) rfl) ?_
      refine LW_nil ?_
      refine sq_n ?_
      refine CW_ret ?_
      refine sq_r ?_
      replace hm := Option.some.inj hm; subst hm
      refine retQ_1 (v := (.int .i64 1)) rfl rfl ?_
      exact ⟨rfl, hST.ex⟩
    · replace hm := if_f hb12 hm
      refine CW_skip ?_
      refine sq_n ?_
      refine CW_seq ?_
      refine CW_region ?_
      refine LV (R_assign (v := (.int .i64 0)) rfl) ?_
      refine LW_nil ?_
      refine sq_n ?_
      refine CW_ret ?_
      replace hm := Option.some.inj hm; subst hm
      refine retQ_1 (v := (.int .i64 0)) rfl rfl ?_
      exact ⟨rfl, hST.ex⟩
theorem w_ref05_Set (v_a0 : Value) (a0 : List Cred) (r : List Cred) (w : World) (h_a0 : Sl (Pl encCred) 9 (hp w) v_a0 a0) (hm : m_ref05_Set a0 = some r) :
    GivesRow true Try.prog 13 [v_a0] w 36 encCred 9 r := by
  have hST := ST.start (dd := true) w
  unfold m_ref05_Set at hm
  refine calls_of_CW (n := 51) Try.func13 rfl rfl (Nat.le_of_ble_eq_true rfl) ?_
  refine CW_seq ?_
  refine CW_region ?_
  refine LV (R_assign (v := (.slice none 0 0)) rfl) ?_
  refine LW_nil ?_
  refine sq_n ?_
  refine CW_seq ?_
  refine CW_region ?_
  refine LV (R_assign (v := (.slice none 0 0)) rfl) ?_
  refine LW_nil ?_
  refine sq_n ?_
  refine CW_tail ?_
  refine CW_block (CW_loop (fun m E W => ∃ (v11496 : Value) (l11497 : List Cred) (R11499 : List (Nat × Obj)) (L14376 : List (Nat × Obj)), ST true NoF w W (hp w) (R11499 ++ L14376) ∧ E 0 = v_a0 ∧ E 3 = v11496 ∧ Row 36 encCred 9 v11496 l11497 R11499 ∧ m_ref05_Set_L1 a0 m l11497 = some r) FUEL ⟨(.slice none 0 0), ([]), [], _, (hST.sublist (List.Sublist.refl _)), rfl, rfl, (Row.nil _ _ _), hm⟩ ?_)
  rintro m E W ⟨v11496, l11497, R11499, L14376, hST, e14379, e14380, hs11498, hm14377⟩
  cases m with
  | zero => rw [m_ref05_Set_L1] at hm14377; cases hm14377
  | succ n14378 =>
    rw [m_ref05_Set_L1] at hm14377
    refine CW_block ?_
    refine CW_seq ?_
    refine CW_region ?_
    refine LE (E_alloc hST Try.zeroValue36 (fun W14382 b14381 hST => ?_))
    refine LW_nil ?_
    refine sq_n ?_
    refine CW_seq ?_
    refine CW_region ?_
    refine LV (R_assign (v := (.bool false)) rfl) ?_
    refine LW_nil ?_
    refine sq_n ?_
    refine CW_seq ?_
    refine CW_seq ?_
    refine CW_region ?_
    refine LV (R_move (v := v_a0) e14379) ?_
    refine LV (R_len Try.underlying24 rfl h_a0) ?_
    refine LV (R_move (v := (.int .i64 0)) rfl) ?_
    refine LW_nil ?_
    refine sq_n ?_
    obtain ⟨s15824, hm15825, hm15826⟩ := bind_some hm14377
    refine CW_cut (fun E W => ∃ (x15807 : Bool) (x15808 : Cred) (L15809 : List (Nat × Obj)), ST true NoF w W (hp w) ((b14381, Obj.cells ((encCred x15808).toArray : Array Value) 36 (0, 0)) :: (R11499 ++ L15809)) ∧ E 0 = v_a0 ∧ E 3 = v11496 ∧ E 4 = (.pointer (some ⟨b14381, 0, none⟩)) ∧ E 5 = (.bool x15807) ∧ (if (!x15807) then some l11497 else (((appB 136 l11497 ([x15808]))).bind fun l15818 => (m_ref05_Set_L1 a0 n14378 l15818))) = some r) ?_ ?_
    · refine CW_range (fun i E W => ∃ (x16301 : Bool) (x16302 : Cred) (L16777 : List (Nat × Obj)), (E 10 = .int .i64 (i : Nat) ∧ E 9 = .int .i64 (a0.length : Nat)) ∧ ST true NoF w W (hp w) ((b14381, Obj.cells ((encCred x16302).toArray : Array Value) 36 (0, 0)) :: (R11499 ++ L16777)) ∧ E 0 = v_a0 ∧ E 3 = v11496 ∧ E 4 = (.pointer (some ⟨b14381, 0, none⟩)) ∧ E 5 = (.bool x16301) ∧ E 8 = v_a0 ∧ m_ref05_Set_L2 l11497 (a0.drop i) x16301 x16302 = some s15824) a0.length h_a0.len ⟨false, ((⟨0, (⟨zS, zS⟩ : Role), zS, (⟨zS, zS⟩ : Role), (⟨zS, zS⟩ : Role), zS⟩ : Cred)), _, ⟨rfl, rfl⟩, (hST.sublist (List.Sublist.refl _)), e14379, e14380, rfl, rfl, rfl, hm15825⟩ (by decide) (by decide) (by decide) (fun _ _ _ h => by obtain ⟨_, _, _, eIN, _⟩ := h; exact eIN) ?_ ?_
      · rintro i15827 E W hi15833 ⟨x16301, x16302, L16777, ⟨eI, eN⟩, hST, e16779, e16780, e16781, e16782, e16783, hm16778⟩
        obtain ⟨x15828, xs15829, hx15831, hx15830, hx15832⟩ := drop_cons hi15833
        rw [hx15831] at hm16778
        rw [m_ref05_Set_L2] at hm16778
        refine CW_block ?_
        refine CW_seq ?_
        refine CW_region ?_
        refine LQ (R_indexP (enc := encCred) (i := (i15827 : Int)) (x0 := x15828) Try.underlying24 Try.sizeOf36 e16783 eI h_a0 (Int.natCast_nonneg _) hx15830) (fun p16784 hp16785 => ?_)
        refine LV (R_load rfl (load_atA hST.has hp16785 Try.isAgg36 Try.sizeOf36)) ?_
        refine LE (E_alloc hST Try.zeroValue36 (fun W16788 b16787 hST => ?_))
        refine LW_e0 (.inl rfl) rfl (E_store [] (.agg (encCred x15828).toArray) ((encCred x15828).toArray) hST rfl rfl Try.sizeOf36 (oneCred x15828) (Nat.le_of_ble_eq_true rfl) rfl (fun W16789 hST => ?_))
        refine LW_nil ?_
        refine sq_n ?_
        refine CW_seq ?_
        refine PX_start (fun l W => Has (hp w) ((b16787, Obj.cells ((encCred x15828).toArray : Array Value) 36 (0, 0)) :: ((b14381, Obj.cells ((encCred x16302).toArray : Array Value) 36 (0, 0)) :: (R11499 ++ []))) W) Try_mixed ?_
        replace hST := hST.drew
        replace hST : ST true NoF w _ _ ((b16787, Obj.cells ((encCred x15828).toArray : Array Value) 36 (0, 0)) :: ((b14381, Obj.cells ((encCred x16302).toArray : Array Value) 36 (0, 0)) :: (R11499 ++ L16777))) := hST
        have hS0 : Has (hp w) ((b16787, Obj.cells ((encCred x15828).toArray : Array Value) 36 (0, 0)) :: ((b14381, Obj.cells ((encCred x16302).toArray : Array Value) 36 (0, 0)) :: (R11499 ++ []))) _ := hST.has.sub (Sub.refl _) (fun p hq => ((List.mem_cons.1 hq).elim (fun hq => by rw [hq]; exact (.head _)) (fun hq => ((List.mem_cons.1 hq).elim (fun hq => by rw [hq]; exact (.tail _ (.head _))) (fun hq => ((List.mem_append.1 hq).elim (fun hq => (.tail _ (.tail _ (List.mem_append_left _ hq)))) (fun hq => (absurd hq List.not_mem_nil))))))))
        refine PX_v 0 rfl (by kernel_rfl) (.inl rfl) rfl (by decide) (fun _ _ h => h) hS0 (fun l W hpd hs => have hS := hs; R_load (v := (.agg (encCred x15828).toArray)) rfl (load_boxA hS (.head _) (encCred x15828) rfl Try.isAgg36 Try.sizeOf36)) ?_
        obtain ⟨r17096, hr17097, hm16778⟩ := bind_some hm16778
        refine PX_e 1 rfl (by kernel_rfl) (.inl rfl) rfl (by decide) (E_gives (args := [(.agg (encCred x15828).toArray)]) hST rfl Try.call33 (by exact args1 rfl) ((w_ref05_Right x15828 _ _  hr17097)) (fun W17098 hST => ?_))
        have hS0 : Has (hp w) ((b16787, Obj.cells ((encCred x15828).toArray : Array Value) 36 (0, 0)) :: ((b14381, Obj.cells ((encCred x16302).toArray : Array Value) 36 (0, 0)) :: (R11499 ++ []))) _ := hST.has.sub (Sub.refl _) (fun p hq => ((List.mem_cons.1 hq).elim (fun hq => by rw [hq]; exact (.head _)) (fun hq => ((List.mem_cons.1 hq).elim (fun hq => by rw [hq]; exact (.tail _ (.head _))) (fun hq => ((List.mem_append.1 hq).elim (fun hq => (.tail _ (.tail _ (List.mem_append_left _ hq)))) (fun hq => (absurd hq List.not_mem_nil))))))))
        refine ⟨hS0, ?_⟩
        refine PV 2 rfl hS0 (R_move (v := (.bool r17096)) rfl) ?_
        obtain ⟨s17213, hm17214, hm17215⟩ := bind_some hm16778
        refine PX_join (J := fun E W => ∃ (x17134 : Bool) (L17135 : List (Nat × Obj)), ST true NoF w W (hp w) ((b16787, Obj.cells ((encCred x15828).toArray : Array Value) 36 (0, 0)) :: ((b14381, Obj.cells ((encCred x16302).toArray : Array Value) 36 (0, 0)) :: (R11499 ++ L17135))) ∧ E 0 = v_a0 ∧ E 3 = v11496 ∧ E 4 = (.pointer (some ⟨b14381, 0, none⟩)) ∧ E 5 = (.bool x16301) ∧ E 7 = (.pointer (some ⟨b16787, 0, none⟩)) ∧ E 8 = v_a0 ∧ E 9 = (.int .i64 ((a0.length : Int))) ∧ E 10 = (.int .i64 ((i15827 : Int))) ∧ E 31 = (.bool x17134) ∧ (((if x17134 then (((if (!x16301) then some true else (((m_ref05_Compare x15828 x16302)).bind fun r17210 => some ((decide (r17210 < 0))))) : Option Bool).bind fun x17193 => some x17193) else some false) : Option Bool).bind fun x17171 => (if x17171 then (m_ref05_Set_L2 l11497 xs15829 true x15828) else (m_ref05_Set_L2 l11497 xs15829 x16301 x16302))) = some s15824) #[true, true, true, true, true, true, true, true, true, true, true, true, true, true, true, true, true, true, false, false, false, false, false, false, false, false, false, false] 10 ?_ (fun key17216 => ?_)
        · rintro E W ⟨x17134, L17135, hST, e17137, e17138, e17139, e17140, e17141, e17142, e17143, e17144, e17145, hm17136⟩
          have hS0 : Has (hp w) ((b16787, Obj.cells ((encCred x15828).toArray : Array Value) 36 (0, 0)) :: ((b14381, Obj.cells ((encCred x16302).toArray : Array Value) 36 (0, 0)) :: (R11499 ++ []))) _ := hST.has.sub (Sub.refl _) (fun p hq => ((List.mem_cons.1 hq).elim (fun hq => by rw [hq]; exact (.head _)) (fun hq => ((List.mem_cons.1 hq).elim (fun hq => by rw [hq]; exact (.tail _ (.head _))) (fun hq => ((List.mem_append.1 hq).elim (fun hq => (.tail _ (.tail _ (List.mem_append_left _ hq)))) (fun hq => (absurd hq List.not_mem_nil))))))))
          refine PV 18 rfl hS0 (R_move (v := (.bool x17134)) e17145) ?_
          obtain ⟨s17185, hm17186, hm17187⟩ := bind_some hm17136
          refine PX_join (J := fun E W => ∃ (x17171 : Bool) (L17172 : List (Nat × Obj)), ST true NoF w W (hp w) ((b16787, Obj.cells ((encCred x15828).toArray : Array Value) 36 (0, 0)) :: ((b14381, Obj.cells ((encCred x16302).toArray : Array Value) 36 (0, 0)) :: (R11499 ++ L17172))) ∧ E 0 = v_a0 ∧ E 3 = v11496 ∧ E 4 = (.pointer (some ⟨b14381, 0, none⟩)) ∧ E 5 = (.bool x16301) ∧ E 7 = (.pointer (some ⟨b16787, 0, none⟩)) ∧ E 8 = v_a0 ∧ E 9 = (.int .i64 ((a0.length : Int))) ∧ E 10 = (.int .i64 ((i15827 : Int))) ∧ E 41 = (.bool x17171) ∧ (if x17171 then (m_ref05_Set_L2 l11497 xs15829 true x15828) else (m_ref05_Set_L2 l11497 xs15829 x16301 x16302)) = some s15824) #[true, true, true, true, true, true, true, true, true, true, true, true, true, true, true, true, true, true, true, true, true, true, true, true, true, true, true, true] 0 ?_ (fun key17188 => ?_)
          · rintro E W ⟨x17171, L17172, hST, e17174, e17175, e17176, e17177, e17178, e17179, e17180, e17181, e17182, hm17173⟩
            have hS0 : Has (hp w) ((b16787, Obj.cells ((encCred x15828).toArray : Array Value) 36 (0, 0)) :: ((b14381, Obj.cells ((encCred x16302).toArray : Array Value) 36 (0, 0)) :: (R11499 ++ []))) _ := hST.has.sub (Sub.refl _) (fun p hq => ((List.mem_cons.1 hq).elim (fun hq => by rw [hq]; exact (.head _)) (fun hq => ((List.mem_cons.1 hq).elim (fun hq => by rw [hq]; exact (.tail _ (.head _))) (fun hq => ((List.mem_append.1 hq).elim (fun hq => (.tail _ (.tail _ (List.mem_append_left _ hq)))) (fun hq => (absurd hq List.not_mem_nil))))))))
            refine PX_done (by kernel_rfl) ?_
            refine sq_n ?_
            refine CW_if (b := x17171) e17182 (fun hb17183 => ?_) (fun hb17183 => ?_)
            · replace hm17173 := if_t hb17183 hm17173
              refine CW_seq ?_
              refine CW_region ?_
              refine LV (R_load (v := (.agg (encCred x15828).toArray)) e17178 (load_boxA hST.has (.head _) (encCred x15828) rfl Try.isAgg36 Try.sizeOf36)) ?_
              refine LW_e0 (.inl rfl) rfl (E_store [_] (.agg (encCred x15828).toArray) ((encCred x15828).toArray) hST e17176 rfl Try.sizeOf36 (oneCred x15828) (Nat.le_of_ble_eq_true rfl) rfl (fun W17184 hST => ?_))
              refine LW_nil ?_
              refine sq_n ?_
              replace hST : ST true NoF w _ _ ((b16787, Obj.cells ((encCred x15828).toArray : Array Value) 36 (0, 0)) :: ((b14381, Obj.cells ((encCred x15828).toArray : Array Value) 36 (0, 0)) :: (R11499 ++ L17172))) := hST
              replace hST : ST true NoF w _ _ ((b14381, Obj.cells ((encCred x15828).toArray : Array Value) 36 (0, 0)) :: (R11499 ++ L17172)) := hST.sublist (List.Sublist.cons _ (List.Sublist.refl _))
              refine CW_region ?_
              refine LV (R_assign (v := (.bool true)) rfl) ?_
              refine LW_nil ?_
              refine bq_n ?_
              refine sq_n ?_
              exact ⟨e17181, true, x15828, _, ⟨rfl, e17180⟩, (hST.sublist (List.Sublist.refl _)), e17174, e17175, e17176, rfl, e17179, (by rw [hx15832]; exact hm17173)⟩
            · replace hm17173 := if_f hb17183 hm17173
              refine CW_skip ?_
              refine bq_n ?_
              refine sq_n ?_
              replace hST : ST true NoF w _ _ ((b14381, Obj.cells ((encCred x16302).toArray : Array Value) 36 (0, 0)) :: (R11499 ++ L17172)) := hST.sublist (List.Sublist.cons _ (List.Sublist.refl _))
              exact ⟨e17181, x16301, x16302, _, ⟨rfl, e17180⟩, (hST.sublist (List.Sublist.refl _)), e17174, e17175, e17176, e17177, e17179, (by rw [hx15832]; exact hm17173)⟩
          · rcases bool_cases x17134 with hb17146 | hb17146
            · replace hm17186 := if_t hb17146 hm17186
              refine PX_v 19 rfl (by kernel_rfl) (.inr ⟨18, true, 32, rfl, rfl, by decide, (congrArg Value.bool hb17146)⟩) rfl (by decide) (fun _ _ h => h) hS0 (fun _ _ _ _ => R_move (v := (.bool x16301)) e17140) ?_
              refine PX_v 20 rfl (by kernel_rfl) (.inr ⟨18, true, 32, rfl, rfl, by decide, (congrArg Value.bool hb17146)⟩) rfl (by decide) (fun _ _ h => h) hS0 (fun _ _ _ _ => R_not (b := x16301) rfl) ?_
              refine PX_v 21 rfl (by kernel_rfl) (.inr ⟨18, true, 32, rfl, rfl, by decide, (congrArg Value.bool hb17146)⟩) rfl (by decide) (fun _ _ h => h) hS0 (fun _ _ _ _ => R_move (v := (.bool ((!x16301)))) rfl) ?_
              obtain ⟨s17206, hm17207, hm17208⟩ := bind_some hm17186
              refine PX_join (J := fun E W => ∃ (x17193 : Bool) (L17194 : List (Nat × Obj)), ST true NoF w W (hp w) ((b16787, Obj.cells ((encCred x15828).toArray : Array Value) 36 (0, 0)) :: ((b14381, Obj.cells ((encCred x16302).toArray : Array Value) 36 (0, 0)) :: (R11499 ++ L17194))) ∧ E 0 = v_a0 ∧ E 3 = v11496 ∧ E 4 = (.pointer (some ⟨b14381, 0, none⟩)) ∧ E 5 = (.bool x16301) ∧ E 7 = (.pointer (some ⟨b16787, 0, none⟩)) ∧ E 8 = v_a0 ∧ E 9 = (.int .i64 ((a0.length : Int))) ∧ E 10 = (.int .i64 ((i15827 : Int))) ∧ E 32 = (.bool x17134) ∧ E 40 = (.bool x17193) ∧ some x17193 = some s17185) #[true, true, true, true, true, true, true, true, true, true, true, true, true, true, true, true, true, true, true, true, true, true, true, true, true, true, true, false] 1 ?_ (fun key17209 => ?_)
              · rintro E W ⟨x17193, L17194, hST, e17196, e17197, e17198, e17199, e17200, e17201, e17202, e17203, e17204, e17205, hm17195⟩
                have hS0 : Has (hp w) ((b16787, Obj.cells ((encCred x15828).toArray : Array Value) 36 (0, 0)) :: ((b14381, Obj.cells ((encCred x16302).toArray : Array Value) 36 (0, 0)) :: (R11499 ++ []))) _ := hST.has.sub (Sub.refl _) (fun p hq => ((List.mem_cons.1 hq).elim (fun hq => by rw [hq]; exact (.head _)) (fun hq => ((List.mem_cons.1 hq).elim (fun hq => by rw [hq]; exact (.tail _ (.head _))) (fun hq => ((List.mem_append.1 hq).elim (fun hq => (.tail _ (.tail _ (List.mem_append_left _ hq)))) (fun hq => (absurd hq List.not_mem_nil))))))))
                refine PV 27 rfl hS0 (R_pickT (v := (.bool x17193)) (e17204.trans (congrArg Value.bool hb17146)) e17205) ?_
                replace hm17195 := Option.some.inj hm17195; subst hm17195
                refine PX_at (by kernel_rfl) (key17188 _ _ ⟨x17193, _, (hST.sublist (List.Sublist.refl _)), e17196, e17197, e17198, e17199, e17200, e17201, e17202, e17203, rfl, hm17187⟩)
              · rcases bool_cases ((!x16301)) with hb17189 | hb17189
                · replace hm17207 := if_t hb17189 hm17207
                  refine PX_no 22 rfl (by kernel_rfl) rfl rfl (by decide) (congrArg Value.bool hb17189) rfl (by decide) (fun _ _ h => h) hS0 ?_
                  refine PX_no 23 rfl (by kernel_rfl) rfl rfl (by decide) (congrArg Value.bool hb17189) rfl (by decide) (fun _ _ h => h) hS0 ?_
                  refine PX_no 24 rfl (by kernel_rfl) rfl rfl (by decide) (congrArg Value.bool hb17189) rfl (by decide) (fun _ _ h => h) hS0 ?_
                  refine PX_no 25 rfl (by kernel_rfl) rfl rfl (by decide) (congrArg Value.bool hb17189) rfl (by decide) (fun _ _ h => h) hS0 ?_
                  refine PX_v 26 rfl (by kernel_rfl) (.inr ⟨18, true, 32, rfl, rfl, by decide, (congrArg Value.bool hb17146)⟩) rfl (by decide) (fun _ _ h => h) hS0 (fun _ _ _ _ => R_pickT (v := (.bool true)) (congrArg Value.bool hb17189) rfl) ?_
                  replace hm17207 := Option.some.inj hm17207; subst hm17207
                  refine PX_at (by kernel_rfl) (key17209 _ _ ⟨true, _, (hST.sublist (List.Sublist.refl _)), e17137, e17138, e17139, e17140, e17141, e17142, e17143, e17144, rfl, rfl, hm17208⟩)
                · replace hm17207 := if_f hb17189 hm17207
                  refine PX_v 22 rfl (by kernel_rfl) (.inr ⟨21, false, 35, rfl, rfl, by decide, (congrArg Value.bool hb17189)⟩) rfl (by decide) (fun _ _ h => h) hS0 (fun l W hpd hs => have hS := hs; R_load (v := (.agg (encCred x15828).toArray)) e17141 (load_boxA hS (.head _) (encCred x15828) rfl Try.isAgg36 Try.sizeOf36)) ?_
                  refine PX_v 23 rfl (by kernel_rfl) (.inr ⟨21, false, 35, rfl, rfl, by decide, (congrArg Value.bool hb17189)⟩) rfl (by decide) (fun _ _ h => h) hS0 (fun l W hpd hs => have hS := hs; R_load (v := (.agg (encCred x16302).toArray)) e17139 (load_boxA hS (.tail _ (.head _)) (encCred x16302) rfl Try.isAgg36 Try.sizeOf36)) ?_
                  obtain ⟨r17210, hr17211, hm17207⟩ := bind_some hm17207
                  refine PX_e 24 rfl (by kernel_rfl) (.inr ⟨21, false, 35, rfl, rfl, by decide, (congrArg Value.bool hb17189)⟩) rfl (by decide) (E_gives (args := [(.agg (encCred x15828).toArray), (.agg (encCred x16302).toArray)]) hST rfl Try.call34 (by exact args2 rfl rfl) ((w_ref05_Compare x15828 x16302 _ _  hr17211)) (fun W17212 hST => ?_))
                  have hS0 : Has (hp w) ((b16787, Obj.cells ((encCred x15828).toArray : Array Value) 36 (0, 0)) :: ((b14381, Obj.cells ((encCred x16302).toArray : Array Value) 36 (0, 0)) :: (R11499 ++ []))) _ := hST.has.sub (Sub.refl _) (fun p hq => ((List.mem_cons.1 hq).elim (fun hq => by rw [hq]; exact (.head _)) (fun hq => ((List.mem_cons.1 hq).elim (fun hq => by rw [hq]; exact (.tail _ (.head _))) (fun hq => ((List.mem_append.1 hq).elim (fun hq => (.tail _ (.tail _ (List.mem_append_left _ hq)))) (fun hq => (absurd hq List.not_mem_nil))))))))
                  refine ⟨hS0, ?_⟩
                  refine PX_v 25 rfl (by kernel_rfl) (.inr ⟨21, false, 35, rfl, rfl, by decide, (congrArg Value.bool hb17189)⟩) rfl (by decide) (fun _ _ h => h) hS0 (fun _ _ _ _ => R_int (k := .i64) (a := r17210) (b := 0) (v := (.bool ((decide (r17210 < 0))))) rfl rfl rfl) ?_
                  refine PX_v 26 rfl (by kernel_rfl) (.inr ⟨18, true, 32, rfl, rfl, by decide, (congrArg Value.bool hb17146)⟩) rfl (by decide) (fun _ _ h => h) hS0 (fun _ _ _ _ => R_pickF (v := (.bool ((decide (r17210 < 0))))) (congrArg Value.bool hb17189) rfl) ?_
                  replace hm17207 := Option.some.inj hm17207; subst hm17207
                  refine PX_at (by kernel_rfl) (key17209 _ _ ⟨((decide (r17210 < 0))), _, (hST.sublist (List.Sublist.refl _)), e17137, e17138, e17139, e17140, e17141, e17142, e17143, e17144, rfl, rfl, hm17208⟩)
            · replace hm17186 := if_f hb17146 hm17186
              refine PX_no 19 rfl (by kernel_rfl) rfl rfl (by decide) (congrArg Value.bool hb17146) rfl (by decide) (fun _ _ h => h) hS0 ?_
              refine PX_no 20 rfl (by kernel_rfl) rfl rfl (by decide) (congrArg Value.bool hb17146) rfl (by decide) (fun _ _ h => h) hS0 ?_
              refine PX_no 21 rfl (by kernel_rfl) rfl rfl (by decide) (congrArg Value.bool hb17146) rfl (by decide) (fun _ _ h => h) hS0 ?_
              refine PX_nou 22 rfl (by kernel_rfl) rfl rfl (by decide) rfl rfl (by decide) (fun _ _ h => h) hS0 ?_
              refine PX_nou 23 rfl (by kernel_rfl) rfl rfl (by decide) rfl rfl (by decide) (fun _ _ h => h) hS0 ?_
              refine PX_nou 24 rfl (by kernel_rfl) rfl rfl (by decide) rfl rfl (by decide) (fun _ _ h => h) hS0 ?_
              refine PX_nou 25 rfl (by kernel_rfl) rfl rfl (by decide) rfl rfl (by decide) (fun _ _ h => h) hS0 ?_
              refine PX_no 26 rfl (by kernel_rfl) rfl rfl (by decide) (congrArg Value.bool hb17146) rfl (by decide) (fun _ _ h => h) hS0 ?_
              refine PV 27 rfl hS0 (R_pickF (v := (.bool false)) (congrArg Value.bool hb17146) rfl) ?_
              replace hm17186 := Option.some.inj hm17186; subst hm17186
              refine PX_at (by kernel_rfl) (key17188 _ _ ⟨false, _, (hST.sublist (List.Sublist.refl _)), e17137, e17138, e17139, e17140, e17141, e17142, e17143, e17144, rfl, hm17187⟩)
        · rcases bool_cases r17096 with hb17099 | hb17099
          · replace hm17214 := if_t hb17099 hm17214
            refine PX_v 3 rfl (by kernel_rfl) (.inr ⟨2, true, 16, rfl, rfl, by decide, (congrArg Value.bool hb17099)⟩) rfl (by decide) (fun _ _ h => h) hS0 (fun _ _ _ _ => R_move (v := v11496) e16780) ?_
            refine PX_v 4 rfl (by kernel_rfl) (.inr ⟨2, true, 16, rfl, rfl, by decide, (congrArg Value.bool hb17099)⟩) rfl (by decide) (fun _ _ h => h) hS0 (fun _ _ _ _ => R_lenRow Try.underlying24 rfl hs11498) ?_
            refine PX_v 5 rfl (by kernel_rfl) (.inr ⟨2, true, 16, rfl, rfl, by decide, (congrArg Value.bool hb17099)⟩) rfl (by decide) (fun _ _ h => h) hS0 (fun _ _ _ _ => R_int (k := .i64) (a := ((l11497.length : Int))) (b := 0) (v := (.bool ((((l11497.length : Int)) == 0)))) rfl rfl rfl) ?_
            refine PX_v 6 rfl (by kernel_rfl) (.inr ⟨2, true, 16, rfl, rfl, by decide, (congrArg Value.bool hb17099)⟩) rfl (by decide) (fun _ _ h => h) hS0 (fun _ _ _ _ => R_move (v := (.bool ((((l11497.length : Int)) == 0)))) rfl) ?_
            obtain ⟨s17239, hm17240, hm17241⟩ := bind_some hm17214
            refine PX_join (J := fun E W => ∃ (x17226 : Bool) (L17227 : List (Nat × Obj)), ST true NoF w W (hp w) ((b16787, Obj.cells ((encCred x15828).toArray : Array Value) 36 (0, 0)) :: ((b14381, Obj.cells ((encCred x16302).toArray : Array Value) 36 (0, 0)) :: (R11499 ++ L17227))) ∧ E 0 = v_a0 ∧ E 3 = v11496 ∧ E 4 = (.pointer (some ⟨b14381, 0, none⟩)) ∧ E 5 = (.bool x16301) ∧ E 7 = (.pointer (some ⟨b16787, 0, none⟩)) ∧ E 8 = v_a0 ∧ E 9 = (.int .i64 ((a0.length : Int))) ∧ E 10 = (.int .i64 ((i15827 : Int))) ∧ E 16 = (.bool r17096) ∧ E 30 = (.bool x17226) ∧ some x17226 = some s17213) #[true, true, true, true, true, true, true, true, true, true, true, true, true, true, true, true, true, false, false, false, false, false, false, false, false, false, false, false] 11 ?_ (fun key17242 => ?_)
            · rintro E W ⟨x17226, L17227, hST, e17229, e17230, e17231, e17232, e17233, e17234, e17235, e17236, e17237, e17238, hm17228⟩
              have hS0 : Has (hp w) ((b16787, Obj.cells ((encCred x15828).toArray : Array Value) 36 (0, 0)) :: ((b14381, Obj.cells ((encCred x16302).toArray : Array Value) 36 (0, 0)) :: (R11499 ++ []))) _ := hST.has.sub (Sub.refl _) (fun p hq => ((List.mem_cons.1 hq).elim (fun hq => by rw [hq]; exact (.head _)) (fun hq => ((List.mem_cons.1 hq).elim (fun hq => by rw [hq]; exact (.tail _ (.head _))) (fun hq => ((List.mem_append.1 hq).elim (fun hq => (.tail _ (.tail _ (List.mem_append_left _ hq)))) (fun hq => (absurd hq List.not_mem_nil))))))))
              refine PV 17 rfl hS0 (R_pickT (v := (.bool x17226)) (e17237.trans (congrArg Value.bool hb17099)) e17238) ?_
              replace hm17228 := Option.some.inj hm17228; subst hm17228
              refine PX_at (by kernel_rfl) (key17216 _ _ ⟨x17226, _, (hST.sublist (List.Sublist.refl _)), e17229, e17230, e17231, e17232, e17233, e17234, e17235, e17236, rfl, hm17215⟩)
            · rcases bool_cases ((((l11497.length : Int)) == 0)) with hb17217 | hb17217
              · replace hm17240 := if_t hb17217 hm17240
                refine PX_no 7 rfl (by kernel_rfl) rfl rfl (by decide) (congrArg Value.bool hb17217) rfl (by decide) (fun _ _ h => h) hS0 ?_
                refine PX_no 8 rfl (by kernel_rfl) rfl rfl (by decide) (congrArg Value.bool hb17217) rfl (by decide) (fun _ _ h => h) hS0 ?_
                refine PX_no 9 rfl (by kernel_rfl) rfl rfl (by decide) (congrArg Value.bool hb17217) rfl (by decide) (fun _ _ h => h) hS0 ?_
                refine PX_no 10 rfl (by kernel_rfl) rfl rfl (by decide) (congrArg Value.bool hb17217) rfl (by decide) (fun _ _ h => h) hS0 ?_
                refine PX_no 11 rfl (by kernel_rfl) rfl rfl (by decide) (congrArg Value.bool hb17217) rfl (by decide) (fun _ _ h => h) hS0 ?_
                refine PX_no 12 rfl (by kernel_rfl) rfl rfl (by decide) (congrArg Value.bool hb17217) rfl (by decide) (fun _ _ h => h) hS0 ?_
                refine PX_no 13 rfl (by kernel_rfl) rfl rfl (by decide) (congrArg Value.bool hb17217) rfl (by decide) (fun _ _ h => h) hS0 ?_
                refine PX_no 14 rfl (by kernel_rfl) rfl rfl (by decide) (congrArg Value.bool hb17217) rfl (by decide) (fun _ _ h => h) hS0 ?_
                refine PX_no 15 rfl (by kernel_rfl) rfl rfl (by decide) (congrArg Value.bool hb17217) rfl (by decide) (fun _ _ h => h) hS0 ?_
                refine PX_v 16 rfl (by kernel_rfl) (.inr ⟨2, true, 16, rfl, rfl, by decide, (congrArg Value.bool hb17099)⟩) rfl (by decide) (fun _ _ h => h) hS0 (fun _ _ _ _ => R_pickT (v := (.bool true)) (congrArg Value.bool hb17217) rfl) ?_
                replace hm17240 := Option.some.inj hm17240; subst hm17240
                refine PX_at (by kernel_rfl) (key17242 _ _ ⟨true, _, (hST.sublist (List.Sublist.refl _)), e16779, e16780, e16781, e16782, rfl, e16783, eN, eI, rfl, rfl, hm17241⟩)
              · replace hm17240 := if_f hb17217 hm17240
                refine PX_v 7 rfl (by kernel_rfl) (.inr ⟨6, false, 20, rfl, rfl, by decide, (congrArg Value.bool hb17217)⟩) rfl (by decide) (fun _ _ h => h) hS0 (fun _ _ _ _ => R_move (v := v11496) e16780) ?_
                refine PX_v 8 rfl (by kernel_rfl) (.inr ⟨6, false, 20, rfl, rfl, by decide, (congrArg Value.bool hb17217)⟩) rfl (by decide) (fun _ _ h => h) hS0 (fun _ _ _ _ => R_move (v := v11496) e16780) ?_
                refine PX_v 9 rfl (by kernel_rfl) (.inr ⟨6, false, 20, rfl, rfl, by decide, (congrArg Value.bool hb17217)⟩) rfl (by decide) (fun _ _ h => h) hS0 (fun _ _ _ _ => R_lenRow Try.underlying24 rfl hs11498) ?_
                refine PX_v 10 rfl (by kernel_rfl) (.inr ⟨6, false, 20, rfl, rfl, by decide, (congrArg Value.bool hb17217)⟩) rfl (by decide) (fun _ _ h => h) hS0 (fun _ _ _ _ => R_int (k := .i64) (a := ((l11497.length : Int))) (b := 1) (v := (.int .i64 ((IntKind.i64.wrap (((l11497.length : Int)) - 1))))) rfl rfl rfl) ?_
                obtain ⟨x17246, hx17247, hm17240⟩ := bind_some hm17240
                refine PX_q 11 rfl (by kernel_rfl) (.inr ⟨6, false, 20, rfl, rfl, by decide, (congrArg Value.bool hb17217)⟩) rfl (by decide) (fun _ _ h => h) hS0 (R_indexRow (i := (IntKind.i64.wrap (((l11497.length : Int)) - 1))) (x0 := x17246) Try.underlying24 Try.sizeOf36 rfl rfl hs11498 (idx_nonneg hx17247) (idx_get hx17247)) (fun p17243 hp17244 => ?_)
                refine PX_v 12 rfl (by kernel_rfl) (.inr ⟨6, false, 20, rfl, rfl, by decide, (congrArg Value.bool hb17217)⟩) rfl (by decide) (fun _ _ h => h) hS0 (fun l W hpd hs => have hS := hs; R_load (v := (.agg (encCred x17246).toArray)) rfl (load_ixA hS (fun p hq => by simp [hq]) hs11498 lenCred hp17244 (idx_get hx17247) Try.isAgg36 Try.sizeOf36)) ?_
                refine PX_v 13 rfl (by kernel_rfl) (.inr ⟨6, false, 20, rfl, rfl, by decide, (congrArg Value.bool hb17217)⟩) rfl (by decide) (fun _ _ h => h) hS0 (fun l W hpd hs => have hS := hs; R_load (v := (.agg (encCred x15828).toArray)) rfl (load_boxA hS (.head _) (encCred x15828) rfl Try.isAgg36 Try.sizeOf36)) ?_
                obtain ⟨r17248, hr17249, hm17240⟩ := bind_some hm17240
                refine PX_e 14 rfl (by kernel_rfl) (.inr ⟨6, false, 20, rfl, rfl, by decide, (congrArg Value.bool hb17217)⟩) rfl (by decide) (E_gives (args := [(.agg (encCred x17246).toArray), (.agg (encCred x15828).toArray)]) hST rfl Try.call34 (by exact args2 rfl rfl) ((w_ref05_Compare x17246 x15828 _ _  hr17249)) (fun W17250 hST => ?_))
                have hS0 : Has (hp w) ((b16787, Obj.cells ((encCred x15828).toArray : Array Value) 36 (0, 0)) :: ((b14381, Obj.cells ((encCred x16302).toArray : Array Value) 36 (0, 0)) :: (R11499 ++ []))) _ := hST.has.sub (Sub.refl _) (fun p hq => ((List.mem_cons.1 hq).elim (fun hq => by rw [hq]; exact (.head _)) (fun hq => ((List.mem_cons.1 hq).elim (fun hq => by rw [hq]; exact (.tail _ (.head _))) (fun hq => ((List.mem_append.1 hq).elim (fun hq => (.tail _ (.tail _ (List.mem_append_left _ hq)))) (fun hq => (absurd hq List.not_mem_nil))))))))
                refine ⟨hS0, ?_⟩
                refine PX_v 15 rfl (by kernel_rfl) (.inr ⟨6, false, 20, rfl, rfl, by decide, (congrArg Value.bool hb17217)⟩) rfl (by decide) (fun _ _ h => h) hS0 (fun _ _ _ _ => R_int (k := .i64) (a := r17248) (b := 0) (v := (.bool ((decide (r17248 < 0))))) rfl rfl rfl) ?_
                refine PX_v 16 rfl (by kernel_rfl) (.inr ⟨2, true, 16, rfl, rfl, by decide, (congrArg Value.bool hb17099)⟩) rfl (by decide) (fun _ _ h => h) hS0 (fun _ _ _ _ => R_pickF (v := (.bool ((decide (r17248 < 0))))) (congrArg Value.bool hb17217) rfl) ?_
                replace hm17240 := Option.some.inj hm17240; subst hm17240
                refine PX_at (by kernel_rfl) (key17242 _ _ ⟨((decide (r17248 < 0))), _, (hST.sublist (List.Sublist.refl _)), e16779, e16780, e16781, e16782, rfl, e16783, eN, eI, rfl, rfl, hm17241⟩)
          · replace hm17214 := if_f hb17099 hm17214
            refine PX_no 3 rfl (by kernel_rfl) rfl rfl (by decide) (congrArg Value.bool hb17099) rfl (by decide) (fun _ _ h => h) hS0 ?_
            refine PX_no 4 rfl (by kernel_rfl) rfl rfl (by decide) (congrArg Value.bool hb17099) rfl (by decide) (fun _ _ h => h) hS0 ?_
            refine PX_no 5 rfl (by kernel_rfl) rfl rfl (by decide) (congrArg Value.bool hb17099) rfl (by decide) (fun _ _ h => h) hS0 ?_
            refine PX_no 6 rfl (by kernel_rfl) rfl rfl (by decide) (congrArg Value.bool hb17099) rfl (by decide) (fun _ _ h => h) hS0 ?_
            refine PX_nou 7 rfl (by kernel_rfl) rfl rfl (by decide) rfl rfl (by decide) (fun _ _ h => h) hS0 ?_
            refine PX_nou 8 rfl (by kernel_rfl) rfl rfl (by decide) rfl rfl (by decide) (fun _ _ h => h) hS0 ?_
            refine PX_nou 9 rfl (by kernel_rfl) rfl rfl (by decide) rfl rfl (by decide) (fun _ _ h => h) hS0 ?_
            refine PX_nou 10 rfl (by kernel_rfl) rfl rfl (by decide) rfl rfl (by decide) (fun _ _ h => h) hS0 ?_
            refine PX_nou 11 rfl (by kernel_rfl) rfl rfl (by decide) rfl rfl (by decide) (fun _ _ h => h) hS0 ?_
            refine PX_nou 12 rfl (by kernel_rfl) rfl rfl (by decide) rfl rfl (by decide) (fun _ _ h => h) hS0 ?_
            refine PX_nou 13 rfl (by kernel_rfl) rfl rfl (by decide) rfl rfl (by decide) (fun _ _ h => h) hS0 ?_
            refine PX_nou 14 rfl (by kernel_rfl) rfl rfl (by decide) rfl rfl (by decide) (fun _ _ h => h) hS0 ?_
            refine PX_nou 15 rfl (by kernel_rfl) rfl rfl (by decide) rfl rfl (by decide) (fun _ _ h => h) hS0 ?_
            refine PX_no 16 rfl (by kernel_rfl) rfl rfl (by decide) (congrArg Value.bool hb17099) rfl (by decide) (fun _ _ h => h) hS0 ?_
            refine PV 17 rfl hS0 (R_pickF (v := (.bool false)) (congrArg Value.bool hb17099) rfl) ?_
            replace hm17214 := Option.some.inj hm17214; subst hm17214
            refine PX_at (by kernel_rfl) (key17216 _ _ ⟨false, _, (hST.sublist (List.Sublist.refl _)), e16779, e16780, e16781, e16782, rfl, e16783, eN, eI, rfl, hm17215⟩)
      · rintro E W ⟨x16301, x16302, L16777, ⟨eI, eN⟩, hST, e16779, e16780, e16781, e16782, e16783, hm16778⟩
        rw [List.drop_length] at hm16778
        rw [m_ref05_Set_L2] at hm16778
        refine sq_n ?_
        replace hm16778 := Option.some.inj hm16778; subst hm16778
        exact ⟨x16301, x16302, _, (hST.sublist (List.Sublist.refl _)), e16779, e16780, e16781, e16782, hm15826⟩
    · rintro E W ⟨x15807, x15808, L15809, hST, e15811, e15812, e15813, e15814, hm15810⟩
      refine CW_seq ?_
      refine CW_seq ?_
      refine CW_region ?_
      refine LV (R_move (v := (.bool x15807)) e15814) ?_
      refine LV (R_not (b := x15807) rfl) ?_
      refine LW_nil ?_
      refine sq_n ?_
      refine CW_if (b := (!x15807)) rfl (fun hb15815 => ?_) (fun hb15815 => ?_)
      · replace hm15810 := if_t hb15815 hm15810
        refine CW_seq ?_
        refine CW_region ?_
        refine LV (R_move (v := v11496) e15812) ?_
        refine LV (R_assign (v := v11496) rfl) ?_
        refine LW_nil ?_
        refine sq_n ?_
        replace hST : ST true NoF w _ _ (R11499 ++ L15809) := hST.sublist (List.Sublist.cons _ (List.Sublist.refl _))
        refine CW_ret ?_
        refine sq_r (bq_r (sq_r (bq_r (sq_r ?_))))
        replace hm15810 := Option.some.inj hm15810; subst hm15810
        refine retQ_1 (v := v11496) rfl rfl ?_
        exact ⟨_, R11499, rfl, hST.backRow (fun p hq => by simp [hq]) hs11498.nd, hs11498⟩
      · replace hm15810 := if_f hb15815 hm15810
        refine CW_skip ?_
        refine sq_n ?_
        refine CW_region ?_
        refine LV (R_move (v := v11496) e15812) ?_
        refine LV (R_load (v := (.agg (encCred x15808).toArray)) e15813 (load_boxA hST.has (.head _) (encCred x15808) rfl Try.isAgg36 Try.sizeOf36)) ?_
        refine LE (E_buildSlice (qs := #[(0, (.agg (encCred x15808).toArray))]) (cs := (encCred x15808).toArray) hST (parts1 rfl) (run_lit [(.agg (encCred x15808).toArray)] Try.underlying24 Try.sizeOf36 Try.zeroValue36 (by decide) rfl (by intro v hv; simp only [List.mem_cons, List.not_mem_nil, or_false] at hv; rcases hv with rfl <;> rfl) rfl rfl) (fun W15817 b15816 hST => ?_))
        obtain ⟨l15818, hb15819, hm15810⟩ := bind_some hm15810
        refine LE (E_append (enc := encCred) (v := v11496) (vs := (.slice (some ⟨b15816, 0, none⟩) 1 1)) (R := R11499) [_, _] hST lenCred (by decide) oneCred Try.underlying24 info36.1 info36.2.1 rfl info36.2.2.1 info36.2.2.2 rfl rfl hs11498 (Sl.lit (enc := encCred) (l := [x15808]) lenCred rfl (Nat.le_of_ble_eq_true rfl) rfl (hST.at_ (.head _))) hb15819 (fun W15820 v15823 R15821 hST hR15822 => ?_))
        refine LV (R_assign (v := v15823) rfl) ?_
        refine LW_nil ?_
        refine bq_n ?_
        refine sq_n ?_
        replace hST : ST true NoF w _ _ ((b15816, Obj.cells ((encCred x15808).toArray : Array Value) 36 (0, 0)) :: ((b14381, Obj.cells ((encCred x15808).toArray : Array Value) 36 (0, 0)) :: (R15821 ++ L15809))) := hST
        replace hST : ST true NoF w _ _ (R15821 ++ L15809) := hST.sublist (List.Sublist.cons _ (List.Sublist.cons _ (List.Sublist.refl _)))
        exact ⟨n14378, Nat.lt_succ_self _, v15823, l15818, R15821, _, (hST.sublist (List.Sublist.refl _)), e15811, rfl, hR15822, hm15810⟩
theorem w_ref03_Set (v_a0 : Value) (a0 : List ByteArray) (r : List ByteArray) (w : World) (h_a0 : Sl (Pl encSk) 1 (hp w) v_a0 a0) (hm : m_ref03_Set a0 = some r) :
    GivesRow true Try.prog 32 [v_a0] w 9 encSk 1 r := by
  have hST := ST.start (dd := true) w
  unfold m_ref03_Set at hm
  refine calls_of_CW (n := 48) Try.func32 rfl rfl (Nat.le_of_ble_eq_true rfl) ?_
  refine CW_seq ?_
  refine CW_region ?_
  refine LV (R_assign (v := (.slice none 0 0)) rfl) ?_
  refine LW_nil ?_
  refine sq_n ?_
  refine CW_seq ?_
  refine CW_region ?_
  refine LV (R_assign (v := (.slice none 0 0)) rfl) ?_
  refine LW_nil ?_
  refine sq_n ?_
  refine CW_tail ?_
  refine CW_block (CW_loop (fun m E W => ∃ (v3288 : Value) (l3289 : List ByteArray) (R3291 : List (Nat × Obj)) (L4116 : List (Nat × Obj)), ST true NoF w W (hp w) (R3291 ++ L4116) ∧ E 0 = v_a0 ∧ E 3 = v3288 ∧ Row 9 encSk 1 v3288 l3289 R3291 ∧ m_ref03_Set_L1 a0 m l3289 = some r) FUEL ⟨(.slice none 0 0), ([]), [], _, (hST.sublist (List.Sublist.refl _)), rfl, rfl, (Row.nil _ _ _), hm⟩ ?_)
  rintro m E W ⟨v3288, l3289, R3291, L4116, hST, e4119, e4120, hs3290, hm4117⟩
  cases m with
  | zero => rw [m_ref03_Set_L1] at hm4117; cases hm4117
  | succ n4118 =>
    rw [m_ref03_Set_L1] at hm4117
    refine CW_block ?_
    refine CW_seq ?_
    refine CW_region ?_
    refine LV (R_assign (v := (.string zS)) rfl) ?_
    refine LW_nil ?_
    refine sq_n ?_
    refine CW_seq ?_
    refine CW_seq ?_
    refine CW_region ?_
    refine LV (R_move (v := v_a0) e4119) ?_
    refine LV (R_len Try.underlying37 rfl h_a0) ?_
    refine LV (R_move (v := (.int .i64 0)) rfl) ?_
    refine LW_nil ?_
    refine sq_n ?_
    obtain ⟨s4536, hm4537, hm4538⟩ := bind_some hm4117
    refine CW_cut (fun E W => ∃ (x4521 : ByteArray) (L4522 : List (Nat × Obj)), ST true NoF w W (hp w) (R3291 ++ L4522) ∧ E 0 = v_a0 ∧ E 3 = v3288 ∧ E 4 = (.string x4521) ∧ (if (beqS x4521 zS) then some l3289 else (((appB 16 l3289 ([x4521]))).bind fun l4530 => (m_ref03_Set_L1 a0 n4118 l4530))) = some r) ?_ ?_
    · refine CW_range (fun i E W => ∃ (x4673 : ByteArray) (L4806 : List (Nat × Obj)), (E 9 = .int .i64 (i : Nat) ∧ E 8 = .int .i64 (a0.length : Nat)) ∧ ST true NoF w W (hp w) (R3291 ++ L4806) ∧ E 0 = v_a0 ∧ E 3 = v3288 ∧ E 4 = (.string x4673) ∧ E 7 = v_a0 ∧ m_ref03_Set_L2 l3289 (a0.drop i) x4673 = some s4536) a0.length h_a0.len ⟨zS, _, ⟨rfl, rfl⟩, (hST.sublist (List.Sublist.refl _)), e4119, e4120, rfl, rfl, hm4537⟩ (by decide) (by decide) (by decide) (fun _ _ _ h => by obtain ⟨_, _, eIN, _⟩ := h; exact eIN) ?_ ?_
      · rintro i4539 E W hi4545 ⟨x4673, L4806, ⟨eI, eN⟩, hST, e4808, e4809, e4810, e4811, hm4807⟩
        obtain ⟨x4540, xs4541, hx4543, hx4542, hx4544⟩ := drop_cons hi4545
        rw [hx4543] at hm4807
        rw [m_ref03_Set_L2] at hm4807
        refine CW_block ?_
        refine CW_seq ?_
        refine CW_region ?_
        refine LQ (R_indexP (enc := encSk) (i := (i4539 : Int)) (x0 := x4540) Try.underlying37 Try.sizeOf9 e4811 eI h_a0 (Int.natCast_nonneg _) hx4542) (fun p4812 hp4813 => ?_)
        refine LV (R_load rfl (load_at1 hST.has (y := (.string x4540)) hp4813 Try.isAgg9)) ?_
        refine LV (R_assign (v := (.string x4540)) rfl) ?_
        refine LW_nil ?_
        refine sq_n ?_
        refine CW_seq ?_
        refine CW_region ?_
        refine LV (R_move (v := (.string x4540)) rfl) ?_
        obtain ⟨r4815, hr4816, hm4807⟩ := bind_some hm4807
        refine LE (E_gives (args := [(.string x4540)]) hST rfl Try.call50 (by exact args1 rfl) ((w_ref03_Right x4540 _ _  hr4816)) (fun W4817 hST => ?_))
        refine LV (R_move (v := (.bool r4815)) rfl) ?_
        obtain ⟨s4908, hm4909, hm4910⟩ := bind_some hm4807
        refine LW_join (J := fun E W => ∃ (x4846 : Bool) (L4847 : List (Nat × Obj)), ST true NoF w W (hp w) (R3291 ++ L4847) ∧ E 0 = v_a0 ∧ E 3 = v3288 ∧ E 4 = (.string x4673) ∧ E 6 = (.string x4540) ∧ E 7 = v_a0 ∧ E 8 = (.int .i64 ((a0.length : Int))) ∧ E 9 = (.int .i64 ((i4539 : Int))) ∧ E 29 = (.bool x4846) ∧ (((if x4846 then (((if (beqS x4673 zS) then some true else some ((ltS x4540 x4673))) : Option Bool).bind fun x4892 => some x4892) else some false) : Option Bool).bind fun x4875 => (if x4875 then (m_ref03_Set_L2 l3289 xs4541 x4540) else (m_ref03_Set_L2 l3289 xs4541 x4673))) = some s4536) 14 ?_ (fun key4911 => ?_)
        · rintro E W ⟨x4846, L4847, hST, e4849, e4850, e4851, e4852, e4853, e4854, e4855, e4856, hm4848⟩
          refine LV (R_move (v := (.bool x4846)) e4856) ?_
          obtain ⟨s4887, hm4888, hm4889⟩ := bind_some hm4848
          refine LW_join (J := fun E W => ∃ (x4875 : Bool) (L4876 : List (Nat × Obj)), ST true NoF w W (hp w) (R3291 ++ L4876) ∧ E 0 = v_a0 ∧ E 3 = v3288 ∧ E 4 = (.string x4673) ∧ E 6 = (.string x4540) ∧ E 7 = v_a0 ∧ E 8 = (.int .i64 ((a0.length : Int))) ∧ E 9 = (.int .i64 ((i4539 : Int))) ∧ E 38 = (.bool x4875) ∧ (if x4875 then (m_ref03_Set_L2 l3289 xs4541 x4540) else (m_ref03_Set_L2 l3289 xs4541 x4673)) = some s4536) 8 ?_ (fun key4890 => ?_)
          · rintro E W ⟨x4875, L4876, hST, e4878, e4879, e4880, e4881, e4882, e4883, e4884, e4885, hm4877⟩
            refine LW_nil ?_
            refine sq_n ?_
            refine CW_if (b := x4875) e4885 (fun hb4886 => ?_) (fun hb4886 => ?_)
            · replace hm4877 := if_t hb4886 hm4877
              refine CW_region ?_
              refine LV (R_move (v := (.string x4540)) e4881) ?_
              refine LV (R_assign (v := (.string x4540)) rfl) ?_
              refine LW_nil ?_
              refine bq_n ?_
              refine sq_n ?_
              exact ⟨e4884, x4540, _, ⟨rfl, e4883⟩, (hST.sublist (List.Sublist.refl _)), e4878, e4879, rfl, e4882, (by rw [hx4544]; exact hm4877)⟩
            · replace hm4877 := if_f hb4886 hm4877
              refine CW_skip ?_
              refine bq_n ?_
              refine sq_n ?_
              exact ⟨e4884, x4673, _, ⟨rfl, e4883⟩, (hST.sublist (List.Sublist.refl _)), e4878, e4879, e4880, e4882, (by rw [hx4544]; exact hm4877)⟩
          · rcases bool_cases x4846 with hb4857 | hb4857
            · replace hm4888 := if_t hb4857 hm4888
              refine LW_v (.inr ⟨17, true, 30, rfl, rfl, by decide, (congrArg Value.bool hb4857)⟩) rfl (by decide) (R_move (v := (.string x4673)) e4851) ?_
              refine LW_v (.inr ⟨17, true, 30, rfl, rfl, by decide, (congrArg Value.bool hb4857)⟩) rfl (by decide) (R_str (a := x4673) (b := zS) (v := (.bool ((beqS x4673 zS)))) rfl rfl rfl) ?_
              refine LW_v (.inr ⟨17, true, 30, rfl, rfl, by decide, (congrArg Value.bool hb4857)⟩) rfl (by decide) (R_move (v := (.bool ((beqS x4673 zS)))) rfl) ?_
              obtain ⟨s4904, hm4905, hm4906⟩ := bind_some hm4888
              refine LW_join (J := fun E W => ∃ (x4892 : Bool) (L4893 : List (Nat × Obj)), ST true NoF w W (hp w) (R3291 ++ L4893) ∧ E 0 = v_a0 ∧ E 3 = v3288 ∧ E 4 = (.string x4673) ∧ E 6 = (.string x4540) ∧ E 7 = v_a0 ∧ E 8 = (.int .i64 ((a0.length : Int))) ∧ E 9 = (.int .i64 ((i4539 : Int))) ∧ E 30 = (.bool x4846) ∧ E 37 = (.bool x4892) ∧ some x4892 = some s4887) 4 ?_ (fun key4907 => ?_)
              · rintro E W ⟨x4892, L4893, hST, e4895, e4896, e4897, e4898, e4899, e4900, e4901, e4902, e4903, hm4894⟩
                refine LV (R_pickT (v := (.bool x4892)) (e4902.trans (congrArg Value.bool hb4857)) e4903) ?_
                replace hm4894 := Option.some.inj hm4894; subst hm4894
                exact key4890 _ _ ⟨x4892, _, (hST.sublist (List.Sublist.refl _)), e4895, e4896, e4897, e4898, e4899, e4900, e4901, rfl, hm4889⟩
              · rcases bool_cases ((beqS x4673 zS)) with hb4891 | hb4891
                · replace hm4905 := if_t hb4891 hm4905
                  refine LW_no rfl (by decide) rfl rfl (by decide) (congrArg Value.bool hb4891) ?_
                  refine LW_no rfl (by decide) rfl rfl (by decide) (congrArg Value.bool hb4891) ?_
                  refine LW_no rfl (by decide) rfl rfl (by decide) (congrArg Value.bool hb4891) ?_
                  refine LW_v (.inr ⟨17, true, 30, rfl, rfl, by decide, (congrArg Value.bool hb4857)⟩) rfl (by decide) (R_pickT (v := (.bool true)) (congrArg Value.bool hb4891) rfl) ?_
                  replace hm4905 := Option.some.inj hm4905; subst hm4905
                  exact key4907 _ _ ⟨true, _, (hST.sublist (List.Sublist.refl _)), e4849, e4850, e4851, e4852, e4853, e4854, e4855, rfl, rfl, hm4906⟩
                · replace hm4905 := if_f hb4891 hm4905
                  refine LW_v (.inr ⟨20, false, 33, rfl, rfl, by decide, (congrArg Value.bool hb4891)⟩) rfl (by decide) (R_move (v := (.string x4540)) e4852) ?_
                  refine LW_v (.inr ⟨20, false, 33, rfl, rfl, by decide, (congrArg Value.bool hb4891)⟩) rfl (by decide) (R_move (v := (.string x4673)) e4851) ?_
                  refine LW_v (.inr ⟨20, false, 33, rfl, rfl, by decide, (congrArg Value.bool hb4891)⟩) rfl (by decide) (R_str (a := x4540) (b := x4673) (v := (.bool ((ltS x4540 x4673)))) rfl rfl rfl) ?_
                  refine LW_v (.inr ⟨17, true, 30, rfl, rfl, by decide, (congrArg Value.bool hb4857)⟩) rfl (by decide) (R_pickF (v := (.bool ((ltS x4540 x4673)))) (congrArg Value.bool hb4891) rfl) ?_
                  replace hm4905 := Option.some.inj hm4905; subst hm4905
                  exact key4907 _ _ ⟨((ltS x4540 x4673)), _, (hST.sublist (List.Sublist.refl _)), e4849, e4850, e4851, e4852, e4853, e4854, e4855, rfl, rfl, hm4906⟩
            · replace hm4888 := if_f hb4857 hm4888
              refine LW_no rfl (by decide) rfl rfl (by decide) (congrArg Value.bool hb4857) ?_
              refine LW_no rfl (by decide) rfl rfl (by decide) (congrArg Value.bool hb4857) ?_
              refine LW_no rfl (by decide) rfl rfl (by decide) (congrArg Value.bool hb4857) ?_
              refine LW_nou rfl (by decide) rfl rfl (by decide) rfl ?_
              refine LW_nou rfl (by decide) rfl rfl (by decide) rfl ?_
              refine LW_nou rfl (by decide) rfl rfl (by decide) rfl ?_
              refine LW_no rfl (by decide) rfl rfl (by decide) (congrArg Value.bool hb4857) ?_
              refine LV (R_pickF (v := (.bool false)) (congrArg Value.bool hb4857) rfl) ?_
              replace hm4888 := Option.some.inj hm4888; subst hm4888
              exact key4890 _ _ ⟨false, _, (hST.sublist (List.Sublist.refl _)), e4849, e4850, e4851, e4852, e4853, e4854, e4855, rfl, hm4889⟩
        · rcases bool_cases r4815 with hb4818 | hb4818
          · replace hm4909 := if_t hb4818 hm4909
            refine LW_v (.inr ⟨2, true, 15, rfl, rfl, by decide, (congrArg Value.bool hb4818)⟩) rfl (by decide) (R_move (v := v3288) e4809) ?_
            refine LW_v (.inr ⟨2, true, 15, rfl, rfl, by decide, (congrArg Value.bool hb4818)⟩) rfl (by decide) (R_lenRow Try.underlying37 rfl hs3290) ?_
            refine LW_v (.inr ⟨2, true, 15, rfl, rfl, by decide, (congrArg Value.bool hb4818)⟩) rfl (by decide) (R_int (k := .i64) (a := ((l3289.length : Int))) (b := 0) (v := (.bool ((((l3289.length : Int)) == 0)))) rfl rfl rfl) ?_
            refine LW_v (.inr ⟨2, true, 15, rfl, rfl, by decide, (congrArg Value.bool hb4818)⟩) rfl (by decide) (R_move (v := (.bool ((((l3289.length : Int)) == 0)))) rfl) ?_
            obtain ⟨s4930, hm4931, hm4932⟩ := bind_some hm4909
            refine LW_join (J := fun E W => ∃ (x4918 : Bool) (L4919 : List (Nat × Obj)), ST true NoF w W (hp w) (R3291 ++ L4919) ∧ E 0 = v_a0 ∧ E 3 = v3288 ∧ E 4 = (.string x4673) ∧ E 6 = (.string x4540) ∧ E 7 = v_a0 ∧ E 8 = (.int .i64 ((a0.length : Int))) ∧ E 9 = (.int .i64 ((i4539 : Int))) ∧ E 15 = (.bool r4815) ∧ E 28 = (.bool x4918) ∧ some x4918 = some s4908) 9 ?_ (fun key4933 => ?_)
            · rintro E W ⟨x4918, L4919, hST, e4921, e4922, e4923, e4924, e4925, e4926, e4927, e4928, e4929, hm4920⟩
              refine LV (R_pickT (v := (.bool x4918)) (e4928.trans (congrArg Value.bool hb4818)) e4929) ?_
              replace hm4920 := Option.some.inj hm4920; subst hm4920
              exact key4911 _ _ ⟨x4918, _, (hST.sublist (List.Sublist.refl _)), e4921, e4922, e4923, e4924, e4925, e4926, e4927, rfl, hm4910⟩
            · rcases bool_cases ((((l3289.length : Int)) == 0)) with hb4912 | hb4912
              · replace hm4931 := if_t hb4912 hm4931
                refine LW_no rfl (by decide) rfl rfl (by decide) (congrArg Value.bool hb4912) ?_
                refine LW_no rfl (by decide) rfl rfl (by decide) (congrArg Value.bool hb4912) ?_
                refine LW_no rfl (by decide) rfl rfl (by decide) (congrArg Value.bool hb4912) ?_
                refine LW_no rfl (by decide) rfl rfl (by decide) (congrArg Value.bool hb4912) ?_
                refine LW_no rfl (by decide) rfl rfl (by decide) (congrArg Value.bool hb4912) ?_
                refine LW_no rfl (by decide) rfl rfl (by decide) (congrArg Value.bool hb4912) ?_
                refine LW_no rfl (by decide) rfl rfl (by decide) (congrArg Value.bool hb4912) ?_
                refine LW_no rfl (by decide) rfl rfl (by decide) (congrArg Value.bool hb4912) ?_
                refine LW_v (.inr ⟨2, true, 15, rfl, rfl, by decide, (congrArg Value.bool hb4818)⟩) rfl (by decide) (R_pickT (v := (.bool true)) (congrArg Value.bool hb4912) rfl) ?_
                replace hm4931 := Option.some.inj hm4931; subst hm4931
                exact key4933 _ _ ⟨true, _, (hST.sublist (List.Sublist.refl _)), e4808, e4809, e4810, rfl, e4811, eN, eI, rfl, rfl, hm4932⟩
              · replace hm4931 := if_f hb4912 hm4931
                refine LW_v (.inr ⟨6, false, 19, rfl, rfl, by decide, (congrArg Value.bool hb4912)⟩) rfl (by decide) (R_move (v := (.string x4540)) rfl) ?_
                refine LW_v (.inr ⟨6, false, 19, rfl, rfl, by decide, (congrArg Value.bool hb4912)⟩) rfl (by decide) (R_move (v := v3288) e4809) ?_
                refine LW_v (.inr ⟨6, false, 19, rfl, rfl, by decide, (congrArg Value.bool hb4912)⟩) rfl (by decide) (R_move (v := v3288) e4809) ?_
                refine LW_v (.inr ⟨6, false, 19, rfl, rfl, by decide, (congrArg Value.bool hb4912)⟩) rfl (by decide) (R_lenRow Try.underlying37 rfl hs3290) ?_
                refine LW_v (.inr ⟨6, false, 19, rfl, rfl, by decide, (congrArg Value.bool hb4912)⟩) rfl (by decide) (R_int (k := .i64) (a := ((l3289.length : Int))) (b := 1) (v := (.int .i64 ((IntKind.i64.wrap (((l3289.length : Int)) - 1))))) rfl rfl rfl) ?_
                obtain ⟨x4937, hx4938, hm4931⟩ := bind_some hm4931
                refine LW_q (.inr ⟨6, false, 19, rfl, rfl, by decide, (congrArg Value.bool hb4912)⟩) rfl (by decide) (R_indexRow (i := (IntKind.i64.wrap (((l3289.length : Int)) - 1))) (x0 := x4937) Try.underlying37 Try.sizeOf9 rfl rfl hs3290 (idx_nonneg hx4938) (idx_get hx4938)) (fun p4934 hp4935 => ?_)
                refine LW_v (.inr ⟨6, false, 19, rfl, rfl, by decide, (congrArg Value.bool hb4912)⟩) rfl (by decide) (R_load (v := (.string x4937)) rfl (load_ix1 hST.has (fun p hq => by simp [hq]) hs3290 (fun _ => rfl) hp4935 (idx_get hx4938) (y := (.string x4937)) rfl Try.isAgg9)) ?_
                refine LW_v (.inr ⟨6, false, 19, rfl, rfl, by decide, (congrArg Value.bool hb4912)⟩) rfl (by decide) (R_str (a := x4540) (b := x4937) (v := (.bool ((!(ltS x4540 x4937 || beqS x4540 x4937))))) rfl rfl rfl) ?_
                refine LW_v (.inr ⟨2, true, 15, rfl, rfl, by decide, (congrArg Value.bool hb4818)⟩) rfl (by decide) (R_pickF (v := (.bool ((!(ltS x4540 x4937 || beqS x4540 x4937))))) (congrArg Value.bool hb4912) rfl) ?_
                replace hm4931 := Option.some.inj hm4931; subst hm4931
                exact key4933 _ _ ⟨((!(ltS x4540 x4937 || beqS x4540 x4937))), _, (hST.sublist (List.Sublist.refl _)), e4808, e4809, e4810, rfl, e4811, eN, eI, rfl, rfl, hm4932⟩
          · replace hm4909 := if_f hb4818 hm4909
            refine LW_no rfl (by decide) rfl rfl (by decide) (congrArg Value.bool hb4818) ?_
            refine LW_no rfl (by decide) rfl rfl (by decide) (congrArg Value.bool hb4818) ?_
            refine LW_no rfl (by decide) rfl rfl (by decide) (congrArg Value.bool hb4818) ?_
            refine LW_no rfl (by decide) rfl rfl (by decide) (congrArg Value.bool hb4818) ?_
            refine LW_nou rfl (by decide) rfl rfl (by decide) rfl ?_
            refine LW_nou rfl (by decide) rfl rfl (by decide) rfl ?_
            refine LW_nou rfl (by decide) rfl rfl (by decide) rfl ?_
            refine LW_nou rfl (by decide) rfl rfl (by decide) rfl ?_
            refine LW_nou rfl (by decide) rfl rfl (by decide) rfl ?_
            refine LW_nou rfl (by decide) rfl rfl (by decide) rfl ?_
            refine LW_nou rfl (by decide) rfl rfl (by decide) rfl ?_
            refine LW_nou rfl (by decide) rfl rfl (by decide) rfl ?_
            refine LW_no rfl (by decide) rfl rfl (by decide) (congrArg Value.bool hb4818) ?_
            refine LV (R_pickF (v := (.bool false)) (congrArg Value.bool hb4818) rfl) ?_
            replace hm4909 := Option.some.inj hm4909; subst hm4909
            exact key4911 _ _ ⟨false, _, (hST.sublist (List.Sublist.refl _)), e4808, e4809, e4810, rfl, e4811, eN, eI, rfl, hm4910⟩
      · rintro E W ⟨x4673, L4806, ⟨eI, eN⟩, hST, e4808, e4809, e4810, e4811, hm4807⟩
        rw [List.drop_length] at hm4807
        rw [m_ref03_Set_L2] at hm4807
        refine sq_n ?_
        replace hm4807 := Option.some.inj hm4807; subst hm4807
        exact ⟨x4673, _, (hST.sublist (List.Sublist.refl _)), e4808, e4809, e4810, hm4538⟩
    · rintro E W ⟨x4521, L4522, hST, e4524, e4525, e4526, hm4523⟩
      refine CW_seq ?_
      refine CW_seq ?_
      refine CW_region ?_
      refine LV (R_move (v := (.string x4521)) e4526) ?_
      refine LV (R_str (a := x4521) (b := zS) (v := (.bool ((beqS x4521 zS)))) rfl rfl rfl) ?_
      refine LW_nil ?_
      refine sq_n ?_
      refine CW_if (b := (beqS x4521 zS)) rfl (fun hb4527 => ?_) (fun hb4527 => ?_)
      · replace hm4523 := if_t hb4527 hm4523
        refine CW_seq ?_
        refine CW_region ?_
        refine LV (R_move (v := v3288) e4525) ?_
        refine LV (R_assign (v := v3288) rfl) ?_
        refine LW_nil ?_
        refine sq_n ?_
        refine CW_ret ?_
        refine sq_r (bq_r (sq_r (bq_r (sq_r ?_))))
        replace hm4523 := Option.some.inj hm4523; subst hm4523
        refine retQ_1 (v := v3288) rfl rfl ?_
        exact ⟨_, R3291, rfl, hST.backRow (fun p hq => by simp [hq]) hs3290.nd, hs3290⟩
      · replace hm4523 := if_f hb4527 hm4523
        refine CW_skip ?_
        refine sq_n ?_
        refine CW_region ?_
        refine LV (R_move (v := v3288) e4525) ?_
        refine LV (R_move (v := (.string x4521)) e4526) ?_
        refine LE (E_buildSlice (qs := #[(0, (.string x4521))]) (cs := [(.string x4521)].toArray) hST (parts1 rfl) (run_lit [(.string x4521)] Try.underlying37 Try.sizeOf9 Try.zeroValue9 (by decide) rfl (by intro v hv; simp only [List.mem_cons, List.not_mem_nil, or_false] at hv; rcases hv with rfl <;> rfl) rfl rfl) (fun W4529 b4528 hST => ?_))
        obtain ⟨l4530, hb4531, hm4523⟩ := bind_some hm4523
        refine LE (E_append (enc := encSk) (v := v3288) (vs := (.slice (some ⟨b4528, 0, none⟩) 1 1)) (R := R3291) [_] hST (fun _ => rfl) (by decide) oneS Try.underlying37 info9.1 info9.2.1 rfl info9.2.2.1 info9.2.2.2 rfl rfl hs3290 (Sl.lit (enc := encSk) (l := [x4521]) (fun _ => rfl) rfl (Nat.le_of_ble_eq_true rfl) rfl (hST.at_ (.head _))) hb4531 (fun W4532 v4535 R4533 hST hR4534 => ?_))
        refine LV (R_assign (v := v4535) rfl) ?_
        refine LW_nil ?_
        refine bq_n ?_
        refine sq_n ?_
        replace hST : ST true NoF w _ _ ((b4528, Obj.cells ([(.string x4521)].toArray : Array Value) 9 (0, 0)) :: (R4533 ++ L4522)) := hST
        replace hST : ST true NoF w _ _ (R4533 ++ L4522) := hST.sublist (List.Sublist.cons _ (List.Sublist.refl _))
        exact ⟨n4118, Nat.lt_succ_self _, v4535, l4530, R4533, _, (hST.sublist (List.Sublist.refl _)), e4524, rfl, hR4534, hm4523⟩
theorem w_ref08_Names (v_a0 : Value) (a0 : List Cred) (r : List ByteArray) (w : World) (h_a0 : Sl (Pl encCred) 9 (hp w) v_a0 a0) (hm : m_ref08_Names a0 = some r) :
    GivesRow true Try.prog 12 [v_a0] w 9 encSk 1 r := by
  have hST := ST.start (dd := true) w
  unfold m_ref08_Names at hm
  refine calls_of_CW (n := 29) Try.func12 rfl rfl (Nat.le_of_ble_eq_true rfl) ?_
  refine CW_seq ?_
  refine CW_region ?_
  refine LV (R_assign (v := (.slice none 0 0)) rfl) ?_
  refine LW_nil ?_
  refine sq_n ?_
  refine CW_seq ?_
  refine CW_region ?_
  refine LV (R_assign (v := (.slice none 0 0)) rfl) ?_
  refine LW_nil ?_
  refine sq_n ?_
  refine CW_seq ?_
  refine CW_seq ?_
  refine CW_region ?_
  refine LV (R_move (v := v_a0) rfl) ?_
  refine LV (R_len Try.underlying24 rfl h_a0) ?_
  refine LV (R_move (v := (.int .i64 0)) rfl) ?_
  refine LW_nil ?_
  refine sq_n ?_
  refine CW_range (fun i E W => ∃ (v85 : Value) (l86 : List ByteArray) (R88 : List (Nat × Obj)) (L109 : List (Nat × Obj)), (E 8 = .int .i64 (i : Nat) ∧ E 7 = .int .i64 (a0.length : Nat)) ∧ ST true NoF w W (hp w) (R88 ++ L109) ∧ E 3 = v85 ∧ E 6 = v_a0 ∧ Row 9 encSk 1 v85 l86 R88 ∧ m_ref08_Names_L1 (a0.drop i) l86 = some r) a0.length h_a0.len ⟨(.slice none 0 0), ([]), [], _, ⟨rfl, rfl⟩, (hST.sublist (List.Sublist.refl _)), rfl, rfl, (Row.nil _ _ _), hm⟩ (by decide) (by decide) (by decide) (fun _ _ _ h => by obtain ⟨_, _, _, _, eIN, _⟩ := h; exact eIN) ?_ ?_
  · rintro i64 E W hi70 ⟨v85, l86, R88, L109, ⟨eI, eN⟩, hST, e111, e112, hs87, hm110⟩
    obtain ⟨x65, xs66, hx68, hx67, hx69⟩ := drop_cons hi70
    rw [hx68] at hm110
    rw [m_ref08_Names_L1] at hm110
    refine CW_block ?_
    refine CW_seq ?_
    refine CW_region ?_
    refine LQ (R_indexP (enc := encCred) (i := (i64 : Int)) (x0 := x65) Try.underlying24 Try.sizeOf36 e112 eI h_a0 (Int.natCast_nonneg _) hx67) (fun p113 hp114 => ?_)
    refine LV (R_load rfl (load_atA hST.has hp114 Try.isAgg36 Try.sizeOf36)) ?_
    refine LE (E_alloc hST Try.zeroValue36 (fun W117 b116 hST => ?_))
    refine LW_e0 (.inl rfl) rfl (E_store [] (.agg (encCred x65).toArray) ((encCred x65).toArray) hST rfl rfl Try.sizeOf36 (oneCred x65) (Nat.le_of_ble_eq_true rfl) rfl (fun W118 hST => ?_))
    refine LW_nil ?_
    refine sq_n ?_
    refine CW_region ?_
    refine LV (R_move (v := v85) e111) ?_
    refine LV (R_field fa36_2 rfl) ?_
    refine LV (R_load (v := (.string x65.Who)) rfl (load_box1 hST.has (.head _) rfl Try.isAgg9)) ?_
    refine LV (R_field fa36_1 rfl) ?_
    refine LV (R_field fa34_0 rfl) ?_
    refine LV (R_load (v := (.string x65.Head.Owner)) rfl (load_box1 hST.has (.head _) rfl Try.isAgg9)) ?_
    refine LV (R_field fa36_3 rfl) ?_
    refine LV (R_field fa34_0 rfl) ?_
    refine LV (R_load (v := (.string x65.B.Owner)) rfl (load_box1 hST.has (.head _) rfl Try.isAgg9)) ?_
    refine LV (R_field fa36_4 rfl) ?_
    refine LV (R_field fa34_0 rfl) ?_
    refine LV (R_load (v := (.string x65.C.Owner)) rfl (load_box1 hST.has (.head _) rfl Try.isAgg9)) ?_
    refine LE (E_buildSlice (qs := #[(0, (.string x65.Who)), (1, (.string x65.Head.Owner)), (2, (.string x65.B.Owner)), (3, (.string x65.C.Owner))]) (cs := #[(.string x65.Who), (.string x65.Head.Owner), (.string x65.B.Owner), (.string x65.C.Owner)]) hST (parts4 rfl rfl rfl rfl) (run_lit [(.string x65.Who), (.string x65.Head.Owner), (.string x65.B.Owner), (.string x65.C.Owner)] Try.underlying37 Try.sizeOf9 Try.zeroValue9 (by decide) rfl (by intro v hv; simp only [List.mem_cons, List.not_mem_nil, or_false] at hv; rcases hv with rfl | rfl | rfl | rfl <;> rfl) rfl rfl) (fun W120 b119 hST => ?_))
    replace hST : ST true NoF w _ _ ((b119, Obj.cells (#[(.string x65.Who), (.string x65.Head.Owner), (.string x65.B.Owner), (.string x65.C.Owner)] : Array Value) 9 (0, 0)) :: ((b116, Obj.cells ((encCred x65).toArray : Array Value) 36 (0, 0)) :: (R88 ++ L109))) := hST
    obtain ⟨l121, hb122, hm110⟩ := bind_some hm110
    refine LE (E_append (enc := encSk) (v := v85) (vs := (.slice (some ⟨b119, 0, none⟩) 4 4)) (R := R88) [_, _] hST (fun _ => rfl) (by decide) oneS Try.underlying37 info9.1 info9.2.1 rfl info9.2.2.1 info9.2.2.2 rfl rfl hs87 (Sl.lit (enc := encSk) (l := [x65.Who, x65.Head.Owner, x65.B.Owner, x65.C.Owner]) (fun _ => rfl) rfl (Nat.le_of_ble_eq_true rfl) rfl (hST.at_ (.head _))) hb122 (fun W123 v126 R124 hST hR125 => ?_))
    refine LV (R_assign (v := v126) rfl) ?_
    refine LW_nil ?_
    refine bq_n ?_
    refine sq_n ?_
    replace hST : ST true NoF w _ _ ((b119, Obj.cells (#[(.string x65.Who), (.string x65.Head.Owner), (.string x65.B.Owner), (.string x65.C.Owner)] : Array Value) 9 (0, 0)) :: ((b116, Obj.cells ((encCred x65).toArray : Array Value) 36 (0, 0)) :: (R124 ++ L109))) := hST
    replace hST : ST true NoF w _ _ (R124 ++ L109) := hST.sublist (List.Sublist.cons _ (List.Sublist.cons _ (List.Sublist.refl _)))
    exact ⟨eI, v126, l121, R124, _, ⟨rfl, eN⟩, (hST.sublist (List.Sublist.refl _)), rfl, e112, hR125, (by rw [hx69]; exact hm110)⟩
  · rintro E W ⟨v85, l86, R88, L109, ⟨eI, eN⟩, hST, e111, e112, hs87, hm110⟩
    rw [List.drop_length] at hm110
    rw [m_ref08_Names_L1] at hm110
    refine sq_n ?_
    refine CW_seq ?_
    refine CW_region ?_
    refine LV (R_move (v := v85) e111) ?_
    obtain ⟨r127, hr128, hm110⟩ := bind_some hm110
    refine LE (E_givesRow (args := [v85]) [] _ hST rfl Try.call32 (by exact args1 rfl) ((w_ref03_Set v85 l86 _ _ (hs87.sl (fun _ => rfl) (fun b o hq => hST.at_ (List.mem_append_left _ hq))) hr128)) (fun W129 v132 μ130 R133 hST hle131 hR134 => ?_))
    refine LV (R_assign (v := v132) rfl) ?_
    refine LW_nil ?_
    refine sq_n ?_
    replace hST : ST true NoF w _ _ (R133 ++ (R88 ++ L109)) := hST
    replace hST : ST true NoF w _ _ (R133 ++ L109) := hST.sublist (List.Sublist.append (List.Sublist.refl _) ((List.Sublist.refl _).trans (List.sublist_append_right _ _)))
    refine CW_ret ?_
    replace hm110 := Option.some.inj hm110; subst hm110
    refine retQ_1 (v := v132) rfl rfl ?_
    exact ⟨_, R133, rfl, hST.backRow (fun p hq => by simp [hq]) hR134.nd, hR134⟩
theorem w_ref08_In (v_a0 : Value) (a0 : List Fact) (a1 : Role) (a2 : ByteArray) (r : Bool) (w : World) (h_a0 : Sl (Pl encFact) 3 (hp w) v_a0 a0) (hm : m_ref08_In a0 a1 a2 = some r) :
    Gives true Try.prog 19 [v_a0, (.agg (encRole a1).toArray), (.string a2)] w (.bool r) := by
  have hST := ST.start (dd := true) w
  unfold m_ref08_In at hm
  refine calls_of_CW (n := 26) Try.func19 rfl rfl (Nat.le_of_ble_eq_true rfl) ?_
  refine CW_seq ?_
  refine CW_region ?_
  refine LE (E_box (v := (.agg (encRole a1).toArray)) hST rfl (fun W2 b1 hST => ?_))
  refine LV (R_assign (v := (.bool false)) rfl) ?_
  refine LW_nil ?_
  refine sq_n ?_
  refine CW_seq ?_
  refine CW_seq ?_
  refine CW_region ?_
  refine LV (R_move (v := v_a0) rfl) ?_
  refine LV (R_len Try.underlying28 rfl h_a0) ?_
  refine LV (R_move (v := (.int .i64 0)) rfl) ?_
  refine LW_nil ?_
  refine sq_n ?_
  refine CW_range (fun i E W => ∃  (L133 : List (Nat × Obj)), (E 11 = .int .i64 (i : Nat) ∧ E 10 = .int .i64 (a0.length : Nat)) ∧ ST true NoF w W (hp w) ((b1, Obj.cells ((encRole a1).toArray : Array Value) 34 (0, 0)) :: L133) ∧ E 2 = (.string a2) ∧ E 4 = (.pointer (some ⟨b1, 0, none⟩)) ∧ E 9 = v_a0 ∧ m_ref08_In_L1 a1 a2 (a0.drop i) = some r) a0.length h_a0.len ⟨_, ⟨rfl, rfl⟩, (hST.sublist (List.Sublist.refl _)), rfl, rfl, rfl, hm⟩ (by decide) (by decide) (by decide) (fun _ _ _ h => by obtain ⟨_, eIN, _⟩ := h; exact eIN) ?_ ?_
  · rintro i81 E W hi87 ⟨L133, ⟨eI, eN⟩, hST, e135, e136, e137, hm134⟩
    obtain ⟨x82, xs83, hx85, hx84, hx86⟩ := drop_cons hi87
    rw [hx85] at hm134
    rw [m_ref08_In_L1] at hm134
    refine CW_block ?_
    refine CW_seq ?_
    refine CW_region ?_
    refine LQ (R_indexP (enc := encFact) (i := (i81 : Int)) (x0 := x82) Try.underlying28 Try.sizeOf43 e137 eI h_a0 (Int.natCast_nonneg _) hx84) (fun p138 hp139 => ?_)
    refine LV (R_load rfl (load_atA hST.has hp139 Try.isAgg43 Try.sizeOf43)) ?_
    refine LE (E_alloc hST Try.zeroValue43 (fun W142 b141 hST => ?_))
    refine LW_e0 (.inl rfl) rfl (E_store [] (.agg (encFact x82).toArray) ((encFact x82).toArray) hST rfl rfl Try.sizeOf43 (oneFact x82) (Nat.le_of_ble_eq_true rfl) rfl (fun W143 hST => ?_))
    refine LW_nil ?_
    refine sq_n ?_
    refine CW_seq ?_
    refine CW_region ?_
    refine LV (R_field fa43_0 rfl) ?_
    refine LV (R_load (v := (.agg (encRole x82.Role).toArray)) rfl (load_boxA hST.has (.head _) (encRole x82.Role) rfl Try.isAgg34 Try.sizeOf34)) ?_
    refine LV (R_load (v := (.agg (encRole a1).toArray)) e136 (load_boxA hST.has (.tail _ (.head _)) (encRole a1) rfl Try.isAgg34 Try.sizeOf34)) ?_
    refine LV (R_eql (a := (encRole x82.Role).toArray) (b := (encRole a1).toArray) rfl rfl (guard_agg Try.eqGuardType34) (bin_eql (eqInRole _ x82.Role a1))) ?_
    refine LV (R_move (v := (.bool ((beqRole x82.Role a1)))) rfl) ?_
    obtain ⟨s155, hm156, hm157⟩ := bind_some hm134
    refine LW_join (J := fun E W => ∃ (x145 : Bool) (L146 : List (Nat × Obj)), ST true NoF w W (hp w) ((b1, Obj.cells ((encRole a1).toArray : Array Value) 34 (0, 0)) :: L146) ∧ E 2 = (.string a2) ∧ E 4 = (.pointer (some ⟨b1, 0, none⟩)) ∧ E 9 = v_a0 ∧ E 10 = (.int .i64 ((a0.length : Int))) ∧ E 11 = (.int .i64 ((i81 : Int))) ∧ E 24 = (.bool x145) ∧ (if x145 then some true else (m_ref08_In_L1 a1 a2 xs83)) = some r) 5 ?_ (fun key158 => ?_)
    · rintro E W ⟨x145, L146, hST, e148, e149, e150, e151, e152, e153, hm147⟩
      refine LW_nil ?_
      refine sq_n ?_
      refine CW_if (b := x145) e153 (fun hb154 => ?_) (fun hb154 => ?_)
      · replace hm147 := if_t hb154 hm147
        refine CW_seq ?_
        refine CW_region ?_
        refine LV (R_assign (v := (.bool true)) rfl) ?_
        refine LW_nil ?_
        refine sq_n ?_
        replace hST : ST true NoF w _ _ L146 := hST.sublist (List.Sublist.cons _ (List.Sublist.refl _))
        refine CW_ret ?_
        refine bq_r (sq_r (bq_r (sq_r ?_)))
        replace hm147 := Option.some.inj hm147; subst hm147
        refine retQ_1 (v := (.bool true)) rfl rfl ?_
        exact ⟨rfl, hST.ex⟩
      · replace hm147 := if_f hb154 hm147
        refine CW_skip ?_
        refine bq_n ?_
        refine sq_n ?_
        exact ⟨e152, _, ⟨rfl, e151⟩, (hST.sublist (List.Sublist.refl _)), e148, e149, e150, (by rw [hx86]; exact hm147)⟩
    · rcases bool_cases ((beqRole x82.Role a1)) with hb144 | hb144
      · replace hm156 := if_t hb144 hm156
        refine LW_v (.inr ⟨4, true, 19, rfl, rfl, by decide, (congrArg Value.bool hb144)⟩) rfl (by decide) (R_field fa43_1 rfl) ?_
        refine LW_v (.inr ⟨4, true, 19, rfl, rfl, by decide, (congrArg Value.bool hb144)⟩) rfl (by decide) (R_load (v := (.string x82.Who)) rfl (load_box1 hST.has (.head _) rfl Try.isAgg9)) ?_
        refine LW_v (.inr ⟨4, true, 19, rfl, rfl, by decide, (congrArg Value.bool hb144)⟩) rfl (by decide) (R_move (v := (.string a2)) e135) ?_
        refine LW_v (.inr ⟨4, true, 19, rfl, rfl, by decide, (congrArg Value.bool hb144)⟩) rfl (by decide) (R_str (a := x82.Who) (b := a2) (v := (.bool ((beqS x82.Who a2)))) rfl rfl rfl) ?_
        refine LV (R_pickT (v := (.bool ((beqS x82.Who a2)))) (congrArg Value.bool hb144) rfl) ?_
        replace hm156 := Option.some.inj hm156; subst hm156
        replace hST : ST true NoF w _ _ ((b141, Obj.cells ((encFact x82).toArray : Array Value) 43 (0, 0)) :: ((b1, Obj.cells ((encRole a1).toArray : Array Value) 34 (0, 0)) :: L133)) := hST
        exact key158 _ _ ⟨((beqS x82.Who a2)), _, (hST.sublist (List.Sublist.cons _ (List.Sublist.refl _))), e135, e136, e137, eN, eI, rfl, hm157⟩
      · replace hm156 := if_f hb144 hm156
        refine LW_no rfl (by decide) rfl rfl (by decide) (congrArg Value.bool hb144) ?_
        refine LW_no rfl (by decide) rfl rfl (by decide) (congrArg Value.bool hb144) ?_
        refine LW_no rfl (by decide) rfl rfl (by decide) (congrArg Value.bool hb144) ?_
        refine LW_no rfl (by decide) rfl rfl (by decide) (congrArg Value.bool hb144) ?_
        refine LV (R_pickF (v := (.bool false)) (congrArg Value.bool hb144) rfl) ?_
        replace hm156 := Option.some.inj hm156; subst hm156
        replace hST : ST true NoF w _ _ ((b141, Obj.cells ((encFact x82).toArray : Array Value) 43 (0, 0)) :: ((b1, Obj.cells ((encRole a1).toArray : Array Value) 34 (0, 0)) :: L133)) := hST
        exact key158 _ _ ⟨false, _, (hST.sublist (List.Sublist.cons _ (List.Sublist.refl _))), e135, e136, e137, eN, eI, rfl, hm157⟩
  · rintro E W ⟨L133, ⟨eI, eN⟩, hST, e135, e136, e137, hm134⟩
    rw [List.drop_length] at hm134
    rw [m_ref08_In_L1] at hm134
    refine sq_n ?_
    replace hST : ST true NoF w _ _ L133 := hST.sublist (List.Sublist.cons _ (List.Sublist.refl _))
    refine CW_seq ?_
    refine CW_region ?_
    refine LV (R_assign (v := (.bool false)) rfl) ?_
    refine LW_nil ?_
    refine sq_n ?_
    refine CW_ret ?_
    replace hm134 := Option.some.inj hm134; subst hm134
    refine retQ_1 (v := (.bool false)) rfl rfl ?_
    exact ⟨rfl, hST.ex⟩
theorem w_ref08_Step (v_a0 : Value) (a0 : List Fact) (a1 : Cred) (v_a2 : Value) (a2 : List ByteArray) (a3 : ByteArray) (r : Bool) (w : World) (h_a0 : Sl (Pl encFact) 3 (hp w) v_a0 a0) (h_a2 : Sl (Pl encSk) 1 (hp w) v_a2 a2) (hm : m_ref08_Step a0 a1 a2 a3 = some r) :
    Gives true Try.prog 20 [v_a0, (.agg (encCred a1).toArray), v_a2, (.string a3)] w (.bool r) := by
  have hST := ST.start (dd := true) w
  unfold m_ref08_Step at hm
  refine calls_of_CW (n := 62) Try.func20 rfl rfl (Nat.le_of_ble_eq_true rfl) ?_
  refine CW_seq ?_
  refine CW_region ?_
  refine LE (E_box (v := (.agg (encCred a1).toArray)) hST rfl (fun W2 b1 hST => ?_))
  refine LV (R_assign (v := (.bool false)) rfl) ?_
  refine LW_nil ?_
  refine sq_n ?_
  refine CW_seq ?_
  refine CW_seq ?_
  refine CW_region ?_
  refine LV (R_field fa36_0 rfl) ?_
  refine LV (R_load (v := (.int .i64 a1.Kind)) rfl (load_box1 hST.has (.head _) rfl Try.isAgg3)) ?_
  refine LV (R_int (k := .i64) (a := a1.Kind) (b := 1) (v := (.bool ((a1.Kind == 1)))) rfl rfl rfl) ?_
  refine LW_nil ?_
  refine sq_n ?_
  refine CW_if (b := (a1.Kind == 1)) rfl (fun hb3 => ?_) (fun hb3 => ?_)
  · replace hm := if_t hb3 hm
    refine CW_seq ?_
    refine CW_region ?_
    refine LV (R_field fa36_2 rfl) ?_
    refine LV (R_load (v := (.string a1.Who)) rfl (load_box1 hST.has (.head _) rfl Try.isAgg9)) ?_
    refine LV (R_move (v := (.string a3)) rfl) ?_
    refine LV (R_str (a := a1.Who) (b := a3) (v := (.bool ((beqS a1.Who a3)))) rfl rfl rfl) ?_
    refine LV (R_assign (v := (.bool ((beqS a1.Who a3)))) rfl) ?_
    refine LW_nil ?_
    refine sq_n ?_
    replace hST : ST true NoF w _ _ [] := hST.sublist (List.Sublist.cons _ (List.Sublist.refl _))
    refine CW_ret ?_
    refine sq_r ?_
    replace hm := Option.some.inj hm; subst hm
    refine retQ_1 (v := (.bool ((beqS a1.Who a3)))) rfl rfl ?_
    exact ⟨rfl, hST.ex⟩
  · replace hm := if_f hb3 hm
    refine CW_skip ?_
    refine sq_n ?_
    refine CW_seq ?_
    refine CW_seq ?_
    refine CW_region ?_
    refine LV (R_field fa36_0 rfl) ?_
    refine LV (R_load (v := (.int .i64 a1.Kind)) rfl (load_box1 hST.has (.head _) rfl Try.isAgg3)) ?_
    refine LV (R_int (k := .i64) (a := a1.Kind) (b := 2) (v := (.bool ((a1.Kind == 2)))) rfl rfl rfl) ?_
    refine LW_nil ?_
    refine sq_n ?_
    refine CW_if (b := (a1.Kind == 2)) rfl (fun hb4 => ?_) (fun hb4 => ?_)
    · replace hm := if_t hb4 hm
      refine CW_seq ?_
      refine CW_region ?_
      refine LV (R_move (v := v_a0) rfl) ?_
      refine LV (R_field fa36_3 rfl) ?_
      refine LV (R_load (v := (.agg (encRole a1.B).toArray)) rfl (load_boxA hST.has (.head _) (encRole a1.B) rfl Try.isAgg34 Try.sizeOf34)) ?_
      refine LV (R_move (v := (.string a3)) rfl) ?_
      obtain ⟨r5, hr6, hm⟩ := bind_some hm
      refine LE (E_gives (args := [v_a0, (.agg (encRole a1.B).toArray), (.string a3)]) hST rfl Try.call19 (by exact args3 rfl rfl rfl) ((w_ref08_In v_a0 a0 a1.B a3 _ _ (h_a0.mono (Pl.mono _) hST.sub_hp) hr6)) (fun W7 hST => ?_))
      refine LV (R_assign (v := (.bool r5)) rfl) ?_
      refine LW_nil ?_
      refine sq_n ?_
      replace hST : ST true NoF w _ _ [] := hST.sublist (List.Sublist.cons _ (List.Sublist.refl _))
      refine CW_ret ?_
      refine sq_r ?_
      replace hm := Option.some.inj hm; subst hm
      refine retQ_1 (v := (.bool r5)) rfl rfl ?_
      exact ⟨rfl, hST.ex⟩
    · replace hm := if_f hb4 hm
      refine CW_skip ?_
      refine sq_n ?_
      refine CW_seq ?_
      refine CW_seq ?_
      refine CW_region ?_
      refine LV (R_field fa36_0 rfl) ?_
      refine LV (R_load (v := (.int .i64 a1.Kind)) rfl (load_box1 hST.has (.head _) rfl Try.isAgg3)) ?_
      refine LV (R_int (k := .i64) (a := a1.Kind) (b := 4) (v := (.bool ((a1.Kind == 4)))) rfl rfl rfl) ?_
      refine LW_nil ?_
      refine sq_n ?_
      refine CW_if (b := (a1.Kind == 4)) rfl (fun hb8 => ?_) (fun hb8 => ?_)
      · replace hm := if_t hb8 hm
        refine CW_seq ?_
        refine CW_region ?_
        refine LV (R_move (v := v_a0) rfl) ?_
        refine LV (R_field fa36_3 rfl) ?_
        refine LV (R_load (v := (.agg (encRole a1.B).toArray)) rfl (load_boxA hST.has (.head _) (encRole a1.B) rfl Try.isAgg34 Try.sizeOf34)) ?_
        refine LV (R_move (v := (.string a3)) rfl) ?_
        obtain ⟨r9, hr10, hm⟩ := bind_some hm
        refine LE (E_gives (args := [v_a0, (.agg (encRole a1.B).toArray), (.string a3)]) hST rfl Try.call19 (by exact args3 rfl rfl rfl) ((w_ref08_In v_a0 a0 a1.B a3 _ _ (h_a0.mono (Pl.mono _) hST.sub_hp) hr10)) (fun W11 hST => ?_))
        refine LV (R_move (v := (.bool r9)) rfl) ?_
        obtain ⟨s21, hm22, hm23⟩ := bind_some hm
        refine LW_join (J := fun E W => ∃ (x16 : Bool) (L17 : List (Nat × Obj)), ST true NoF w W (hp w) L17 ∧ E 8 = (.bool false) ∧ E 40 = (.bool x16) ∧ some x16 = some r) 6 ?_ (fun key24 => ?_)
        · rintro E W ⟨x16, L17, hST, e19, e20, hm18⟩
          refine LV (R_assign (v := (.bool x16)) e20) ?_
          refine LW_nil ?_
          refine sq_n ?_
          refine CW_ret ?_
          refine sq_r ?_
          replace hm18 := Option.some.inj hm18; subst hm18
          refine retQ_1 (v := (.bool x16)) rfl rfl ?_
          exact ⟨rfl, hST.ex⟩
        · rcases bool_cases r9 with hb12 | hb12
          · replace hm22 := if_t hb12 hm22
            refine LW_v (.inr ⟨5, true, 34, rfl, rfl, by decide, (congrArg Value.bool hb12)⟩) rfl (by decide) (R_move (v := v_a0) rfl) ?_
            refine LW_v (.inr ⟨5, true, 34, rfl, rfl, by decide, (congrArg Value.bool hb12)⟩) rfl (by decide) (R_field fa36_4 rfl) ?_
            refine LW_v (.inr ⟨5, true, 34, rfl, rfl, by decide, (congrArg Value.bool hb12)⟩) rfl (by decide) (R_load (v := (.agg (encRole a1.C).toArray)) rfl (load_boxA hST.has (.head _) (encRole a1.C) rfl Try.isAgg34 Try.sizeOf34)) ?_
            refine LW_v (.inr ⟨5, true, 34, rfl, rfl, by decide, (congrArg Value.bool hb12)⟩) rfl (by decide) (R_move (v := (.string a3)) rfl) ?_
            obtain ⟨r25, hr26, hm22⟩ := bind_some hm22
            refine LW_e (.inr ⟨5, true, 34, rfl, rfl, by decide, (congrArg Value.bool hb12)⟩) rfl (by decide) (E_gives (args := [v_a0, (.agg (encRole a1.C).toArray), (.string a3)]) hST rfl Try.call19 (by exact args3 rfl rfl rfl) ((w_ref08_In v_a0 a0 a1.C a3 _ _ (h_a0.mono (Pl.mono _) hST.sub_hp) hr26)) (fun W27 hST => ?_))
            refine LV (R_pickT (v := (.bool r25)) (congrArg Value.bool hb12) rfl) ?_
            replace hm22 := Option.some.inj hm22; subst hm22
            exact key24 _ _ ⟨r25, _, (hST.sublist (List.Sublist.cons _ (List.Sublist.refl _))), rfl, rfl, hm23⟩
          · replace hm22 := if_f hb12 hm22
            refine LW_no rfl (by decide) rfl rfl (by decide) (congrArg Value.bool hb12) ?_
            refine LW_no rfl (by decide) rfl rfl (by decide) (congrArg Value.bool hb12) ?_
            refine LW_no rfl (by decide) rfl rfl (by decide) (congrArg Value.bool hb12) ?_
            refine LW_no rfl (by decide) rfl rfl (by decide) (congrArg Value.bool hb12) ?_
            refine LW_no rfl (by decide) rfl rfl (by decide) (congrArg Value.bool hb12) ?_
            refine LV (R_pickF (v := (.bool false)) (congrArg Value.bool hb12) rfl) ?_
            replace hm22 := Option.some.inj hm22; subst hm22
            exact key24 _ _ ⟨false, _, (hST.sublist (List.Sublist.cons _ (List.Sublist.refl _))), rfl, rfl, hm23⟩
      · replace hm := if_f hb8 hm
        refine CW_skip ?_
        refine sq_n ?_
        refine CW_seq ?_
        refine CW_seq ?_
        refine CW_region ?_
        refine LV (R_move (v := v_a2) rfl) ?_
        refine LV (R_len Try.underlying37 rfl h_a2) ?_
        refine LV (R_move (v := (.int .i64 0)) rfl) ?_
        refine LW_nil ?_
        refine sq_n ?_
        refine CW_range (fun i E W => ∃  (L196 : List (Nat × Obj)), (E 43 = .int .i64 (i : Nat) ∧ E 42 = .int .i64 (a2.length : Nat)) ∧ ST true NoF w W (hp w) ((b1, Obj.cells ((encCred a1).toArray : Array Value) 36 (0, 0)) :: L196) ∧ E 0 = v_a0 ∧ E 3 = (.string a3) ∧ E 5 = (.pointer (some ⟨b1, 0, none⟩)) ∧ E 41 = v_a2 ∧ m_ref08_Step_L1 a0 a1 a3 (a2.drop i) = some r) a2.length h_a2.len ⟨_, ⟨rfl, rfl⟩, (hST.sublist (List.Sublist.refl _)), rfl, rfl, rfl, rfl, hm⟩ (by decide) (by decide) (by decide) (fun _ _ _ h => by obtain ⟨_, eIN, _⟩ := h; exact eIN) ?_ ?_
        · rintro i129 E W hi135 ⟨L196, ⟨eI, eN⟩, hST, e198, e199, e200, e201, hm197⟩
          obtain ⟨x130, xs131, hx133, hx132, hx134⟩ := drop_cons hi135
          rw [hx133] at hm197
          rw [m_ref08_Step_L1] at hm197
          refine CW_block ?_
          refine CW_seq ?_
          refine CW_region ?_
          refine LQ (R_indexP (enc := encSk) (i := (i129 : Int)) (x0 := x130) Try.underlying37 Try.sizeOf9 e201 eI h_a2 (Int.natCast_nonneg _) hx132) (fun p202 hp203 => ?_)
          refine LV (R_load rfl (load_at1 hST.has (y := (.string x130)) hp203 Try.isAgg9)) ?_
          refine LV (R_assign (v := (.string x130)) rfl) ?_
          refine LW_nil ?_
          refine sq_n ?_
          refine CW_seq ?_
          refine CW_region ?_
          refine LV (R_move (v := v_a0) e198) ?_
          refine LV (R_field fa36_3 e200) ?_
          refine LV (R_load (v := (.agg (encRole a1.B).toArray)) rfl (load_boxA hST.has (.head _) (encRole a1.B) rfl Try.isAgg34 Try.sizeOf34)) ?_
          refine LV (R_move (v := (.string x130)) rfl) ?_
          obtain ⟨r205, hr206, hm197⟩ := bind_some hm197
          refine LE (E_gives (args := [v_a0, (.agg (encRole a1.B).toArray), (.string x130)]) hST rfl Try.call19 (by exact args3 rfl rfl rfl) ((w_ref08_In v_a0 a0 a1.B x130 _ _ (h_a0.mono (Pl.mono _) hST.sub_hp) hr206)) (fun W207 hST => ?_))
          refine LV (R_move (v := (.bool r205)) rfl) ?_
          obtain ⟨s223, hm224, hm225⟩ := bind_some hm197
          refine LW_join (J := fun E W => ∃ (x212 : Bool) (L213 : List (Nat × Obj)), ST true NoF w W (hp w) ((b1, Obj.cells ((encCred a1).toArray : Array Value) 36 (0, 0)) :: L213) ∧ E 0 = v_a0 ∧ E 3 = (.string a3) ∧ E 5 = (.pointer (some ⟨b1, 0, none⟩)) ∧ E 41 = v_a2 ∧ E 42 = (.int .i64 ((a2.length : Int))) ∧ E 43 = (.int .i64 ((i129 : Int))) ∧ E 60 = (.bool x212) ∧ (if x212 then some true else (m_ref08_Step_L1 a0 a1 a3 xs131)) = some r) 8 ?_ (fun key226 => ?_)
          · rintro E W ⟨x212, L213, hST, e215, e216, e217, e218, e219, e220, e221, hm214⟩
            refine LW_nil ?_
            refine sq_n ?_
            refine CW_if (b := x212) e221 (fun hb222 => ?_) (fun hb222 => ?_)
            · replace hm214 := if_t hb222 hm214
              refine CW_seq ?_
              refine CW_region ?_
              refine LV (R_assign (v := (.bool true)) rfl) ?_
              refine LW_nil ?_
              refine sq_n ?_
              replace hST : ST true NoF w _ _ L213 := hST.sublist (List.Sublist.cons _ (List.Sublist.refl _))
              refine CW_ret ?_
              refine bq_r (sq_r (bq_r (sq_r ?_)))
              replace hm214 := Option.some.inj hm214; subst hm214
              refine retQ_1 (v := (.bool true)) rfl rfl ?_
              exact ⟨rfl, hST.ex⟩
            · replace hm214 := if_f hb222 hm214
              refine CW_skip ?_
              refine bq_n ?_
              refine sq_n ?_
              exact ⟨e220, _, ⟨rfl, e219⟩, (hST.sublist (List.Sublist.refl _)), e215, e216, e217, e218, (by rw [hx134]; exact hm214)⟩
          · rcases bool_cases r205 with hb208 | hb208
            · replace hm224 := if_t hb208 hm224
              refine LW_v (.inr ⟨5, true, 52, rfl, rfl, by decide, (congrArg Value.bool hb208)⟩) rfl (by decide) (R_move (v := v_a0) e198) ?_
              refine LW_v (.inr ⟨5, true, 52, rfl, rfl, by decide, (congrArg Value.bool hb208)⟩) rfl (by decide) (R_move (v := (.string x130)) rfl) ?_
              refine LW_v (.inr ⟨5, true, 52, rfl, rfl, by decide, (congrArg Value.bool hb208)⟩) rfl (by decide) (R_field fa36_5 e200) ?_
              refine LW_v (.inr ⟨5, true, 52, rfl, rfl, by decide, (congrArg Value.bool hb208)⟩) rfl (by decide) (R_load (v := (.string a1.Word2)) rfl (load_box1 hST.has (.head _) rfl Try.isAgg9)) ?_
              refine LW_v (.inr ⟨5, true, 52, rfl, rfl, by decide, (congrArg Value.bool hb208)⟩) rfl (by decide) (R_build (qs := #[(0, (.string x130)), (1, (.string a1.Word2))]) (v := (.agg (encRole ((⟨x130, a1.Word2⟩ : Role))).toArray)) (parts2 rfl rfl) (run_build Try.zeroValue34 Try.underlying34 (pl34 _ Try.underlying34) (by kernel_rfl))) ?_
              refine LW_v (.inr ⟨5, true, 52, rfl, rfl, by decide, (congrArg Value.bool hb208)⟩) rfl (by decide) (R_move (v := (.string a3)) e199) ?_
              obtain ⟨r227, hr228, hm224⟩ := bind_some hm224
              refine LW_e (.inr ⟨5, true, 52, rfl, rfl, by decide, (congrArg Value.bool hb208)⟩) rfl (by decide) (E_gives (args := [v_a0, (.agg (encRole ((⟨x130, a1.Word2⟩ : Role))).toArray), (.string a3)]) hST rfl Try.call19 (by exact args3 rfl rfl rfl) ((w_ref08_In v_a0 a0 ((⟨x130, a1.Word2⟩ : Role)) a3 _ _ (h_a0.mono (Pl.mono _) hST.sub_hp) hr228)) (fun W229 hST => ?_))
              refine LV (R_pickT (v := (.bool r227)) (congrArg Value.bool hb208) rfl) ?_
              replace hm224 := Option.some.inj hm224; subst hm224
              exact key226 _ _ ⟨r227, _, (hST.sublist (List.Sublist.refl _)), e198, e199, e200, e201, eN, eI, rfl, hm225⟩
            · replace hm224 := if_f hb208 hm224
              refine LW_no rfl (by decide) rfl rfl (by decide) (congrArg Value.bool hb208) ?_
              refine LW_no rfl (by decide) rfl rfl (by decide) (congrArg Value.bool hb208) ?_
              refine LW_no rfl (by decide) rfl rfl (by decide) (congrArg Value.bool hb208) ?_
              refine LW_no rfl (by decide) rfl rfl (by decide) (congrArg Value.bool hb208) ?_
              refine LW_no rfl (by decide) rfl rfl (by decide) (congrArg Value.bool hb208) ?_
              refine LW_no rfl (by decide) rfl rfl (by decide) (congrArg Value.bool hb208) ?_
              refine LW_no rfl (by decide) rfl rfl (by decide) (congrArg Value.bool hb208) ?_
              refine LV (R_pickF (v := (.bool false)) (congrArg Value.bool hb208) rfl) ?_
              replace hm224 := Option.some.inj hm224; subst hm224
              exact key226 _ _ ⟨false, _, (hST.sublist (List.Sublist.refl _)), e198, e199, e200, e201, eN, eI, rfl, hm225⟩
        · rintro E W ⟨L196, ⟨eI, eN⟩, hST, e198, e199, e200, e201, hm197⟩
          rw [List.drop_length] at hm197
          rw [m_ref08_Step_L1] at hm197
          refine sq_n ?_
          replace hST : ST true NoF w _ _ L196 := hST.sublist (List.Sublist.cons _ (List.Sublist.refl _))
          refine CW_seq ?_
          refine CW_region ?_
          refine LV (R_assign (v := (.bool false)) rfl) ?_
          refine LW_nil ?_
          refine sq_n ?_
          refine CW_ret ?_
          replace hm197 := Option.some.inj hm197; subst hm197
          refine retQ_1 (v := (.bool false)) rfl rfl ?_
          exact ⟨rfl, hST.ex⟩
theorem w_ref08_less (a0 : Fact) (a1 : Fact) (r : Bool) (w : World)  (hm : m_ref08_less a0 a1 = some r) :
    Gives true Try.prog 40 [(.agg (encFact a0).toArray), (.agg (encFact a1).toArray)] w (.bool r) := by
  have hST := ST.start (dd := true) w
  unfold m_ref08_less at hm
  refine calls_of_CW (n := 24) Try.func40 rfl rfl (Nat.le_of_ble_eq_true rfl) ?_
  refine CW_seq ?_
  refine CW_region ?_
  refine LE (E_box (v := (.agg (encFact a0).toArray)) hST rfl (fun W2 b1 hST => ?_))
  refine LE (E_box (v := (.agg (encFact a1).toArray)) hST rfl (fun W4 b3 hST => ?_))
  refine LV (R_assign (v := (.bool false)) rfl) ?_
  refine LW_nil ?_
  refine sq_n ?_
  refine CW_seq ?_
  refine CW_region ?_
  refine LV (R_field fa43_0 rfl) ?_
  refine LV (R_load (v := (.agg (encRole a0.Role).toArray)) rfl (load_boxA hST.has (.tail _ (.head _)) (encRole a0.Role) rfl Try.isAgg34 Try.sizeOf34)) ?_
  refine LV (R_field fa43_0 rfl) ?_
  refine LV (R_load (v := (.agg (encRole a1.Role).toArray)) rfl (load_boxA hST.has (.head _) (encRole a1.Role) rfl Try.isAgg34 Try.sizeOf34)) ?_
  obtain ⟨r5, hr6, hm⟩ := bind_some hm
  refine LE (E_gives (args := [(.agg (encRole a0.Role).toArray), (.agg (encRole a1.Role).toArray)]) hST rfl Try.call52 (by exact args2 rfl rfl) ((w_ref04_Less a0.Role a1.Role _ _  hr6)) (fun W7 hST => ?_))
  refine LV (R_move (v := (.bool r5)) rfl) ?_
  obtain ⟨s25, hm26, hm27⟩ := bind_some hm
  refine LW_join (J := fun E W => ∃ (x20 : Bool) (L21 : List (Nat × Obj)), ST true NoF w W (hp w) L21 ∧ E 4 = (.bool false) ∧ E 23 = (.bool x20) ∧ some x20 = some r) 13 ?_ (fun key28 => ?_)
  · rintro E W ⟨x20, L21, hST, e23, e24, hm22⟩
    refine LV (R_assign (v := (.bool x20)) e24) ?_
    refine LW_nil ?_
    refine sq_n ?_
    refine CW_ret ?_
    replace hm22 := Option.some.inj hm22; subst hm22
    refine retQ_1 (v := (.bool x20)) rfl rfl ?_
    exact ⟨rfl, hST.ex⟩
  · rcases bool_cases r5 with hb8 | hb8
    · replace hm26 := if_t hb8 hm26
      refine LW_no rfl (by decide) rfl rfl (by decide) (congrArg Value.bool hb8) ?_
      refine LW_no rfl (by decide) rfl rfl (by decide) (congrArg Value.bool hb8) ?_
      refine LW_no rfl (by decide) rfl rfl (by decide) (congrArg Value.bool hb8) ?_
      refine LW_no rfl (by decide) rfl rfl (by decide) (congrArg Value.bool hb8) ?_
      refine LW_no rfl (by decide) rfl rfl (by decide) (congrArg Value.bool hb8) ?_
      refine LW_no rfl (by decide) rfl rfl (by decide) (congrArg Value.bool hb8) ?_
      refine LW_nou rfl (by decide) rfl rfl (by decide) rfl ?_
      refine LW_nou rfl (by decide) rfl rfl (by decide) rfl ?_
      refine LW_nou rfl (by decide) rfl rfl (by decide) rfl ?_
      refine LW_nou rfl (by decide) rfl rfl (by decide) rfl ?_
      refine LW_nou rfl (by decide) rfl rfl (by decide) rfl ?_
      refine LW_no rfl (by decide) rfl rfl (by decide) (congrArg Value.bool hb8) ?_
      refine LV (R_pickT (v := (.bool true)) (congrArg Value.bool hb8) rfl) ?_
      replace hm26 := Option.some.inj hm26; subst hm26
      exact key28 _ _ ⟨true, _, (hST.sublist (List.Sublist.cons _ (List.Sublist.cons _ (List.Sublist.refl _)))), rfl, rfl, hm27⟩
    · replace hm26 := if_f hb8 hm26
      refine LW_v (.inr ⟨5, false, 10, rfl, rfl, by decide, (congrArg Value.bool hb8)⟩) rfl (by decide) (R_field fa43_0 rfl) ?_
      refine LW_v (.inr ⟨5, false, 10, rfl, rfl, by decide, (congrArg Value.bool hb8)⟩) rfl (by decide) (R_load (v := (.agg (encRole a0.Role).toArray)) rfl (load_boxA hST.has (.tail _ (.head _)) (encRole a0.Role) rfl Try.isAgg34 Try.sizeOf34)) ?_
      refine LW_v (.inr ⟨5, false, 10, rfl, rfl, by decide, (congrArg Value.bool hb8)⟩) rfl (by decide) (R_field fa43_0 rfl) ?_
      refine LW_v (.inr ⟨5, false, 10, rfl, rfl, by decide, (congrArg Value.bool hb8)⟩) rfl (by decide) (R_load (v := (.agg (encRole a1.Role).toArray)) rfl (load_boxA hST.has (.head _) (encRole a1.Role) rfl Try.isAgg34 Try.sizeOf34)) ?_
      refine LW_v (.inr ⟨5, false, 10, rfl, rfl, by decide, (congrArg Value.bool hb8)⟩) rfl (by decide) (R_eql (a := (encRole a0.Role).toArray) (b := (encRole a1.Role).toArray) rfl rfl (guard_agg Try.eqGuardType34) (bin_eql (eqInRole _ a0.Role a1.Role))) ?_
      refine LW_v (.inr ⟨5, false, 10, rfl, rfl, by decide, (congrArg Value.bool hb8)⟩) rfl (by decide) (R_move (v := (.bool ((beqRole a0.Role a1.Role)))) rfl) ?_
      obtain ⟨s36, hm37, hm38⟩ := bind_some hm26
      refine LW_join (J := fun E W => ∃ (x30 : Bool) (L31 : List (Nat × Obj)), ST true NoF w W (hp w) L31 ∧ E 4 = (.bool false) ∧ E 10 = (.bool r5) ∧ E 22 = (.bool x30) ∧ some x30 = some s25) 6 ?_ (fun key39 => ?_)
      · rintro E W ⟨x30, L31, hST, e33, e34, e35, hm32⟩
        refine LV (R_pickF (v := (.bool x30)) (e34.trans (congrArg Value.bool hb8)) e35) ?_
        replace hm32 := Option.some.inj hm32; subst hm32
        exact key28 _ _ ⟨x30, _, (hST.sublist (List.Sublist.refl _)), e33, rfl, hm27⟩
      · rcases bool_cases ((beqRole a0.Role a1.Role)) with hb29 | hb29
        · replace hm37 := if_t hb29 hm37
          refine LW_v (.inr ⟨11, true, 16, rfl, rfl, by decide, (congrArg Value.bool hb29)⟩) rfl (by decide) (R_field fa43_1 rfl) ?_
          refine LW_v (.inr ⟨11, true, 16, rfl, rfl, by decide, (congrArg Value.bool hb29)⟩) rfl (by decide) (R_load (v := (.string a0.Who)) rfl (load_box1 hST.has (.tail _ (.head _)) rfl Try.isAgg9)) ?_
          refine LW_v (.inr ⟨11, true, 16, rfl, rfl, by decide, (congrArg Value.bool hb29)⟩) rfl (by decide) (R_field fa43_1 rfl) ?_
          refine LW_v (.inr ⟨11, true, 16, rfl, rfl, by decide, (congrArg Value.bool hb29)⟩) rfl (by decide) (R_load (v := (.string a1.Who)) rfl (load_box1 hST.has (.head _) rfl Try.isAgg9)) ?_
          refine LW_v (.inr ⟨11, true, 16, rfl, rfl, by decide, (congrArg Value.bool hb29)⟩) rfl (by decide) (R_str (a := a0.Who) (b := a1.Who) (v := (.bool ((ltS a0.Who a1.Who)))) rfl rfl rfl) ?_
          refine LW_v (.inr ⟨5, false, 10, rfl, rfl, by decide, (congrArg Value.bool hb8)⟩) rfl (by decide) (R_pickT (v := (.bool ((ltS a0.Who a1.Who)))) (congrArg Value.bool hb29) rfl) ?_
          replace hm37 := Option.some.inj hm37; subst hm37
          exact key39 _ _ ⟨((ltS a0.Who a1.Who)), _, (hST.sublist (List.Sublist.cons _ (List.Sublist.cons _ (List.Sublist.refl _)))), rfl, rfl, rfl, hm38⟩
        · replace hm37 := if_f hb29 hm37
          refine LW_no rfl (by decide) rfl rfl (by decide) (congrArg Value.bool hb29) ?_
          refine LW_no rfl (by decide) rfl rfl (by decide) (congrArg Value.bool hb29) ?_
          refine LW_no rfl (by decide) rfl rfl (by decide) (congrArg Value.bool hb29) ?_
          refine LW_no rfl (by decide) rfl rfl (by decide) (congrArg Value.bool hb29) ?_
          refine LW_no rfl (by decide) rfl rfl (by decide) (congrArg Value.bool hb29) ?_
          refine LW_v (.inr ⟨5, false, 10, rfl, rfl, by decide, (congrArg Value.bool hb8)⟩) rfl (by decide) (R_pickF (v := (.bool false)) (congrArg Value.bool hb29) rfl) ?_
          replace hm37 := Option.some.inj hm37; subst hm37
          exact key39 _ _ ⟨false, _, (hST.sublist (List.Sublist.cons _ (List.Sublist.cons _ (List.Sublist.refl _)))), rfl, rfl, rfl, hm38⟩
theorem w_ref08_Sorted (v_a0 : Value) (a0 : List Fact) (r : List Fact) (w : World) (h_a0 : Sl (Pl encFact) 3 (hp w) v_a0 a0) (hm : m_ref08_Sorted a0 = some r) :
    GivesRow true Try.prog 21 [v_a0] w 43 encFact 3 r := by
  have hST := ST.start (dd := true) w
  unfold m_ref08_Sorted at hm
  refine calls_of_CW (n := 56) Try.func21 rfl rfl (Nat.le_of_ble_eq_true rfl) ?_
  refine CW_seq ?_
  refine CW_region ?_
  refine LV (R_assign (v := (.slice none 0 0)) rfl) ?_
  refine LW_nil ?_
  refine sq_n ?_
  refine CW_seq ?_
  refine CW_region ?_
  refine LV (R_assign (v := (.slice none 0 0)) rfl) ?_
  refine LW_nil ?_
  refine sq_n ?_
  refine CW_seq ?_
  refine CW_seq ?_
  refine CW_region ?_
  refine LV (R_move (v := v_a0) rfl) ?_
  refine LV (R_len Try.underlying28 rfl h_a0) ?_
  refine LV (R_move (v := (.int .i64 0)) rfl) ?_
  refine LW_nil ?_
  refine sq_n ?_
  refine CW_range (fun i E W => ∃ (v9337 : Value) (l9338 : List Fact) (R9340 : List (Nat × Obj)) (L11674 : List (Nat × Obj)), (E 9 = .int .i64 (i : Nat) ∧ E 8 = .int .i64 (a0.length : Nat)) ∧ ST true NoF w W (hp w) (R9340 ++ L11674) ∧ E 0 = v_a0 ∧ E 3 = v9337 ∧ Row 43 encFact 3 v9337 l9338 R9340 ∧ m_ref08_Sorted_L1 a0 (a0.drop i) l9338 = some r) a0.length h_a0.len ⟨(.slice none 0 0), ([]), [], _, ⟨rfl, rfl⟩, (hST.sublist (List.Sublist.refl _)), rfl, rfl, (Row.nil _ _ _), hm⟩ (by decide) (by decide) (by decide) (fun _ _ _ h => by obtain ⟨_, _, _, _, eIN, _⟩ := h; exact eIN) ?_ ?_
  · rintro i7003 E W hi7009 ⟨v9337, l9338, R9340, L11674, ⟨eI, eN⟩, hST, e11676, e11677, hs9339, hm11675⟩
    obtain ⟨x7004, xs7005, hx7007, hx7006, hx7008⟩ := drop_cons hi7009
    rw [hx7007] at hm11675
    rw [m_ref08_Sorted_L1] at hm11675
    refine CW_block ?_
    refine CW_seq ?_
    refine CW_region ?_
    refine LV (R_assign (v := (.int .i64 ((-1)))) rfl) ?_
    refine LW_nil ?_
    refine sq_n ?_
    refine CW_seq ?_
    refine CW_seq ?_
    refine CW_region ?_
    refine LV (R_move (v := v_a0) e11676) ?_
    refine LV (R_len Try.underlying28 rfl h_a0) ?_
    refine LV (R_move (v := (.int .i64 0)) rfl) ?_
    refine LW_nil ?_
    refine sq_n ?_
    obtain ⟨s12851, hm12852, hm12853⟩ := bind_some hm11675
    refine CW_cut (fun E W => ∃ (x12829 : Int) (L12830 : List (Nat × Obj)), ST true NoF w W (hp w) (R9340 ++ L12830) ∧ E 0 = v_a0 ∧ E 3 = v9337 ∧ E 4 = (.int .i64 x12829) ∧ E 8 = (.int .i64 ((a0.length : Int))) ∧ E 9 = (.int .i64 ((i7003 : Int))) ∧ (if (decide (x12829 ≥ 0)) then (((idx a0 x12829)).bind fun x12841 => (((appB 48 l9338 ([x12841]))).bind fun l12845 => (m_ref08_Sorted_L1 a0 xs7005 l12845))) else (m_ref08_Sorted_L1 a0 xs7005 l9338)) = some r) ?_ ?_
    · refine CW_range (fun i E W => ∃ (x13237 : Int) (L13621 : List (Nat × Obj)), (E 13 = .int .i64 (i : Nat) ∧ E 12 = .int .i64 (a0.length : Nat)) ∧ ST true NoF w W (hp w) (R9340 ++ L13621) ∧ E 0 = v_a0 ∧ E 3 = v9337 ∧ E 4 = (.int .i64 x13237) ∧ E 8 = (.int .i64 ((a0.length : Int))) ∧ E 9 = (.int .i64 ((i7003 : Int))) ∧ E 11 = v_a0 ∧ m_ref08_Sorted_L2 l9338 a0 (a0.drop i) i x13237 = some s12851) a0.length h_a0.len ⟨((-1)), _, ⟨rfl, rfl⟩, (hST.sublist (List.Sublist.refl _)), e11676, e11677, rfl, eN, eI, rfl, hm12852⟩ (by decide) (by decide) (by decide) (fun _ _ _ h => by obtain ⟨_, _, eIN, _⟩ := h; exact eIN) ?_ ?_
      · rintro i12854 E W hi12860 ⟨x13237, L13621, ⟨eI, eN⟩, hST, e13623, e13624, e13625, e13626, e13627, e13628, hm13622⟩
        obtain ⟨x12855, xs12856, hx12858, hx12857, hx12859⟩ := drop_cons hi12860
        rw [hx12858] at hm13622
        rw [m_ref08_Sorted_L2] at hm13622
        refine CW_block ?_
        refine CW_seq ?_
        refine CW_region ?_
        refine LV (R_move (v := (.int .i64 ((i12854 : Int)))) eI) ?_
        refine LQ (R_indexP (enc := encFact) (i := (i12854 : Int)) (x0 := x12855) Try.underlying28 Try.sizeOf43 e13628 eI h_a0 (Int.natCast_nonneg _) hx12857) (fun p13629 hp13630 => ?_)
        refine LV (R_load rfl (load_atA hST.has hp13630 Try.isAgg43 Try.sizeOf43)) ?_
        refine LE (E_alloc hST Try.zeroValue43 (fun W13633 b13632 hST => ?_))
        refine LV (R_assign (v := (.int .i64 ((i12854 : Int)))) rfl) ?_
        refine LW_e0 (.inl rfl) rfl (E_store [] (.agg (encFact x12855).toArray) ((encFact x12855).toArray) hST rfl rfl Try.sizeOf43 (oneFact x12855) (Nat.le_of_ble_eq_true rfl) rfl (fun W13634 hST => ?_))
        refine LW_nil ?_
        refine sq_n ?_
        refine CW_seq ?_
        refine PX_start (fun l W => Has (hp w) ((b13632, Obj.cells ((encFact x12855).toArray : Array Value) 43 (0, 0)) :: (R9340 ++ [])) W) Try_mixed ?_
        replace hST := hST.drew
        replace hST : ST true NoF w _ _ ((b13632, Obj.cells ((encFact x12855).toArray : Array Value) 43 (0, 0)) :: (R9340 ++ L13621)) := hST
        have hS0 : Has (hp w) ((b13632, Obj.cells ((encFact x12855).toArray : Array Value) 43 (0, 0)) :: (R9340 ++ [])) _ := hST.has.sub (Sub.refl _) (fun p hq => ((List.mem_cons.1 hq).elim (fun hq => by rw [hq]; exact (.head _)) (fun hq => ((List.mem_append.1 hq).elim (fun hq => (.tail _ (List.mem_append_left _ hq))) (fun hq => (absurd hq List.not_mem_nil))))))
        refine PV 0 rfl hS0 (R_move (v := v9337) e13624) ?_
        refine PV 1 rfl hS0 (R_lenRow Try.underlying28 rfl hs9339) ?_
        refine PV 2 rfl hS0 (R_int (k := .i64) (a := ((l9338.length : Int))) (b := 0) (v := (.bool ((((l9338.length : Int)) == 0)))) rfl rfl rfl) ?_
        refine PV 3 rfl hS0 (R_move (v := (.bool ((((l9338.length : Int)) == 0)))) rfl) ?_
        obtain ⟨s13993, hm13994, hm13995⟩ := bind_some hm13622
        refine PX_join (J := fun E W => ∃ (x13890 : Bool) (L13891 : List (Nat × Obj)), ST true NoF w W (hp w) ((b13632, Obj.cells ((encFact x12855).toArray : Array Value) 43 (0, 0)) :: (R9340 ++ L13891)) ∧ E 0 = v_a0 ∧ E 3 = v9337 ∧ E 4 = (.int .i64 x13237) ∧ E 5 = (.int .i64 ((i12854 : Int))) ∧ E 6 = (.pointer (some ⟨b13632, 0, none⟩)) ∧ E 8 = (.int .i64 ((a0.length : Int))) ∧ E 9 = (.int .i64 ((i7003 : Int))) ∧ E 11 = v_a0 ∧ E 12 = (.int .i64 ((a0.length : Int))) ∧ E 13 = (.int .i64 ((i12854 : Int))) ∧ E 30 = (.bool x13890) ∧ (((if x13890 then (((if (decide (x13237 < 0)) then some true else (((idx a0 x13237)).bind fun x13988 => (((m_ref08_less x12855 x13988)).bind fun r13990 => some r13990))) : Option Bool).bind fun x13967 => some x13967) else some false) : Option Bool).bind fun x13940 => (if x13940 then (m_ref08_Sorted_L2 l9338 a0 xs12856 (i12854 + 1) ((i12854 : Int))) else (m_ref08_Sorted_L2 l9338 a0 xs12856 (i12854 + 1) x13237))) = some s12851) #[true, true, true, true, true, true, true, true, true, true, true, true, true, false, false, false, false, false, false, false, false, false, false, false, false] 12 ?_ (fun key13996 => ?_)
        · rintro E W ⟨x13890, L13891, hST, e13893, e13894, e13895, e13896, e13897, e13898, e13899, e13900, e13901, e13902, e13903, hm13892⟩
          have hS0 : Has (hp w) ((b13632, Obj.cells ((encFact x12855).toArray : Array Value) 43 (0, 0)) :: (R9340 ++ [])) _ := hST.has.sub (Sub.refl _) (fun p hq => ((List.mem_cons.1 hq).elim (fun hq => by rw [hq]; exact (.head _)) (fun hq => ((List.mem_append.1 hq).elim (fun hq => (.tail _ (List.mem_append_left _ hq))) (fun hq => (absurd hq List.not_mem_nil))))))
          refine PV 13 rfl hS0 (R_move (v := (.bool x13890)) e13903) ?_
          obtain ⟨s13954, hm13955, hm13956⟩ := bind_some hm13892
          refine PX_join (J := fun E W => ∃ (x13940 : Bool) (L13941 : List (Nat × Obj)), ST true NoF w W (hp w) ((b13632, Obj.cells ((encFact x12855).toArray : Array Value) 43 (0, 0)) :: (R9340 ++ L13941)) ∧ E 0 = v_a0 ∧ E 3 = v9337 ∧ E 4 = (.int .i64 x13237) ∧ E 5 = (.int .i64 ((i12854 : Int))) ∧ E 8 = (.int .i64 ((a0.length : Int))) ∧ E 9 = (.int .i64 ((i7003 : Int))) ∧ E 11 = v_a0 ∧ E 12 = (.int .i64 ((a0.length : Int))) ∧ E 13 = (.int .i64 ((i12854 : Int))) ∧ E 42 = (.bool x13940) ∧ (if x13940 then (m_ref08_Sorted_L2 l9338 a0 xs12856 (i12854 + 1) ((i12854 : Int))) else (m_ref08_Sorted_L2 l9338 a0 xs12856 (i12854 + 1) x13237)) = some s12851) #[true, true, true, true, true, true, true, true, true, true, true, true, true, true, true, true, true, true, true, true, true, true, true, true, true] 0 ?_ (fun key13957 => ?_)
          · rintro E W ⟨x13940, L13941, hST, e13943, e13944, e13945, e13946, e13947, e13948, e13949, e13950, e13951, e13952, hm13942⟩
            have hS0 : Has (hp w) ((b13632, Obj.cells ((encFact x12855).toArray : Array Value) 43 (0, 0)) :: (R9340 ++ [])) _ := hST.has.sub (Sub.refl _) (fun p hq => ((List.mem_cons.1 hq).elim (fun hq => by rw [hq]; exact (.head _)) (fun hq => ((List.mem_append.1 hq).elim (fun hq => (.tail _ (List.mem_append_left _ hq))) (fun hq => (absurd hq List.not_mem_nil))))))
            refine PX_done (by kernel_rfl) ?_
            refine sq_n ?_
            replace hST : ST true NoF w _ _ (R9340 ++ L13941) := hST.sublist (List.Sublist.cons _ (List.Sublist.refl _))
            refine CW_if (b := x13940) e13952 (fun hb13953 => ?_) (fun hb13953 => ?_)
            · replace hm13942 := if_t hb13953 hm13942
              refine CW_region ?_
              refine LV (R_move (v := (.int .i64 ((i12854 : Int)))) e13946) ?_
              refine LV (R_assign (v := (.int .i64 ((i12854 : Int)))) rfl) ?_
              refine LW_nil ?_
              refine bq_n ?_
              refine sq_n ?_
              exact ⟨e13951, ((i12854 : Int)), _, ⟨rfl, e13950⟩, (hST.sublist (List.Sublist.refl _)), e13943, e13944, rfl, e13947, e13948, e13949, (by rw [hx12859]; exact hm13942)⟩
            · replace hm13942 := if_f hb13953 hm13942
              refine CW_skip ?_
              refine bq_n ?_
              refine sq_n ?_
              exact ⟨e13951, x13237, _, ⟨rfl, e13950⟩, (hST.sublist (List.Sublist.refl _)), e13943, e13944, e13945, e13947, e13948, e13949, (by rw [hx12859]; exact hm13942)⟩
          · rcases bool_cases x13890 with hb13904 | hb13904
            · replace hm13955 := if_t hb13904 hm13955
              refine PX_v 14 rfl (by kernel_rfl) (.inr ⟨13, true, 31, rfl, rfl, by decide, (congrArg Value.bool hb13904)⟩) rfl (by decide) (fun _ _ h => h) hS0 (fun _ _ _ _ => R_move (v := (.int .i64 x13237)) e13895) ?_
              refine PX_v 15 rfl (by kernel_rfl) (.inr ⟨13, true, 31, rfl, rfl, by decide, (congrArg Value.bool hb13904)⟩) rfl (by decide) (fun _ _ h => h) hS0 (fun _ _ _ _ => R_int (k := .i64) (a := x13237) (b := 0) (v := (.bool ((decide (x13237 < 0))))) rfl rfl rfl) ?_
              refine PX_v 16 rfl (by kernel_rfl) (.inr ⟨13, true, 31, rfl, rfl, by decide, (congrArg Value.bool hb13904)⟩) rfl (by decide) (fun _ _ h => h) hS0 (fun _ _ _ _ => R_move (v := (.bool ((decide (x13237 < 0))))) rfl) ?_
              obtain ⟨s13981, hm13982, hm13983⟩ := bind_some hm13955
              refine PX_join (J := fun E W => ∃ (x13967 : Bool) (L13968 : List (Nat × Obj)), ST true NoF w W (hp w) ((b13632, Obj.cells ((encFact x12855).toArray : Array Value) 43 (0, 0)) :: (R9340 ++ L13968)) ∧ E 0 = v_a0 ∧ E 3 = v9337 ∧ E 4 = (.int .i64 x13237) ∧ E 5 = (.int .i64 ((i12854 : Int))) ∧ E 8 = (.int .i64 ((a0.length : Int))) ∧ E 9 = (.int .i64 ((i7003 : Int))) ∧ E 11 = v_a0 ∧ E 12 = (.int .i64 ((a0.length : Int))) ∧ E 13 = (.int .i64 ((i12854 : Int))) ∧ E 31 = (.bool x13890) ∧ E 41 = (.bool x13967) ∧ some x13967 = some s13954) #[true, true, true, true, true, true, true, true, true, true, true, true, true, true, true, true, true, true, true, true, true, true, true, true, false] 1 ?_ (fun key13984 => ?_)
              · rintro E W ⟨x13967, L13968, hST, e13970, e13971, e13972, e13973, e13974, e13975, e13976, e13977, e13978, e13979, e13980, hm13969⟩
                have hS0 : Has (hp w) ((b13632, Obj.cells ((encFact x12855).toArray : Array Value) 43 (0, 0)) :: (R9340 ++ [])) _ := hST.has.sub (Sub.refl _) (fun p hq => ((List.mem_cons.1 hq).elim (fun hq => by rw [hq]; exact (.head _)) (fun hq => ((List.mem_append.1 hq).elim (fun hq => (.tail _ (List.mem_append_left _ hq))) (fun hq => (absurd hq List.not_mem_nil))))))
                refine PV 24 rfl hS0 (R_pickT (v := (.bool x13967)) (e13979.trans (congrArg Value.bool hb13904)) e13980) ?_
                replace hm13969 := Option.some.inj hm13969; subst hm13969
                refine PX_at (by kernel_rfl) (key13957 _ _ ⟨x13967, _, (hST.sublist (List.Sublist.refl _)), e13970, e13971, e13972, e13973, e13974, e13975, e13976, e13977, e13978, rfl, hm13956⟩)
              · rcases bool_cases ((decide (x13237 < 0))) with hb13958 | hb13958
                · replace hm13982 := if_t hb13958 hm13982
                  refine PX_no 17 rfl (by kernel_rfl) rfl rfl (by decide) (congrArg Value.bool hb13958) rfl (by decide) (fun _ _ h => h) hS0 ?_
                  refine PX_no 18 rfl (by kernel_rfl) rfl rfl (by decide) (congrArg Value.bool hb13958) rfl (by decide) (fun _ _ h => h) hS0 ?_
                  refine PX_no 19 rfl (by kernel_rfl) rfl rfl (by decide) (congrArg Value.bool hb13958) rfl (by decide) (fun _ _ h => h) hS0 ?_
                  refine PX_no 20 rfl (by kernel_rfl) rfl rfl (by decide) (congrArg Value.bool hb13958) rfl (by decide) (fun _ _ h => h) hS0 ?_
                  refine PX_no 21 rfl (by kernel_rfl) rfl rfl (by decide) (congrArg Value.bool hb13958) rfl (by decide) (fun _ _ h => h) hS0 ?_
                  refine PX_no 22 rfl (by kernel_rfl) rfl rfl (by decide) (congrArg Value.bool hb13958) rfl (by decide) (fun _ _ h => h) hS0 ?_
                  refine PX_v 23 rfl (by kernel_rfl) (.inr ⟨13, true, 31, rfl, rfl, by decide, (congrArg Value.bool hb13904)⟩) rfl (by decide) (fun _ _ h => h) hS0 (fun _ _ _ _ => R_pickT (v := (.bool true)) (congrArg Value.bool hb13958) rfl) ?_
                  replace hm13982 := Option.some.inj hm13982; subst hm13982
                  refine PX_at (by kernel_rfl) (key13984 _ _ ⟨true, _, (hST.sublist (List.Sublist.refl _)), e13893, e13894, e13895, e13896, e13898, e13899, e13900, e13901, e13902, rfl, rfl, hm13983⟩)
                · replace hm13982 := if_f hb13958 hm13982
                  refine PX_v 17 rfl (by kernel_rfl) (.inr ⟨16, false, 34, rfl, rfl, by decide, (congrArg Value.bool hb13958)⟩) rfl (by decide) (fun _ _ h => h) hS0 (fun l W hpd hs => have hS := hs; R_load (v := (.agg (encFact x12855).toArray)) e13897 (load_boxA hS (.head _) (encFact x12855) rfl Try.isAgg43 Try.sizeOf43)) ?_
                  refine PX_v 18 rfl (by kernel_rfl) (.inr ⟨16, false, 34, rfl, rfl, by decide, (congrArg Value.bool hb13958)⟩) rfl (by decide) (fun _ _ h => h) hS0 (fun _ _ _ _ => R_move (v := v_a0) e13893) ?_
                  refine PX_v 19 rfl (by kernel_rfl) (.inr ⟨16, false, 34, rfl, rfl, by decide, (congrArg Value.bool hb13958)⟩) rfl (by decide) (fun _ _ h => h) hS0 (fun _ _ _ _ => R_move (v := (.int .i64 x13237)) e13895) ?_
                  obtain ⟨x13988, hx13989, hm13982⟩ := bind_some hm13982
                  refine PX_q 20 rfl (by kernel_rfl) (.inr ⟨16, false, 34, rfl, rfl, by decide, (congrArg Value.bool hb13958)⟩) rfl (by decide) (fun _ _ h => h) hS0 (R_indexP (enc := encFact) (i := x13237) (x0 := x13988) Try.underlying28 Try.sizeOf43 rfl rfl h_a0 (idx_nonneg hx13989) (idx_get hx13989)) (fun p13985 hp13986 => ?_)
                  refine PX_v 21 rfl (by kernel_rfl) (.inr ⟨16, false, 34, rfl, rfl, by decide, (congrArg Value.bool hb13958)⟩) rfl (by decide) (fun _ _ h => h) hS0 (fun l W hpd hs => have hS := hs; R_load rfl (load_atA hS hp13986 Try.isAgg43 Try.sizeOf43)) ?_
                  obtain ⟨r13990, hr13991, hm13982⟩ := bind_some hm13982
                  refine PX_e 22 rfl (by kernel_rfl) (.inr ⟨16, false, 34, rfl, rfl, by decide, (congrArg Value.bool hb13958)⟩) rfl (by decide) (E_gives (args := [(.agg (encFact x12855).toArray), (.agg (encFact x13988).toArray)]) hST rfl Try.call40 (by exact args2 rfl rfl) ((w_ref08_less x12855 x13988 _ _  hr13991)) (fun W13992 hST => ?_))
                  have hS0 : Has (hp w) ((b13632, Obj.cells ((encFact x12855).toArray : Array Value) 43 (0, 0)) :: (R9340 ++ [])) _ := hST.has.sub (Sub.refl _) (fun p hq => ((List.mem_cons.1 hq).elim (fun hq => by rw [hq]; exact (.head _)) (fun hq => ((List.mem_append.1 hq).elim (fun hq => (.tail _ (List.mem_append_left _ hq))) (fun hq => (absurd hq List.not_mem_nil))))))
                  refine ⟨hS0, ?_⟩
                  refine PX_v 23 rfl (by kernel_rfl) (.inr ⟨13, true, 31, rfl, rfl, by decide, (congrArg Value.bool hb13904)⟩) rfl (by decide) (fun _ _ h => h) hS0 (fun _ _ _ _ => R_pickF (v := (.bool r13990)) (congrArg Value.bool hb13958) rfl) ?_
                  replace hm13982 := Option.some.inj hm13982; subst hm13982
                  refine PX_at (by kernel_rfl) (key13984 _ _ ⟨r13990, _, (hST.sublist (List.Sublist.refl _)), e13893, e13894, e13895, e13896, e13898, e13899, e13900, e13901, e13902, rfl, rfl, hm13983⟩)
            · replace hm13955 := if_f hb13904 hm13955
              refine PX_no 14 rfl (by kernel_rfl) rfl rfl (by decide) (congrArg Value.bool hb13904) rfl (by decide) (fun _ _ h => h) hS0 ?_
              refine PX_no 15 rfl (by kernel_rfl) rfl rfl (by decide) (congrArg Value.bool hb13904) rfl (by decide) (fun _ _ h => h) hS0 ?_
              refine PX_no 16 rfl (by kernel_rfl) rfl rfl (by decide) (congrArg Value.bool hb13904) rfl (by decide) (fun _ _ h => h) hS0 ?_
              refine PX_nou 17 rfl (by kernel_rfl) rfl rfl (by decide) rfl rfl (by decide) (fun _ _ h => h) hS0 ?_
              refine PX_nou 18 rfl (by kernel_rfl) rfl rfl (by decide) rfl rfl (by decide) (fun _ _ h => h) hS0 ?_
              refine PX_nou 19 rfl (by kernel_rfl) rfl rfl (by decide) rfl rfl (by decide) (fun _ _ h => h) hS0 ?_
              refine PX_nou 20 rfl (by kernel_rfl) rfl rfl (by decide) rfl rfl (by decide) (fun _ _ h => h) hS0 ?_
              refine PX_nou 21 rfl (by kernel_rfl) rfl rfl (by decide) rfl rfl (by decide) (fun _ _ h => h) hS0 ?_
              refine PX_nou 22 rfl (by kernel_rfl) rfl rfl (by decide) rfl rfl (by decide) (fun _ _ h => h) hS0 ?_
              refine PX_no 23 rfl (by kernel_rfl) rfl rfl (by decide) (congrArg Value.bool hb13904) rfl (by decide) (fun _ _ h => h) hS0 ?_
              refine PV 24 rfl hS0 (R_pickF (v := (.bool false)) (congrArg Value.bool hb13904) rfl) ?_
              replace hm13955 := Option.some.inj hm13955; subst hm13955
              refine PX_at (by kernel_rfl) (key13957 _ _ ⟨false, _, (hST.sublist (List.Sublist.refl _)), e13893, e13894, e13895, e13896, e13898, e13899, e13900, e13901, e13902, rfl, hm13956⟩)
        · rcases bool_cases ((((l9338.length : Int)) == 0)) with hb13881 | hb13881
          · replace hm13994 := if_t hb13881 hm13994
            refine PX_no 4 rfl (by kernel_rfl) rfl rfl (by decide) (congrArg Value.bool hb13881) rfl (by decide) (fun _ _ h => h) hS0 ?_
            refine PX_no 5 rfl (by kernel_rfl) rfl rfl (by decide) (congrArg Value.bool hb13881) rfl (by decide) (fun _ _ h => h) hS0 ?_
            refine PX_no 6 rfl (by kernel_rfl) rfl rfl (by decide) (congrArg Value.bool hb13881) rfl (by decide) (fun _ _ h => h) hS0 ?_
            refine PX_no 7 rfl (by kernel_rfl) rfl rfl (by decide) (congrArg Value.bool hb13881) rfl (by decide) (fun _ _ h => h) hS0 ?_
            refine PX_no 8 rfl (by kernel_rfl) rfl rfl (by decide) (congrArg Value.bool hb13881) rfl (by decide) (fun _ _ h => h) hS0 ?_
            refine PX_no 9 rfl (by kernel_rfl) rfl rfl (by decide) (congrArg Value.bool hb13881) rfl (by decide) (fun _ _ h => h) hS0 ?_
            refine PX_no 10 rfl (by kernel_rfl) rfl rfl (by decide) (congrArg Value.bool hb13881) rfl (by decide) (fun _ _ h => h) hS0 ?_
            refine PX_no 11 rfl (by kernel_rfl) rfl rfl (by decide) (congrArg Value.bool hb13881) rfl (by decide) (fun _ _ h => h) hS0 ?_
            refine PV 12 rfl hS0 (R_pickT (v := (.bool true)) (congrArg Value.bool hb13881) rfl) ?_
            replace hm13994 := Option.some.inj hm13994; subst hm13994
            refine PX_at (by kernel_rfl) (key13996 _ _ ⟨true, _, (hST.sublist (List.Sublist.refl _)), e13623, e13624, e13625, rfl, rfl, e13626, e13627, e13628, eN, eI, rfl, hm13995⟩)
          · replace hm13994 := if_f hb13881 hm13994
            refine PX_v 4 rfl (by kernel_rfl) (.inr ⟨3, false, 21, rfl, rfl, by decide, (congrArg Value.bool hb13881)⟩) rfl (by decide) (fun _ _ h => h) hS0 (fun _ _ _ _ => R_move (v := v9337) e13624) ?_
            refine PX_v 5 rfl (by kernel_rfl) (.inr ⟨3, false, 21, rfl, rfl, by decide, (congrArg Value.bool hb13881)⟩) rfl (by decide) (fun _ _ h => h) hS0 (fun _ _ _ _ => R_move (v := v9337) e13624) ?_
            refine PX_v 6 rfl (by kernel_rfl) (.inr ⟨3, false, 21, rfl, rfl, by decide, (congrArg Value.bool hb13881)⟩) rfl (by decide) (fun _ _ h => h) hS0 (fun _ _ _ _ => R_lenRow Try.underlying28 rfl hs9339) ?_
            refine PX_v 7 rfl (by kernel_rfl) (.inr ⟨3, false, 21, rfl, rfl, by decide, (congrArg Value.bool hb13881)⟩) rfl (by decide) (fun _ _ h => h) hS0 (fun _ _ _ _ => R_int (k := .i64) (a := ((l9338.length : Int))) (b := 1) (v := (.int .i64 ((IntKind.i64.wrap (((l9338.length : Int)) - 1))))) rfl rfl rfl) ?_
            obtain ⟨x14000, hx14001, hm13994⟩ := bind_some hm13994
            refine PX_q 8 rfl (by kernel_rfl) (.inr ⟨3, false, 21, rfl, rfl, by decide, (congrArg Value.bool hb13881)⟩) rfl (by decide) (fun _ _ h => h) hS0 (R_indexRow (i := (IntKind.i64.wrap (((l9338.length : Int)) - 1))) (x0 := x14000) Try.underlying28 Try.sizeOf43 rfl rfl hs9339 (idx_nonneg hx14001) (idx_get hx14001)) (fun p13997 hp13998 => ?_)
            refine PX_v 9 rfl (by kernel_rfl) (.inr ⟨3, false, 21, rfl, rfl, by decide, (congrArg Value.bool hb13881)⟩) rfl (by decide) (fun _ _ h => h) hS0 (fun l W hpd hs => have hS := hs; R_load (v := (.agg (encFact x14000).toArray)) rfl (load_ixA hS (fun p hq => by simp [hq]) hs9339 lenFact hp13998 (idx_get hx14001) Try.isAgg43 Try.sizeOf43)) ?_
            refine PX_v 10 rfl (by kernel_rfl) (.inr ⟨3, false, 21, rfl, rfl, by decide, (congrArg Value.bool hb13881)⟩) rfl (by decide) (fun _ _ h => h) hS0 (fun l W hpd hs => have hS := hs; R_load (v := (.agg (encFact x12855).toArray)) rfl (load_boxA hS (.head _) (encFact x12855) rfl Try.isAgg43 Try.sizeOf43)) ?_
            obtain ⟨r14002, hr14003, hm13994⟩ := bind_some hm13994
            refine PX_e 11 rfl (by kernel_rfl) (.inr ⟨3, false, 21, rfl, rfl, by decide, (congrArg Value.bool hb13881)⟩) rfl (by decide) (E_gives (args := [(.agg (encFact x14000).toArray), (.agg (encFact x12855).toArray)]) hST rfl Try.call40 (by exact args2 rfl rfl) ((w_ref08_less x14000 x12855 _ _  hr14003)) (fun W14004 hST => ?_))
            have hS0 : Has (hp w) ((b13632, Obj.cells ((encFact x12855).toArray : Array Value) 43 (0, 0)) :: (R9340 ++ [])) _ := hST.has.sub (Sub.refl _) (fun p hq => ((List.mem_cons.1 hq).elim (fun hq => by rw [hq]; exact (.head _)) (fun hq => ((List.mem_append.1 hq).elim (fun hq => (.tail _ (List.mem_append_left _ hq))) (fun hq => (absurd hq List.not_mem_nil))))))
            refine ⟨hS0, ?_⟩
            refine PV 12 rfl hS0 (R_pickF (v := (.bool r14002)) (congrArg Value.bool hb13881) rfl) ?_
            replace hm13994 := Option.some.inj hm13994; subst hm13994
            refine PX_at (by kernel_rfl) (key13996 _ _ ⟨r14002, _, (hST.sublist (List.Sublist.refl _)), e13623, e13624, e13625, rfl, rfl, e13626, e13627, e13628, eN, eI, rfl, hm13995⟩)
      · rintro E W ⟨x13237, L13621, ⟨eI, eN⟩, hST, e13623, e13624, e13625, e13626, e13627, e13628, hm13622⟩
        rw [List.drop_length] at hm13622
        rw [m_ref08_Sorted_L2] at hm13622
        refine sq_n ?_
        replace hm13622 := Option.some.inj hm13622; subst hm13622
        exact ⟨x13237, _, (hST.sublist (List.Sublist.refl _)), e13623, e13624, e13625, e13626, e13627, hm12853⟩
    · rintro E W ⟨x12829, L12830, hST, e12832, e12833, e12834, e12835, e12836, hm12831⟩
      refine CW_seq ?_
      refine CW_region ?_
      refine LV (R_move (v := (.int .i64 x12829)) e12834) ?_
      refine LV (R_int (k := .i64) (a := x12829) (b := 0) (v := (.bool ((decide (x12829 ≥ 0))))) rfl rfl rfl) ?_
      refine LW_nil ?_
      refine sq_n ?_
      refine CW_if (b := (decide (x12829 ≥ 0))) rfl (fun hb12837 => ?_) (fun hb12837 => ?_)
      · replace hm12831 := if_t hb12837 hm12831
        refine CW_region ?_
        refine LV (R_move (v := v9337) e12833) ?_
        refine LV (R_move (v := v_a0) e12832) ?_
        refine LV (R_move (v := (.int .i64 x12829)) e12834) ?_
        obtain ⟨x12841, hx12842, hm12831⟩ := bind_some hm12831
        refine LQ (R_indexP (enc := encFact) (i := x12829) (x0 := x12841) Try.underlying28 Try.sizeOf43 rfl rfl h_a0 (idx_nonneg hx12842) (idx_get hx12842)) (fun p12838 hp12839 => ?_)
        refine LV (R_load rfl (load_atA hST.has hp12839 Try.isAgg43 Try.sizeOf43)) ?_
        refine LE (E_buildSlice (qs := #[(0, (.agg (encFact x12841).toArray))]) (cs := (encFact x12841).toArray) hST (parts1 rfl) (run_lit [(.agg (encFact x12841).toArray)] Try.underlying28 Try.sizeOf43 Try.zeroValue43 (by decide) rfl (by intro v hv; simp only [List.mem_cons, List.not_mem_nil, or_false] at hv; rcases hv with rfl <;> rfl) rfl rfl) (fun W12844 b12843 hST => ?_))
        obtain ⟨l12845, hb12846, hm12831⟩ := bind_some hm12831
        refine LE (E_append (enc := encFact) (v := v9337) (vs := (.slice (some ⟨b12843, 0, none⟩) 1 1)) (R := R9340) [_] hST lenFact (by decide) oneFact Try.underlying28 info43.1 info43.2.1 rfl info43.2.2.1 info43.2.2.2 rfl rfl hs9339 (Sl.lit (enc := encFact) (l := [x12841]) lenFact rfl (Nat.le_of_ble_eq_true rfl) rfl (hST.at_ (.head _))) hb12846 (fun W12847 v12850 R12848 hST hR12849 => ?_))
        refine LV (R_assign (v := v12850) rfl) ?_
        refine LW_nil ?_
        refine bq_n ?_
        refine sq_n ?_
        replace hST : ST true NoF w _ _ ((b12843, Obj.cells ((encFact x12841).toArray : Array Value) 43 (0, 0)) :: (R12848 ++ L12830)) := hST
        replace hST : ST true NoF w _ _ (R12848 ++ L12830) := hST.sublist (List.Sublist.cons _ (List.Sublist.refl _))
        exact ⟨e12836, v12850, l12845, R12848, _, ⟨rfl, e12835⟩, (hST.sublist (List.Sublist.refl _)), e12832, rfl, hR12849, (by rw [hx7008]; exact hm12831)⟩
      · replace hm12831 := if_f hb12837 hm12831
        refine CW_skip ?_
        refine bq_n ?_
        refine sq_n ?_
        exact ⟨e12836, v9337, l9338, R9340, _, ⟨rfl, e12835⟩, (hST.sublist (List.Sublist.refl _)), e12832, e12833, hs9339, (by rw [hx7008]; exact hm12831)⟩
  · rintro E W ⟨v9337, l9338, R9340, L11674, ⟨eI, eN⟩, hST, e11676, e11677, hs9339, hm11675⟩
    rw [List.drop_length] at hm11675
    rw [m_ref08_Sorted_L1] at hm11675
    refine sq_n ?_
    refine CW_seq ?_
    refine CW_region ?_
    refine LV (R_move (v := v9337) e11677) ?_
    refine LV (R_assign (v := v9337) rfl) ?_
    refine LW_nil ?_
    refine sq_n ?_
    refine CW_ret ?_
    replace hm11675 := Option.some.inj hm11675; subst hm11675
    refine retQ_1 (v := v9337) rfl rfl ?_
    exact ⟨_, R9340, rfl, hST.backRow (fun p hq => by simp [hq]) hs9339.nd, hs9339⟩
theorem w_ref08_Of (v_a0 : Value) (a0 : List Cred) (r : List Fact) (w : World) (h_a0 : Sl (Pl encCred) 9 (hp w) v_a0 a0) (hm : m_ref08_Of a0 = some r) :
    GivesRow true Try.prog 8 [v_a0] w 43 encFact 3 r := by
  have hST := ST.start (dd := true) w
  unfold m_ref08_Of at hm
  refine calls_of_CW (n := 53) Try.func8 rfl rfl (Nat.le_of_ble_eq_true rfl) ?_
  refine CW_seq ?_
  refine CW_region ?_
  refine LV (R_assign (v := (.slice none 0 0)) rfl) ?_
  refine LW_nil ?_
  refine sq_n ?_
  refine CW_seq ?_
  refine CW_region ?_
  refine LV (R_move (v := v_a0) rfl) ?_
  obtain ⟨r1, hr2, hm⟩ := bind_some hm
  refine LE (E_givesRow (args := [v_a0]) [] _ hST rfl Try.call13 (by exact args1 rfl) ((w_ref05_Set v_a0 a0 _ _ (h_a0.mono (Pl.mono _) hST.sub_hp) hr2)) (fun W3 v6 μ4 R7 hST hle5 hR8 => ?_))
  refine LV (R_assign (v := v6) rfl) ?_
  refine LW_nil ?_
  refine sq_n ?_
  refine CW_seq ?_
  refine CW_region ?_
  refine LV (R_move (v := v6) rfl) ?_
  replace hST : ST true NoF w _ _ (R7 ++ []) := hST
  obtain ⟨r9, hr10, hm⟩ := bind_some hm
  refine LE (E_givesRow (args := [v6]) [] _ hST rfl Try.call12 (by exact args1 rfl) ((w_ref08_Names v6 r1 _ _ (hR8.sl lenCred (fun b o hq => hST.at_ (List.mem_append_left _ hq))) hr10)) (fun W11 v14 μ12 R15 hST hle13 hR16 => ?_))
  refine LV (R_assign (v := v14) rfl) ?_
  refine LW_nil ?_
  refine sq_n ?_
  refine CW_seq ?_
  refine CW_region ?_
  refine LV (R_assign (v := (.slice none 0 0)) rfl) ?_
  refine LW_nil ?_
  refine sq_n ?_
  refine CW_tail ?_
  replace hST : ST true NoF w _ _ (R15 ++ (R7 ++ [])) := hST
  refine CW_block (CW_loop (fun m E W => ∃ (v8734 : Value) (l8735 : List Fact) (R8737 : List (Nat × Obj)) (L10920 : List (Nat × Obj)), ST true NoF w W μ12 (R8737 ++ (R15 ++ (R7 ++ L10920))) ∧ E 3 = v6 ∧ E 4 = v14 ∧ E 5 = v8734 ∧ Row 43 encFact 3 v8734 l8735 R8737 ∧ m_ref08_Of_L1 r9 r1 m l8735 = some r) FUEL ⟨(.slice none 0 0), ([]), [], _, (hST.sublist (List.Sublist.refl _)), rfl, rfl, rfl, (Row.nil _ _ _), hm⟩ ?_)
  rintro m E W ⟨v8734, l8735, R8737, L10920, hST, e10923, e10924, e10925, hs8736, hm10921⟩
  cases m with
  | zero => rw [m_ref08_Of_L1] at hm10921; cases hm10921
  | succ n10922 =>
    rw [m_ref08_Of_L1] at hm10921
    refine CW_block ?_
    refine CW_seq ?_
    refine CW_region ?_
    refine LV (R_assign (v := (.bool false)) rfl) ?_
    refine LW_nil ?_
    refine sq_n ?_
    refine CW_seq ?_
    refine CW_seq ?_
    refine CW_region ?_
    refine LV (R_move (v := v6) e10923) ?_
    refine LV (R_lenRow Try.underlying24 rfl hR8) ?_
    refine LV (R_move (v := (.int .i64 0)) rfl) ?_
    refine LW_nil ?_
    refine sq_n ?_
    obtain ⟨s12022, hm12023, hm12024⟩ := bind_some hm10921
    refine CW_cut (fun E W => ∃ (v12002 : Value) (l12003 : List Fact) (R12005 : List (Nat × Obj)) (x12006 : Bool) (L12007 : List (Nat × Obj)), ST true NoF w W μ12 (R12005 ++ (R15 ++ (R7 ++ L12007))) ∧ E 3 = v6 ∧ E 4 = v14 ∧ E 5 = v12002 ∧ E 6 = (.bool x12006) ∧ Row 43 encFact 3 v12002 l12003 R12005 ∧ (if (!x12006) then (((m_ref08_Sorted l12003)).bind fun r12014 => some r12014) else (m_ref08_Of_L1 r9 r1 n10922 l12003)) = some r) ?_ ?_
    · refine CW_range (fun i E W => ∃ (v12381 : Value) (l12382 : List Fact) (R12384 : List (Nat × Obj)) (x12385 : Bool) (L12745 : List (Nat × Obj)), (E 17 = .int .i64 (i : Nat) ∧ E 16 = .int .i64 (r1.length : Nat)) ∧ ST true NoF w W μ12 (R12384 ++ (R15 ++ (R7 ++ L12745))) ∧ E 3 = v6 ∧ E 4 = v14 ∧ E 5 = v12381 ∧ E 6 = (.bool x12385) ∧ E 15 = v6 ∧ Row 43 encFact 3 v12381 l12382 R12384 ∧ m_ref08_Of_L2 r9 (r1.drop i) l12382 x12385 = some s12022) r1.length hR8.len ⟨v8734, l8735, R8737, false, _, ⟨rfl, rfl⟩, (hST.sublist (List.Sublist.refl _)), e10923, e10924, e10925, rfl, rfl, hs8736, hm12023⟩ (by decide) (by decide) (by decide) (fun _ _ _ h => by obtain ⟨_, _, _, _, _, eIN, _⟩ := h; exact eIN) ?_ ?_
      · rintro i12025 E W hi12031 ⟨v12381, l12382, R12384, x12385, L12745, ⟨eI, eN⟩, hST, e12747, e12748, e12749, e12750, e12751, hs12383, hm12746⟩
        obtain ⟨x12026, xs12027, hx12029, hx12028, hx12030⟩ := drop_cons hi12031
        rw [hx12029] at hm12746
        rw [m_ref08_Of_L2] at hm12746
        refine CW_block ?_
        refine CW_seq ?_
        refine CW_region ?_
        refine LQ (R_indexRow (i := (i12025 : Int)) (x0 := x12026) Try.underlying24 Try.sizeOf36 e12751 eI hR8 (Int.natCast_nonneg _) hx12028) (fun p12752 hp12753 => ?_)
        refine LV (R_load (v := (.agg (encCred x12026).toArray)) rfl (load_ixA hST.has (fun p hq => by simp [hq]) hR8 lenCred hp12753 hx12028 Try.isAgg36 Try.sizeOf36)) ?_
        refine LE (E_alloc hST Try.zeroValue36 (fun W12756 b12755 hST => ?_))
        refine LW_e0 (.inl rfl) rfl (E_store [] (.agg (encCred x12026).toArray) ((encCred x12026).toArray) hST rfl rfl Try.sizeOf36 (oneCred x12026) (Nat.le_of_ble_eq_true rfl) rfl (fun W12757 hST => ?_))
        refine LW_nil ?_
        refine sq_n ?_
        refine CW_seq ?_
        refine CW_region ?_
        refine LV (R_move (v := v14) e12748) ?_
        refine LV (R_lenRow Try.underlying37 rfl hR16) ?_
        refine LV (R_move (v := (.int .i64 0)) rfl) ?_
        refine LW_nil ?_
        refine sq_n ?_
        refine CW_tail ?_
        obtain ⟨s12935, hm12936, hm12937⟩ := bind_some hm12746
        refine CW_cut (fun E W => ∃ (v12921 : Value) (l12922 : List Fact) (R12924 : List (Nat × Obj)) (x12925 : Bool) (L12926 : List (Nat × Obj)), ST true NoF w W μ12 (R12924 ++ (R15 ++ (R7 ++ L12926))) ∧ E 3 = v6 ∧ E 4 = v14 ∧ E 5 = v12921 ∧ E 6 = (.bool x12925) ∧ E 15 = v6 ∧ E 16 = (.int .i64 ((r1.length : Int))) ∧ E 17 = (.int .i64 ((i12025 : Int))) ∧ Row 43 encFact 3 v12921 l12922 R12924 ∧ (m_ref08_Of_L2 r9 xs12027 l12922 x12925) = some s12022) ?_ ?_
        · replace hST : ST true NoF w _ _ ((b12755, Obj.cells ((encCred x12026).toArray : Array Value) 36 (0, 0)) :: (R12384 ++ (R15 ++ (R7 ++ L12745)))) := hST
          refine CW_range (fun i E W => ∃ (v12987 : Value) (l12988 : List Fact) (R12990 : List (Nat × Obj)) (x12991 : Bool) (L13048 : List (Nat × Obj)), (E 23 = .int .i64 (i : Nat) ∧ E 22 = .int .i64 (r9.length : Nat)) ∧ ST true NoF w W μ12 ((b12755, Obj.cells ((encCred x12026).toArray : Array Value) 36 (0, 0)) :: (R12990 ++ (R15 ++ (R7 ++ L13048)))) ∧ E 3 = v6 ∧ E 4 = v14 ∧ E 5 = v12987 ∧ E 6 = (.bool x12991) ∧ E 8 = (.pointer (some ⟨b12755, 0, none⟩)) ∧ E 15 = v6 ∧ E 16 = (.int .i64 ((r1.length : Int))) ∧ E 17 = (.int .i64 ((i12025 : Int))) ∧ E 21 = v14 ∧ Row 43 encFact 3 v12987 l12988 R12990 ∧ m_ref08_Of_L3 x12026 r9 (r9.drop i) l12988 x12991 = some s12935) r9.length hR16.len ⟨v12381, l12382, R12384, x12385, _, ⟨rfl, rfl⟩, (hST.sublist (List.Sublist.refl _)), e12747, e12748, e12749, e12750, rfl, e12751, eN, eI, rfl, hs12383, hm12936⟩ (by decide) (by decide) (by decide) (fun _ _ _ h => by obtain ⟨_, _, _, _, _, eIN, _⟩ := h; exact eIN) ?_ ?_
          · rintro i12938 E W hi12944 ⟨v12987, l12988, R12990, x12991, L13048, ⟨eI, eN⟩, hST, e13050, e13051, e13052, e13053, e13054, e13055, e13056, e13057, e13058, hs12989, hm13049⟩
            obtain ⟨x12939, xs12940, hx12942, hx12941, hx12943⟩ := drop_cons hi12944
            rw [hx12942] at hm13049
            rw [m_ref08_Of_L3] at hm13049
            refine CW_block ?_
            refine CW_seq ?_
            refine CW_region ?_
            refine LQ (R_indexRow (i := (i12938 : Int)) (x0 := x12939) Try.underlying37 Try.sizeOf9 e13058 eI hR16 (Int.natCast_nonneg _) hx12941) (fun p13059 hp13060 => ?_)
            refine LV (R_load (v := (.string x12939)) rfl (load_ix1 hST.has (fun p hq => by simp [hq]) hR16 (fun _ => rfl) hp13060 hx12941 (y := (.string x12939)) rfl Try.isAgg9)) ?_
            refine LV (R_assign (v := (.string x12939)) rfl) ?_
            refine LW_nil ?_
            refine sq_n ?_
            refine CW_seq ?_
            refine CW_region ?_
            refine LV (R_move (v := v12987) e13052) ?_
            refine LV (R_field fa36_1 e13054) ?_
            refine LV (R_load (v := (.agg (encRole x12026.Head).toArray)) rfl (load_boxA hST.has (.head _) (encRole x12026.Head) rfl Try.isAgg34 Try.sizeOf34)) ?_
            refine LV (R_move (v := (.string x12939)) rfl) ?_
            obtain ⟨r13062, hr13063, hm13049⟩ := bind_some hm13049
            refine LE (E_gives (args := [v12987, (.agg (encRole x12026.Head).toArray), (.string x12939)]) hST rfl Try.call19 (by exact args3 rfl rfl rfl) ((w_ref08_In v12987 l12988 x12026.Head x12939 _ _ (hs12989.sl lenFact (fun b o hq => hST.at_ (.tail _ (List.mem_append_left _ hq)))) hr13063)) (fun W13064 hST => ?_))
            refine LV (R_not (b := r13062) rfl) ?_
            refine LV (R_move (v := (.bool ((!r13062)))) rfl) ?_
            obtain ⟨s13094, hm13095, hm13096⟩ := bind_some hm13049
            refine LW_join (J := fun E W => ∃ (x13069 : Bool) (L13070 : List (Nat × Obj)), ST true NoF w W μ12 ((b12755, Obj.cells ((encCred x12026).toArray : Array Value) 36 (0, 0)) :: (R12990 ++ (R15 ++ (R7 ++ L13070)))) ∧ E 3 = v6 ∧ E 4 = v14 ∧ E 5 = v12987 ∧ E 6 = (.bool x12991) ∧ E 8 = (.pointer (some ⟨b12755, 0, none⟩)) ∧ E 10 = (.string x12939) ∧ E 15 = v6 ∧ E 16 = (.int .i64 ((r1.length : Int))) ∧ E 17 = (.int .i64 ((i12025 : Int))) ∧ E 21 = v14 ∧ E 22 = (.int .i64 ((r9.length : Int))) ∧ E 23 = (.int .i64 ((i12938 : Int))) ∧ E 39 = (.bool x13069) ∧ (if x13069 then (((appB 48 l12988 ([(⟨x12026.Head, x12939⟩ : Fact)]))).bind fun l13088 => (m_ref08_Of_L3 x12026 r9 xs12940 l13088 true)) else (m_ref08_Of_L3 x12026 r9 xs12940 l12988 x12991)) = some s12935) 6 ?_ (fun key13097 => ?_)
            · rintro E W ⟨x13069, L13070, hST, e13072, e13073, e13074, e13075, e13076, e13077, e13078, e13079, e13080, e13081, e13082, e13083, e13084, hm13071⟩
              refine LW_nil ?_
              refine sq_n ?_
              refine CW_if (b := x13069) e13084 (fun hb13085 => ?_) (fun hb13085 => ?_)
              · replace hm13071 := if_t hb13085 hm13071
                refine CW_seq ?_
                refine CW_region ?_
                refine LV (R_move (v := v12987) e13074) ?_
                refine LV (R_field fa36_1 e13076) ?_
                refine LV (R_load (v := (.agg (encRole x12026.Head).toArray)) rfl (load_boxA hST.has (.head _) (encRole x12026.Head) rfl Try.isAgg34 Try.sizeOf34)) ?_
                refine LV (R_move (v := (.string x12939)) e13077) ?_
                refine LV (R_build (qs := #[(0, (.agg (encRole x12026.Head).toArray)), (1, (.string x12939))]) (v := (.agg (encFact ((⟨x12026.Head, x12939⟩ : Fact))).toArray)) (parts2 rfl rfl) (run_build Try.zeroValue43 Try.underlying43 (pl43 _ Try.underlying43) (by kernel_rfl))) ?_
                refine LE (E_buildSlice (qs := #[(0, (.agg (encFact ((⟨x12026.Head, x12939⟩ : Fact))).toArray))]) (cs := (encFact ((⟨x12026.Head, x12939⟩ : Fact))).toArray) hST (parts1 rfl) (run_lit [(.agg (encFact ((⟨x12026.Head, x12939⟩ : Fact))).toArray)] Try.underlying28 Try.sizeOf43 Try.zeroValue43 (by decide) rfl (by intro v hv; simp only [List.mem_cons, List.not_mem_nil, or_false] at hv; rcases hv with rfl <;> rfl) rfl rfl) (fun W13087 b13086 hST => ?_))
                obtain ⟨l13088, hb13089, hm13071⟩ := bind_some hm13071
                refine LE (E_append (enc := encFact) (v := v12987) (vs := (.slice (some ⟨b13086, 0, none⟩) 1 1)) (R := R12990) [_, _] hST lenFact (by decide) oneFact Try.underlying28 info43.1 info43.2.1 rfl info43.2.2.1 info43.2.2.2 rfl rfl hs12989 (Sl.lit (enc := encFact) (l := [(⟨x12026.Head, x12939⟩ : Fact)]) lenFact rfl (Nat.le_of_ble_eq_true rfl) rfl (hST.at_ (.head _))) hb13089 (fun W13090 v13093 R13091 hST hR13092 => ?_))
                refine LV (R_assign (v := v13093) rfl) ?_
                refine LW_nil ?_
                refine sq_n ?_
                replace hST : ST true NoF w _ _ ((b13086, Obj.cells ((encFact ((⟨x12026.Head, x12939⟩ : Fact))).toArray : Array Value) 43 (0, 0)) :: ((b12755, Obj.cells ((encCred x12026).toArray : Array Value) 36 (0, 0)) :: (R13091 ++ (R15 ++ (R7 ++ L13070))))) := hST
                replace hST : ST true NoF w _ _ ((b12755, Obj.cells ((encCred x12026).toArray : Array Value) 36 (0, 0)) :: (R13091 ++ (R15 ++ (R7 ++ L13070)))) := hST.sublist (List.Sublist.cons _ (List.Sublist.refl _))
                refine CW_region ?_
                refine LV (R_assign (v := (.bool true)) rfl) ?_
                refine LW_nil ?_
                refine bq_n ?_
                refine sq_n ?_
                exact ⟨e13083, v13093, l13088, R13091, true, _, ⟨rfl, e13082⟩, (hST.sublist (List.Sublist.refl _)), e13072, e13073, rfl, rfl, e13076, e13078, e13079, e13080, e13081, hR13092, (by rw [hx12943]; exact hm13071)⟩
              · replace hm13071 := if_f hb13085 hm13071
                refine CW_skip ?_
                refine bq_n ?_
                refine sq_n ?_
                exact ⟨e13083, v12987, l12988, R12990, x12991, _, ⟨rfl, e13082⟩, (hST.sublist (List.Sublist.refl _)), e13072, e13073, e13074, e13075, e13076, e13078, e13079, e13080, e13081, hs12989, (by rw [hx12943]; exact hm13071)⟩
            · rcases bool_cases ((!r13062)) with hb13065 | hb13065
              · replace hm13095 := if_t hb13065 hm13095
                refine LW_v (.inr ⟨6, true, 33, rfl, rfl, by decide, (congrArg Value.bool hb13065)⟩) rfl (by decide) (R_move (v := v12987) e13052) ?_
                refine LW_v (.inr ⟨6, true, 33, rfl, rfl, by decide, (congrArg Value.bool hb13065)⟩) rfl (by decide) (R_load (v := (.agg (encCred x12026).toArray)) e13054 (load_boxA hST.has (.head _) (encCred x12026) rfl Try.isAgg36 Try.sizeOf36)) ?_
                refine LW_v (.inr ⟨6, true, 33, rfl, rfl, by decide, (congrArg Value.bool hb13065)⟩) rfl (by decide) (R_move (v := v14) e13051) ?_
                refine LW_v (.inr ⟨6, true, 33, rfl, rfl, by decide, (congrArg Value.bool hb13065)⟩) rfl (by decide) (R_move (v := (.string x12939)) rfl) ?_
                obtain ⟨r13098, hr13099, hm13095⟩ := bind_some hm13095
                refine LW_e (.inr ⟨6, true, 33, rfl, rfl, by decide, (congrArg Value.bool hb13065)⟩) rfl (by decide) (E_gives (args := [v12987, (.agg (encCred x12026).toArray), v14, (.string x12939)]) hST rfl Try.call20 (by exact args4 rfl rfl rfl rfl) ((w_ref08_Step v12987 l12988 x12026 v14 r9 x12939 _ _ (hs12989.sl lenFact (fun b o hq => hST.at_ (.tail _ (List.mem_append_left _ hq)))) (hR16.sl (fun _ => rfl) (fun b o hq => hST.at_ (.tail _ (List.mem_append_right _ (List.mem_append_left _ hq))))) hr13099)) (fun W13100 hST => ?_))
                refine LV (R_pickT (v := (.bool r13098)) (congrArg Value.bool hb13065) rfl) ?_
                replace hm13095 := Option.some.inj hm13095; subst hm13095
                exact key13097 _ _ ⟨r13098, _, (hST.sublist (List.Sublist.refl _)), e13050, e13051, e13052, e13053, e13054, rfl, e13055, e13056, e13057, e13058, eN, eI, rfl, hm13096⟩
              · replace hm13095 := if_f hb13065 hm13095
                refine LW_no rfl (by decide) rfl rfl (by decide) (congrArg Value.bool hb13065) ?_
                refine LW_no rfl (by decide) rfl rfl (by decide) (congrArg Value.bool hb13065) ?_
                refine LW_no rfl (by decide) rfl rfl (by decide) (congrArg Value.bool hb13065) ?_
                refine LW_no rfl (by decide) rfl rfl (by decide) (congrArg Value.bool hb13065) ?_
                refine LW_no rfl (by decide) rfl rfl (by decide) (congrArg Value.bool hb13065) ?_
                refine LV (R_pickF (v := (.bool false)) (congrArg Value.bool hb13065) rfl) ?_
                replace hm13095 := Option.some.inj hm13095; subst hm13095
                exact key13097 _ _ ⟨false, _, (hST.sublist (List.Sublist.refl _)), e13050, e13051, e13052, e13053, e13054, rfl, e13055, e13056, e13057, e13058, eN, eI, rfl, hm13096⟩
          · rintro E W ⟨v12987, l12988, R12990, x12991, L13048, ⟨eI, eN⟩, hST, e13050, e13051, e13052, e13053, e13054, e13055, e13056, e13057, e13058, hs12989, hm13049⟩
            rw [List.drop_length] at hm13049
            rw [m_ref08_Of_L3] at hm13049
            refine sq_n ?_
            replace hm13049 := Option.some.inj hm13049; subst hm13049
            exact ⟨v12987, l12988, R12990, x12991, _, (hST.sublist (List.Sublist.cons _ (List.Sublist.refl _))), e13050, e13051, e13052, e13053, e13055, e13056, e13057, hs12989, hm12937⟩
        · rintro E W ⟨v12921, l12922, R12924, x12925, L12926, hST, e12928, e12929, e12930, e12931, e12932, e12933, e12934, hs12923, hm12927⟩
          refine bq_n ?_
          refine sq_n ?_
          exact ⟨e12934, v12921, l12922, R12924, x12925, _, ⟨rfl, e12933⟩, (hST.sublist (List.Sublist.refl _)), e12928, e12929, e12930, e12931, e12932, hs12923, (by rw [hx12030]; exact hm12927)⟩
      · rintro E W ⟨v12381, l12382, R12384, x12385, L12745, ⟨eI, eN⟩, hST, e12747, e12748, e12749, e12750, e12751, hs12383, hm12746⟩
        rw [List.drop_length] at hm12746
        rw [m_ref08_Of_L2] at hm12746
        refine sq_n ?_
        replace hm12746 := Option.some.inj hm12746; subst hm12746
        exact ⟨v12381, l12382, R12384, x12385, _, (hST.sublist (List.Sublist.refl _)), e12747, e12748, e12749, e12750, hs12383, hm12024⟩
    · rintro E W ⟨v12002, l12003, R12005, x12006, L12007, hST, e12009, e12010, e12011, e12012, hs12004, hm12008⟩
      refine CW_seq ?_
      refine CW_region ?_
      refine LV (R_move (v := (.bool x12006)) e12012) ?_
      refine LV (R_not (b := x12006) rfl) ?_
      refine LW_nil ?_
      refine sq_n ?_
      refine CW_if (b := (!x12006)) rfl (fun hb12013 => ?_) (fun hb12013 => ?_)
      · replace hm12008 := if_t hb12013 hm12008
        refine CW_seq ?_
        refine CW_region ?_
        refine LV (R_move (v := v12002) e12011) ?_
        obtain ⟨r12014, hr12015, hm12008⟩ := bind_some hm12008
        refine LE (E_givesRow (args := [v12002]) [] _ hST rfl Try.call21 (by exact args1 rfl) ((w_ref08_Sorted v12002 l12003 _ _ (hs12004.sl lenFact (fun b o hq => hST.at_ (List.mem_append_left _ hq))) hr12015)) (fun W12016 v12019 μ12017 R12020 hST hle12018 hR12021 => ?_))
        refine LV (R_assign (v := v12019) rfl) ?_
        refine LW_nil ?_
        refine sq_n ?_
        replace hST : ST true NoF w _ _ (R12020 ++ (R12005 ++ (R15 ++ (R7 ++ L12007)))) := hST
        replace hST : ST true NoF w _ _ (R12020 ++ L12007) := hST.sublist (List.Sublist.append (List.Sublist.refl _) ((((List.Sublist.refl _).trans (List.sublist_append_right _ _)).trans (List.sublist_append_right _ _)).trans (List.sublist_append_right _ _)))
        refine CW_ret ?_
        refine bq_r (sq_r (bq_r (sq_r ?_)))
        replace hm12008 := Option.some.inj hm12008; subst hm12008
        refine retQ_1 (v := v12019) rfl rfl ?_
        exact ⟨_, R12020, rfl, hST.backRow (fun p hq => by simp [hq]) hR12021.nd, hR12021⟩
      · replace hm12008 := if_f hb12013 hm12008
        refine CW_skip ?_
        refine bq_n ?_
        refine sq_n ?_
        exact ⟨n10922, Nat.lt_succ_self _, v12002, l12003, R12005, _, (hST.sublist (List.Sublist.refl _)), e12009, e12010, e12011, hs12004, hm12008⟩
theorem w_ref08_Same (v_a0 : Value) (a0 : List Fact) (v_a1 : Value) (a1 : List Fact) (r : Bool) (w : World) (h_a0 : Sl (Pl encFact) 3 (hp w) v_a0 a0) (h_a1 : Sl (Pl encFact) 3 (hp w) v_a1 a1) (hm : m_ref08_Same a0 a1 = some r) :
    Gives true Try.prog 10 [v_a0, v_a1] w (.bool r) := by
  have hST := ST.start (dd := true) w
  unfold m_ref08_Same at hm
  refine calls_of_CW (n := 26) Try.func10 rfl rfl (Nat.le_of_ble_eq_true rfl) ?_
  refine CW_seq ?_
  refine CW_region ?_
  refine LV (R_assign (v := (.bool false)) rfl) ?_
  refine LW_nil ?_
  refine sq_n ?_
  refine CW_seq ?_
  refine CW_seq ?_
  refine CW_region ?_
  refine LV (R_move (v := v_a0) rfl) ?_
  refine LV (R_len Try.underlying28 rfl h_a0) ?_
  refine LV (R_move (v := v_a1) rfl) ?_
  refine LV (R_len Try.underlying28 rfl h_a1) ?_
  refine LV (R_int (k := .i64) (a := ((a0.length : Int))) (b := ((a1.length : Int))) (v := (.bool ((((a0.length : Int)) != ((a1.length : Int)))))) rfl rfl rfl) ?_
  refine LW_nil ?_
  refine sq_n ?_
  refine CW_if (b := (((a0.length : Int)) != ((a1.length : Int)))) rfl (fun hb1 => ?_) (fun hb1 => ?_)
  · replace hm := if_t hb1 hm
    refine CW_seq ?_
    refine CW_region ?_
    refine LV (R_assign (v := (.bool false)) rfl) ?_
    refine LW_nil ?_
    refine sq_n ?_
    refine CW_ret ?_
    refine sq_r ?_
    replace hm := Option.some.inj hm; subst hm
    refine retQ_1 (v := (.bool false)) rfl rfl ?_
    exact ⟨rfl, hST.ex⟩
  · replace hm := if_f hb1 hm
    refine CW_skip ?_
    refine sq_n ?_
    refine CW_seq ?_
    refine CW_seq ?_
    refine CW_region ?_
    refine LV (R_move (v := v_a0) rfl) ?_
    refine LV (R_len Try.underlying28 rfl h_a0) ?_
    refine LV (R_move (v := (.int .i64 0)) rfl) ?_
    refine LW_nil ?_
    refine sq_n ?_
    refine CW_range (fun i E W => ∃  (L149 : List (Nat × Obj)), (E 13 = .int .i64 (i : Nat) ∧ E 12 = .int .i64 (a0.length : Nat)) ∧ ST true NoF w W (hp w) L149 ∧ E 0 = v_a0 ∧ E 1 = v_a1 ∧ m_ref08_Same_L1 a1 (a0.drop i) i = some r) a0.length h_a0.len ⟨_, ⟨rfl, rfl⟩, (hST.sublist (List.Sublist.refl _)), rfl, rfl, hm⟩ (by decide) (by decide) (by decide) (fun _ _ _ h => by obtain ⟨_, eIN, _⟩ := h; exact eIN) ?_ ?_
    · rintro i90 E W hi96 ⟨L149, ⟨eI, eN⟩, hST, e151, e152, hm150⟩
      obtain ⟨x91, xs92, hx94, hx93, hx95⟩ := drop_cons hi96
      rw [hx94] at hm150
      rw [m_ref08_Same_L1] at hm150
      refine CW_block ?_
      refine CW_seq ?_
      refine CW_region ?_
      refine LV (R_move (v := (.int .i64 ((i90 : Int)))) eI) ?_
      refine LV (R_assign (v := (.int .i64 ((i90 : Int)))) rfl) ?_
      refine LW_nil ?_
      refine sq_n ?_
      refine CW_seq ?_
      refine PX_start (fun l W => Has (hp w) [] W) Try_mixed ?_
      replace hST := hST.drew
      have hS0 : Has (hp w) [] _ := hST.has.sub (Sub.refl _) (fun p hq => (absurd hq List.not_mem_nil))
      refine PV 0 rfl hS0 (R_move (v := v_a0) e151) ?_
      refine PV 1 rfl hS0 (R_move (v := (.int .i64 ((i90 : Int)))) rfl) ?_
      refine PX_q 2 rfl (by kernel_rfl) (.inl rfl) rfl (by decide) (fun _ _ h => h) hS0 (R_indexP (enc := encFact) (i := (i90 : Int)) (x0 := x91) Try.underlying28 Try.sizeOf43 rfl rfl h_a0 (Int.natCast_nonneg _) hx93) (fun p169 hp170 => ?_)
      refine PX_v 3 rfl (by kernel_rfl) (.inl rfl) rfl (by decide) (fun _ _ h => h) hS0 (fun l W hpd hs => have hS := hs; R_load rfl (load_atA hS hp170 Try.isAgg43 Try.sizeOf43)) ?_
      refine PV 4 rfl hS0 (R_move (v := v_a1) e152) ?_
      refine PV 5 rfl hS0 (R_move (v := (.int .i64 ((i90 : Int)))) rfl) ?_
      obtain ⟨x175, hx176, hm150⟩ := bind_some hm150
      refine PX_q 6 rfl (by kernel_rfl) (.inl rfl) rfl (by decide) (fun _ _ h => h) hS0 (R_indexP (enc := encFact) (i := (i90 : Int)) (x0 := x175) Try.underlying28 Try.sizeOf43 rfl rfl h_a1 (idx_nonneg hx176) (idx_get hx176)) (fun p172 hp173 => ?_)
      refine PX_v 7 rfl (by kernel_rfl) (.inl rfl) rfl (by decide) (fun _ _ h => h) hS0 (fun l W hpd hs => have hS := hs; R_load rfl (load_atA hS hp173 Try.isAgg43 Try.sizeOf43)) ?_
      refine PV 8 rfl hS0 (R_neq (a := (encFact x91).toArray) (b := (encFact x175).toArray) rfl rfl (guard_agg Try.eqGuardType43) (bin_neq (eqInFact _ x91 x175))) ?_
      refine PX_done (by kernel_rfl) ?_
      refine sq_n ?_
      refine CW_if (b := (!(beqFact x91 x175))) rfl (fun hb177 => ?_) (fun hb177 => ?_)
      · replace hm150 := if_t hb177 hm150
        refine CW_seq ?_
        refine CW_region ?_
        refine LV (R_assign (v := (.bool false)) rfl) ?_
        refine LW_nil ?_
        refine sq_n ?_
        refine CW_ret ?_
        refine bq_r (sq_r (bq_r (sq_r ?_)))
        replace hm150 := Option.some.inj hm150; subst hm150
        refine retQ_1 (v := (.bool false)) rfl rfl ?_
        exact ⟨rfl, hST.ex⟩
      · replace hm150 := if_f hb177 hm150
        refine CW_skip ?_
        refine bq_n ?_
        refine sq_n ?_
        exact ⟨eI, _, ⟨rfl, eN⟩, (hST.sublist (List.Sublist.refl _)), e151, e152, (by rw [hx95]; exact hm150)⟩
    · rintro E W ⟨L149, ⟨eI, eN⟩, hST, e151, e152, hm150⟩
      rw [List.drop_length] at hm150
      rw [m_ref08_Same_L1] at hm150
      refine sq_n ?_
      refine CW_seq ?_
      refine CW_region ?_
      refine LV (R_assign (v := (.bool true)) rfl) ?_
      refine LW_nil ?_
      refine sq_n ?_
      refine CW_ret ?_
      replace hm150 := Option.some.inj hm150; subst hm150
      refine retQ_1 (v := (.bool true)) rfl rfl ?_
      exact ⟨rfl, hST.ex⟩
theorem w_law08_ModelAdds (v_a0 : Value) (a0 : List (List Cred)) (r : Bool) (w : World) (h_a0 : Sl (SlR encCred 9) 1 (hp w) v_a0 a0) (hm : m_law08_ModelAdds a0 = some r) :
    Gives false Try.prog 3 [v_a0] w (.bool r) := by
  have hST := ST.start (dd := false) w
  unfold m_law08_ModelAdds at hm
  refine calls_of_CW (n := 49) Try.func3 rfl rfl (Nat.le_of_ble_eq_true rfl) ?_
  refine CW_seq ?_
  refine CW_region ?_
  refine LV (R_assign (v := (.bool false)) rfl) ?_
  refine LW_nil ?_
  refine sq_n ?_
  refine CW_seq ?_
  refine CW_seq ?_
  refine CW_region ?_
  obtain ⟨r1, hr2, hm⟩ := bind_some hm
  refine LE (E_gives (args := []) hST rfl Try.call5 (by exact args0 ) ((w_law08_first  _ _  hr2)) (fun W3 hST => ?_))
  refine LV (R_not (b := r1) rfl) ?_
  refine LW_nil ?_
  refine sq_n ?_
  refine CW_if (b := (!r1)) rfl (fun hb4 => ?_) (fun hb4 => ?_)
  · replace hm := if_t hb4 hm
    refine CW_seq ?_
    refine CW_region ?_
    refine LV (R_assign (v := (.bool false)) rfl) ?_
    refine LW_nil ?_
    refine sq_n ?_
    refine CW_ret ?_
    refine sq_r ?_
    replace hm := Option.some.inj hm; subst hm
    refine retQ_1 (v := (.bool false)) rfl rfl ?_
    exact ⟨rfl, hST.ex⟩
  · replace hm := if_f hb4 hm
    refine CW_skip ?_
    refine sq_n ?_
    refine CW_seq ?_
    refine CW_region ?_
    refine LV (R_assign (v := (.slice none 0 0)) rfl) ?_
    refine LW_nil ?_
    refine sq_n ?_
    refine CW_seq ?_
    refine CW_region ?_
    obtain ⟨r5, hr6, hm⟩ := bind_some hm
    have hsz := hST.size
    refine LE (E_callM (args := [(.slice none 0 0)]) (caps := #[]) [] ([]) hST (List.Perm.refl _) rfl Try.call6 (by exact args1 rfl) (fun _ _ _ _ => (w_model_Of (.slice none 0 0) ([]) _ _ (Sl.nil _ _ _) hr6)) (fun W7 v10 μ8 L12 hST hle9 hlift hK11 => ?_))
    obtain ⟨b13, y14, S15, y17, S18, y20, S21, y23, S24, y26, S27, hv29, rfl, hy16, hy19, hy22, hy25, hy28⟩ := hK11
    replace hv29 := hv29.symm; subst hv29
    simp only [List.append_assoc, List.cons_append, List.nil_append] at hST
    refine LV (R_assign (v := (.pointer (some ⟨b13, 0, none⟩))) rfl) ?_
    refine LW_nil ?_
    refine sq_n ?_
    refine CW_seq ?_
    refine CW_region ?_
    refine LV (R_assign (v := (.int .i64 0)) rfl) ?_
    refine LW_nil ?_
    refine sq_n ?_
    refine CW_seq ?_
    refine CW_seq ?_
    refine CW_region ?_
    refine LV (R_move (v := v_a0) rfl) ?_
    refine LV (R_len Try.underlying22 rfl h_a0) ?_
    refine LV (R_move (v := (.int .i64 0)) rfl) ?_
    refine LW_nil ?_
    refine sq_n ?_
    replace hST : ST false NoF w _ _ ((b13, Obj.cells (#[y14, y17, y20, y23, y26, (.int .i64 (r5.2.2.2.2.2))] : Array Value) 53 (0, 0)) :: (S15 ++ (S18 ++ (S21 ++ (S24 ++ (S27 ++ [])))))) := hST
    refine CW_range (fun i E W => ∃ (v517 : Value) (l518 : List Cred) (R520 : List (Nat × Obj)) (x521 : Int) (l522 : List (Role × (List (ByteArray × Bool)))) (R524 : List (Nat × Obj)) (v525 : Value) (l526 : List Cred) (R528 : List (Nat × Obj)) (l529 : List (Role × (List Cred))) (R531 : List (Nat × Obj)) (l532 : List (ByteArray × (List Cred))) (R534 : List (Nat × Obj)) (v535 : Value) (l536 : List Fact) (R538 : List (Nat × Obj)) (x539 : Int) (μ516 : Mem) (L672 : List (Nat × Obj)), (E 14 = .int .i64 (i : Nat) ∧ E 13 = .int .i64 (a0.length : Nat)) ∧ Sub μ8 μ516 ∧ ST false NoF w W μ516 ((b13, Obj.cells (#[y14, v525, y20, y23, v535, (.int .i64 x539)] : Array Value) 53 (0, 0)) :: (R524 ++ (R528 ++ (R531 ++ (R534 ++ (R538 ++ (R520 ++ L672))))))) ∧ E 3 = v517 ∧ E 4 = (.pointer (some ⟨b13, 0, none⟩)) ∧ E 5 = (.int .i64 x521) ∧ E 12 = v_a0 ∧ Row 36 encCred 9 v517 l518 R520 ∧ DeepE (fun (x : Role) => (.agg (encRole x).toArray)) (MapRow Value.string (fun (x : Bool) => (Value.bool x))) y14 l522 R524 ∧ Row 36 encCred 9 v525 l526 R528 ∧ DeepE (fun (x : Role) => (.agg (encRole x).toArray)) (Row 36 encCred 9) y20 l529 R531 ∧ DeepE Value.string (Row 36 encCred 9) y23 l532 R534 ∧ Que 43 encFact 3 v535 l536 R538 ∧ m_law08_ModelAdds_L1 (a0.drop i) i l518 x521 l522 l526 l529 l532 l536 x539 = some r) a0.length h_a0.len ⟨(.slice none 0 0), ([]), [], 0, r5.1, S15, y17, r5.2.1, S18, r5.2.2.1, S21, r5.2.2.2.1, S24, y26, r5.2.2.2.2.1, S27, r5.2.2.2.2.2, μ8, _, ⟨rfl, rfl⟩, (Sub.refl _), (hST.sublist (List.Sublist.refl _)), rfl, rfl, rfl, rfl, (Row.nil _ _ _), hy16, hy19, hy22, hy25, hy28, hm⟩ (by decide) (by decide) (by decide) (fun _ _ _ h => by obtain ⟨_, _, _, _, _, _, _, _, _, _, _, _, _, _, _, _, _, _, _, eIN, _⟩ := h; exact eIN) ?_ ?_
    · rintro i406 E W hi412 ⟨v517, l518, R520, x521, l522, R524, v525, l526, R528, l529, R531, l532, R534, v535, l536, R538, x539, μ516, L672, ⟨eI, eN⟩, hle674, hST, e675, e676, e677, e678, hs519, hs523, hs527, hs530, hs533, hs537, hm673⟩
      obtain ⟨x407, xs408, hx410, hx409, hx411⟩ := drop_cons hi412
      rw [hx410] at hm673
      rw [m_law08_ModelAdds_L1] at hm673
      refine CW_block ?_
      refine CW_seq ?_
      refine CW_region ?_
      refine LV (R_move (v := (.int .i64 ((i406 : Int)))) eI) ?_
      refine LQ (R_indexN (enc := encCred) (k2 := 9) (i := (i406 : Int)) (x0 := x407) Try.underlying22 Try.sizeOf24 e678 eI (h_a0.mono (SlR.mono _ _) (hle9.trans hle674)) (Int.natCast_nonneg _) hx409) (fun p679 ⟨v682, hp680, hs683⟩ => ?_)
      refine LV (R_load rfl (load_at1 hST.has (y := v682) hp680 Try.isAgg24)) ?_
      refine LV (R_assign (v := (.int .i64 ((i406 : Int)))) rfl) ?_
      refine LV (R_assign (v := v682) rfl) ?_
      refine LW_nil ?_
      refine sq_n ?_
      refine CW_seq ?_
      refine CW_region ?_
      refine LV (R_move (v := v517) e675) ?_
      refine LV (R_move (v := v682) rfl) ?_
      replace hST : ST false NoF w _ _ ((b13, Obj.cells (#[y14, v525, y20, y23, v535, (.int .i64 x539)] : Array Value) 53 (0, 0)) :: (R520 ++ (R524 ++ (R528 ++ (R531 ++ (R534 ++ (R538 ++ L672))))))) := hST.perm (permD [[(b13, Obj.cells (#[y14, v525, y20, y23, v535, (.int .i64 x539)] : Array Value) 53 (0, 0))], R524, R528, R531, R534, R538, R520] [0, 1, 2, 3, 4, 5, 6] [0, 6, 1, 2, 3, 4, 5] L672 (by decide) rfl rfl)
      obtain ⟨l684, hb685, hm673⟩ := bind_some hm673
      refine LE (E_append (enc := encCred) (v := v517) (vs := v682) (R := R520) [_] hST lenCred (by decide) oneCred Try.underlying24 info36.1 info36.2.1 rfl info36.2.2.1 info36.2.2.2 rfl rfl hs519 (hs683.mono (Pl.mono _) hST.sub_hp) hb685 (fun W686 v689 R687 hST hR688 => ?_))
      refine LV (R_assign (v := v689) rfl) ?_
      refine LW_nil ?_
      refine sq_n ?_
      refine CW_seq ?_
      refine CW_seq ?_
      refine CW_region ?_
      refine LV (R_move (v := (.int .i64 ((i406 : Int)))) rfl) ?_
      refine LV (R_int (k := .i64) (a := ((i406 : Int))) (b := 20) (v := (.bool ((decide (((i406 : Int)) ≥ 20))))) rfl rfl rfl) ?_
      refine LV (R_move (v := (.bool ((decide (((i406 : Int)) ≥ 20))))) rfl) ?_
      obtain ⟨s775, hm776, hm777⟩ := bind_some hm673
      refine LW_join (J := fun E W => ∃ (x694 : Bool) (L695 : List (Nat × Obj)), ST false NoF w W μ516 ((b13, Obj.cells (#[y14, v525, y20, y23, v535, (.int .i64 x539)] : Array Value) 53 (0, 0)) :: (R687 ++ (R524 ++ (R528 ++ (R531 ++ (R534 ++ (R538 ++ L695))))))) ∧ E 3 = v689 ∧ E 4 = (.pointer (some ⟨b13, 0, none⟩)) ∧ E 5 = (.int .i64 x521) ∧ E 7 = v682 ∧ E 12 = v_a0 ∧ E 13 = (.int .i64 ((a0.length : Int))) ∧ E 14 = (.int .i64 ((i406 : Int))) ∧ E 28 = (.bool x694) ∧ (if x694 then some true else (((m_ref08_Of l684)).bind fun r706 => (((m_model_Model_Add_w l522 l526 l529 l532 l536 x539 x407)).bind fun r714 => (((if (r714.1 != ((IntKind.i64.wrap (((r706.length : Int)) - x521)))) then some true else (((m_model_Model_Facts r714.2.1 r714.2.2.1 r714.2.2.2.1 r714.2.2.2.2.1 r714.2.2.2.2.2.1 r714.2.2.2.2.2.2)).bind fun r764 => (((m_ref08_Same r764 r706)).bind fun r772 => some ((!r772))))) : Option Bool).bind fun x748 => (if x748 then some false else (m_law08_ModelAdds_L1 xs408 (i406 + 1) l684 ((r706.length : Int)) r714.2.1 r714.2.2.1 r714.2.2.2.1 r714.2.2.2.2.1 r714.2.2.2.2.2.1 r714.2.2.2.2.2.2)))))) = some r) 4 ?_ (fun key778 => ?_)
      · rintro E W ⟨x694, L695, hST, e697, e698, e699, e700, e701, e702, e703, e704, hm696⟩
        refine LW_nil ?_
        refine sq_n ?_
        refine CW_if (b := x694) e704 (fun hb705 => ?_) (fun hb705 => ?_)
        · replace hm696 := if_t hb705 hm696
          refine CW_seq ?_
          refine CW_region ?_
          refine LV (R_assign (v := (.bool true)) rfl) ?_
          refine LW_nil ?_
          refine sq_n ?_
          replace hST : ST false NoF w _ _ L695 := hST.sublist (List.Sublist.cons _ (((((((List.Sublist.refl _).trans (List.sublist_append_right _ _)).trans (List.sublist_append_right _ _)).trans (List.sublist_append_right _ _)).trans (List.sublist_append_right _ _)).trans (List.sublist_append_right _ _)).trans (List.sublist_append_right _ _)))
          refine CW_ret ?_
          refine sq_r (bq_r (sq_r (bq_r (sq_r ?_))))
          replace hm696 := Option.some.inj hm696; subst hm696
          refine retQ_1 (v := (.bool true)) rfl rfl ?_
          exact ⟨rfl, hST.ex⟩
        · replace hm696 := if_f hb705 hm696
          refine CW_skip ?_
          refine sq_n ?_
          refine CW_seq ?_
          refine CW_region ?_
          refine LV (R_move (v := v689) e697) ?_
          obtain ⟨r706, hr707, hm696⟩ := bind_some hm696
          refine LE (E_givesRow (args := [v689]) [_] _ hST rfl Try.call8 (by exact args1 rfl) (GivesRow.weak (w_ref08_Of v689 l684 _ _ (hR688.sl lenCred (fun b o hq => hST.at_ (.tail _ (List.mem_append_left _ hq)))) hr707)) (fun W708 v711 μ709 R712 hST hle710 hR713 => ?_))
          refine LV (R_assign (v := v711) rfl) ?_
          refine LW_nil ?_
          refine sq_n ?_
          refine CW_seq ?_
          refine CW_seq ?_
          refine CW_region ?_
          refine LV (R_move (v := (.pointer (some ⟨b13, 0, none⟩))) e698) ?_
          refine LV (R_move (v := v682) e700) ?_
          replace hST : ST false NoF w _ _ ((b13, Obj.cells (#[y14, v525, y20, y23, v535, (.int .i64 x539)] : Array Value) 53 (0, 0)) :: (R712 ++ (R687 ++ (R524 ++ (R528 ++ (R531 ++ (R534 ++ (R538 ++ L695)))))))) := hST
          obtain ⟨r714, hr715, hm696⟩ := bind_some hm696
          replace hST : ST false NoF w _ _ ((b13, Obj.cells (#[y14, v525, y20, y23, v535, (.int .i64 x539)] : Array Value) 53 (0, 0)) :: (R524 ++ (R528 ++ (R531 ++ (R534 ++ (R538 ++ (R712 ++ (R687 ++ L695)))))))) := hST.perm (permD [[(b13, Obj.cells (#[y14, v525, y20, y23, v535, (.int .i64 x539)] : Array Value) 53 (0, 0))], R712, R687, R524, R528, R531, R534, R538] [0, 1, 2, 3, 4, 5, 6, 7] [0, 3, 4, 5, 6, 7, 1, 2] L695 (by decide) rfl rfl)
          have hsz := hST.size
          refine LE (E_callM (args := [(.pointer (some ⟨b13, 0, none⟩)), v682]) (caps := #[]) (((b13, Obj.cells (#[y14, v525, y20, y23, v535, (.int .i64 x539)] : Array Value) 53 (0, 0)) :: (R524 ++ (R528 ++ (R531 ++ (R534 ++ (R538 ++ []))))))) ((R712 ++ (R687 ++ L695))) hST (by simp only [List.append_assoc, List.cons_append, List.nil_append]; exact List.Perm.refl _) rfl Try.call9 (by exact args2 rfl rfl) (fun hH hN hsb hmm => (w_model_Model_Add_w b13 y14 l522 R524 v525 l526 R528 y20 l529 R531 y23 l532 R534 v535 l536 R538 x539 v682 x407 _ _ hH hN (Sub.refl _) hs523 hs527 hs530 hs533 hs537 (hs683.mono (Pl.mono _) (hle710.trans hsb)) hr715)) (fun W716 v719 μ717 L721 hST hle718 hlift hK720 => ?_))
          obtain ⟨S722, y724, S725, S727, S729, y731, S732, hv734, rfl, hy723, hy726, hy728, hy730, hy733⟩ := hK720
          replace hv734 := hv734.symm; subst hv734
          simp only [List.append_assoc, List.cons_append, List.nil_append] at hST
          refine LV (R_move (v := v711) rfl) ?_
          refine LV (R_lenRow Try.underlying28 rfl hR713) ?_
          refine LV (R_move (v := (.int .i64 x521)) e699) ?_
          refine LV (R_int (k := .i64) (a := ((r706.length : Int))) (b := x521) (v := (.int .i64 ((IntKind.i64.wrap (((r706.length : Int)) - x521))))) rfl rfl rfl) ?_
          refine LV (R_int (k := .i64) (a := r714.1) (b := ((IntKind.i64.wrap (((r706.length : Int)) - x521)))) (v := (.bool ((r714.1 != ((IntKind.i64.wrap (((r706.length : Int)) - x521))))))) rfl rfl rfl) ?_
          refine LV (R_move (v := (.bool ((r714.1 != ((IntKind.i64.wrap (((r706.length : Int)) - x521))))))) rfl) ?_
          obtain ⟨s760, hm761, hm762⟩ := bind_some hm696
          refine LW_join (J := fun E W => ∃ (x748 : Bool) (μ747 : Mem) (L749 : List (Nat × Obj)), Sub μ717 μ747 ∧ ST false NoF w W μ747 ((b13, Obj.cells (#[y14, y724, y20, y23, y731, (.int .i64 r714.2.2.2.2.2.2)] : Array Value) 53 (0, 0)) :: (S722 ++ (S725 ++ (S727 ++ (S729 ++ (S732 ++ (R712 ++ (R687 ++ L749)))))))) ∧ E 3 = v689 ∧ E 4 = (.pointer (some ⟨b13, 0, none⟩)) ∧ E 8 = v711 ∧ E 12 = v_a0 ∧ E 13 = (.int .i64 ((a0.length : Int))) ∧ E 14 = (.int .i64 ((i406 : Int))) ∧ E 45 = (.bool x748) ∧ (if x748 then some false else (m_law08_ModelAdds_L1 xs408 (i406 + 1) l684 ((r706.length : Int)) r714.2.1 r714.2.2.1 r714.2.2.2.1 r714.2.2.2.2.1 r714.2.2.2.2.2.1 r714.2.2.2.2.2.2)) = some r) 6 ?_ (fun key763 => ?_)
          · rintro E W ⟨x748, μ747, L749, hle751, hST, e752, e753, e754, e755, e756, e757, e758, hm750⟩
            refine LW_nil ?_
            refine sq_n ?_
            refine CW_if (b := x748) e758 (fun hb759 => ?_) (fun hb759 => ?_)
            · replace hm750 := if_t hb759 hm750
              refine CW_seq ?_
              refine CW_region ?_
              refine LV (R_assign (v := (.bool false)) rfl) ?_
              refine LW_nil ?_
              refine sq_n ?_
              replace hST : ST false NoF w _ _ L749 := hST.sublist (List.Sublist.cons _ ((((((((List.Sublist.refl _).trans (List.sublist_append_right _ _)).trans (List.sublist_append_right _ _)).trans (List.sublist_append_right _ _)).trans (List.sublist_append_right _ _)).trans (List.sublist_append_right _ _)).trans (List.sublist_append_right _ _)).trans (List.sublist_append_right _ _)))
              refine CW_ret ?_
              refine sq_r (bq_r (sq_r (bq_r (sq_r ?_))))
              replace hm750 := Option.some.inj hm750; subst hm750
              refine retQ_1 (v := (.bool false)) rfl rfl ?_
              exact ⟨rfl, hST.ex⟩
            · replace hm750 := if_f hb759 hm750
              refine CW_skip ?_
              refine sq_n ?_
              refine CW_region ?_
              refine LV (R_move (v := v711) e754) ?_
              refine LV (R_lenRow Try.underlying28 rfl hR713) ?_
              refine LV (R_assign (v := (.int .i64 ((r706.length : Int)))) rfl) ?_
              refine LW_nil ?_
              refine bq_n ?_
              refine sq_n ?_
              replace hST : ST false NoF w _ _ ((b13, Obj.cells (#[y14, y724, y20, y23, y731, (.int .i64 r714.2.2.2.2.2.2)] : Array Value) 53 (0, 0)) :: (S722 ++ (S725 ++ (S727 ++ (S729 ++ (S732 ++ (R687 ++ L749))))))) := hST.sublist (List.Sublist.cons_cons _ (List.Sublist.append (List.Sublist.refl _) (List.Sublist.append (List.Sublist.refl _) (List.Sublist.append (List.Sublist.refl _) (List.Sublist.append (List.Sublist.refl _) (List.Sublist.append (List.Sublist.refl _) ((List.Sublist.refl _).trans (List.sublist_append_right _ _))))))))
              exact ⟨e757, v689, l684, R687, ((r706.length : Int)), r714.2.1, S722, y724, r714.2.2.1, S725, r714.2.2.2.1, S727, r714.2.2.2.2.1, S729, y731, r714.2.2.2.2.2.1, S732, r714.2.2.2.2.2.2, μ747, _, ⟨rfl, e756⟩, (((hle674.trans hle710).trans hle718).trans hle751), (hST.sublist (List.Sublist.refl _)), e752, e753, rfl, e755, hR688, hy723, hy726, hy728, hy730, hy733, (by rw [hx411]; exact hm750)⟩
          · rcases bool_cases ((r714.1 != ((IntKind.i64.wrap (((r706.length : Int)) - x521))))) with hb735 | hb735
            · replace hm761 := if_t hb735 hm761
              refine LW_no rfl (by decide) rfl rfl (by decide) (congrArg Value.bool hb735) ?_
              refine LW_no rfl (by decide) rfl rfl (by decide) (congrArg Value.bool hb735) ?_
              refine LW_no rfl (by decide) rfl rfl (by decide) (congrArg Value.bool hb735) ?_
              refine LW_no rfl (by decide) rfl rfl (by decide) (congrArg Value.bool hb735) ?_
              refine LW_no rfl (by decide) rfl rfl (by decide) (congrArg Value.bool hb735) ?_
              refine LV (R_pickT (v := (.bool true)) (congrArg Value.bool hb735) rfl) ?_
              replace hm761 := Option.some.inj hm761; subst hm761
              replace hST : ST false NoF w _ _ ((b13, Obj.cells (#[y14, y724, y20, y23, y731, (.int .i64 (r714.2.2.2.2.2.2))] : Array Value) 53 (0, 0)) :: (S722 ++ (S725 ++ (S727 ++ (S729 ++ (S732 ++ (R712 ++ (R687 ++ L695)))))))) := hST
              exact key763 _ _ ⟨true, μ717, _, (Sub.refl _), (hST.sublist (List.Sublist.refl _)), e697, e698, rfl, e701, e702, e703, rfl, hm762⟩
            · replace hm761 := if_f hb735 hm761
              refine LW_v (.inr ⟨8, false, 39, rfl, rfl, by decide, (congrArg Value.bool hb735)⟩) rfl (by decide) (R_move (v := (.pointer (some ⟨b13, 0, none⟩))) e698) ?_
              replace hST : ST false NoF w _ _ ((b13, Obj.cells (#[y14, y724, y20, y23, y731, (.int .i64 (r714.2.2.2.2.2.2))] : Array Value) 53 (0, 0)) :: (S722 ++ (S725 ++ (S727 ++ (S729 ++ (S732 ++ (R712 ++ (R687 ++ L695)))))))) := hST
              obtain ⟨r764, hr765, hm761⟩ := bind_some hm761
              refine LW_e (.inr ⟨8, false, 39, rfl, rfl, by decide, (congrArg Value.bool hb735)⟩) rfl (by decide) (E_givesRow (args := [(.pointer (some ⟨b13, 0, none⟩))]) [_] _ hST rfl Try.call11 (by exact args1 rfl) (GivesRow.weak (w_model_Model_Facts b13 y14 r714.2.1 y724 r714.2.2.1 y20 r714.2.2.2.1 y23 r714.2.2.2.2.1 y731 r714.2.2.2.2.2.1 r714.2.2.2.2.2.2 _ _ (hy723.at (fun b o hq => hST.at_ (.tail _ (List.mem_append_left _ hq)))) (hy726.sl lenCred (fun b o hq => hST.at_ (.tail _ (List.mem_append_right _ (List.mem_append_left _ hq))))) (hy728.at (fun b o hq => hST.at_ (.tail _ (List.mem_append_right _ (List.mem_append_right _ (List.mem_append_left _ hq)))))) (hy730.at (fun b o hq => hST.at_ (.tail _ (List.mem_append_right _ (List.mem_append_right _ (List.mem_append_right _ (List.mem_append_left _ hq))))))) ((hy733.slL lenFact).mono (Pl.mono _) (memL_held (fun b o hq => hST.at_ (.tail _ (List.mem_append_right _ (List.mem_append_right _ (List.mem_append_right _ (List.mem_append_right _ (List.mem_append_left _ hq))))))))) (At.of (hST.at_ (.head _)) _ rfl) hr765)) (fun W766 v769 μ767 R770 hST hle768 hR771 => ?_))
              refine LW_v (.inr ⟨8, false, 39, rfl, rfl, by decide, (congrArg Value.bool hb735)⟩) rfl (by decide) (R_move (v := v711) rfl) ?_
              replace hST : ST false NoF w _ _ ((b13, Obj.cells (#[y14, y724, y20, y23, y731, (.int .i64 (r714.2.2.2.2.2.2))] : Array Value) 53 (0, 0)) :: (R770 ++ (S722 ++ (S725 ++ (S727 ++ (S729 ++ (S732 ++ (R712 ++ (R687 ++ L695))))))))) := hST
              obtain ⟨r772, hr773, hm761⟩ := bind_some hm761
              refine LW_e (.inr ⟨8, false, 39, rfl, rfl, by decide, (congrArg Value.bool hb735)⟩) rfl (by decide) (E_gives (args := [v769, v711]) hST rfl Try.call10 (by exact args2 rfl rfl) (Gives.weak (w_ref08_Same v769 r764 v711 r706 _ _ (hR771.sl lenFact (fun b o hq => hST.at_ (.tail _ (List.mem_append_left _ hq)))) (hR713.sl lenFact (fun b o hq => hST.at_ (.tail _ (List.mem_append_right _ (List.mem_append_right _ (List.mem_append_right _ (List.mem_append_right _ (List.mem_append_right _ (List.mem_append_right _ (List.mem_append_left _ hq)))))))))) hr773)) (fun W774 hST => ?_))
              refine LW_v (.inr ⟨8, false, 39, rfl, rfl, by decide, (congrArg Value.bool hb735)⟩) rfl (by decide) (R_not (b := r772) rfl) ?_
              refine LV (R_pickF (v := (.bool ((!r772)))) (congrArg Value.bool hb735) rfl) ?_
              replace hm761 := Option.some.inj hm761; subst hm761
              exact key763 _ _ ⟨((!r772)), μ767, _, hle768, (hST.sublist (List.Sublist.cons_cons _ ((List.Sublist.refl _).trans (List.sublist_append_right _ _)))), e697, e698, rfl, e701, e702, e703, rfl, hm762⟩
      · rcases bool_cases ((decide (((i406 : Int)) ≥ 20))) with hb690 | hb690
        · replace hm776 := if_t hb690 hm776
          refine LW_no rfl (by decide) rfl rfl (by decide) (congrArg Value.bool hb690) ?_
          refine LW_no rfl (by decide) rfl rfl (by decide) (congrArg Value.bool hb690) ?_
          refine LW_no rfl (by decide) rfl rfl (by decide) (congrArg Value.bool hb690) ?_
          refine LV (R_pickT (v := (.bool true)) (congrArg Value.bool hb690) rfl) ?_
          replace hm776 := Option.some.inj hm776; subst hm776
          replace hST : ST false NoF w _ _ ((b13, Obj.cells (#[y14, v525, y20, y23, v535, (.int .i64 x539)] : Array Value) 53 (0, 0)) :: (R687 ++ (R524 ++ (R528 ++ (R531 ++ (R534 ++ (R538 ++ L672))))))) := hST
          exact key778 _ _ ⟨true, _, (hST.sublist (List.Sublist.refl _)), rfl, e676, e677, rfl, e678, eN, eI, rfl, hm777⟩
        · replace hm776 := if_f hb690 hm776
          refine LW_v (.inr ⟨2, false, 24, rfl, rfl, by decide, (congrArg Value.bool hb690)⟩) rfl (by decide) (R_move (v := v689) rfl) ?_
          replace hST : ST false NoF w _ _ ((b13, Obj.cells (#[y14, v525, y20, y23, v535, (.int .i64 x539)] : Array Value) 53 (0, 0)) :: (R687 ++ (R524 ++ (R528 ++ (R531 ++ (R534 ++ (R538 ++ L672))))))) := hST
          obtain ⟨r779, hr780, hm776⟩ := bind_some hm776
          refine LW_e (.inr ⟨2, false, 24, rfl, rfl, by decide, (congrArg Value.bool hb690)⟩) rfl (by decide) (E_gives (args := [v689]) hST rfl Try.call7 (by exact args1 rfl) (Gives.weak (w_law05_Great v689 l684 _ _ (hR688.sl lenCred (fun b o hq => hST.at_ (.tail _ (List.mem_append_left _ hq)))) hr780)) (fun W781 hST => ?_))
          refine LW_v (.inr ⟨2, false, 24, rfl, rfl, by decide, (congrArg Value.bool hb690)⟩) rfl (by decide) (R_int (k := .i64) (a := r779) (b := 1200) (v := (.bool ((decide (r779 > 1200))))) rfl rfl rfl) ?_
          refine LV (R_pickF (v := (.bool ((decide (r779 > 1200))))) (congrArg Value.bool hb690) rfl) ?_
          replace hm776 := Option.some.inj hm776; subst hm776
          exact key778 _ _ ⟨((decide (r779 > 1200))), _, (hST.sublist (List.Sublist.refl _)), rfl, e676, e677, rfl, e678, eN, eI, rfl, hm777⟩
    · rintro E W ⟨v517, l518, R520, x521, l522, R524, v525, l526, R528, l529, R531, l532, R534, v535, l536, R538, x539, μ516, L672, ⟨eI, eN⟩, hle674, hST, e675, e676, e677, e678, hs519, hs523, hs527, hs530, hs533, hs537, hm673⟩
      rw [List.drop_length] at hm673
      rw [m_law08_ModelAdds_L1] at hm673
      refine sq_n ?_
      replace hST : ST false NoF w _ _ L672 := hST.sublist (List.Sublist.cons _ (((((((List.Sublist.refl _).trans (List.sublist_append_right _ _)).trans (List.sublist_append_right _ _)).trans (List.sublist_append_right _ _)).trans (List.sublist_append_right _ _)).trans (List.sublist_append_right _ _)).trans (List.sublist_append_right _ _)))
      refine CW_seq ?_
      refine CW_region ?_
      refine LV (R_assign (v := (.bool true)) rfl) ?_
      refine LW_nil ?_
      refine sq_n ?_
      refine CW_ret ?_
      replace hm673 := Option.some.inj hm673; subst hm673
      refine retQ_1 (v := (.bool true)) rfl rfl ?_
      exact ⟨rfl, hST.ex⟩
end Go.Proofs.Ytfjdjbdnnoijgaa
