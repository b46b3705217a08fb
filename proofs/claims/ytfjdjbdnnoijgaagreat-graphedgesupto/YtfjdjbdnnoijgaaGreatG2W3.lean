/- A part of the proof that the law GraphEdges answers true for every input of bulk at most 1048576. -/
import Derived.Test.YtfjdjbdnnoijgaaGreatG2W2
set_option linter.all false
set_option linter.unusedSimpArgs false
set_option linter.unusedVariables false
namespace Go.Proofs.YtfjdjbdnnoijgaaGreat
open Go.RowKit
set_option linter.unusedVariables false
set_option linter.unusedSimpArgs false
set_option maxRecDepth 10000
theorem w_ref03_Right (a0 : ByteArray) (r : Bool) (w : World)  (hm : m_ref03_Right a0 = some r) :
    Gives Tryz.prog 108 [(.string a0)] w (.bool r) := by
  have hST := ST.start w
  unfold m_ref03_Right at hm
  refine calls_of_CW (n := 49) Tryz.func108 rfl rfl (Nat.le_of_ble_eq_true rfl) ?_
  refine CW_seq ?_
  refine CW_region ?_
  refine LW_v (.inl rfl) rfl (by decide) (R_assign (v := (.bool false)) rfl) ?_
  refine LW_nil ?_
  refine sq_n ?_
  refine CW_seq ?_
  refine CW_seq ?_
  obtain ⟨s397, hm398, hm399⟩ := bind_some hm
  refine CW_cut (fun E W => ∃ (x31 : Bool) (L32 : List (Nat × Obj)), ST NoF w W (hp w) L32 ∧ E 0 = (.string a0) ∧ E 21 = (.bool x31) ∧ (if x31 then some false else m_ref03_Right_L1 a0 FUEL 0) = some r) ?_ ?_
  · refine CW_region ?_
    refine LW_v (.inl rfl) rfl (by decide) (R_move (v := (.string a0)) rfl) ?_
    refine LW_v (.inl rfl) rfl (by decide) (R_str (a := a0) (b := zS) (v := (.bool ((beqS a0 zS)))) rfl rfl rfl) ?_
    refine LW_v (.inl rfl) rfl (by decide) (R_move (v := (.bool ((beqS a0 zS)))) rfl) ?_
    rcases bool_cases ((beqS a0 zS)) with hb400 | hb400
    · replace hm398 := if_t hb400 hm398
      refine LW_no rfl (by decide) rfl rfl (by decide) (congrArg Value.bool hb400) ?_
      refine LW_no rfl (by decide) rfl rfl (by decide) (congrArg Value.bool hb400) ?_
      refine LW_no rfl (by decide) rfl rfl (by decide) (congrArg Value.bool hb400) ?_
      refine LW_v (.inl rfl) rfl (by decide) (R_pickT (v := (.bool true)) (congrArg Value.bool hb400) rfl) ?_
      refine LW_v (.inl rfl) rfl (by decide) (R_move (v := (.bool true)) rfl) ?_
      refine LW_no rfl (by decide) rfl rfl (by decide) rfl ?_
      refine LW_no rfl (by decide) rfl rfl (by decide) rfl ?_
      refine LW_no rfl (by decide) rfl rfl (by decide) rfl ?_
      refine LW_v (.inl rfl) rfl (by decide) (R_pickT (v := (.bool true)) rfl rfl) ?_
      refine LW_v (.inl rfl) rfl (by decide) (R_move (v := (.bool true)) rfl) ?_
      refine LW_no rfl (by decide) rfl rfl (by decide) rfl ?_
      refine LW_no rfl (by decide) rfl rfl (by decide) rfl ?_
      refine LW_no rfl (by decide) rfl rfl (by decide) rfl ?_
      refine LW_v (.inl rfl) rfl (by decide) (R_pickT (v := (.bool true)) rfl rfl) ?_
      refine LW_nil ?_
      refine sq_n ?_
      replace hm398 := Option.some.inj hm398; subst hm398
      exact ⟨true, _, (hST.sublist (List.Sublist.refl _)), rfl, rfl, hm399⟩
    · replace hm398 := if_f hb400 hm398
      refine LW_v (.inr ⟨2, false, 7, rfl, rfl, by decide, (congrArg Value.bool hb400)⟩) rfl (by decide) (R_move (v := (.string a0)) rfl) ?_
      refine LW_v (.inr ⟨2, false, 7, rfl, rfl, by decide, (congrArg Value.bool hb400)⟩) rfl (by decide) (R_lenStr (s := a0) Tryz.underlying9 rfl) ?_
      refine LW_v (.inr ⟨2, false, 7, rfl, rfl, by decide, (congrArg Value.bool hb400)⟩) rfl (by decide) (R_int (k := .i64) (a := ((a0.size : Int))) (b := 16) (v := (.bool ((decide (((a0.size : Int)) > 16))))) rfl rfl rfl) ?_
      refine LW_v (.inl rfl) rfl (by decide) (R_pickF (v := (.bool ((decide (((a0.size : Int)) > 16))))) (congrArg Value.bool hb400) rfl) ?_
      refine LW_v (.inl rfl) rfl (by decide) (R_move (v := (.bool ((decide (((a0.size : Int)) > 16))))) rfl) ?_
      rcases bool_cases ((decide (((a0.size : Int)) > 16))) with hb401 | hb401
      · replace hm398 := if_t hb401 hm398
        refine LW_no rfl (by decide) rfl rfl (by decide) (congrArg Value.bool hb401) ?_
        refine LW_no rfl (by decide) rfl rfl (by decide) (congrArg Value.bool hb401) ?_
        refine LW_no rfl (by decide) rfl rfl (by decide) (congrArg Value.bool hb401) ?_
        refine LW_v (.inl rfl) rfl (by decide) (R_pickT (v := (.bool true)) (congrArg Value.bool hb401) rfl) ?_
        refine LW_v (.inl rfl) rfl (by decide) (R_move (v := (.bool true)) rfl) ?_
        refine LW_no rfl (by decide) rfl rfl (by decide) rfl ?_
        refine LW_no rfl (by decide) rfl rfl (by decide) rfl ?_
        refine LW_no rfl (by decide) rfl rfl (by decide) rfl ?_
        refine LW_v (.inl rfl) rfl (by decide) (R_pickT (v := (.bool true)) rfl rfl) ?_
        refine LW_nil ?_
        refine sq_n ?_
        replace hm398 := Option.some.inj hm398; subst hm398
        exact ⟨true, _, (hST.sublist (List.Sublist.refl _)), rfl, rfl, hm399⟩
      · replace hm398 := if_f hb401 hm398
        refine LW_v (.inr ⟨7, false, 12, rfl, rfl, by decide, (congrArg Value.bool hb401)⟩) rfl (by decide) (R_move (v := (.string a0)) rfl) ?_
        obtain ⟨c402, hx403, hm398⟩ := bind_some hm398
        refine LW_v (.inr ⟨7, false, 12, rfl, rfl, by decide, (congrArg Value.bool hb401)⟩) rfl (by decide) (R_indexStr (i := 0) Tryz.underlying9 rfl rfl (idxS_nonneg hx403) (idxS_get hx403)) ?_
        refine LW_v (.inr ⟨7, false, 12, rfl, rfl, by decide, (congrArg Value.bool hb401)⟩) rfl (by decide) (R_int (k := .u8) (a := ((c402.toNat : Int))) (b := 97) (v := (.bool ((decide (((c402.toNat : Int)) < 97))))) rfl rfl rfl) ?_
        refine LW_v (.inl rfl) rfl (by decide) (R_pickF (v := (.bool ((decide (((c402.toNat : Int)) < 97))))) (congrArg Value.bool hb401) rfl) ?_
        refine LW_v (.inl rfl) rfl (by decide) (R_move (v := (.bool ((decide (((c402.toNat : Int)) < 97))))) rfl) ?_
        rcases bool_cases ((decide (((c402.toNat : Int)) < 97))) with hb404 | hb404
        · replace hm398 := if_t hb404 hm398
          refine LW_no rfl (by decide) rfl rfl (by decide) (congrArg Value.bool hb404) ?_
          refine LW_no rfl (by decide) rfl rfl (by decide) (congrArg Value.bool hb404) ?_
          refine LW_no rfl (by decide) rfl rfl (by decide) (congrArg Value.bool hb404) ?_
          refine LW_v (.inl rfl) rfl (by decide) (R_pickT (v := (.bool true)) (congrArg Value.bool hb404) rfl) ?_
          refine LW_nil ?_
          refine sq_n ?_
          replace hm398 := Option.some.inj hm398; subst hm398
          exact ⟨true, _, (hST.sublist (List.Sublist.refl _)), rfl, rfl, hm399⟩
        · replace hm398 := if_f hb404 hm398
          refine LW_v (.inr ⟨12, false, 17, rfl, rfl, by decide, (congrArg Value.bool hb404)⟩) rfl (by decide) (R_move (v := (.string a0)) rfl) ?_
          obtain ⟨c405, hx406, hm398⟩ := bind_some hm398
          refine LW_v (.inr ⟨12, false, 17, rfl, rfl, by decide, (congrArg Value.bool hb404)⟩) rfl (by decide) (R_indexStr (i := 0) Tryz.underlying9 rfl rfl (idxS_nonneg hx406) (idxS_get hx406)) ?_
          refine LW_v (.inr ⟨12, false, 17, rfl, rfl, by decide, (congrArg Value.bool hb404)⟩) rfl (by decide) (R_int (k := .u8) (a := ((c405.toNat : Int))) (b := 122) (v := (.bool ((decide (((c405.toNat : Int)) > 122))))) rfl rfl rfl) ?_
          refine LW_v (.inl rfl) rfl (by decide) (R_pickF (v := (.bool ((decide (((c405.toNat : Int)) > 122))))) (congrArg Value.bool hb404) rfl) ?_
          refine LW_nil ?_
          refine sq_n ?_
          replace hm398 := Option.some.inj hm398; subst hm398
          exact ⟨((decide (((c405.toNat : Int)) > 122))), _, (hST.sublist (List.Sublist.refl _)), rfl, rfl, hm399⟩
  · rintro E W ⟨x31, L32, hST, e34, e35, hm33⟩
    refine CW_if (b := x31) e35 (fun hb36 => ?_) (fun hb36 => ?_)
    · replace hm33 := if_t hb36 hm33
      refine CW_seq ?_
      refine CW_region ?_
      refine LW_v (.inl rfl) rfl (by decide) (R_assign (v := (.bool false)) rfl) ?_
      refine LW_nil ?_
      refine sq_n ?_
      refine CW_ret ?_
      refine sq_r ?_
      replace hm33 := Option.some.inj hm33; subst hm33
      refine retQ_1 (v := (.bool false)) rfl rfl ?_
      exact ⟨rfl, hST.ex⟩
    · replace hm33 := if_f hb36 hm33
      refine CW_skip ?_
      refine sq_n ?_
      refine CW_seq ?_
      refine CW_seq ?_
      refine CW_region ?_
      refine LW_v (.inl rfl) rfl (by decide) (R_assign (v := (.int .i64 0)) rfl) ?_
      refine LW_nil ?_
      refine sq_n ?_
      refine CW_block (CW_loop (fun m E W => ∃ (x274 : Int) (L335 : List (Nat × Obj)), ST NoF w W (hp w) L335 ∧ E 0 = (.string a0) ∧ E 3 = (.int .i64 x274) ∧ m_ref03_Right_L1 a0 m x274 = some r) FUEL ⟨0, _, (hST.sublist (List.Sublist.refl _)), e34, rfl, hm33⟩ ?_)
      rintro m E W ⟨x274, L335, hST, e338, e339, hm336⟩
      cases m with
      | zero => rw [m_ref03_Right_L1] at hm336; cases hm336
      | succ n337 =>
        rw [m_ref03_Right_L1] at hm336
        refine CW_seq ?_
        refine CW_seq ?_
        refine CW_region ?_
        refine LW_v (.inl rfl) rfl (by decide) (R_move (v := (.int .i64 x274)) e339) ?_
        refine LW_v (.inl rfl) rfl (by decide) (R_move (v := (.string a0)) e338) ?_
        refine LW_v (.inl rfl) rfl (by decide) (R_lenStr (s := a0) Tryz.underlying9 rfl) ?_
        refine LW_v (.inl rfl) rfl (by decide) (R_int (k := .i64) (a := x274) (b := ((a0.size : Int))) (v := (.bool ((decide (x274 < ((a0.size : Int))))))) rfl rfl rfl) ?_
        refine LW_nil ?_
        refine sq_n ?_
        refine CW_if (b := (decide (x274 < ((a0.size : Int))))) rfl (fun hb340 => ?_) (fun hb340 => ?_)
        · replace hm336 := if_t hb340 hm336
          refine CW_skip ?_
          refine sq_n ?_
          refine CW_seq ?_
          obtain ⟨s369, hm370, hm371⟩ := bind_some hm336
          refine CW_cut (fun E W => ∃  (L365 : List (Nat × Obj)), ST NoF w W (hp w) L365 ∧ E 0 = (.string a0) ∧ E 3 = (.int .i64 x274) ∧ (m_ref03_Right_L1 a0 n337 ((IntKind.i64.wrap (x274 + 1)))) = some r) ?_ ?_
          · refine CW_block ?_
            refine CW_seq ?_
            refine CW_region ?_
            refine LW_v (.inl rfl) rfl (by decide) (R_move (v := (.string a0)) e338) ?_
            refine LW_v (.inl rfl) rfl (by decide) (R_move (v := (.int .i64 x274)) e339) ?_
            obtain ⟨c372, hx373, hm370⟩ := bind_some hm370
            refine LW_v (.inl rfl) rfl (by decide) (R_indexStr (i := x274) Tryz.underlying9 rfl rfl (idxS_nonneg hx373) (idxS_get hx373)) ?_
            refine LW_v (.inl rfl) rfl (by decide) (R_assign (v := (.int .u8 ((c372.toNat : Int)))) rfl) ?_
            refine LW_nil ?_
            refine sq_n ?_
            refine CW_seq ?_
            obtain ⟨s387, hm388, hm389⟩ := bind_some hm370
            refine CW_cut (fun E W => ∃ (x380 : Bool) (L381 : List (Nat × Obj)), ST NoF w W (hp w) L381 ∧ E 0 = (.string a0) ∧ E 3 = (.int .i64 x274) ∧ E 48 = (.bool x380) ∧ (if x380 then some (Sum.inl false) else some (Sum.inr ())) = some s369) ?_ ?_
            · refine CW_region ?_
              refine LW_v (.inl rfl) rfl (by decide) (R_move (v := (.int .u8 ((c372.toNat : Int)))) rfl) ?_
              refine LW_v (.inl rfl) rfl (by decide) (R_int (k := .u8) (a := ((c372.toNat : Int))) (b := 97) (v := (.bool ((decide (((c372.toNat : Int)) < 97))))) rfl rfl rfl) ?_
              refine LW_v (.inl rfl) rfl (by decide) (R_move (v := (.bool ((decide (((c372.toNat : Int)) < 97))))) rfl) ?_
              rcases bool_cases ((decide (((c372.toNat : Int)) < 97))) with hb390 | hb390
              · replace hm388 := if_t hb390 hm388
                refine LW_no rfl (by decide) rfl rfl (by decide) (congrArg Value.bool hb390) ?_
                refine LW_no rfl (by decide) rfl rfl (by decide) (congrArg Value.bool hb390) ?_
                refine LW_v (.inl rfl) rfl (by decide) (R_pickT (v := (.bool true)) (congrArg Value.bool hb390) rfl) ?_
                refine LW_v (.inl rfl) rfl (by decide) (R_move (v := (.bool true)) rfl) ?_
                refine LW_v (.inr ⟨6, true, 37, rfl, rfl, by decide, rfl⟩) rfl (by decide) (R_move (v := (.int .u8 ((c372.toNat : Int)))) rfl) ?_
                refine LW_v (.inr ⟨6, true, 37, rfl, rfl, by decide, rfl⟩) rfl (by decide) (R_int (k := .u8) (a := ((c372.toNat : Int))) (b := 48) (v := (.bool ((decide (((c372.toNat : Int)) < 48))))) rfl rfl rfl) ?_
                refine LW_v (.inr ⟨6, true, 37, rfl, rfl, by decide, rfl⟩) rfl (by decide) (R_move (v := (.bool ((decide (((c372.toNat : Int)) < 48))))) rfl) ?_
                rcases bool_cases ((decide (((c372.toNat : Int)) < 48))) with hb391 | hb391
                · replace hm388 := if_t hb391 hm388
                  refine LW_no rfl (by decide) rfl rfl (by decide) (congrArg Value.bool hb391) ?_
                  refine LW_no rfl (by decide) rfl rfl (by decide) (congrArg Value.bool hb391) ?_
                  refine LW_v (.inr ⟨6, true, 37, rfl, rfl, by decide, rfl⟩) rfl (by decide) (R_pickT (v := (.bool true)) (congrArg Value.bool hb391) rfl) ?_
                  refine LW_v (.inl rfl) rfl (by decide) (R_pickT (v := (.bool true)) rfl rfl) ?_
                  refine LW_v (.inl rfl) rfl (by decide) (R_move (v := (.bool true)) rfl) ?_
                  refine LW_v (.inr ⟨14, true, 45, rfl, rfl, by decide, rfl⟩) rfl (by decide) (R_move (v := (.int .u8 ((c372.toNat : Int)))) rfl) ?_
                  refine LW_v (.inr ⟨14, true, 45, rfl, rfl, by decide, rfl⟩) rfl (by decide) (R_int (k := .u8) (a := ((c372.toNat : Int))) (b := 45) (v := (.bool ((((c372.toNat : Int)) != 45)))) rfl rfl rfl) ?_
                  refine LW_v (.inl rfl) rfl (by decide) (R_pickT (v := (.bool ((((c372.toNat : Int)) != 45)))) rfl rfl) ?_
                  refine LW_nil ?_
                  refine sq_n ?_
                  replace hm388 := Option.some.inj hm388; subst hm388
                  exact ⟨((((c372.toNat : Int)) != 45)), _, (hST.sublist (List.Sublist.refl _)), e338, e339, rfl, hm389⟩
                · replace hm388 := if_f hb391 hm388
                  refine LW_v (.inr ⟨9, false, 40, rfl, rfl, by decide, (congrArg Value.bool hb391)⟩) rfl (by decide) (R_move (v := (.int .u8 ((c372.toNat : Int)))) rfl) ?_
                  refine LW_v (.inr ⟨9, false, 40, rfl, rfl, by decide, (congrArg Value.bool hb391)⟩) rfl (by decide) (R_int (k := .u8) (a := ((c372.toNat : Int))) (b := 57) (v := (.bool ((decide (((c372.toNat : Int)) > 57))))) rfl rfl rfl) ?_
                  refine LW_v (.inr ⟨6, true, 37, rfl, rfl, by decide, rfl⟩) rfl (by decide) (R_pickF (v := (.bool ((decide (((c372.toNat : Int)) > 57))))) (congrArg Value.bool hb391) rfl) ?_
                  refine LW_v (.inl rfl) rfl (by decide) (R_pickT (v := (.bool ((decide (((c372.toNat : Int)) > 57))))) rfl rfl) ?_
                  refine LW_v (.inl rfl) rfl (by decide) (R_move (v := (.bool ((decide (((c372.toNat : Int)) > 57))))) rfl) ?_
                  rcases bool_cases ((decide (((c372.toNat : Int)) > 57))) with hb392 | hb392
                  · replace hm388 := if_t hb392 hm388
                    refine LW_v (.inr ⟨14, true, 45, rfl, rfl, by decide, (congrArg Value.bool hb392)⟩) rfl (by decide) (R_move (v := (.int .u8 ((c372.toNat : Int)))) rfl) ?_
                    refine LW_v (.inr ⟨14, true, 45, rfl, rfl, by decide, (congrArg Value.bool hb392)⟩) rfl (by decide) (R_int (k := .u8) (a := ((c372.toNat : Int))) (b := 45) (v := (.bool ((((c372.toNat : Int)) != 45)))) rfl rfl rfl) ?_
                    refine LW_v (.inl rfl) rfl (by decide) (R_pickT (v := (.bool ((((c372.toNat : Int)) != 45)))) (congrArg Value.bool hb392) rfl) ?_
                    refine LW_nil ?_
                    refine sq_n ?_
                    replace hm388 := Option.some.inj hm388; subst hm388
                    exact ⟨((((c372.toNat : Int)) != 45)), _, (hST.sublist (List.Sublist.refl _)), e338, e339, rfl, hm389⟩
                  · replace hm388 := if_f hb392 hm388
                    refine LW_no rfl (by decide) rfl rfl (by decide) (congrArg Value.bool hb392) ?_
                    refine LW_no rfl (by decide) rfl rfl (by decide) (congrArg Value.bool hb392) ?_
                    refine LW_v (.inl rfl) rfl (by decide) (R_pickF (v := (.bool false)) (congrArg Value.bool hb392) rfl) ?_
                    refine LW_nil ?_
                    refine sq_n ?_
                    replace hm388 := Option.some.inj hm388; subst hm388
                    exact ⟨false, _, (hST.sublist (List.Sublist.refl _)), e338, e339, rfl, hm389⟩
              · replace hm388 := if_f hb390 hm388
                refine LW_v (.inr ⟨2, false, 33, rfl, rfl, by decide, (congrArg Value.bool hb390)⟩) rfl (by decide) (R_move (v := (.int .u8 ((c372.toNat : Int)))) rfl) ?_
                refine LW_v (.inr ⟨2, false, 33, rfl, rfl, by decide, (congrArg Value.bool hb390)⟩) rfl (by decide) (R_int (k := .u8) (a := ((c372.toNat : Int))) (b := 122) (v := (.bool ((decide (((c372.toNat : Int)) > 122))))) rfl rfl rfl) ?_
                refine LW_v (.inl rfl) rfl (by decide) (R_pickF (v := (.bool ((decide (((c372.toNat : Int)) > 122))))) (congrArg Value.bool hb390) rfl) ?_
                refine LW_v (.inl rfl) rfl (by decide) (R_move (v := (.bool ((decide (((c372.toNat : Int)) > 122))))) rfl) ?_
                rcases bool_cases ((decide (((c372.toNat : Int)) > 122))) with hb393 | hb393
                · replace hm388 := if_t hb393 hm388
                  refine LW_v (.inr ⟨6, true, 37, rfl, rfl, by decide, (congrArg Value.bool hb393)⟩) rfl (by decide) (R_move (v := (.int .u8 ((c372.toNat : Int)))) rfl) ?_
                  refine LW_v (.inr ⟨6, true, 37, rfl, rfl, by decide, (congrArg Value.bool hb393)⟩) rfl (by decide) (R_int (k := .u8) (a := ((c372.toNat : Int))) (b := 48) (v := (.bool ((decide (((c372.toNat : Int)) < 48))))) rfl rfl rfl) ?_
                  refine LW_v (.inr ⟨6, true, 37, rfl, rfl, by decide, (congrArg Value.bool hb393)⟩) rfl (by decide) (R_move (v := (.bool ((decide (((c372.toNat : Int)) < 48))))) rfl) ?_
                  rcases bool_cases ((decide (((c372.toNat : Int)) < 48))) with hb394 | hb394
                  · replace hm388 := if_t hb394 hm388
                    refine LW_no rfl (by decide) rfl rfl (by decide) (congrArg Value.bool hb394) ?_
                    refine LW_no rfl (by decide) rfl rfl (by decide) (congrArg Value.bool hb394) ?_
                    refine LW_v (.inr ⟨6, true, 37, rfl, rfl, by decide, (congrArg Value.bool hb393)⟩) rfl (by decide) (R_pickT (v := (.bool true)) (congrArg Value.bool hb394) rfl) ?_
                    refine LW_v (.inl rfl) rfl (by decide) (R_pickT (v := (.bool true)) (congrArg Value.bool hb393) rfl) ?_
                    refine LW_v (.inl rfl) rfl (by decide) (R_move (v := (.bool true)) rfl) ?_
                    refine LW_v (.inr ⟨14, true, 45, rfl, rfl, by decide, rfl⟩) rfl (by decide) (R_move (v := (.int .u8 ((c372.toNat : Int)))) rfl) ?_
                    refine LW_v (.inr ⟨14, true, 45, rfl, rfl, by decide, rfl⟩) rfl (by decide) (R_int (k := .u8) (a := ((c372.toNat : Int))) (b := 45) (v := (.bool ((((c372.toNat : Int)) != 45)))) rfl rfl rfl) ?_
                    refine LW_v (.inl rfl) rfl (by decide) (R_pickT (v := (.bool ((((c372.toNat : Int)) != 45)))) rfl rfl) ?_
                    refine LW_nil ?_
                    refine sq_n ?_
                    replace hm388 := Option.some.inj hm388; subst hm388
                    exact ⟨((((c372.toNat : Int)) != 45)), _, (hST.sublist (List.Sublist.refl _)), e338, e339, rfl, hm389⟩
                  · replace hm388 := if_f hb394 hm388
                    refine LW_v (.inr ⟨9, false, 40, rfl, rfl, by decide, (congrArg Value.bool hb394)⟩) rfl (by decide) (R_move (v := (.int .u8 ((c372.toNat : Int)))) rfl) ?_
                    refine LW_v (.inr ⟨9, false, 40, rfl, rfl, by decide, (congrArg Value.bool hb394)⟩) rfl (by decide) (R_int (k := .u8) (a := ((c372.toNat : Int))) (b := 57) (v := (.bool ((decide (((c372.toNat : Int)) > 57))))) rfl rfl rfl) ?_
                    refine LW_v (.inr ⟨6, true, 37, rfl, rfl, by decide, (congrArg Value.bool hb393)⟩) rfl (by decide) (R_pickF (v := (.bool ((decide (((c372.toNat : Int)) > 57))))) (congrArg Value.bool hb394) rfl) ?_
                    refine LW_v (.inl rfl) rfl (by decide) (R_pickT (v := (.bool ((decide (((c372.toNat : Int)) > 57))))) (congrArg Value.bool hb393) rfl) ?_
                    refine LW_v (.inl rfl) rfl (by decide) (R_move (v := (.bool ((decide (((c372.toNat : Int)) > 57))))) rfl) ?_
                    rcases bool_cases ((decide (((c372.toNat : Int)) > 57))) with hb395 | hb395
                    · replace hm388 := if_t hb395 hm388
                      refine LW_v (.inr ⟨14, true, 45, rfl, rfl, by decide, (congrArg Value.bool hb395)⟩) rfl (by decide) (R_move (v := (.int .u8 ((c372.toNat : Int)))) rfl) ?_
                      refine LW_v (.inr ⟨14, true, 45, rfl, rfl, by decide, (congrArg Value.bool hb395)⟩) rfl (by decide) (R_int (k := .u8) (a := ((c372.toNat : Int))) (b := 45) (v := (.bool ((((c372.toNat : Int)) != 45)))) rfl rfl rfl) ?_
                      refine LW_v (.inl rfl) rfl (by decide) (R_pickT (v := (.bool ((((c372.toNat : Int)) != 45)))) (congrArg Value.bool hb395) rfl) ?_
                      refine LW_nil ?_
                      refine sq_n ?_
                      replace hm388 := Option.some.inj hm388; subst hm388
                      exact ⟨((((c372.toNat : Int)) != 45)), _, (hST.sublist (List.Sublist.refl _)), e338, e339, rfl, hm389⟩
                    · replace hm388 := if_f hb395 hm388
                      refine LW_no rfl (by decide) rfl rfl (by decide) (congrArg Value.bool hb395) ?_
                      refine LW_no rfl (by decide) rfl rfl (by decide) (congrArg Value.bool hb395) ?_
                      refine LW_v (.inl rfl) rfl (by decide) (R_pickF (v := (.bool false)) (congrArg Value.bool hb395) rfl) ?_
                      refine LW_nil ?_
                      refine sq_n ?_
                      replace hm388 := Option.some.inj hm388; subst hm388
                      exact ⟨false, _, (hST.sublist (List.Sublist.refl _)), e338, e339, rfl, hm389⟩
                · replace hm388 := if_f hb393 hm388
                  refine LW_no rfl (by decide) rfl rfl (by decide) (congrArg Value.bool hb393) ?_
                  refine LW_no rfl (by decide) rfl rfl (by decide) (congrArg Value.bool hb393) ?_
                  refine LW_no rfl (by decide) rfl rfl (by decide) (congrArg Value.bool hb393) ?_
                  refine LW_nou rfl (by decide) rfl rfl (by decide) rfl ?_
                  refine LW_nou rfl (by decide) rfl rfl (by decide) rfl ?_
                  refine LW_no rfl (by decide) rfl rfl (by decide) (congrArg Value.bool hb393) ?_
                  refine LW_v (.inl rfl) rfl (by decide) (R_pickF (v := (.bool false)) (congrArg Value.bool hb393) rfl) ?_
                  refine LW_v (.inl rfl) rfl (by decide) (R_move (v := (.bool false)) rfl) ?_
                  refine LW_no rfl (by decide) rfl rfl (by decide) rfl ?_
                  refine LW_no rfl (by decide) rfl rfl (by decide) rfl ?_
                  refine LW_v (.inl rfl) rfl (by decide) (R_pickF (v := (.bool false)) rfl rfl) ?_
                  refine LW_nil ?_
                  refine sq_n ?_
                  replace hm388 := Option.some.inj hm388; subst hm388
                  exact ⟨false, _, (hST.sublist (List.Sublist.refl _)), e338, e339, rfl, hm389⟩
            · rintro E W ⟨x380, L381, hST, e383, e384, e385, hm382⟩
              refine CW_if (b := x380) e385 (fun hb386 => ?_) (fun hb386 => ?_)
              · replace hm382 := if_t hb386 hm382
                refine CW_seq ?_
                refine CW_region ?_
                refine LW_v (.inl rfl) rfl (by decide) (R_assign (v := (.bool false)) rfl) ?_
                refine LW_nil ?_
                refine sq_n ?_
                refine CW_ret ?_
                refine bq_r (sq_r (sq_r (bq_r (sq_r ?_))))
                replace hm382 := Option.some.inj hm382; subst hm382
                replace hm371 : some false = some r := hm371
                replace hm371 := Option.some.inj hm371; subst hm371
                refine retQ_1 (v := (.bool false)) rfl rfl ?_
                exact ⟨rfl, hST.ex⟩
              · replace hm382 := if_f hb386 hm382
                refine CW_skip ?_
                refine bq_n ?_
                refine sq_n ?_
                replace hm382 := Option.some.inj hm382; subst hm382
                exact ⟨_, (hST.sublist (List.Sublist.refl _)), e383, e384, hm371⟩
          · rintro E W ⟨L365, hST, e367, e368, hm366⟩
            refine CW_region ?_
            refine LW_v (.inl rfl) rfl (by decide) (R_move (v := (.int .i64 x274)) e368) ?_
            refine LW_v (.inl rfl) rfl (by decide) (R_int (k := .i64) (a := x274) (b := 1) (v := (.int .i64 ((IntKind.i64.wrap (x274 + 1))))) rfl rfl rfl) ?_
            refine LW_v (.inl rfl) rfl (by decide) (R_assign (v := (.int .i64 ((IntKind.i64.wrap (x274 + 1))))) rfl) ?_
            refine LW_nil ?_
            refine sq_n ?_
            exact ⟨n337, Nat.lt_succ_self _, ((IntKind.i64.wrap (x274 + 1))), _, (hST.sublist (List.Sublist.refl _)), e367, rfl, hm366⟩
        · replace hm336 := if_f hb340 hm336
          refine CW_exit ?_
          refine sq_e (sq_e (bq_e ?_))
          refine sq_n ?_
          refine CW_seq ?_
          refine CW_region ?_
          refine LW_v (.inl rfl) rfl (by decide) (R_assign (v := (.bool true)) rfl) ?_
          refine LW_nil ?_
          refine sq_n ?_
          refine CW_ret ?_
          replace hm336 := Option.some.inj hm336; subst hm336
          refine retQ_1 (v := (.bool true)) rfl rfl ?_
          exact ⟨rfl, hST.ex⟩

theorem w_ref04_Right (a0 : Role) (r : Bool) (w : World)  (hm : m_ref04_Right a0 = some r) :
    Gives Tryz.prog 51 [(.agg (encRole a0).toArray)] w (.bool r) := by
  have hST := ST.start w
  unfold m_ref04_Right at hm
  refine calls_of_CW (n := 11) Tryz.func51 rfl rfl (Nat.le_of_ble_eq_true rfl) ?_
  refine CW_seq ?_
  refine CW_region ?_
  refine LW_e (.inl rfl) rfl (by decide) (E_box (v := (.agg (encRole a0).toArray)) hST rfl (fun W2 b1 hST => ?_))
  refine LW_v (.inl rfl) rfl (by decide) (R_assign (v := (.bool false)) rfl) ?_
  refine LW_nil ?_
  refine sq_n ?_
  refine CW_seq ?_
  obtain ⟨s14, hm15, hm16⟩ := bind_some hm
  refine CW_cut (fun E W => ∃ (x10 : Bool) (L11 : List (Nat × Obj)), ST NoF w W (hp w) L11 ∧ E 2 = (.bool x10) ∧ some x10 = some r) ?_ ?_
  · refine CW_region ?_
    refine LW_v (.inl rfl) rfl (by decide) (R_field fa47_0 rfl) ?_
    refine LW_v (.inl rfl) rfl (by decide) (R_load (v := (.string a0.Owner)) rfl (load_box1 hST.has (.head _) rfl Tryz.isAgg9)) ?_
    obtain ⟨r17, hr18, hm15⟩ := bind_some hm15
    replace hST : ST NoF w _ _ ((b1, Obj.cells ((encRole a0).toArray : Array Value) 47 (0, 0)) :: []) := hST
    have hsz := hST.size
    refine LW_e (.inl rfl) rfl (by decide) (E_gives (args := [(.string a0.Owner)]) hST rfl Tryz.call108 (by exact args1 rfl) (w_ref03_Right a0.Owner _ _  hr18) (fun W19 hST => ?_))
    refine LW_v (.inl rfl) rfl (by decide) (R_move (v := (.bool r17)) rfl) ?_
    rcases bool_cases r17 with hb20 | hb20
    · replace hm15 := if_t hb20 hm15
      refine LW_v (.inr ⟨3, true, 6, rfl, rfl, by decide, (congrArg Value.bool hb20)⟩) rfl (by decide) (R_field fa47_1 rfl) ?_
      refine LW_v (.inr ⟨3, true, 6, rfl, rfl, by decide, (congrArg Value.bool hb20)⟩) rfl (by decide) (R_load (v := (.string a0.Word)) rfl (load_box1 hST.has (.head _) rfl Tryz.isAgg9)) ?_
      obtain ⟨r21, hr22, hm15⟩ := bind_some hm15
      replace hST : ST NoF w _ _ ((b1, Obj.cells ((encRole a0).toArray : Array Value) 47 (0, 0)) :: []) := hST
      have hsz := hST.size
      refine LW_e (.inr ⟨3, true, 6, rfl, rfl, by decide, (congrArg Value.bool hb20)⟩) rfl (by decide) (E_gives (args := [(.string a0.Word)]) hST rfl Tryz.call108 (by exact args1 rfl) (w_ref03_Right a0.Word _ _  hr22) (fun W23 hST => ?_))
      refine LW_v (.inl rfl) rfl (by decide) (R_pickT (v := (.bool r21)) (congrArg Value.bool hb20) rfl) ?_
      refine LW_v (.inl rfl) rfl (by decide) (R_assign (v := (.bool r21)) rfl) ?_
      refine LW_nil ?_
      refine sq_n ?_
      replace hm15 := Option.some.inj hm15; subst hm15
      exact ⟨r21, _, (hST.sublist (List.Sublist.cons _ (List.Sublist.refl _))), rfl, hm16⟩
    · replace hm15 := if_f hb20 hm15
      refine LW_no rfl (by decide) rfl rfl (by decide) (congrArg Value.bool hb20) ?_
      refine LW_no rfl (by decide) rfl rfl (by decide) (congrArg Value.bool hb20) ?_
      refine LW_no rfl (by decide) rfl rfl (by decide) (congrArg Value.bool hb20) ?_
      refine LW_v (.inl rfl) rfl (by decide) (R_pickF (v := (.bool false)) (congrArg Value.bool hb20) rfl) ?_
      refine LW_v (.inl rfl) rfl (by decide) (R_assign (v := (.bool false)) rfl) ?_
      refine LW_nil ?_
      refine sq_n ?_
      replace hm15 := Option.some.inj hm15; subst hm15
      exact ⟨false, _, (hST.sublist (List.Sublist.cons _ (List.Sublist.refl _))), rfl, hm16⟩
  · rintro E W ⟨x10, L11, hST, e13, hm12⟩
    refine CW_ret ?_
    replace hm12 := Option.some.inj hm12; subst hm12
    refine retQ_1 (v := (.bool x10)) rfl e13 ?_
    exact ⟨rfl, hST.ex⟩

theorem w_ref04_Less (a0 : Role) (a1 : Role) (r : Bool) (w : World)  (hm : m_ref04_Less a0 a1 = some r) :
    Gives Tryz.prog 123 [(.agg (encRole a0).toArray), (.agg (encRole a1).toArray)] w (.bool r) := by
  have hST := ST.start w
  unfold m_ref04_Less at hm
  refine calls_of_CW (n := 24) Tryz.func123 rfl rfl (Nat.le_of_ble_eq_true rfl) ?_
  refine CW_seq ?_
  refine CW_region ?_
  refine LW_e (.inl rfl) rfl (by decide) (E_box (v := (.agg (encRole a0).toArray)) hST rfl (fun W2 b1 hST => ?_))
  refine LW_e (.inl rfl) rfl (by decide) (E_box (v := (.agg (encRole a1).toArray)) hST rfl (fun W4 b3 hST => ?_))
  refine LW_v (.inl rfl) rfl (by decide) (R_assign (v := (.bool false)) rfl) ?_
  refine LW_nil ?_
  refine sq_n ?_
  refine CW_seq ?_
  obtain ⟨s11, hm12, hm13⟩ := bind_some hm
  refine CW_cut (fun E W => ∃ (x7 : Bool) (L8 : List (Nat × Obj)), ST NoF w W (hp w) L8 ∧ E 4 = (.bool x7) ∧ some x7 = some r) ?_ ?_
  · refine CW_region ?_
    refine LW_v (.inl rfl) rfl (by decide) (R_field fa47_0 rfl) ?_
    refine LW_v (.inl rfl) rfl (by decide) (R_load (v := (.string a0.Owner)) rfl (load_box1 hST.has (.tail _ (.head _)) rfl Tryz.isAgg9)) ?_
    refine LW_v (.inl rfl) rfl (by decide) (R_field fa47_0 rfl) ?_
    refine LW_v (.inl rfl) rfl (by decide) (R_load (v := (.string a1.Owner)) rfl (load_box1 hST.has (.head _) rfl Tryz.isAgg9)) ?_
    refine LW_v (.inl rfl) rfl (by decide) (R_str (a := a0.Owner) (b := a1.Owner) (v := (.bool ((ltS a0.Owner a1.Owner)))) rfl rfl rfl) ?_
    refine LW_v (.inl rfl) rfl (by decide) (R_move (v := (.bool ((ltS a0.Owner a1.Owner)))) rfl) ?_
    rcases bool_cases ((ltS a0.Owner a1.Owner)) with hb14 | hb14
    · replace hm12 := if_t hb14 hm12
      refine LW_no rfl (by decide) rfl rfl (by decide) (congrArg Value.bool hb14) ?_
      refine LW_no rfl (by decide) rfl rfl (by decide) (congrArg Value.bool hb14) ?_
      refine LW_no rfl (by decide) rfl rfl (by decide) (congrArg Value.bool hb14) ?_
      refine LW_no rfl (by decide) rfl rfl (by decide) (congrArg Value.bool hb14) ?_
      refine LW_no rfl (by decide) rfl rfl (by decide) (congrArg Value.bool hb14) ?_
      refine LW_no rfl (by decide) rfl rfl (by decide) (congrArg Value.bool hb14) ?_
      refine LW_nou rfl (by decide) rfl rfl (by decide) rfl ?_
      refine LW_nou rfl (by decide) rfl rfl (by decide) rfl ?_
      refine LW_nou rfl (by decide) rfl rfl (by decide) rfl ?_
      refine LW_nou rfl (by decide) rfl rfl (by decide) rfl ?_
      refine LW_nou rfl (by decide) rfl rfl (by decide) rfl ?_
      refine LW_no rfl (by decide) rfl rfl (by decide) (congrArg Value.bool hb14) ?_
      refine LW_v (.inl rfl) rfl (by decide) (R_pickT (v := (.bool true)) (congrArg Value.bool hb14) rfl) ?_
      refine LW_v (.inl rfl) rfl (by decide) (R_assign (v := (.bool true)) rfl) ?_
      refine LW_nil ?_
      refine sq_n ?_
      replace hm12 := Option.some.inj hm12; subst hm12
      exact ⟨true, _, (hST.sublist (List.Sublist.cons _ (List.Sublist.cons _ (List.Sublist.refl _)))), rfl, hm13⟩
    · replace hm12 := if_f hb14 hm12
      refine LW_v (.inr ⟨5, false, 10, rfl, rfl, by decide, (congrArg Value.bool hb14)⟩) rfl (by decide) (R_field fa47_0 rfl) ?_
      refine LW_v (.inr ⟨5, false, 10, rfl, rfl, by decide, (congrArg Value.bool hb14)⟩) rfl (by decide) (R_load (v := (.string a0.Owner)) rfl (load_box1 hST.has (.tail _ (.head _)) rfl Tryz.isAgg9)) ?_
      refine LW_v (.inr ⟨5, false, 10, rfl, rfl, by decide, (congrArg Value.bool hb14)⟩) rfl (by decide) (R_field fa47_0 rfl) ?_
      refine LW_v (.inr ⟨5, false, 10, rfl, rfl, by decide, (congrArg Value.bool hb14)⟩) rfl (by decide) (R_load (v := (.string a1.Owner)) rfl (load_box1 hST.has (.head _) rfl Tryz.isAgg9)) ?_
      refine LW_v (.inr ⟨5, false, 10, rfl, rfl, by decide, (congrArg Value.bool hb14)⟩) rfl (by decide) (R_str (a := a0.Owner) (b := a1.Owner) (v := (.bool ((beqS a0.Owner a1.Owner)))) rfl rfl rfl) ?_
      refine LW_v (.inr ⟨5, false, 10, rfl, rfl, by decide, (congrArg Value.bool hb14)⟩) rfl (by decide) (R_move (v := (.bool ((beqS a0.Owner a1.Owner)))) rfl) ?_
      rcases bool_cases ((beqS a0.Owner a1.Owner)) with hb15 | hb15
      · replace hm12 := if_t hb15 hm12
        refine LW_v (.inr ⟨11, true, 16, rfl, rfl, by decide, (congrArg Value.bool hb15)⟩) rfl (by decide) (R_field fa47_1 rfl) ?_
        refine LW_v (.inr ⟨11, true, 16, rfl, rfl, by decide, (congrArg Value.bool hb15)⟩) rfl (by decide) (R_load (v := (.string a0.Word)) rfl (load_box1 hST.has (.tail _ (.head _)) rfl Tryz.isAgg9)) ?_
        refine LW_v (.inr ⟨11, true, 16, rfl, rfl, by decide, (congrArg Value.bool hb15)⟩) rfl (by decide) (R_field fa47_1 rfl) ?_
        refine LW_v (.inr ⟨11, true, 16, rfl, rfl, by decide, (congrArg Value.bool hb15)⟩) rfl (by decide) (R_load (v := (.string a1.Word)) rfl (load_box1 hST.has (.head _) rfl Tryz.isAgg9)) ?_
        refine LW_v (.inr ⟨11, true, 16, rfl, rfl, by decide, (congrArg Value.bool hb15)⟩) rfl (by decide) (R_str (a := a0.Word) (b := a1.Word) (v := (.bool ((ltS a0.Word a1.Word)))) rfl rfl rfl) ?_
        refine LW_v (.inr ⟨5, false, 10, rfl, rfl, by decide, (congrArg Value.bool hb14)⟩) rfl (by decide) (R_pickT (v := (.bool ((ltS a0.Word a1.Word)))) (congrArg Value.bool hb15) rfl) ?_
        refine LW_v (.inl rfl) rfl (by decide) (R_pickF (v := (.bool ((ltS a0.Word a1.Word)))) (congrArg Value.bool hb14) rfl) ?_
        refine LW_v (.inl rfl) rfl (by decide) (R_assign (v := (.bool ((ltS a0.Word a1.Word)))) rfl) ?_
        refine LW_nil ?_
        refine sq_n ?_
        replace hm12 := Option.some.inj hm12; subst hm12
        exact ⟨((ltS a0.Word a1.Word)), _, (hST.sublist (List.Sublist.cons _ (List.Sublist.cons _ (List.Sublist.refl _)))), rfl, hm13⟩
      · replace hm12 := if_f hb15 hm12
        refine LW_no rfl (by decide) rfl rfl (by decide) (congrArg Value.bool hb15) ?_
        refine LW_no rfl (by decide) rfl rfl (by decide) (congrArg Value.bool hb15) ?_
        refine LW_no rfl (by decide) rfl rfl (by decide) (congrArg Value.bool hb15) ?_
        refine LW_no rfl (by decide) rfl rfl (by decide) (congrArg Value.bool hb15) ?_
        refine LW_no rfl (by decide) rfl rfl (by decide) (congrArg Value.bool hb15) ?_
        refine LW_v (.inr ⟨5, false, 10, rfl, rfl, by decide, (congrArg Value.bool hb14)⟩) rfl (by decide) (R_pickF (v := (.bool false)) (congrArg Value.bool hb15) rfl) ?_
        refine LW_v (.inl rfl) rfl (by decide) (R_pickF (v := (.bool false)) (congrArg Value.bool hb14) rfl) ?_
        refine LW_v (.inl rfl) rfl (by decide) (R_assign (v := (.bool false)) rfl) ?_
        refine LW_nil ?_
        refine sq_n ?_
        replace hm12 := Option.some.inj hm12; subst hm12
        exact ⟨false, _, (hST.sublist (List.Sublist.cons _ (List.Sublist.cons _ (List.Sublist.refl _)))), rfl, hm13⟩
  · rintro E W ⟨x7, L8, hST, e10, hm9⟩
    refine CW_ret ?_
    replace hm9 := Option.some.inj hm9; subst hm9
    refine retQ_1 (v := (.bool x7)) rfl e10 ?_
    exact ⟨rfl, hST.ex⟩

theorem w_ref05_Right (a0 : Cred) (r : Bool) (w : World)  (hm : m_ref05_Right a0 = some r) :
    Gives Tryz.prog 106 [(.agg (encCred a0).toArray)] w (.bool r) := by
  have hST := ST.start w
  unfold m_ref05_Right at hm
  refine calls_of_CW (n := 93) Tryz.func106 rfl rfl (Nat.le_of_ble_eq_true rfl) ?_
  refine CW_seq ?_
  refine CW_region ?_
  refine LW_e (.inl rfl) rfl (by decide) (E_box (v := (.agg (encCred a0).toArray)) hST rfl (fun W2 b1 hST => ?_))
  refine LW_v (.inl rfl) rfl (by decide) (R_assign (v := (.bool false)) rfl) ?_
  refine LW_nil ?_
  refine sq_n ?_
  refine CW_seq ?_
  refine CW_region ?_
  refine LW_e (.inl rfl) rfl (by decide) (E_alloc hST Tryz.zeroValue47 (fun W4 b3 hST => ?_))
  refine LW_nil ?_
  refine sq_n ?_
  refine CW_seq ?_
  refine CW_seq ?_
  refine CW_region ?_
  refine LW_v (.inl rfl) rfl (by decide) (R_field fa83_1 rfl) ?_
  refine LW_v (.inl rfl) rfl (by decide) (R_load (v := (.agg (encRole a0.Head).toArray)) rfl (load_boxA hST.has (.tail _ (.head _)) (encRole a0.Head) rfl Tryz.isAgg47 Tryz.sizeOf47)) ?_
  obtain ⟨r5, hr6, hm⟩ := bind_some hm
  replace hST : ST NoF w _ _ ((b3, Obj.cells ((encRole ((⟨zS, zS⟩ : Role))).toArray : Array Value) 47 (0, 0)) :: ((b1, Obj.cells ((encCred a0).toArray : Array Value) 83 (0, 0)) :: [])) := hST
  have hsz := hST.size
  refine LW_e (.inl rfl) rfl (by decide) (E_gives (args := [(.agg (encRole a0.Head).toArray)]) hST rfl Tryz.call51 (by exact args1 rfl) (w_ref04_Right a0.Head _ _  hr6) (fun W7 hST => ?_))
  refine LW_v (.inl rfl) rfl (by decide) (R_not (b := r5) rfl) ?_
  refine LW_nil ?_
  refine sq_n ?_
  refine CW_if (b := (!r5)) rfl (fun hb8 => ?_) (fun hb8 => ?_)
  · replace hm := if_t hb8 hm
    refine CW_seq ?_
    refine CW_region ?_
    refine LW_v (.inl rfl) rfl (by decide) (R_assign (v := (.bool false)) rfl) ?_
    refine LW_nil ?_
    refine sq_n ?_
    replace hST : ST NoF w _ _ [] := hST.sublist (List.Sublist.cons _ (List.Sublist.cons _ (List.Sublist.refl _)))
    refine CW_ret ?_
    refine sq_r ?_
    replace hm := Option.some.inj hm; subst hm
    refine retQ_1 (v := (.bool false)) rfl rfl ?_
    exact ⟨rfl, hST.ex⟩
  · replace hm := if_f hb8 hm
    refine CW_skip ?_
    refine sq_n ?_
    refine CW_seq ?_
    refine CW_seq ?_
    refine CW_region ?_
    refine LW_v (.inl rfl) rfl (by decide) (R_field fa83_0 rfl) ?_
    refine LW_v (.inl rfl) rfl (by decide) (R_load (v := (.int .i64 a0.Kind)) rfl (load_box1 hST.has (.tail _ (.head _)) rfl Tryz.isAgg3)) ?_
    refine LW_v (.inl rfl) rfl (by decide) (R_int (k := .i64) (a := a0.Kind) (b := 1) (v := (.bool ((a0.Kind == 1)))) rfl rfl rfl) ?_
    refine LW_nil ?_
    refine sq_n ?_
    refine CW_if (b := (a0.Kind == 1)) rfl (fun hb9 => ?_) (fun hb9 => ?_)
    · replace hm := if_t hb9 hm
      refine CW_seq ?_
      obtain ⟨s20, hm21, hm22⟩ := bind_some hm
      refine CW_cut (fun E W => ∃ (x16 : Bool) (L17 : List (Nat × Obj)), ST NoF w W (hp w) L17 ∧ E 2 = (.bool x16) ∧ some x16 = some r) ?_ ?_
      · refine CW_region ?_
        refine LW_v (.inl rfl) rfl (by decide) (R_field fa83_2 rfl) ?_
        refine LW_v (.inl rfl) rfl (by decide) (R_load (v := (.string a0.Who)) rfl (load_box1 hST.has (.tail _ (.head _)) rfl Tryz.isAgg9)) ?_
        obtain ⟨r23, hr24, hm21⟩ := bind_some hm21
        replace hST : ST NoF w _ _ ((b3, Obj.cells ((encRole ((⟨zS, zS⟩ : Role))).toArray : Array Value) 47 (0, 0)) :: ((b1, Obj.cells ((encCred a0).toArray : Array Value) 83 (0, 0)) :: [])) := hST
        have hsz := hST.size
        refine LW_e (.inl rfl) rfl (by decide) (E_gives (args := [(.string a0.Who)]) hST rfl Tryz.call108 (by exact args1 rfl) (w_ref03_Right a0.Who _ _  hr24) (fun W25 hST => ?_))
        refine LW_v (.inl rfl) rfl (by decide) (R_move (v := (.bool r23)) rfl) ?_
        rcases bool_cases r23 with hb26 | hb26
        · replace hm21 := if_t hb26 hm21
          refine LW_v (.inr ⟨3, true, 14, rfl, rfl, by decide, (congrArg Value.bool hb26)⟩) rfl (by decide) (R_field fa83_3 rfl) ?_
          refine LW_v (.inr ⟨3, true, 14, rfl, rfl, by decide, (congrArg Value.bool hb26)⟩) rfl (by decide) (R_load (v := (.agg (encRole a0.B).toArray)) rfl (load_boxA hST.has (.tail _ (.head _)) (encRole a0.B) rfl Tryz.isAgg47 Tryz.sizeOf47)) ?_
          refine LW_v (.inr ⟨3, true, 14, rfl, rfl, by decide, (congrArg Value.bool hb26)⟩) rfl (by decide) (R_load (v := (.agg (encRole ((⟨zS, zS⟩ : Role))).toArray)) rfl (load_boxA hST.has (.head _) (encRole ((⟨zS, zS⟩ : Role))) rfl Tryz.isAgg47 Tryz.sizeOf47)) ?_
          refine LW_v (.inr ⟨3, true, 14, rfl, rfl, by decide, (congrArg Value.bool hb26)⟩) rfl (by decide) (R_eql (a := (encRole a0.B).toArray) (b := (encRole ((⟨zS, zS⟩ : Role))).toArray) rfl rfl (guard_agg Tryz.eqGuardType47) (bin_eql (eqInRole _ a0.B ((⟨zS, zS⟩ : Role))))) ?_
          refine LW_v (.inl rfl) rfl (by decide) (R_pickT (v := (.bool ((beqRole a0.B ((⟨zS, zS⟩ : Role)))))) (congrArg Value.bool hb26) rfl) ?_
          refine LW_v (.inl rfl) rfl (by decide) (R_move (v := (.bool ((beqRole a0.B ((⟨zS, zS⟩ : Role)))))) rfl) ?_
          rcases bool_cases ((beqRole a0.B ((⟨zS, zS⟩ : Role)))) with hb27 | hb27
          · replace hm21 := if_t hb27 hm21
            refine LW_v (.inr ⟨9, true, 20, rfl, rfl, by decide, (congrArg Value.bool hb27)⟩) rfl (by decide) (R_field fa83_4 rfl) ?_
            refine LW_v (.inr ⟨9, true, 20, rfl, rfl, by decide, (congrArg Value.bool hb27)⟩) rfl (by decide) (R_load (v := (.agg (encRole a0.C).toArray)) rfl (load_boxA hST.has (.tail _ (.head _)) (encRole a0.C) rfl Tryz.isAgg47 Tryz.sizeOf47)) ?_
            refine LW_v (.inr ⟨9, true, 20, rfl, rfl, by decide, (congrArg Value.bool hb27)⟩) rfl (by decide) (R_load (v := (.agg (encRole ((⟨zS, zS⟩ : Role))).toArray)) rfl (load_boxA hST.has (.head _) (encRole ((⟨zS, zS⟩ : Role))) rfl Tryz.isAgg47 Tryz.sizeOf47)) ?_
            refine LW_v (.inr ⟨9, true, 20, rfl, rfl, by decide, (congrArg Value.bool hb27)⟩) rfl (by decide) (R_eql (a := (encRole a0.C).toArray) (b := (encRole ((⟨zS, zS⟩ : Role))).toArray) rfl rfl (guard_agg Tryz.eqGuardType47) (bin_eql (eqInRole _ a0.C ((⟨zS, zS⟩ : Role))))) ?_
            refine LW_v (.inl rfl) rfl (by decide) (R_pickT (v := (.bool ((beqRole a0.C ((⟨zS, zS⟩ : Role)))))) (congrArg Value.bool hb27) rfl) ?_
            refine LW_v (.inl rfl) rfl (by decide) (R_move (v := (.bool ((beqRole a0.C ((⟨zS, zS⟩ : Role)))))) rfl) ?_
            rcases bool_cases ((beqRole a0.C ((⟨zS, zS⟩ : Role)))) with hb28 | hb28
            · replace hm21 := if_t hb28 hm21
              refine LW_v (.inr ⟨15, true, 26, rfl, rfl, by decide, (congrArg Value.bool hb28)⟩) rfl (by decide) (R_field fa83_5 rfl) ?_
              refine LW_v (.inr ⟨15, true, 26, rfl, rfl, by decide, (congrArg Value.bool hb28)⟩) rfl (by decide) (R_load (v := (.string a0.Word2)) rfl (load_box1 hST.has (.tail _ (.head _)) rfl Tryz.isAgg9)) ?_
              refine LW_v (.inr ⟨15, true, 26, rfl, rfl, by decide, (congrArg Value.bool hb28)⟩) rfl (by decide) (R_str (a := a0.Word2) (b := zS) (v := (.bool ((beqS a0.Word2 zS)))) rfl rfl rfl) ?_
              refine LW_v (.inl rfl) rfl (by decide) (R_pickT (v := (.bool ((beqS a0.Word2 zS)))) (congrArg Value.bool hb28) rfl) ?_
              refine LW_v (.inl rfl) rfl (by decide) (R_assign (v := (.bool ((beqS a0.Word2 zS)))) rfl) ?_
              refine LW_nil ?_
              refine sq_n ?_
              replace hm21 := Option.some.inj hm21; subst hm21
              exact ⟨((beqS a0.Word2 zS)), _, (hST.sublist (List.Sublist.cons _ (List.Sublist.cons _ (List.Sublist.refl _)))), rfl, hm22⟩
            · replace hm21 := if_f hb28 hm21
              refine LW_no rfl (by decide) rfl rfl (by decide) (congrArg Value.bool hb28) ?_
              refine LW_no rfl (by decide) rfl rfl (by decide) (congrArg Value.bool hb28) ?_
              refine LW_no rfl (by decide) rfl rfl (by decide) (congrArg Value.bool hb28) ?_
              refine LW_v (.inl rfl) rfl (by decide) (R_pickF (v := (.bool false)) (congrArg Value.bool hb28) rfl) ?_
              refine LW_v (.inl rfl) rfl (by decide) (R_assign (v := (.bool false)) rfl) ?_
              refine LW_nil ?_
              refine sq_n ?_
              replace hm21 := Option.some.inj hm21; subst hm21
              exact ⟨false, _, (hST.sublist (List.Sublist.cons _ (List.Sublist.cons _ (List.Sublist.refl _)))), rfl, hm22⟩
          · replace hm21 := if_f hb27 hm21
            refine LW_no rfl (by decide) rfl rfl (by decide) (congrArg Value.bool hb27) ?_
            refine LW_no rfl (by decide) rfl rfl (by decide) (congrArg Value.bool hb27) ?_
            refine LW_no rfl (by decide) rfl rfl (by decide) (congrArg Value.bool hb27) ?_
            refine LW_no rfl (by decide) rfl rfl (by decide) (congrArg Value.bool hb27) ?_
            refine LW_v (.inl rfl) rfl (by decide) (R_pickF (v := (.bool false)) (congrArg Value.bool hb27) rfl) ?_
            refine LW_v (.inl rfl) rfl (by decide) (R_move (v := (.bool false)) rfl) ?_
            refine LW_no rfl (by decide) rfl rfl (by decide) rfl ?_
            refine LW_no rfl (by decide) rfl rfl (by decide) rfl ?_
            refine LW_no rfl (by decide) rfl rfl (by decide) rfl ?_
            refine LW_v (.inl rfl) rfl (by decide) (R_pickF (v := (.bool false)) rfl rfl) ?_
            refine LW_v (.inl rfl) rfl (by decide) (R_assign (v := (.bool false)) rfl) ?_
            refine LW_nil ?_
            refine sq_n ?_
            replace hm21 := Option.some.inj hm21; subst hm21
            exact ⟨false, _, (hST.sublist (List.Sublist.cons _ (List.Sublist.cons _ (List.Sublist.refl _)))), rfl, hm22⟩
        · replace hm21 := if_f hb26 hm21
          refine LW_no rfl (by decide) rfl rfl (by decide) (congrArg Value.bool hb26) ?_
          refine LW_no rfl (by decide) rfl rfl (by decide) (congrArg Value.bool hb26) ?_
          refine LW_no rfl (by decide) rfl rfl (by decide) (congrArg Value.bool hb26) ?_
          refine LW_no rfl (by decide) rfl rfl (by decide) (congrArg Value.bool hb26) ?_
          refine LW_v (.inl rfl) rfl (by decide) (R_pickF (v := (.bool false)) (congrArg Value.bool hb26) rfl) ?_
          refine LW_v (.inl rfl) rfl (by decide) (R_move (v := (.bool false)) rfl) ?_
          refine LW_no rfl (by decide) rfl rfl (by decide) rfl ?_
          refine LW_no rfl (by decide) rfl rfl (by decide) rfl ?_
          refine LW_no rfl (by decide) rfl rfl (by decide) rfl ?_
          refine LW_no rfl (by decide) rfl rfl (by decide) rfl ?_
          refine LW_v (.inl rfl) rfl (by decide) (R_pickF (v := (.bool false)) rfl rfl) ?_
          refine LW_v (.inl rfl) rfl (by decide) (R_move (v := (.bool false)) rfl) ?_
          refine LW_no rfl (by decide) rfl rfl (by decide) rfl ?_
          refine LW_no rfl (by decide) rfl rfl (by decide) rfl ?_
          refine LW_no rfl (by decide) rfl rfl (by decide) rfl ?_
          refine LW_v (.inl rfl) rfl (by decide) (R_pickF (v := (.bool false)) rfl rfl) ?_
          refine LW_v (.inl rfl) rfl (by decide) (R_assign (v := (.bool false)) rfl) ?_
          refine LW_nil ?_
          refine sq_n ?_
          replace hm21 := Option.some.inj hm21; subst hm21
          exact ⟨false, _, (hST.sublist (List.Sublist.cons _ (List.Sublist.cons _ (List.Sublist.refl _)))), rfl, hm22⟩
      · rintro E W ⟨x16, L17, hST, e19, hm18⟩
        refine CW_ret ?_
        refine sq_r ?_
        replace hm18 := Option.some.inj hm18; subst hm18
        refine retQ_1 (v := (.bool x16)) rfl e19 ?_
        exact ⟨rfl, hST.ex⟩
    · replace hm := if_f hb9 hm
      refine CW_skip ?_
      refine sq_n ?_
      refine CW_seq ?_
      refine CW_seq ?_
      obtain ⟨s111, hm112, hm113⟩ := bind_some hm
      refine CW_cut (fun E W => ∃ (x51 : Bool) (L52 : List (Nat × Obj)), ST NoF w W (hp w) ((b3, Obj.cells ((encRole ((⟨zS, zS⟩ : Role))).toArray : Array Value) 47 (0, 0)) :: ((b1, Obj.cells ((encCred a0).toArray : Array Value) 83 (0, 0)) :: L52)) ∧ E 1 = (.pointer (some ⟨b1, 0, none⟩)) ∧ E 3 = (.pointer (some ⟨b3, 0, none⟩)) ∧ E 39 = (.bool x51) ∧ (if x51 then some false else (if (a0.Kind == 2) then (((if (beqRole a0.C ((⟨zS, zS⟩ : Role))) then some ((beqS a0.Word2 zS)) else some false) : Option Bool).bind fun x60 => some x60) else (if (a0.Kind == 3) then (((if (beqRole a0.C ((⟨zS, zS⟩ : Role))) then (if (beqS a0.B.Owner a0.Head.Owner) then (((m_ref03_Right a0.Word2)).bind fun r83 => some r83) else some false) else some false) : Option Bool).bind fun x74 => some x74) else (((if (a0.Kind == 4) then (if (beqS a0.Word2 zS) then (((m_ref04_Right a0.C)).bind fun r104 => (if r104 then (((m_ref04_Less a0.B a0.C)).bind fun r108 => some r108) else some false)) else some false) else some false) : Option Bool).bind fun x95 => some x95)))) = some r) ?_ ?_
      · refine CW_region ?_
        refine LW_v (.inl rfl) rfl (by decide) (R_field fa83_2 rfl) ?_
        refine LW_v (.inl rfl) rfl (by decide) (R_load (v := (.string a0.Who)) rfl (load_box1 hST.has (.tail _ (.head _)) rfl Tryz.isAgg9)) ?_
        refine LW_v (.inl rfl) rfl (by decide) (R_str (a := a0.Who) (b := zS) (v := (.bool ((!(beqS a0.Who zS))))) rfl rfl rfl) ?_
        refine LW_v (.inl rfl) rfl (by decide) (R_move (v := (.bool ((!(beqS a0.Who zS))))) rfl) ?_
        rcases bool_cases ((!(beqS a0.Who zS))) with hb114 | hb114
        · replace hm112 := if_t hb114 hm112
          refine LW_no rfl (by decide) rfl rfl (by decide) (congrArg Value.bool hb114) ?_
          refine LW_no rfl (by decide) rfl rfl (by decide) (congrArg Value.bool hb114) ?_
          refine LW_no rfl (by decide) rfl rfl (by decide) (congrArg Value.bool hb114) ?_
          refine LW_no rfl (by decide) rfl rfl (by decide) (congrArg Value.bool hb114) ?_
          refine LW_v (.inl rfl) rfl (by decide) (R_pickT (v := (.bool true)) (congrArg Value.bool hb114) rfl) ?_
          refine LW_nil ?_
          refine sq_n ?_
          replace hm112 := Option.some.inj hm112; subst hm112
          exact ⟨true, _, (hST.sublist (List.Sublist.refl _)), rfl, rfl, rfl, hm113⟩
        · replace hm112 := if_f hb114 hm112
          refine LW_v (.inr ⟨3, false, 34, rfl, rfl, by decide, (congrArg Value.bool hb114)⟩) rfl (by decide) (R_field fa83_3 rfl) ?_
          refine LW_v (.inr ⟨3, false, 34, rfl, rfl, by decide, (congrArg Value.bool hb114)⟩) rfl (by decide) (R_load (v := (.agg (encRole a0.B).toArray)) rfl (load_boxA hST.has (.tail _ (.head _)) (encRole a0.B) rfl Tryz.isAgg47 Tryz.sizeOf47)) ?_
          obtain ⟨r115, hr116, hm112⟩ := bind_some hm112
          replace hST : ST NoF w _ _ ((b3, Obj.cells ((encRole ((⟨zS, zS⟩ : Role))).toArray : Array Value) 47 (0, 0)) :: ((b1, Obj.cells ((encCred a0).toArray : Array Value) 83 (0, 0)) :: [])) := hST
          have hsz := hST.size
          refine LW_e (.inr ⟨3, false, 34, rfl, rfl, by decide, (congrArg Value.bool hb114)⟩) rfl (by decide) (E_gives (args := [(.agg (encRole a0.B).toArray)]) hST rfl Tryz.call51 (by exact args1 rfl) (w_ref04_Right a0.B _ _  hr116) (fun W117 hST => ?_))
          refine LW_v (.inr ⟨3, false, 34, rfl, rfl, by decide, (congrArg Value.bool hb114)⟩) rfl (by decide) (R_not (b := r115) rfl) ?_
          refine LW_v (.inl rfl) rfl (by decide) (R_pickF (v := (.bool ((!r115)))) (congrArg Value.bool hb114) rfl) ?_
          refine LW_nil ?_
          refine sq_n ?_
          replace hm112 := Option.some.inj hm112; subst hm112
          exact ⟨((!r115)), _, (hST.sublist (List.Sublist.refl _)), rfl, rfl, rfl, hm113⟩
      · rintro E W ⟨x51, L52, hST, e54, e55, e56, hm53⟩
        refine CW_if (b := x51) e56 (fun hb57 => ?_) (fun hb57 => ?_)
        · replace hm53 := if_t hb57 hm53
          refine CW_seq ?_
          refine CW_region ?_
          refine LW_v (.inl rfl) rfl (by decide) (R_assign (v := (.bool false)) rfl) ?_
          refine LW_nil ?_
          refine sq_n ?_
          replace hST : ST NoF w _ _ L52 := hST.sublist (List.Sublist.cons _ (List.Sublist.cons _ (List.Sublist.refl _)))
          refine CW_ret ?_
          refine sq_r ?_
          replace hm53 := Option.some.inj hm53; subst hm53
          refine retQ_1 (v := (.bool false)) rfl rfl ?_
          exact ⟨rfl, hST.ex⟩
        · replace hm53 := if_f hb57 hm53
          refine CW_skip ?_
          refine sq_n ?_
          refine CW_seq ?_
          refine CW_seq ?_
          refine CW_region ?_
          refine LW_v (.inl rfl) rfl (by decide) (R_field fa83_0 e54) ?_
          refine LW_v (.inl rfl) rfl (by decide) (R_load (v := (.int .i64 a0.Kind)) rfl (load_box1 hST.has (.tail _ (.head _)) rfl Tryz.isAgg3)) ?_
          refine LW_v (.inl rfl) rfl (by decide) (R_int (k := .i64) (a := a0.Kind) (b := 2) (v := (.bool ((a0.Kind == 2)))) rfl rfl rfl) ?_
          refine LW_nil ?_
          refine sq_n ?_
          refine CW_if (b := (a0.Kind == 2)) rfl (fun hb58 => ?_) (fun hb58 => ?_)
          · replace hm53 := if_t hb58 hm53
            refine CW_seq ?_
            obtain ⟨s64, hm65, hm66⟩ := bind_some hm53
            refine CW_cut (fun E W => ∃ (x60 : Bool) (L61 : List (Nat × Obj)), ST NoF w W (hp w) L61 ∧ E 2 = (.bool x60) ∧ some x60 = some r) ?_ ?_
            · refine CW_region ?_
              refine LW_v (.inl rfl) rfl (by decide) (R_field fa83_4 e54) ?_
              refine LW_v (.inl rfl) rfl (by decide) (R_load (v := (.agg (encRole a0.C).toArray)) rfl (load_boxA hST.has (.tail _ (.head _)) (encRole a0.C) rfl Tryz.isAgg47 Tryz.sizeOf47)) ?_
              refine LW_v (.inl rfl) rfl (by decide) (R_load (v := (.agg (encRole ((⟨zS, zS⟩ : Role))).toArray)) e55 (load_boxA hST.has (.head _) (encRole ((⟨zS, zS⟩ : Role))) rfl Tryz.isAgg47 Tryz.sizeOf47)) ?_
              refine LW_v (.inl rfl) rfl (by decide) (R_eql (a := (encRole a0.C).toArray) (b := (encRole ((⟨zS, zS⟩ : Role))).toArray) rfl rfl (guard_agg Tryz.eqGuardType47) (bin_eql (eqInRole _ a0.C ((⟨zS, zS⟩ : Role))))) ?_
              refine LW_v (.inl rfl) rfl (by decide) (R_move (v := (.bool ((beqRole a0.C ((⟨zS, zS⟩ : Role)))))) rfl) ?_
              rcases bool_cases ((beqRole a0.C ((⟨zS, zS⟩ : Role)))) with hb67 | hb67
              · replace hm65 := if_t hb67 hm65
                refine LW_v (.inr ⟨4, true, 47, rfl, rfl, by decide, (congrArg Value.bool hb67)⟩) rfl (by decide) (R_field fa83_5 e54) ?_
                refine LW_v (.inr ⟨4, true, 47, rfl, rfl, by decide, (congrArg Value.bool hb67)⟩) rfl (by decide) (R_load (v := (.string a0.Word2)) rfl (load_box1 hST.has (.tail _ (.head _)) rfl Tryz.isAgg9)) ?_
                refine LW_v (.inr ⟨4, true, 47, rfl, rfl, by decide, (congrArg Value.bool hb67)⟩) rfl (by decide) (R_str (a := a0.Word2) (b := zS) (v := (.bool ((beqS a0.Word2 zS)))) rfl rfl rfl) ?_
                refine LW_v (.inl rfl) rfl (by decide) (R_pickT (v := (.bool ((beqS a0.Word2 zS)))) (congrArg Value.bool hb67) rfl) ?_
                refine LW_v (.inl rfl) rfl (by decide) (R_assign (v := (.bool ((beqS a0.Word2 zS)))) rfl) ?_
                refine LW_nil ?_
                refine sq_n ?_
                replace hm65 := Option.some.inj hm65; subst hm65
                exact ⟨((beqS a0.Word2 zS)), _, (hST.sublist (List.Sublist.cons _ (List.Sublist.cons _ (List.Sublist.refl _)))), rfl, hm66⟩
              · replace hm65 := if_f hb67 hm65
                refine LW_no rfl (by decide) rfl rfl (by decide) (congrArg Value.bool hb67) ?_
                refine LW_no rfl (by decide) rfl rfl (by decide) (congrArg Value.bool hb67) ?_
                refine LW_no rfl (by decide) rfl rfl (by decide) (congrArg Value.bool hb67) ?_
                refine LW_v (.inl rfl) rfl (by decide) (R_pickF (v := (.bool false)) (congrArg Value.bool hb67) rfl) ?_
                refine LW_v (.inl rfl) rfl (by decide) (R_assign (v := (.bool false)) rfl) ?_
                refine LW_nil ?_
                refine sq_n ?_
                replace hm65 := Option.some.inj hm65; subst hm65
                exact ⟨false, _, (hST.sublist (List.Sublist.cons _ (List.Sublist.cons _ (List.Sublist.refl _)))), rfl, hm66⟩
            · rintro E W ⟨x60, L61, hST, e63, hm62⟩
              refine CW_ret ?_
              refine sq_r ?_
              replace hm62 := Option.some.inj hm62; subst hm62
              refine retQ_1 (v := (.bool x60)) rfl e63 ?_
              exact ⟨rfl, hST.ex⟩
          · replace hm53 := if_f hb58 hm53
            refine CW_skip ?_
            refine sq_n ?_
            refine CW_seq ?_
            refine CW_seq ?_
            refine CW_region ?_
            refine LW_v (.inl rfl) rfl (by decide) (R_field fa83_0 e54) ?_
            refine LW_v (.inl rfl) rfl (by decide) (R_load (v := (.int .i64 a0.Kind)) rfl (load_box1 hST.has (.tail _ (.head _)) rfl Tryz.isAgg3)) ?_
            refine LW_v (.inl rfl) rfl (by decide) (R_int (k := .i64) (a := a0.Kind) (b := 3) (v := (.bool ((a0.Kind == 3)))) rfl rfl rfl) ?_
            refine LW_nil ?_
            refine sq_n ?_
            refine CW_if (b := (a0.Kind == 3)) rfl (fun hb68 => ?_) (fun hb68 => ?_)
            · replace hm53 := if_t hb68 hm53
              refine CW_seq ?_
              obtain ⟨s78, hm79, hm80⟩ := bind_some hm53
              refine CW_cut (fun E W => ∃ (x74 : Bool) (L75 : List (Nat × Obj)), ST NoF w W (hp w) L75 ∧ E 2 = (.bool x74) ∧ some x74 = some r) ?_ ?_
              · refine CW_region ?_
                refine LW_v (.inl rfl) rfl (by decide) (R_field fa83_4 e54) ?_
                refine LW_v (.inl rfl) rfl (by decide) (R_load (v := (.agg (encRole a0.C).toArray)) rfl (load_boxA hST.has (.tail _ (.head _)) (encRole a0.C) rfl Tryz.isAgg47 Tryz.sizeOf47)) ?_
                refine LW_v (.inl rfl) rfl (by decide) (R_load (v := (.agg (encRole ((⟨zS, zS⟩ : Role))).toArray)) e55 (load_boxA hST.has (.head _) (encRole ((⟨zS, zS⟩ : Role))) rfl Tryz.isAgg47 Tryz.sizeOf47)) ?_
                refine LW_v (.inl rfl) rfl (by decide) (R_eql (a := (encRole a0.C).toArray) (b := (encRole ((⟨zS, zS⟩ : Role))).toArray) rfl rfl (guard_agg Tryz.eqGuardType47) (bin_eql (eqInRole _ a0.C ((⟨zS, zS⟩ : Role))))) ?_
                refine LW_v (.inl rfl) rfl (by decide) (R_move (v := (.bool ((beqRole a0.C ((⟨zS, zS⟩ : Role)))))) rfl) ?_
                rcases bool_cases ((beqRole a0.C ((⟨zS, zS⟩ : Role)))) with hb81 | hb81
                · replace hm79 := if_t hb81 hm79
                  refine LW_v (.inr ⟨4, true, 59, rfl, rfl, by decide, (congrArg Value.bool hb81)⟩) rfl (by decide) (R_field fa83_3 e54) ?_
                  refine LW_v (.inr ⟨4, true, 59, rfl, rfl, by decide, (congrArg Value.bool hb81)⟩) rfl (by decide) (R_field fa47_0 rfl) ?_
                  refine LW_v (.inr ⟨4, true, 59, rfl, rfl, by decide, (congrArg Value.bool hb81)⟩) rfl (by decide) (R_load (v := (.string a0.B.Owner)) rfl (load_box1 hST.has (.tail _ (.head _)) rfl Tryz.isAgg9)) ?_
                  refine LW_v (.inr ⟨4, true, 59, rfl, rfl, by decide, (congrArg Value.bool hb81)⟩) rfl (by decide) (R_field fa83_1 e54) ?_
                  refine LW_v (.inr ⟨4, true, 59, rfl, rfl, by decide, (congrArg Value.bool hb81)⟩) rfl (by decide) (R_field fa47_0 rfl) ?_
                  refine LW_v (.inr ⟨4, true, 59, rfl, rfl, by decide, (congrArg Value.bool hb81)⟩) rfl (by decide) (R_load (v := (.string a0.Head.Owner)) rfl (load_box1 hST.has (.tail _ (.head _)) rfl Tryz.isAgg9)) ?_
                  refine LW_v (.inr ⟨4, true, 59, rfl, rfl, by decide, (congrArg Value.bool hb81)⟩) rfl (by decide) (R_str (a := a0.B.Owner) (b := a0.Head.Owner) (v := (.bool ((beqS a0.B.Owner a0.Head.Owner)))) rfl rfl rfl) ?_
                  refine LW_v (.inl rfl) rfl (by decide) (R_pickT (v := (.bool ((beqS a0.B.Owner a0.Head.Owner)))) (congrArg Value.bool hb81) rfl) ?_
                  refine LW_v (.inl rfl) rfl (by decide) (R_move (v := (.bool ((beqS a0.B.Owner a0.Head.Owner)))) rfl) ?_
                  rcases bool_cases ((beqS a0.B.Owner a0.Head.Owner)) with hb82 | hb82
                  · replace hm79 := if_t hb82 hm79
                    refine LW_v (.inr ⟨13, true, 68, rfl, rfl, by decide, (congrArg Value.bool hb82)⟩) rfl (by decide) (R_field fa83_5 e54) ?_
                    refine LW_v (.inr ⟨13, true, 68, rfl, rfl, by decide, (congrArg Value.bool hb82)⟩) rfl (by decide) (R_load (v := (.string a0.Word2)) rfl (load_box1 hST.has (.tail _ (.head _)) rfl Tryz.isAgg9)) ?_
                    obtain ⟨r83, hr84, hm79⟩ := bind_some hm79
                    replace hST : ST NoF w _ _ ((b3, Obj.cells ((encRole ((⟨zS, zS⟩ : Role))).toArray : Array Value) 47 (0, 0)) :: ((b1, Obj.cells ((encCred a0).toArray : Array Value) 83 (0, 0)) :: L52)) := hST
                    have hsz := hST.size
                    refine LW_e (.inr ⟨13, true, 68, rfl, rfl, by decide, (congrArg Value.bool hb82)⟩) rfl (by decide) (E_gives (args := [(.string a0.Word2)]) hST rfl Tryz.call108 (by exact args1 rfl) (w_ref03_Right a0.Word2 _ _  hr84) (fun W85 hST => ?_))
                    refine LW_v (.inl rfl) rfl (by decide) (R_pickT (v := (.bool r83)) (congrArg Value.bool hb82) rfl) ?_
                    refine LW_v (.inl rfl) rfl (by decide) (R_assign (v := (.bool r83)) rfl) ?_
                    refine LW_nil ?_
                    refine sq_n ?_
                    replace hm79 := Option.some.inj hm79; subst hm79
                    exact ⟨r83, _, (hST.sublist (List.Sublist.cons _ (List.Sublist.cons _ (List.Sublist.refl _)))), rfl, hm80⟩
                  · replace hm79 := if_f hb82 hm79
                    refine LW_no rfl (by decide) rfl rfl (by decide) (congrArg Value.bool hb82) ?_
                    refine LW_no rfl (by decide) rfl rfl (by decide) (congrArg Value.bool hb82) ?_
                    refine LW_no rfl (by decide) rfl rfl (by decide) (congrArg Value.bool hb82) ?_
                    refine LW_v (.inl rfl) rfl (by decide) (R_pickF (v := (.bool false)) (congrArg Value.bool hb82) rfl) ?_
                    refine LW_v (.inl rfl) rfl (by decide) (R_assign (v := (.bool false)) rfl) ?_
                    refine LW_nil ?_
                    refine sq_n ?_
                    replace hm79 := Option.some.inj hm79; subst hm79
                    exact ⟨false, _, (hST.sublist (List.Sublist.cons _ (List.Sublist.cons _ (List.Sublist.refl _)))), rfl, hm80⟩
                · replace hm79 := if_f hb81 hm79
                  refine LW_no rfl (by decide) rfl rfl (by decide) (congrArg Value.bool hb81) ?_
                  refine LW_no rfl (by decide) rfl rfl (by decide) (congrArg Value.bool hb81) ?_
                  refine LW_no rfl (by decide) rfl rfl (by decide) (congrArg Value.bool hb81) ?_
                  refine LW_no rfl (by decide) rfl rfl (by decide) (congrArg Value.bool hb81) ?_
                  refine LW_no rfl (by decide) rfl rfl (by decide) (congrArg Value.bool hb81) ?_
                  refine LW_no rfl (by decide) rfl rfl (by decide) (congrArg Value.bool hb81) ?_
                  refine LW_no rfl (by decide) rfl rfl (by decide) (congrArg Value.bool hb81) ?_
                  refine LW_v (.inl rfl) rfl (by decide) (R_pickF (v := (.bool false)) (congrArg Value.bool hb81) rfl) ?_
                  refine LW_v (.inl rfl) rfl (by decide) (R_move (v := (.bool false)) rfl) ?_
                  refine LW_no rfl (by decide) rfl rfl (by decide) rfl ?_
                  refine LW_no rfl (by decide) rfl rfl (by decide) rfl ?_
                  refine LW_no rfl (by decide) rfl rfl (by decide) rfl ?_
                  refine LW_v (.inl rfl) rfl (by decide) (R_pickF (v := (.bool false)) rfl rfl) ?_
                  refine LW_v (.inl rfl) rfl (by decide) (R_assign (v := (.bool false)) rfl) ?_
                  refine LW_nil ?_
                  refine sq_n ?_
                  replace hm79 := Option.some.inj hm79; subst hm79
                  exact ⟨false, _, (hST.sublist (List.Sublist.cons _ (List.Sublist.cons _ (List.Sublist.refl _)))), rfl, hm80⟩
              · rintro E W ⟨x74, L75, hST, e77, hm76⟩
                refine CW_ret ?_
                refine sq_r ?_
                replace hm76 := Option.some.inj hm76; subst hm76
                refine retQ_1 (v := (.bool x74)) rfl e77 ?_
                exact ⟨rfl, hST.ex⟩
            · replace hm53 := if_f hb68 hm53
              refine CW_skip ?_
              refine sq_n ?_
              replace hST : ST NoF w _ _ ((b1, Obj.cells ((encCred a0).toArray : Array Value) 83 (0, 0)) :: L52) := hST.sublist (List.Sublist.cons _ (List.Sublist.refl _))
              refine CW_seq ?_
              obtain ⟨s99, hm100, hm101⟩ := bind_some hm53
              refine CW_cut (fun E W => ∃ (x95 : Bool) (L96 : List (Nat × Obj)), ST NoF w W (hp w) L96 ∧ E 2 = (.bool x95) ∧ some x95 = some r) ?_ ?_
              · refine CW_region ?_
                refine LW_v (.inl rfl) rfl (by decide) (R_field fa83_0 e54) ?_
                refine LW_v (.inl rfl) rfl (by decide) (R_load (v := (.int .i64 a0.Kind)) rfl (load_box1 hST.has (.head _) rfl Tryz.isAgg3)) ?_
                refine LW_v (.inl rfl) rfl (by decide) (R_int (k := .i64) (a := a0.Kind) (b := 4) (v := (.bool ((a0.Kind == 4)))) rfl rfl rfl) ?_
                refine LW_v (.inl rfl) rfl (by decide) (R_move (v := (.bool ((a0.Kind == 4)))) rfl) ?_
                rcases bool_cases ((a0.Kind == 4)) with hb102 | hb102
                · replace hm100 := if_t hb102 hm100
                  refine LW_v (.inr ⟨3, true, 76, rfl, rfl, by decide, (congrArg Value.bool hb102)⟩) rfl (by decide) (R_field fa83_5 e54) ?_
                  refine LW_v (.inr ⟨3, true, 76, rfl, rfl, by decide, (congrArg Value.bool hb102)⟩) rfl (by decide) (R_load (v := (.string a0.Word2)) rfl (load_box1 hST.has (.head _) rfl Tryz.isAgg9)) ?_
                  refine LW_v (.inr ⟨3, true, 76, rfl, rfl, by decide, (congrArg Value.bool hb102)⟩) rfl (by decide) (R_str (a := a0.Word2) (b := zS) (v := (.bool ((beqS a0.Word2 zS)))) rfl rfl rfl) ?_
                  refine LW_v (.inl rfl) rfl (by decide) (R_pickT (v := (.bool ((beqS a0.Word2 zS)))) (congrArg Value.bool hb102) rfl) ?_
                  refine LW_v (.inl rfl) rfl (by decide) (R_move (v := (.bool ((beqS a0.Word2 zS)))) rfl) ?_
                  rcases bool_cases ((beqS a0.Word2 zS)) with hb103 | hb103
                  · replace hm100 := if_t hb103 hm100
                    refine LW_v (.inr ⟨8, true, 81, rfl, rfl, by decide, (congrArg Value.bool hb103)⟩) rfl (by decide) (R_field fa83_4 e54) ?_
                    refine LW_v (.inr ⟨8, true, 81, rfl, rfl, by decide, (congrArg Value.bool hb103)⟩) rfl (by decide) (R_load (v := (.agg (encRole a0.C).toArray)) rfl (load_boxA hST.has (.head _) (encRole a0.C) rfl Tryz.isAgg47 Tryz.sizeOf47)) ?_
                    obtain ⟨r104, hr105, hm100⟩ := bind_some hm100
                    replace hST : ST NoF w _ _ ((b1, Obj.cells ((encCred a0).toArray : Array Value) 83 (0, 0)) :: L52) := hST
                    have hsz := hST.size
                    refine LW_e (.inr ⟨8, true, 81, rfl, rfl, by decide, (congrArg Value.bool hb103)⟩) rfl (by decide) (E_gives (args := [(.agg (encRole a0.C).toArray)]) hST rfl Tryz.call51 (by exact args1 rfl) (w_ref04_Right a0.C _ _  hr105) (fun W106 hST => ?_))
                    refine LW_v (.inl rfl) rfl (by decide) (R_pickT (v := (.bool r104)) (congrArg Value.bool hb103) rfl) ?_
                    refine LW_v (.inl rfl) rfl (by decide) (R_move (v := (.bool r104)) rfl) ?_
                    rcases bool_cases r104 with hb107 | hb107
                    · replace hm100 := if_t hb107 hm100
                      refine LW_v (.inr ⟨13, true, 86, rfl, rfl, by decide, (congrArg Value.bool hb107)⟩) rfl (by decide) (R_field fa83_3 e54) ?_
                      refine LW_v (.inr ⟨13, true, 86, rfl, rfl, by decide, (congrArg Value.bool hb107)⟩) rfl (by decide) (R_load (v := (.agg (encRole a0.B).toArray)) rfl (load_boxA hST.has (.head _) (encRole a0.B) rfl Tryz.isAgg47 Tryz.sizeOf47)) ?_
                      refine LW_v (.inr ⟨13, true, 86, rfl, rfl, by decide, (congrArg Value.bool hb107)⟩) rfl (by decide) (R_field fa83_4 e54) ?_
                      refine LW_v (.inr ⟨13, true, 86, rfl, rfl, by decide, (congrArg Value.bool hb107)⟩) rfl (by decide) (R_load (v := (.agg (encRole a0.C).toArray)) rfl (load_boxA hST.has (.head _) (encRole a0.C) rfl Tryz.isAgg47 Tryz.sizeOf47)) ?_
                      obtain ⟨r108, hr109, hm100⟩ := bind_some hm100
                      replace hST : ST NoF w _ _ ((b1, Obj.cells ((encCred a0).toArray : Array Value) 83 (0, 0)) :: L52) := hST
                      have hsz := hST.size
                      refine LW_e (.inr ⟨13, true, 86, rfl, rfl, by decide, (congrArg Value.bool hb107)⟩) rfl (by decide) (E_gives (args := [(.agg (encRole a0.B).toArray), (.agg (encRole a0.C).toArray)]) hST rfl Tryz.call123 (by exact args2 rfl rfl) (w_ref04_Less a0.B a0.C _ _  hr109) (fun W110 hST => ?_))
                      refine LW_v (.inl rfl) rfl (by decide) (R_pickT (v := (.bool r108)) (congrArg Value.bool hb107) rfl) ?_
                      refine LW_v (.inl rfl) rfl (by decide) (R_assign (v := (.bool r108)) rfl) ?_
                      refine LW_nil ?_
                      refine sq_n ?_
                      replace hm100 := Option.some.inj hm100; subst hm100
                      exact ⟨r108, _, (hST.sublist (List.Sublist.cons _ (List.Sublist.refl _))), rfl, hm101⟩
                    · replace hm100 := if_f hb107 hm100
                      refine LW_no rfl (by decide) rfl rfl (by decide) (congrArg Value.bool hb107) ?_
                      refine LW_no rfl (by decide) rfl rfl (by decide) (congrArg Value.bool hb107) ?_
                      refine LW_no rfl (by decide) rfl rfl (by decide) (congrArg Value.bool hb107) ?_
                      refine LW_no rfl (by decide) rfl rfl (by decide) (congrArg Value.bool hb107) ?_
                      refine LW_no rfl (by decide) rfl rfl (by decide) (congrArg Value.bool hb107) ?_
                      refine LW_v (.inl rfl) rfl (by decide) (R_pickF (v := (.bool false)) (congrArg Value.bool hb107) rfl) ?_
                      refine LW_v (.inl rfl) rfl (by decide) (R_assign (v := (.bool false)) rfl) ?_
                      refine LW_nil ?_
                      refine sq_n ?_
                      replace hm100 := Option.some.inj hm100; subst hm100
                      exact ⟨false, _, (hST.sublist (List.Sublist.cons _ (List.Sublist.refl _))), rfl, hm101⟩
                  · replace hm100 := if_f hb103 hm100
                    refine LW_no rfl (by decide) rfl rfl (by decide) (congrArg Value.bool hb103) ?_
                    refine LW_no rfl (by decide) rfl rfl (by decide) (congrArg Value.bool hb103) ?_
                    refine LW_no rfl (by decide) rfl rfl (by decide) (congrArg Value.bool hb103) ?_
                    refine LW_v (.inl rfl) rfl (by decide) (R_pickF (v := (.bool false)) (congrArg Value.bool hb103) rfl) ?_
                    refine LW_v (.inl rfl) rfl (by decide) (R_move (v := (.bool false)) rfl) ?_
                    refine LW_no rfl (by decide) rfl rfl (by decide) rfl ?_
                    refine LW_no rfl (by decide) rfl rfl (by decide) rfl ?_
                    refine LW_no rfl (by decide) rfl rfl (by decide) rfl ?_
                    refine LW_no rfl (by decide) rfl rfl (by decide) rfl ?_
                    refine LW_no rfl (by decide) rfl rfl (by decide) rfl ?_
                    refine LW_v (.inl rfl) rfl (by decide) (R_pickF (v := (.bool false)) rfl rfl) ?_
                    refine LW_v (.inl rfl) rfl (by decide) (R_assign (v := (.bool false)) rfl) ?_
                    refine LW_nil ?_
                    refine sq_n ?_
                    replace hm100 := Option.some.inj hm100; subst hm100
                    exact ⟨false, _, (hST.sublist (List.Sublist.cons _ (List.Sublist.refl _))), rfl, hm101⟩
                · replace hm100 := if_f hb102 hm100
                  refine LW_no rfl (by decide) rfl rfl (by decide) (congrArg Value.bool hb102) ?_
                  refine LW_no rfl (by decide) rfl rfl (by decide) (congrArg Value.bool hb102) ?_
                  refine LW_no rfl (by decide) rfl rfl (by decide) (congrArg Value.bool hb102) ?_
                  refine LW_v (.inl rfl) rfl (by decide) (R_pickF (v := (.bool false)) (congrArg Value.bool hb102) rfl) ?_
                  refine LW_v (.inl rfl) rfl (by decide) (R_move (v := (.bool false)) rfl) ?_
                  refine LW_no rfl (by decide) rfl rfl (by decide) rfl ?_
                  refine LW_no rfl (by decide) rfl rfl (by decide) rfl ?_
                  refine LW_no rfl (by decide) rfl rfl (by decide) rfl ?_
                  refine LW_v (.inl rfl) rfl (by decide) (R_pickF (v := (.bool false)) rfl rfl) ?_
                  refine LW_v (.inl rfl) rfl (by decide) (R_move (v := (.bool false)) rfl) ?_
                  refine LW_no rfl (by decide) rfl rfl (by decide) rfl ?_
                  refine LW_no rfl (by decide) rfl rfl (by decide) rfl ?_
                  refine LW_no rfl (by decide) rfl rfl (by decide) rfl ?_
                  refine LW_no rfl (by decide) rfl rfl (by decide) rfl ?_
                  refine LW_no rfl (by decide) rfl rfl (by decide) rfl ?_
                  refine LW_v (.inl rfl) rfl (by decide) (R_pickF (v := (.bool false)) rfl rfl) ?_
                  refine LW_v (.inl rfl) rfl (by decide) (R_assign (v := (.bool false)) rfl) ?_
                  refine LW_nil ?_
                  refine sq_n ?_
                  replace hm100 := Option.some.inj hm100; subst hm100
                  exact ⟨false, _, (hST.sublist (List.Sublist.cons _ (List.Sublist.refl _))), rfl, hm101⟩
              · rintro E W ⟨x95, L96, hST, e98, hm97⟩
                refine CW_ret ?_
                replace hm97 := Option.some.inj hm97; subst hm97
                refine retQ_1 (v := (.bool x95)) rfl e98 ?_
                exact ⟨rfl, hST.ex⟩

theorem w_ref01_Number (a0 : Int) (r : ByteArray) (w : World)  (hm : m_ref01_Number a0 = some r) :
    Gives Tryz.prog 231 [(.int .i64 a0)] w (.string r) := by
  have hST := ST.start w
  unfold m_ref01_Number at hm
  refine calls_of_CW (n := 22) Tryz.func231 rfl rfl (Nat.le_of_ble_eq_true rfl) ?_
  refine CW_seq ?_
  refine CW_region ?_
  refine LW_v (.inl rfl) rfl (by decide) (R_assign (v := (.string zS)) rfl) ?_
  refine LW_nil ?_
  refine sq_n ?_
  refine CW_seq ?_
  refine CW_region ?_
  refine LW_v (.inl rfl) rfl (by decide) (R_assign (v := (.string zS)) rfl) ?_
  refine LW_nil ?_
  refine sq_n ?_
  refine CW_seq ?_
  refine CW_block (CW_loop (fun m E W => ∃ (x32 : Int) (x33 : ByteArray) (L43 : List (Nat × Obj)), ST NoF w W (hp w) L43 ∧ E 0 = (.int .i64 x32) ∧ E 3 = (.string x33) ∧ m_ref01_Number_L1 m x32 x33 = some r) FUEL ⟨a0, zS, _, (hST.sublist (List.Sublist.refl _)), rfl, rfl, hm⟩ ?_)
  rintro m E W ⟨x32, x33, L43, hST, e46, e47, hm44⟩
  cases m with
  | zero => rw [m_ref01_Number_L1] at hm44; cases hm44
  | succ n45 =>
    rw [m_ref01_Number_L1] at hm44
    refine CW_seq ?_
    refine CW_seq ?_
    refine CW_region ?_
    refine LW_v (.inl rfl) rfl (by decide) (R_move (v := (.int .i64 x32)) e46) ?_
    refine LW_v (.inl rfl) rfl (by decide) (R_int (k := .i64) (a := x32) (b := 128) (v := (.bool ((decide (x32 ≥ 128))))) rfl rfl rfl) ?_
    refine LW_nil ?_
    refine sq_n ?_
    refine CW_if (b := (decide (x32 ≥ 128))) rfl (fun hb48 => ?_) (fun hb48 => ?_)
    · replace hm44 := if_t hb48 hm44
      refine CW_skip ?_
      refine sq_n ?_
      refine CW_block ?_
      refine CW_seq ?_
      refine CW_region ?_
      refine LW_v (.inl rfl) rfl (by decide) (R_move (v := (.string x33)) e47) ?_
      refine LW_v (.inl rfl) rfl (by decide) (R_move (v := (.int .i64 x32)) e46) ?_
      refine LW_v (.inl rfl) rfl (by decide) (R_div (k := .i64) (a := x32) (b := 128) (v := (.int .i64 ((Int.tmod x32 128)))) rfl rfl (by decide) rfl) ?_
      refine LW_v (.inl rfl) rfl (by decide) (R_int (k := .i64) (a := 128) (b := ((Int.tmod x32 128))) (v := (.int .i64 ((IntKind.i64.wrap (128 + ((Int.tmod x32 128))))))) rfl rfl rfl) ?_
      refine LW_v (.inl rfl) rfl (by decide) (R_convInt (k' := .i64) (a := (IntKind.i64.wrap (128 + ((Int.tmod x32 128))))) Tryz.underlying3 Tryz.underlying5 rfl) ?_
      refine LW_e (.inl rfl) rfl (by decide) (E_buildSlice (qs := #[(0, (.int .u8 ((IntKind.u8.wrap ((IntKind.i64.wrap (128 + ((Int.tmod x32 128)))))))))]) (cs := [(.int .u8 ((IntKind.u8.wrap ((IntKind.i64.wrap (128 + ((Int.tmod x32 128))))))))].toArray) hST (parts1 rfl) (run_lit [(.int .u8 ((IntKind.u8.wrap ((IntKind.i64.wrap (128 + ((Int.tmod x32 128))))))))] Tryz.underlying189 Tryz.sizeOf5 Tryz.zeroValue5 (by decide) rfl (by intro v hv; simp only [List.mem_cons, List.not_mem_nil, or_false] at hv; rcases hv with rfl <;> rfl) rfl rfl) (fun W50 b49 hST => ?_))
      refine LW_v (.inl rfl) rfl (by decide) (R_strOf Tryz.underlying189 Tryz.underlying5 Tryz.underlying9 rfl (Sl.lit (enc := (encI .u8)) (l := [(IntKind.u8.wrap ((IntKind.i64.wrap (128 + ((Int.tmod x32 128))))))]) (fun _ => rfl) rfl (Nat.le_of_ble_eq_true rfl) rfl (hST.at_ (.head _)))) ?_
      obtain ⟨s51, hs52, hm44⟩ := bind_some hm44
      refine LW_v (.inl rfl) rfl (by decide) (R_cat rfl rfl hs52) ?_
      refine LW_v (.inl rfl) rfl (by decide) (R_assign (v := (.string s51)) rfl) ?_
      refine LW_nil ?_
      refine sq_n ?_
      replace hST : ST NoF w _ _ L43 := hST.sublist (List.Sublist.cons _ (List.Sublist.refl _))
      refine CW_region ?_
      refine LW_v (.inl rfl) rfl (by decide) (R_move (v := (.int .i64 x32)) e46) ?_
      refine LW_v (.inl rfl) rfl (by decide) (R_div (k := .i64) (a := x32) (b := 128) (v := (.int .i64 ((IntKind.i64.wrap (Int.tdiv x32 128))))) rfl rfl (by decide) rfl) ?_
      refine LW_v (.inl rfl) rfl (by decide) (R_assign (v := (.int .i64 ((IntKind.i64.wrap (Int.tdiv x32 128))))) rfl) ?_
      refine LW_nil ?_
      refine bq_n ?_
      refine sq_n ?_
      exact ⟨n45, Nat.lt_succ_self _, ((IntKind.i64.wrap (Int.tdiv x32 128))), s51, _, (hST.sublist (List.Sublist.refl _)), rfl, rfl, hm44⟩
    · replace hm44 := if_f hb48 hm44
      refine CW_exit ?_
      refine sq_e (sq_e (bq_e ?_))
      refine sq_n ?_
      refine CW_seq ?_
      refine CW_region ?_
      refine LW_v (.inl rfl) rfl (by decide) (R_move (v := (.string x33)) e47) ?_
      refine LW_v (.inl rfl) rfl (by decide) (R_move (v := (.int .i64 x32)) e46) ?_
      refine LW_v (.inl rfl) rfl (by decide) (R_convInt (k' := .i64) (a := x32) Tryz.underlying3 Tryz.underlying5 rfl) ?_
      refine LW_e (.inl rfl) rfl (by decide) (E_buildSlice (qs := #[(0, (.int .u8 ((IntKind.u8.wrap x32))))]) (cs := [(.int .u8 ((IntKind.u8.wrap x32)))].toArray) hST (parts1 rfl) (run_lit [(.int .u8 ((IntKind.u8.wrap x32)))] Tryz.underlying189 Tryz.sizeOf5 Tryz.zeroValue5 (by decide) rfl (by intro v hv; simp only [List.mem_cons, List.not_mem_nil, or_false] at hv; rcases hv with rfl <;> rfl) rfl rfl) (fun W54 b53 hST => ?_))
      refine LW_v (.inl rfl) rfl (by decide) (R_strOf Tryz.underlying189 Tryz.underlying5 Tryz.underlying9 rfl (Sl.lit (enc := (encI .u8)) (l := [(IntKind.u8.wrap x32)]) (fun _ => rfl) rfl (Nat.le_of_ble_eq_true rfl) rfl (hST.at_ (.head _)))) ?_
      obtain ⟨s55, hs56, hm44⟩ := bind_some hm44
      refine LW_v (.inl rfl) rfl (by decide) (R_cat rfl rfl hs56) ?_
      refine LW_v (.inl rfl) rfl (by decide) (R_assign (v := (.string s55)) rfl) ?_
      refine LW_nil ?_
      refine sq_n ?_
      replace hST : ST NoF w _ _ L43 := hST.sublist (List.Sublist.cons _ (List.Sublist.refl _))
      refine CW_ret ?_
      replace hm44 := Option.some.inj hm44; subst hm44
      refine retQ_1 (v := (.string s55)) rfl rfl ?_
      exact ⟨rfl, hST.ex⟩

theorem w_ref01_Text (a0 : ByteArray) (r : ByteArray) (w : World)  (hm : m_ref01_Text a0 = some r) :
    Gives Tryz.prog 233 [(.string a0)] w (.string r) := by
  have hST := ST.start w
  unfold m_ref01_Text at hm
  refine calls_of_CW (n := 8) Tryz.func233 rfl rfl (Nat.le_of_ble_eq_true rfl) ?_
  refine CW_seq ?_
  refine CW_region ?_
  refine LW_v (.inl rfl) rfl (by decide) (R_assign (v := (.string zS)) rfl) ?_
  refine LW_nil ?_
  refine sq_n ?_
  refine CW_seq ?_
  refine CW_region ?_
  refine LW_v (.inl rfl) rfl (by decide) (R_move (v := (.string a0)) rfl) ?_
  refine LW_v (.inl rfl) rfl (by decide) (R_lenStr (s := a0) Tryz.underlying9 rfl) ?_
  obtain ⟨r1, hr2, hm⟩ := bind_some hm
  replace hST : ST NoF w _ _ [] := hST
  have hsz := hST.size
  refine LW_e (.inl rfl) rfl (by decide) (E_gives (args := [(.int .i64 ((a0.size : Int)))]) hST rfl Tryz.call231 (by exact args1 rfl) (w_ref01_Number ((a0.size : Int)) _ _  hr2) (fun W3 hST => ?_))
  refine LW_v (.inl rfl) rfl (by decide) (R_move (v := (.string a0)) rfl) ?_
  obtain ⟨s4, hs5, hm⟩ := bind_some hm
  refine LW_v (.inl rfl) rfl (by decide) (R_cat rfl rfl hs5) ?_
  refine LW_v (.inl rfl) rfl (by decide) (R_assign (v := (.string s4)) rfl) ?_
  refine LW_nil ?_
  refine sq_n ?_
  refine CW_ret ?_
  replace hm := Option.some.inj hm; subst hm
  refine retQ_1 (v := (.string s4)) rfl rfl ?_
  exact ⟨rfl, hST.ex⟩

theorem w_ref04_Bytes (a0 : Role) (r : ByteArray) (w : World)  (hm : m_ref04_Bytes a0 = some r) :
    Gives Tryz.prog 232 [(.agg (encRole a0).toArray)] w (.string r) := by
  have hST := ST.start w
  unfold m_ref04_Bytes at hm
  refine calls_of_CW (n := 10) Tryz.func232 rfl rfl (Nat.le_of_ble_eq_true rfl) ?_
  refine CW_seq ?_
  refine CW_region ?_
  refine LW_e (.inl rfl) rfl (by decide) (E_box (v := (.agg (encRole a0).toArray)) hST rfl (fun W2 b1 hST => ?_))
  refine LW_v (.inl rfl) rfl (by decide) (R_assign (v := (.string zS)) rfl) ?_
  refine LW_nil ?_
  refine sq_n ?_
  refine CW_seq ?_
  refine PW_start (Has (hp w) ((b1, Obj.cells ((encRole a0).toArray : Array Value) 47 (0, 0)) :: [])) Tryz_mixed ?_
  replace hST := hST.drew
  have hSS : (Has (hp w) ((b1, Obj.cells ((encRole a0).toArray : Array Value) 47 (0, 0)) :: []) _) := ((show ST NoF w _ _ ((b1, Obj.cells ((encRole a0).toArray : Array Value) 47 (0, 0)) :: []) from hST).has.sub (Sub.refl _) (fun p hq => ((List.mem_cons.1 hq).elim (fun hq => by rw [hq]; exact (.head _)) (fun hq => (absurd hq List.not_mem_nil)))))
  refine PW_v 0 rfl (by kernel_rfl) (by kernel_rfl) (by kernel_rfl) (.inl rfl) rfl (by decide) hSS (fun W hS => R_field fa47_0 rfl) ?_
  refine PW_v 1 rfl (by kernel_rfl) (by kernel_rfl) (by kernel_rfl) (.inl rfl) rfl (by decide) hSS (fun W hS => R_load (v := (.string a0.Owner)) rfl (load_box1 hS (.head _) rfl Tryz.isAgg9)) ?_
  refine PW_v 3 rfl (by kernel_rfl) (by kernel_rfl) (by kernel_rfl) (.inl rfl) rfl (by decide) hSS (fun W hS => R_field fa47_1 rfl) ?_
  refine PW_v 4 rfl (by kernel_rfl) (by kernel_rfl) (by kernel_rfl) (.inl rfl) rfl (by decide) hSS (fun W hS => R_load (v := (.string a0.Word)) rfl (load_box1 hS (.head _) rfl Tryz.isAgg9)) ?_
  obtain ⟨r11, hr12, hm⟩ := bind_some hm
  replace hST : ST NoF w _ _ ((b1, Obj.cells ((encRole a0).toArray : Array Value) 47 (0, 0)) :: []) := hST
  have hsz := hST.size
  refine PW_e 2 rfl (by kernel_rfl) (.inl rfl) rfl (by decide) (E_gives (args := [(.string a0.Owner)]) hST rfl Tryz.call233 (by exact args1 rfl) (w_ref01_Text a0.Owner _ _  hr12) (fun W13 hST => ?_))
  have hSS : (Has (hp w) ((b1, Obj.cells ((encRole a0).toArray : Array Value) 47 (0, 0)) :: []) _) := ((show ST NoF w _ _ ((b1, Obj.cells ((encRole a0).toArray : Array Value) 47 (0, 0)) :: []) from hST).has.sub (Sub.refl _) (fun p hq => ((List.mem_cons.1 hq).elim (fun hq => by rw [hq]; exact (.head _)) (fun hq => (absurd hq List.not_mem_nil)))))
  refine ⟨hSS, ?_⟩
  obtain ⟨r14, hr15, hm⟩ := bind_some hm
  replace hST : ST NoF w _ _ ((b1, Obj.cells ((encRole a0).toArray : Array Value) 47 (0, 0)) :: []) := hST
  have hsz := hST.size
  refine PW_e 5 rfl (by kernel_rfl) (.inl rfl) rfl (by decide) (E_gives (args := [(.string a0.Word)]) hST rfl Tryz.call233 (by exact args1 rfl) (w_ref01_Text a0.Word _ _  hr15) (fun W16 hST => ?_))
  have hSS : (Has (hp w) ((b1, Obj.cells ((encRole a0).toArray : Array Value) 47 (0, 0)) :: []) _) := ((show ST NoF w _ _ ((b1, Obj.cells ((encRole a0).toArray : Array Value) 47 (0, 0)) :: []) from hST).has.sub (Sub.refl _) (fun p hq => ((List.mem_cons.1 hq).elim (fun hq => by rw [hq]; exact (.head _)) (fun hq => (absurd hq List.not_mem_nil)))))
  refine ⟨hSS, ?_⟩
  obtain ⟨s17, hs18, hm⟩ := bind_some hm
  refine PW_v 6 rfl (by kernel_rfl) (by kernel_rfl) (by kernel_rfl) (.inl rfl) rfl (by decide) hSS (fun W hS => R_cat rfl rfl hs18) ?_
  refine PW_v 7 rfl (by kernel_rfl) (by kernel_rfl) (by kernel_rfl) (.inl rfl) rfl (by decide) hSS (fun W hS => R_assign (v := (.string s17)) rfl) ?_
  refine PW_done (by kernel_rfl) ?_
  refine sq_n ?_
  replace hST : ST NoF w _ _ [] := hST.sublist (List.Sublist.cons _ (List.Sublist.refl _))
  refine CW_ret ?_
  replace hm := Option.some.inj hm; subst hm
  refine retQ_1 (v := (.string s17)) rfl rfl ?_
  exact ⟨rfl, hST.ex⟩

theorem w_ref05_Bytes (a0 : Cred) (r : ByteArray) (w : World)  (hm : m_ref05_Bytes a0 = some r) :
    Gives Tryz.prog 189 [(.agg (encCred a0).toArray)] w (.string r) := by
  have hST := ST.start w
  unfold m_ref05_Bytes at hm
  refine calls_of_CW (n := 41) Tryz.func189 rfl rfl (Nat.le_of_ble_eq_true rfl) ?_
  refine CW_seq ?_
  refine CW_region ?_
  refine LW_e (.inl rfl) rfl (by decide) (E_box (v := (.agg (encCred a0).toArray)) hST rfl (fun W2 b1 hST => ?_))
  refine LW_v (.inl rfl) rfl (by decide) (R_assign (v := (.string zS)) rfl) ?_
  refine LW_nil ?_
  refine sq_n ?_
  refine CW_seq ?_
  refine PW_start (Has (hp w) ((b1, Obj.cells ((encCred a0).toArray : Array Value) 83 (0, 0)) :: [])) Tryz_mixed ?_
  replace hST := hST.drew
  have hSS : (Has (hp w) ((b1, Obj.cells ((encCred a0).toArray : Array Value) 83 (0, 0)) :: []) _) := ((show ST NoF w _ _ ((b1, Obj.cells ((encCred a0).toArray : Array Value) 83 (0, 0)) :: []) from hST).has.sub (Sub.refl _) (fun p hq => ((List.mem_cons.1 hq).elim (fun hq => by rw [hq]; exact (.head _)) (fun hq => (absurd hq List.not_mem_nil)))))
  refine PW_v 0 rfl (by kernel_rfl) (by kernel_rfl) (by kernel_rfl) (.inl rfl) rfl (by decide) hSS (fun W hS => R_field fa83_0 rfl) ?_
  refine PW_v 1 rfl (by kernel_rfl) (by kernel_rfl) (by kernel_rfl) (.inl rfl) rfl (by decide) hSS (fun W hS => R_load (v := (.int .i64 a0.Kind)) rfl (load_box1 hS (.head _) rfl Tryz.isAgg3)) ?_
  refine PW_v 3 rfl (by kernel_rfl) (by kernel_rfl) (by kernel_rfl) (.inl rfl) rfl (by decide) hSS (fun W hS => R_field fa83_1 rfl) ?_
  refine PW_v 4 rfl (by kernel_rfl) (by kernel_rfl) (by kernel_rfl) (.inl rfl) rfl (by decide) hSS (fun W hS => R_load (v := (.agg (encRole a0.Head).toArray)) rfl (load_boxA hS (.head _) (encRole a0.Head) rfl Tryz.isAgg47 Tryz.sizeOf47)) ?_
  obtain ⟨r11, hr12, hm⟩ := bind_some hm
  replace hST : ST NoF w _ _ ((b1, Obj.cells ((encCred a0).toArray : Array Value) 83 (0, 0)) :: []) := hST
  have hsz := hST.size
  refine PW_e 2 rfl (by kernel_rfl) (.inl rfl) rfl (by decide) (E_gives (args := [(.int .i64 a0.Kind)]) hST rfl Tryz.call231 (by exact args1 rfl) (w_ref01_Number a0.Kind _ _  hr12) (fun W13 hST => ?_))
  have hSS : (Has (hp w) ((b1, Obj.cells ((encCred a0).toArray : Array Value) 83 (0, 0)) :: []) _) := ((show ST NoF w _ _ ((b1, Obj.cells ((encCred a0).toArray : Array Value) 83 (0, 0)) :: []) from hST).has.sub (Sub.refl _) (fun p hq => ((List.mem_cons.1 hq).elim (fun hq => by rw [hq]; exact (.head _)) (fun hq => (absurd hq List.not_mem_nil)))))
  refine ⟨hSS, ?_⟩
  obtain ⟨r14, hr15, hm⟩ := bind_some hm
  replace hST : ST NoF w _ _ ((b1, Obj.cells ((encCred a0).toArray : Array Value) 83 (0, 0)) :: []) := hST
  have hsz := hST.size
  refine PW_e 5 rfl (by kernel_rfl) (.inl rfl) rfl (by decide) (E_gives (args := [(.agg (encRole a0.Head).toArray)]) hST rfl Tryz.call232 (by exact args1 rfl) (w_ref04_Bytes a0.Head _ _  hr15) (fun W16 hST => ?_))
  have hSS : (Has (hp w) ((b1, Obj.cells ((encCred a0).toArray : Array Value) 83 (0, 0)) :: []) _) := ((show ST NoF w _ _ ((b1, Obj.cells ((encCred a0).toArray : Array Value) 83 (0, 0)) :: []) from hST).has.sub (Sub.refl _) (fun p hq => ((List.mem_cons.1 hq).elim (fun hq => by rw [hq]; exact (.head _)) (fun hq => (absurd hq List.not_mem_nil)))))
  refine ⟨hSS, ?_⟩
  obtain ⟨s17, hs18, hm⟩ := bind_some hm
  refine PW_v 6 rfl (by kernel_rfl) (by kernel_rfl) (by kernel_rfl) (.inl rfl) rfl (by decide) hSS (fun W hS => R_cat rfl rfl hs18) ?_
  refine PW_v 7 rfl (by kernel_rfl) (by kernel_rfl) (by kernel_rfl) (.inl rfl) rfl (by decide) hSS (fun W hS => R_assign (v := (.string s17)) rfl) ?_
  refine PW_done (by kernel_rfl) ?_
  refine sq_n ?_
  refine CW_seq ?_
  refine CW_seq ?_
  refine CW_region ?_
  refine LW_v (.inl rfl) rfl (by decide) (R_field fa83_0 rfl) ?_
  refine LW_v (.inl rfl) rfl (by decide) (R_load (v := (.int .i64 a0.Kind)) rfl (load_box1 hST.has (.head _) rfl Tryz.isAgg3)) ?_
  refine LW_v (.inl rfl) rfl (by decide) (R_int (k := .i64) (a := a0.Kind) (b := 1) (v := (.bool ((a0.Kind == 1)))) rfl rfl rfl) ?_
  refine LW_nil ?_
  refine sq_n ?_
  refine CW_if (b := (a0.Kind == 1)) rfl (fun hb19 => ?_) (fun hb19 => ?_)
  · replace hm := if_t hb19 hm
    refine CW_seq ?_
    refine CW_region ?_
    refine LW_v (.inl rfl) rfl (by decide) (R_move (v := (.string s17)) rfl) ?_
    refine LW_v (.inl rfl) rfl (by decide) (R_field fa83_2 rfl) ?_
    refine LW_v (.inl rfl) rfl (by decide) (R_load (v := (.string a0.Who)) rfl (load_box1 hST.has (.head _) rfl Tryz.isAgg9)) ?_
    obtain ⟨r20, hr21, hm⟩ := bind_some hm
    replace hST : ST NoF w _ _ ((b1, Obj.cells ((encCred a0).toArray : Array Value) 83 (0, 0)) :: []) := hST
    have hsz := hST.size
    refine LW_e (.inl rfl) rfl (by decide) (E_gives (args := [(.string a0.Who)]) hST rfl Tryz.call233 (by exact args1 rfl) (w_ref01_Text a0.Who _ _  hr21) (fun W22 hST => ?_))
    obtain ⟨s23, hs24, hm⟩ := bind_some hm
    refine LW_v (.inl rfl) rfl (by decide) (R_cat rfl rfl hs24) ?_
    refine LW_v (.inl rfl) rfl (by decide) (R_assign (v := (.string s23)) rfl) ?_
    refine LW_nil ?_
    refine sq_n ?_
    replace hST : ST NoF w _ _ [] := hST.sublist (List.Sublist.cons _ (List.Sublist.refl _))
    refine CW_ret ?_
    refine sq_r ?_
    replace hm := Option.some.inj hm; subst hm
    refine retQ_1 (v := (.string s23)) rfl rfl ?_
    exact ⟨rfl, hST.ex⟩
  · replace hm := if_f hb19 hm
    refine CW_skip ?_
    refine sq_n ?_
    refine CW_seq ?_
    refine CW_region ?_
    refine LW_v (.inl rfl) rfl (by decide) (R_move (v := (.string s17)) rfl) ?_
    refine LW_v (.inl rfl) rfl (by decide) (R_field fa83_3 rfl) ?_
    refine LW_v (.inl rfl) rfl (by decide) (R_load (v := (.agg (encRole a0.B).toArray)) rfl (load_boxA hST.has (.head _) (encRole a0.B) rfl Tryz.isAgg47 Tryz.sizeOf47)) ?_
    obtain ⟨r25, hr26, hm⟩ := bind_some hm
    replace hST : ST NoF w _ _ ((b1, Obj.cells ((encCred a0).toArray : Array Value) 83 (0, 0)) :: []) := hST
    have hsz := hST.size
    refine LW_e (.inl rfl) rfl (by decide) (E_gives (args := [(.agg (encRole a0.B).toArray)]) hST rfl Tryz.call232 (by exact args1 rfl) (w_ref04_Bytes a0.B _ _  hr26) (fun W27 hST => ?_))
    obtain ⟨s28, hs29, hm⟩ := bind_some hm
    refine LW_v (.inl rfl) rfl (by decide) (R_cat rfl rfl hs29) ?_
    refine LW_v (.inl rfl) rfl (by decide) (R_assign (v := (.string s28)) rfl) ?_
    refine LW_nil ?_
    refine sq_n ?_
    refine CW_seq ?_
    obtain ⟨s60, hm61, hm62⟩ := bind_some hm
    refine CW_cut (fun E W => ∃ (x36 : ByteArray) (L37 : List (Nat × Obj)), ST NoF w W (hp w) ((b1, Obj.cells ((encCred a0).toArray : Array Value) 83 (0, 0)) :: L37) ∧ E 1 = (.pointer (some ⟨b1, 0, none⟩)) ∧ E 3 = (.string x36) ∧ (((if (a0.Kind == 4) then (((m_ref04_Bytes a0.C)).bind fun r55 => (((catS x36 r55)).bind fun s58 => some s58)) else some x36) : Option ByteArray).bind fun x47 => some x47) = some r) ?_ ?_
    · refine CW_seq ?_
      refine CW_region ?_
      refine LW_v (.inl rfl) rfl (by decide) (R_field fa83_0 rfl) ?_
      refine LW_v (.inl rfl) rfl (by decide) (R_load (v := (.int .i64 a0.Kind)) rfl (load_box1 hST.has (.head _) rfl Tryz.isAgg3)) ?_
      refine LW_v (.inl rfl) rfl (by decide) (R_int (k := .i64) (a := a0.Kind) (b := 3) (v := (.bool ((a0.Kind == 3)))) rfl rfl rfl) ?_
      refine LW_nil ?_
      refine sq_n ?_
      refine CW_if (b := (a0.Kind == 3)) rfl (fun hb63 => ?_) (fun hb63 => ?_)
      · replace hm61 := if_t hb63 hm61
        refine CW_region ?_
        refine LW_v (.inl rfl) rfl (by decide) (R_move (v := (.string s28)) rfl) ?_
        refine LW_v (.inl rfl) rfl (by decide) (R_field fa83_5 rfl) ?_
        refine LW_v (.inl rfl) rfl (by decide) (R_load (v := (.string a0.Word2)) rfl (load_box1 hST.has (.head _) rfl Tryz.isAgg9)) ?_
        obtain ⟨r64, hr65, hm61⟩ := bind_some hm61
        replace hST : ST NoF w _ _ ((b1, Obj.cells ((encCred a0).toArray : Array Value) 83 (0, 0)) :: []) := hST
        have hsz := hST.size
        refine LW_e (.inl rfl) rfl (by decide) (E_gives (args := [(.string a0.Word2)]) hST rfl Tryz.call233 (by exact args1 rfl) (w_ref01_Text a0.Word2 _ _  hr65) (fun W66 hST => ?_))
        obtain ⟨s67, hs68, hm61⟩ := bind_some hm61
        refine LW_v (.inl rfl) rfl (by decide) (R_cat rfl rfl hs68) ?_
        refine LW_v (.inl rfl) rfl (by decide) (R_assign (v := (.string s67)) rfl) ?_
        refine LW_nil ?_
        refine sq_n ?_
        replace hm61 := Option.some.inj hm61; subst hm61
        exact ⟨s67, _, (hST.sublist (List.Sublist.refl _)), rfl, rfl, hm62⟩
      · replace hm61 := if_f hb63 hm61
        refine CW_skip ?_
        refine sq_n ?_
        replace hm61 := Option.some.inj hm61; subst hm61
        exact ⟨s28, _, (hST.sublist (List.Sublist.refl _)), rfl, rfl, hm62⟩
    · rintro E W ⟨x36, L37, hST, e39, e40, hm38⟩
      refine CW_seq ?_
      obtain ⟨s51, hm52, hm53⟩ := bind_some hm38
      refine CW_cut (fun E W => ∃ (x47 : ByteArray) (L48 : List (Nat × Obj)), ST NoF w W (hp w) L48 ∧ E 3 = (.string x47) ∧ some x47 = some r) ?_ ?_
      · refine CW_seq ?_
        refine CW_region ?_
        refine LW_v (.inl rfl) rfl (by decide) (R_field fa83_0 e39) ?_
        refine LW_v (.inl rfl) rfl (by decide) (R_load (v := (.int .i64 a0.Kind)) rfl (load_box1 hST.has (.head _) rfl Tryz.isAgg3)) ?_
        refine LW_v (.inl rfl) rfl (by decide) (R_int (k := .i64) (a := a0.Kind) (b := 4) (v := (.bool ((a0.Kind == 4)))) rfl rfl rfl) ?_
        refine LW_nil ?_
        refine sq_n ?_
        refine CW_if (b := (a0.Kind == 4)) rfl (fun hb54 => ?_) (fun hb54 => ?_)
        · replace hm52 := if_t hb54 hm52
          refine CW_region ?_
          refine LW_v (.inl rfl) rfl (by decide) (R_move (v := (.string x36)) e40) ?_
          refine LW_v (.inl rfl) rfl (by decide) (R_field fa83_4 e39) ?_
          refine LW_v (.inl rfl) rfl (by decide) (R_load (v := (.agg (encRole a0.C).toArray)) rfl (load_boxA hST.has (.head _) (encRole a0.C) rfl Tryz.isAgg47 Tryz.sizeOf47)) ?_
          obtain ⟨r55, hr56, hm52⟩ := bind_some hm52
          replace hST : ST NoF w _ _ ((b1, Obj.cells ((encCred a0).toArray : Array Value) 83 (0, 0)) :: L37) := hST
          have hsz := hST.size
          refine LW_e (.inl rfl) rfl (by decide) (E_gives (args := [(.agg (encRole a0.C).toArray)]) hST rfl Tryz.call232 (by exact args1 rfl) (w_ref04_Bytes a0.C _ _  hr56) (fun W57 hST => ?_))
          obtain ⟨s58, hs59, hm52⟩ := bind_some hm52
          refine LW_v (.inl rfl) rfl (by decide) (R_cat rfl rfl hs59) ?_
          refine LW_v (.inl rfl) rfl (by decide) (R_assign (v := (.string s58)) rfl) ?_
          refine LW_nil ?_
          refine sq_n ?_
          replace hm52 := Option.some.inj hm52; subst hm52
          exact ⟨s58, _, (hST.sublist (List.Sublist.cons _ (List.Sublist.refl _))), rfl, hm53⟩
        · replace hm52 := if_f hb54 hm52
          refine CW_skip ?_
          refine sq_n ?_
          replace hm52 := Option.some.inj hm52; subst hm52
          exact ⟨x36, _, (hST.sublist (List.Sublist.cons _ (List.Sublist.refl _))), e40, hm53⟩
      · rintro E W ⟨x47, L48, hST, e50, hm49⟩
        refine CW_seq ?_
        refine CW_region ?_
        refine LW_v (.inl rfl) rfl (by decide) (R_move (v := (.string x47)) e50) ?_
        refine LW_v (.inl rfl) rfl (by decide) (R_assign (v := (.string x47)) rfl) ?_
        refine LW_nil ?_
        refine sq_n ?_
        refine CW_ret ?_
        replace hm49 := Option.some.inj hm49; subst hm49
        refine retQ_1 (v := (.string x47)) rfl rfl ?_
        exact ⟨rfl, hST.ex⟩

theorem w_ref05_bytes (a0 : Cred) (r : ByteArray) (w : World)  (hm : m_ref05_bytes a0 = some r) :
    Gives Tryz.prog 152 [(.agg (encCred a0).toArray)] w (.string r) := by
  have hST := ST.start w
  unfold m_ref05_bytes at hm
  refine calls_of_CW (n := 8) Tryz.func152 rfl rfl (Nat.le_of_ble_eq_true rfl) ?_
  refine CW_seq ?_
  refine CW_region ?_
  refine LW_e (.inl rfl) rfl (by decide) (E_box (v := (.agg (encCred a0).toArray)) hST rfl (fun W2 b1 hST => ?_))
  refine LW_v (.inl rfl) rfl (by decide) (R_assign (v := (.string zS)) rfl) ?_
  refine LW_nil ?_
  refine sq_n ?_
  refine CW_seq ?_
  refine CW_seq ?_
  refine CW_region ?_
  refine LW_v (.inl rfl) rfl (by decide) (R_load (v := (.agg (encCred a0).toArray)) rfl (load_boxA hST.has (.head _) (encCred a0) rfl Tryz.isAgg83 Tryz.sizeOf83)) ?_
  obtain ⟨r3, hr4, hm⟩ := bind_some hm
  replace hST : ST NoF w _ _ ((b1, Obj.cells ((encCred a0).toArray : Array Value) 83 (0, 0)) :: []) := hST
  have hsz := hST.size
  refine LW_e (.inl rfl) rfl (by decide) (E_gives (args := [(.agg (encCred a0).toArray)]) hST rfl Tryz.call106 (by exact args1 rfl) (w_ref05_Right a0 _ _  hr4) (fun W5 hST => ?_))
  refine LW_v (.inl rfl) rfl (by decide) (R_not (b := r3) rfl) ?_
  refine LW_nil ?_
  refine sq_n ?_
  refine CW_if (b := (!r3)) rfl (fun hb6 => ?_) (fun hb6 => ?_)
  · replace hm := if_t hb6 hm
    refine CW_seq ?_
    refine CW_region ?_
    refine LW_v (.inl rfl) rfl (by decide) (R_assign (v := (.string zS)) rfl) ?_
    refine LW_nil ?_
    refine sq_n ?_
    replace hST : ST NoF w _ _ [] := hST.sublist (List.Sublist.cons _ (List.Sublist.refl _))
    refine CW_ret ?_
    refine sq_r ?_
    replace hm := Option.some.inj hm; subst hm
    refine retQ_1 (v := (.string zS)) rfl rfl ?_
    exact ⟨rfl, hST.ex⟩
  · replace hm := if_f hb6 hm
    refine CW_skip ?_
    refine sq_n ?_
    refine CW_seq ?_
    refine CW_region ?_
    refine LW_v (.inl rfl) rfl (by decide) (R_load (v := (.agg (encCred a0).toArray)) rfl (load_boxA hST.has (.head _) (encCred a0) rfl Tryz.isAgg83 Tryz.sizeOf83)) ?_
    obtain ⟨r7, hr8, hm⟩ := bind_some hm
    replace hST : ST NoF w _ _ ((b1, Obj.cells ((encCred a0).toArray : Array Value) 83 (0, 0)) :: []) := hST
    have hsz := hST.size
    refine LW_e (.inl rfl) rfl (by decide) (E_gives (args := [(.agg (encCred a0).toArray)]) hST rfl Tryz.call189 (by exact args1 rfl) (w_ref05_Bytes a0 _ _  hr8) (fun W9 hST => ?_))
    refine LW_v (.inl rfl) rfl (by decide) (R_assign (v := (.string r7)) rfl) ?_
    refine LW_nil ?_
    refine sq_n ?_
    replace hST : ST NoF w _ _ [] := hST.sublist (List.Sublist.cons _ (List.Sublist.refl _))
    refine CW_ret ?_
    replace hm := Option.some.inj hm; subst hm
    refine retQ_1 (v := (.string r7)) rfl rfl ?_
    exact ⟨rfl, hST.ex⟩

theorem w_ref05_Compare (a0 : Cred) (a1 : Cred) (r : Int) (w : World)  (hm : m_ref05_Compare a0 a1 = some r) :
    Gives Tryz.prog 107 [(.agg (encCred a0).toArray), (.agg (encCred a1).toArray)] w (.int .i64 r) := by
  have hST := ST.start w
  unfold m_ref05_Compare at hm
  refine calls_of_CW (n := 17) Tryz.func107 rfl rfl (Nat.le_of_ble_eq_true rfl) ?_
  refine CW_seq ?_
  refine CW_region ?_
  refine LW_e (.inl rfl) rfl (by decide) (E_box (v := (.agg (encCred a0).toArray)) hST rfl (fun W2 b1 hST => ?_))
  refine LW_e (.inl rfl) rfl (by decide) (E_box (v := (.agg (encCred a1).toArray)) hST rfl (fun W4 b3 hST => ?_))
  refine LW_v (.inl rfl) rfl (by decide) (R_assign (v := (.int .i64 0)) rfl) ?_
  refine LW_nil ?_
  refine sq_n ?_
  refine CW_seq ?_
  refine CW_region ?_
  refine LW_v (.inl rfl) rfl (by decide) (R_load (v := (.agg (encCred a0).toArray)) rfl (load_boxA hST.has (.tail _ (.head _)) (encCred a0) rfl Tryz.isAgg83 Tryz.sizeOf83)) ?_
  obtain ⟨r5, hr6, hm⟩ := bind_some hm
  replace hST : ST NoF w _ _ ((b3, Obj.cells ((encCred a1).toArray : Array Value) 83 (0, 0)) :: ((b1, Obj.cells ((encCred a0).toArray : Array Value) 83 (0, 0)) :: [])) := hST
  have hsz := hST.size
  refine LW_e (.inl rfl) rfl (by decide) (E_gives (args := [(.agg (encCred a0).toArray)]) hST rfl Tryz.call152 (by exact args1 rfl) (w_ref05_bytes a0 _ _  hr6) (fun W7 hST => ?_))
  refine LW_v (.inl rfl) rfl (by decide) (R_assign (v := (.string r5)) rfl) ?_
  refine LW_nil ?_
  refine sq_n ?_
  replace hST : ST NoF w _ _ ((b3, Obj.cells ((encCred a1).toArray : Array Value) 83 (0, 0)) :: []) := hST.sublist (List.Sublist.cons_cons _ (List.Sublist.cons _ (List.Sublist.refl _)))
  refine CW_seq ?_
  refine CW_region ?_
  refine LW_v (.inl rfl) rfl (by decide) (R_load (v := (.agg (encCred a1).toArray)) rfl (load_boxA hST.has (.head _) (encCred a1) rfl Tryz.isAgg83 Tryz.sizeOf83)) ?_
  obtain ⟨r8, hr9, hm⟩ := bind_some hm
  replace hST : ST NoF w _ _ ((b3, Obj.cells ((encCred a1).toArray : Array Value) 83 (0, 0)) :: []) := hST
  have hsz := hST.size
  refine LW_e (.inl rfl) rfl (by decide) (E_gives (args := [(.agg (encCred a1).toArray)]) hST rfl Tryz.call152 (by exact args1 rfl) (w_ref05_bytes a1 _ _  hr9) (fun W10 hST => ?_))
  refine LW_v (.inl rfl) rfl (by decide) (R_assign (v := (.string r8)) rfl) ?_
  refine LW_nil ?_
  refine sq_n ?_
  replace hST : ST NoF w _ _ [] := hST.sublist (List.Sublist.cons _ (List.Sublist.refl _))
  refine CW_seq ?_
  refine CW_seq ?_
  refine CW_region ?_
  refine LW_v (.inl rfl) rfl (by decide) (R_move (v := (.string r5)) rfl) ?_
  refine LW_v (.inl rfl) rfl (by decide) (R_move (v := (.string r8)) rfl) ?_
  refine LW_v (.inl rfl) rfl (by decide) (R_str (a := r5) (b := r8) (v := (.bool ((ltS r5 r8)))) rfl rfl rfl) ?_
  refine LW_nil ?_
  refine sq_n ?_
  refine CW_if (b := (ltS r5 r8)) rfl (fun hb11 => ?_) (fun hb11 => ?_)
  · replace hm := if_t hb11 hm
    refine CW_seq ?_
    refine CW_region ?_
    refine LW_v (.inl rfl) rfl (by decide) (R_assign (v := (.int .i64 ((-1)))) rfl) ?_
    refine LW_nil ?_
    refine sq_n ?_
    refine CW_ret ?_
    refine sq_r ?_
    replace hm := Option.some.inj hm; subst hm
    refine retQ_1 (v := (.int .i64 ((-1)))) rfl rfl ?_
    exact ⟨rfl, hST.ex⟩
  · replace hm := if_f hb11 hm
    refine CW_skip ?_
    refine sq_n ?_
    refine CW_seq ?_
    refine CW_seq ?_
    refine CW_region ?_
    refine LW_v (.inl rfl) rfl (by decide) (R_move (v := (.string r5)) rfl) ?_
    refine LW_v (.inl rfl) rfl (by decide) (R_move (v := (.string r8)) rfl) ?_
    refine LW_v (.inl rfl) rfl (by decide) (R_str (a := r5) (b := r8) (v := (.bool ((!(ltS r5 r8 || beqS r5 r8))))) rfl rfl rfl) ?_
    refine LW_nil ?_
    refine sq_n ?_
    refine CW_if (b := (!(ltS r5 r8 || beqS r5 r8))) rfl (fun hb12 => ?_) (fun hb12 => ?_)
    · replace hm := if_t hb12 hm
      refine CW_seq ?_
      refine CW_region ?_
      refine LW_v (.inl rfl) rfl (by decide) (R_assign (v := (.int .i64 1)) rfl) ?_
      refine LW_nil ?_
      refine sq_n ?_
      refine CW_ret ?_
      refine sq_r ?_
      replace hm := Option.some.inj hm; subst hm
      refine retQ_1 (v := (.int .i64 1)) rfl rfl ?_
      exact ⟨rfl, hST.ex⟩
    · replace hm := if_f hb12 hm
      refine CW_skip ?_
      refine sq_n ?_
      refine CW_seq ?_
      refine CW_region ?_
      refine LW_v (.inl rfl) rfl (by decide) (R_assign (v := (.int .i64 0)) rfl) ?_
      refine LW_nil ?_
      refine sq_n ?_
      refine CW_ret ?_
      replace hm := Option.some.inj hm; subst hm
      refine retQ_1 (v := (.int .i64 0)) rfl rfl ?_
      exact ⟨rfl, hST.ex⟩

theorem w_ref05_Set (v_a0 : Value) (a0 : List Cred) (r : List Cred) (w : World) (h_a0 : Sl (Pl encCred) 9 (hp w) v_a0 a0) (hm : m_ref05_Set a0 = some r) :
    GivesRow Tryz.prog 49 [v_a0] w 83 encCred 9 r := by
  have hST := ST.start w
  unfold m_ref05_Set at hm
  refine calls_of_CW (n := 51) Tryz.func49 rfl rfl (Nat.le_of_ble_eq_true rfl) ?_
  refine CW_seq ?_
  refine CW_region ?_
  refine LW_v (.inl rfl) rfl (by decide) (R_assign (v := (.slice none 0 0)) rfl) ?_
  refine LW_nil ?_
  refine sq_n ?_
  refine CW_seq ?_
  refine CW_region ?_
  refine LW_v (.inl rfl) rfl (by decide) (R_assign (v := (.slice none 0 0)) rfl) ?_
  refine LW_nil ?_
  refine sq_n ?_
  refine CW_tail ?_
  refine CW_block (CW_loop (fun m E W => ∃ (v2952 : Value) (l2953 : List Cred) (R2955 : List (Nat × Obj)) (L3696 : List (Nat × Obj)), ST NoF w W (hp w) (R2955 ++ L3696) ∧ E 0 = v_a0 ∧ E 3 = v2952 ∧ Row 83 encCred 9 v2952 l2953 R2955 ∧ m_ref05_Set_L1 a0 m l2953 = some r) FUEL ⟨(.slice none 0 0), ([]), [], _, (hST.sublist (List.Sublist.refl _)), rfl, rfl, (Row.nil _ _ _), hm⟩ ?_)
  rintro m E W ⟨v2952, l2953, R2955, L3696, hST, e3699, e3700, hs2954, hm3697⟩
  cases m with
  | zero => rw [m_ref05_Set_L1] at hm3697; cases hm3697
  | succ n3698 =>
    rw [m_ref05_Set_L1] at hm3697
    refine CW_block ?_
    refine CW_seq ?_
    refine CW_region ?_
    refine LW_e (.inl rfl) rfl (by decide) (E_alloc hST Tryz.zeroValue83 (fun W3702 b3701 hST => ?_))
    refine LW_nil ?_
    refine sq_n ?_
    refine CW_seq ?_
    refine CW_region ?_
    refine LW_v (.inl rfl) rfl (by decide) (R_assign (v := (.bool false)) rfl) ?_
    refine LW_nil ?_
    refine sq_n ?_
    refine CW_seq ?_
    refine CW_seq ?_
    refine CW_region ?_
    refine LW_v (.inl rfl) rfl (by decide) (R_move (v := v_a0) e3699) ?_
    refine LW_v (.inl rfl) rfl (by decide) (R_len Tryz.underlying22 rfl h_a0) ?_
    refine LW_v (.inl rfl) rfl (by decide) (R_move (v := (.int .i64 0)) rfl) ?_
    refine LW_nil ?_
    refine sq_n ?_
    obtain ⟨s4076, hm4077, hm4078⟩ := bind_some hm3697
    refine CW_cut (fun E W => ∃ (x4059 : Bool) (x4060 : Cred) (L4061 : List (Nat × Obj)), ST NoF w W (hp w) ((b3701, Obj.cells ((encCred x4060).toArray : Array Value) 83 (0, 0)) :: (R2955 ++ L4061)) ∧ E 0 = v_a0 ∧ E 3 = v2952 ∧ E 4 = (.pointer (some ⟨b3701, 0, none⟩)) ∧ E 5 = (.bool x4059) ∧ (if (!x4059) then some l2953 else (((appB 136 l2953 ([x4060]))).bind fun l4070 => (m_ref05_Set_L1 a0 n3698 l4070))) = some r) ?_ ?_
    · refine CW_range (fun i E W => ∃ (x4197 : Bool) (x4198 : Cred) (L4317 : List (Nat × Obj)), (E 10 = .int .i64 (i : Nat) ∧ E 9 = .int .i64 (a0.length : Nat)) ∧ ST NoF w W (hp w) ((b3701, Obj.cells ((encCred x4198).toArray : Array Value) 83 (0, 0)) :: (R2955 ++ L4317)) ∧ E 0 = v_a0 ∧ E 3 = v2952 ∧ E 4 = (.pointer (some ⟨b3701, 0, none⟩)) ∧ E 5 = (.bool x4197) ∧ E 8 = v_a0 ∧ m_ref05_Set_L2 l2953 (a0.drop i) x4197 x4198 = some s4076) a0.length h_a0.len ⟨false, ((⟨0, (⟨zS, zS⟩ : Role), zS, (⟨zS, zS⟩ : Role), (⟨zS, zS⟩ : Role), zS⟩ : Cred)), _, ⟨rfl, rfl⟩, (hST.sublist (List.Sublist.refl _)), e3699, e3700, rfl, rfl, rfl, hm4077⟩ (by decide) (by decide) (by decide) (fun _ _ _ h => by obtain ⟨_, _, _, eIN, _⟩ := h; exact eIN) ?_ ?_
      · rintro i4079 E W hi4085 ⟨x4197, x4198, L4317, ⟨eI, eN⟩, hST, e4319, e4320, e4321, e4322, e4323, hm4318⟩
        obtain ⟨x4080, xs4081, hx4083, hx4082, hx4084⟩ := drop_cons hi4085
        rw [hx4083] at hm4318
        rw [m_ref05_Set_L2] at hm4318
        refine CW_block ?_
        refine CW_seq ?_
        refine CW_region ?_
        refine LW_q (.inl rfl) rfl (by decide) (R_indexP (enc := encCred) (i := (i4079 : Int)) (x0 := x4080) Tryz.underlying22 Tryz.sizeOf83 e4323 eI h_a0 (Int.natCast_nonneg _) hx4082) (fun p4324 hp4325 => ?_)
        refine LW_v (.inl rfl) rfl (by decide) (R_load rfl (load_atA hST.has hp4325 Tryz.isAgg83 Tryz.sizeOf83)) ?_
        refine LW_e (.inl rfl) rfl (by decide) (E_alloc hST Tryz.zeroValue83 (fun W4328 b4327 hST => ?_))
        refine LW_e0 (.inl rfl) rfl (E_store [] (.agg (encCred x4080).toArray) ((encCred x4080).toArray) hST rfl rfl Tryz.sizeOf83 (oneCred x4080) (Nat.le_of_ble_eq_true rfl) rfl (fun W4329 hST => ?_))
        refine LW_nil ?_
        refine sq_n ?_
        refine CW_seq ?_
        obtain ⟨s4388, hm4389, hm4390⟩ := bind_some hm4318
        refine CW_cut (fun E W => ∃ (x4374 : Bool) (L4375 : List (Nat × Obj)), ST NoF w W (hp w) ((b4327, Obj.cells ((encCred x4080).toArray : Array Value) 83 (0, 0)) :: ((b3701, Obj.cells ((encCred x4198).toArray : Array Value) 83 (0, 0)) :: (R2955 ++ L4375))) ∧ E 0 = v_a0 ∧ E 3 = v2952 ∧ E 4 = (.pointer (some ⟨b3701, 0, none⟩)) ∧ E 5 = (.bool x4197) ∧ E 7 = (.pointer (some ⟨b4327, 0, none⟩)) ∧ E 8 = v_a0 ∧ E 9 = (.int .i64 ((a0.length : Int))) ∧ E 10 = (.int .i64 ((i4079 : Int))) ∧ E 41 = (.bool x4374) ∧ (if x4374 then (m_ref05_Set_L2 l2953 xs4081 true x4080) else (m_ref05_Set_L2 l2953 xs4081 x4197 x4198)) = some s4076) ?_ ?_
        · refine PW_start (Has (hp w) ((b4327, Obj.cells ((encCred x4080).toArray : Array Value) 83 (0, 0)) :: ((b3701, Obj.cells ((encCred x4198).toArray : Array Value) 83 (0, 0)) :: (R2955 ++ [])))) Tryz_mixed ?_
          replace hST := hST.drew
          have hSS : (Has (hp w) ((b4327, Obj.cells ((encCred x4080).toArray : Array Value) 83 (0, 0)) :: ((b3701, Obj.cells ((encCred x4198).toArray : Array Value) 83 (0, 0)) :: (R2955 ++ []))) _) := ((show ST NoF w _ _ ((b4327, Obj.cells ((encCred x4080).toArray : Array Value) 83 (0, 0)) :: ((b3701, Obj.cells ((encCred x4198).toArray : Array Value) 83 (0, 0)) :: (R2955 ++ L4317))) from hST).has.sub (Sub.refl _) (fun p hq => ((List.mem_cons.1 hq).elim (fun hq => by rw [hq]; exact (.head _)) (fun hq => ((List.mem_cons.1 hq).elim (fun hq => by rw [hq]; exact (.tail _ (.head _))) (fun hq => ((List.mem_append.1 hq).elim (fun hq => (.tail _ (.tail _ (List.mem_append_left _ hq)))) (fun hq => (absurd hq List.not_mem_nil)))))))))
          refine PW_v 0 rfl (by kernel_rfl) (by kernel_rfl) (by kernel_rfl) (.inl rfl) rfl (by decide) hSS (fun W hS => R_load (v := (.agg (encCred x4080).toArray)) rfl (load_boxA hS (.head _) (encCred x4080) rfl Tryz.isAgg83 Tryz.sizeOf83)) ?_
          obtain ⟨r4413, hr4414, hm4389⟩ := bind_some hm4389
          replace hST : ST NoF w _ _ ((b4327, Obj.cells ((encCred x4080).toArray : Array Value) 83 (0, 0)) :: ((b3701, Obj.cells ((encCred x4198).toArray : Array Value) 83 (0, 0)) :: (R2955 ++ L4317))) := hST
          have hsz := hST.size
          refine PW_e 1 rfl (by kernel_rfl) (.inl rfl) rfl (by decide) (E_gives (args := [(.agg (encCred x4080).toArray)]) hST rfl Tryz.call106 (by exact args1 rfl) (w_ref05_Right x4080 _ _  hr4414) (fun W4415 hST => ?_))
          have hSS : (Has (hp w) ((b4327, Obj.cells ((encCred x4080).toArray : Array Value) 83 (0, 0)) :: ((b3701, Obj.cells ((encCred x4198).toArray : Array Value) 83 (0, 0)) :: (R2955 ++ []))) _) := ((show ST NoF w _ _ ((b4327, Obj.cells ((encCred x4080).toArray : Array Value) 83 (0, 0)) :: ((b3701, Obj.cells ((encCred x4198).toArray : Array Value) 83 (0, 0)) :: (R2955 ++ L4317))) from hST).has.sub (Sub.refl _) (fun p hq => ((List.mem_cons.1 hq).elim (fun hq => by rw [hq]; exact (.head _)) (fun hq => ((List.mem_cons.1 hq).elim (fun hq => by rw [hq]; exact (.tail _ (.head _))) (fun hq => ((List.mem_append.1 hq).elim (fun hq => (.tail _ (.tail _ (List.mem_append_left _ hq)))) (fun hq => (absurd hq List.not_mem_nil)))))))))
          refine ⟨hSS, ?_⟩
          refine PW_v 2 rfl (by kernel_rfl) (by kernel_rfl) (by kernel_rfl) (.inl rfl) rfl (by decide) hSS (fun W hS => R_move (v := (.bool r4413)) rfl) ?_
          rcases bool_cases r4413 with hb4416 | hb4416
          · replace hm4389 := if_t hb4416 hm4389
            refine PW_v 3 rfl (by kernel_rfl) (by kernel_rfl) (by kernel_rfl) (.inr ⟨2, true, 16, rfl, rfl, by decide, (congrArg Value.bool hb4416)⟩) rfl (by decide) hSS (fun W hS => R_move (v := v2952) e4320) ?_
            refine PW_v 4 rfl (by kernel_rfl) (by kernel_rfl) (by kernel_rfl) (.inr ⟨2, true, 16, rfl, rfl, by decide, (congrArg Value.bool hb4416)⟩) rfl (by decide) hSS (fun W hS => R_lenRow Tryz.underlying22 rfl hs2954) ?_
            refine PW_v 5 rfl (by kernel_rfl) (by kernel_rfl) (by kernel_rfl) (.inr ⟨2, true, 16, rfl, rfl, by decide, (congrArg Value.bool hb4416)⟩) rfl (by decide) hSS (fun W hS => R_int (k := .i64) (a := ((l2953.length : Int))) (b := 0) (v := (.bool ((((l2953.length : Int)) == 0)))) rfl rfl rfl) ?_
            refine PW_v 6 rfl (by kernel_rfl) (by kernel_rfl) (by kernel_rfl) (.inr ⟨2, true, 16, rfl, rfl, by decide, (congrArg Value.bool hb4416)⟩) rfl (by decide) hSS (fun W hS => R_move (v := (.bool ((((l2953.length : Int)) == 0)))) rfl) ?_
            rcases bool_cases ((((l2953.length : Int)) == 0)) with hb4417 | hb4417
            · replace hm4389 := if_t hb4417 hm4389
              refine PW_no 7 rfl (by kernel_rfl) (by kernel_rfl) (by kernel_rfl) rfl rfl (by decide) (congrArg Value.bool hb4417) rfl (by decide) hSS ?_
              refine PW_no 8 rfl (by kernel_rfl) (by kernel_rfl) (by kernel_rfl) rfl rfl (by decide) (congrArg Value.bool hb4417) rfl (by decide) hSS ?_
              refine PW_no 9 rfl (by kernel_rfl) (by kernel_rfl) (by kernel_rfl) rfl rfl (by decide) (congrArg Value.bool hb4417) rfl (by decide) hSS ?_
              refine PW_no 10 rfl (by kernel_rfl) (by kernel_rfl) (by kernel_rfl) rfl rfl (by decide) (congrArg Value.bool hb4417) rfl (by decide) hSS ?_
              refine PW_no 11 rfl (by kernel_rfl) (by kernel_rfl) (by kernel_rfl) rfl rfl (by decide) (congrArg Value.bool hb4417) rfl (by decide) hSS ?_
              refine PW_no 12 rfl (by kernel_rfl) (by kernel_rfl) (by kernel_rfl) rfl rfl (by decide) (congrArg Value.bool hb4417) rfl (by decide) hSS ?_
              refine PW_no 13 rfl (by kernel_rfl) (by kernel_rfl) (by kernel_rfl) rfl rfl (by decide) (congrArg Value.bool hb4417) rfl (by decide) hSS ?_
              refine PW_no 14 rfl (by kernel_rfl) (by kernel_rfl) (by kernel_rfl) rfl rfl (by decide) (congrArg Value.bool hb4417) rfl (by decide) hSS ?_
              refine PW_no 15 rfl (by kernel_rfl) (by kernel_rfl) (by kernel_rfl) rfl rfl (by decide) (congrArg Value.bool hb4417) rfl (by decide) hSS ?_
              refine PW_v 16 rfl (by kernel_rfl) (by kernel_rfl) (by kernel_rfl) (.inr ⟨2, true, 16, rfl, rfl, by decide, (congrArg Value.bool hb4416)⟩) rfl (by decide) hSS (fun W hS => R_pickT (v := (.bool true)) (congrArg Value.bool hb4417) rfl) ?_
              refine PW_v 17 rfl (by kernel_rfl) (by kernel_rfl) (by kernel_rfl) (.inl rfl) rfl (by decide) hSS (fun W hS => R_pickT (v := (.bool true)) (congrArg Value.bool hb4416) rfl) ?_
              refine PW_v 18 rfl (by kernel_rfl) (by kernel_rfl) (by kernel_rfl) (.inl rfl) rfl (by decide) hSS (fun W hS => R_move (v := (.bool true)) rfl) ?_
              refine PW_v 19 rfl (by kernel_rfl) (by kernel_rfl) (by kernel_rfl) (.inr ⟨18, true, 32, rfl, rfl, by decide, rfl⟩) rfl (by decide) hSS (fun W hS => R_move (v := (.bool x4197)) e4322) ?_
              refine PW_v 20 rfl (by kernel_rfl) (by kernel_rfl) (by kernel_rfl) (.inr ⟨18, true, 32, rfl, rfl, by decide, rfl⟩) rfl (by decide) hSS (fun W hS => R_not (b := x4197) rfl) ?_
              refine PW_v 21 rfl (by kernel_rfl) (by kernel_rfl) (by kernel_rfl) (.inr ⟨18, true, 32, rfl, rfl, by decide, rfl⟩) rfl (by decide) hSS (fun W hS => R_move (v := (.bool ((!x4197)))) rfl) ?_
              rcases bool_cases ((!x4197)) with hb4418 | hb4418
              · replace hm4389 := if_t hb4418 hm4389
                refine PW_no 22 rfl (by kernel_rfl) (by kernel_rfl) (by kernel_rfl) rfl rfl (by decide) (congrArg Value.bool hb4418) rfl (by decide) hSS ?_
                refine PW_no 23 rfl (by kernel_rfl) (by kernel_rfl) (by kernel_rfl) rfl rfl (by decide) (congrArg Value.bool hb4418) rfl (by decide) hSS ?_
                refine PW_no 24 rfl (by kernel_rfl) (by kernel_rfl) (by kernel_rfl) rfl rfl (by decide) (congrArg Value.bool hb4418) rfl (by decide) hSS ?_
                refine PW_no 25 rfl (by kernel_rfl) (by kernel_rfl) (by kernel_rfl) rfl rfl (by decide) (congrArg Value.bool hb4418) rfl (by decide) hSS ?_
                refine PW_v 26 rfl (by kernel_rfl) (by kernel_rfl) (by kernel_rfl) (.inr ⟨18, true, 32, rfl, rfl, by decide, rfl⟩) rfl (by decide) hSS (fun W hS => R_pickT (v := (.bool true)) (congrArg Value.bool hb4418) rfl) ?_
                refine PW_v 27 rfl (by kernel_rfl) (by kernel_rfl) (by kernel_rfl) (.inl rfl) rfl (by decide) hSS (fun W hS => R_pickT (v := (.bool true)) rfl rfl) ?_
                refine PW_done (by kernel_rfl) ?_
                refine sq_n ?_
                replace hm4389 := Option.some.inj hm4389; subst hm4389
                exact ⟨true, _, (hST.sublist (List.Sublist.refl _)), e4319, e4320, e4321, e4322, rfl, e4323, eN, eI, rfl, hm4390⟩
              · replace hm4389 := if_f hb4418 hm4389
                refine PW_v 22 rfl (by kernel_rfl) (by kernel_rfl) (by kernel_rfl) (.inr ⟨21, false, 35, rfl, rfl, by decide, (congrArg Value.bool hb4418)⟩) rfl (by decide) hSS (fun W hS => R_load (v := (.agg (encCred x4080).toArray)) rfl (load_boxA hS (.head _) (encCred x4080) rfl Tryz.isAgg83 Tryz.sizeOf83)) ?_
                refine PW_v 23 rfl (by kernel_rfl) (by kernel_rfl) (by kernel_rfl) (.inr ⟨21, false, 35, rfl, rfl, by decide, (congrArg Value.bool hb4418)⟩) rfl (by decide) hSS (fun W hS => R_load (v := (.agg (encCred x4198).toArray)) e4321 (load_boxA hS (.tail _ (.head _)) (encCred x4198) rfl Tryz.isAgg83 Tryz.sizeOf83)) ?_
                obtain ⟨r4419, hr4420, hm4389⟩ := bind_some hm4389
                replace hST : ST NoF w _ _ ((b4327, Obj.cells ((encCred x4080).toArray : Array Value) 83 (0, 0)) :: ((b3701, Obj.cells ((encCred x4198).toArray : Array Value) 83 (0, 0)) :: (R2955 ++ L4317))) := hST
                have hsz := hST.size
                refine PW_e 24 rfl (by kernel_rfl) (.inr ⟨21, false, 35, rfl, rfl, by decide, (congrArg Value.bool hb4418)⟩) rfl (by decide) (E_gives (args := [(.agg (encCred x4080).toArray), (.agg (encCred x4198).toArray)]) hST rfl Tryz.call107 (by exact args2 rfl rfl) (w_ref05_Compare x4080 x4198 _ _  hr4420) (fun W4421 hST => ?_))
                have hSS : (Has (hp w) ((b4327, Obj.cells ((encCred x4080).toArray : Array Value) 83 (0, 0)) :: ((b3701, Obj.cells ((encCred x4198).toArray : Array Value) 83 (0, 0)) :: (R2955 ++ []))) _) := ((show ST NoF w _ _ ((b4327, Obj.cells ((encCred x4080).toArray : Array Value) 83 (0, 0)) :: ((b3701, Obj.cells ((encCred x4198).toArray : Array Value) 83 (0, 0)) :: (R2955 ++ L4317))) from hST).has.sub (Sub.refl _) (fun p hq => ((List.mem_cons.1 hq).elim (fun hq => by rw [hq]; exact (.head _)) (fun hq => ((List.mem_cons.1 hq).elim (fun hq => by rw [hq]; exact (.tail _ (.head _))) (fun hq => ((List.mem_append.1 hq).elim (fun hq => (.tail _ (.tail _ (List.mem_append_left _ hq)))) (fun hq => (absurd hq List.not_mem_nil)))))))))
                refine ⟨hSS, ?_⟩
                refine PW_v 25 rfl (by kernel_rfl) (by kernel_rfl) (by kernel_rfl) (.inr ⟨21, false, 35, rfl, rfl, by decide, (congrArg Value.bool hb4418)⟩) rfl (by decide) hSS (fun W hS => R_int (k := .i64) (a := r4419) (b := 0) (v := (.bool ((decide (r4419 < 0))))) rfl rfl rfl) ?_
                refine PW_v 26 rfl (by kernel_rfl) (by kernel_rfl) (by kernel_rfl) (.inr ⟨18, true, 32, rfl, rfl, by decide, rfl⟩) rfl (by decide) hSS (fun W hS => R_pickF (v := (.bool ((decide (r4419 < 0))))) (congrArg Value.bool hb4418) rfl) ?_
                refine PW_v 27 rfl (by kernel_rfl) (by kernel_rfl) (by kernel_rfl) (.inl rfl) rfl (by decide) hSS (fun W hS => R_pickT (v := (.bool ((decide (r4419 < 0))))) rfl rfl) ?_
                refine PW_done (by kernel_rfl) ?_
                refine sq_n ?_
                replace hm4389 := Option.some.inj hm4389; subst hm4389
                exact ⟨((decide (r4419 < 0))), _, (hST.sublist (List.Sublist.refl _)), e4319, e4320, e4321, e4322, rfl, e4323, eN, eI, rfl, hm4390⟩
            · replace hm4389 := if_f hb4417 hm4389
              refine PW_v 7 rfl (by kernel_rfl) (by kernel_rfl) (by kernel_rfl) (.inr ⟨6, false, 20, rfl, rfl, by decide, (congrArg Value.bool hb4417)⟩) rfl (by decide) hSS (fun W hS => R_move (v := v2952) e4320) ?_
              refine PW_v 8 rfl (by kernel_rfl) (by kernel_rfl) (by kernel_rfl) (.inr ⟨6, false, 20, rfl, rfl, by decide, (congrArg Value.bool hb4417)⟩) rfl (by decide) hSS (fun W hS => R_move (v := v2952) e4320) ?_
              refine PW_v 9 rfl (by kernel_rfl) (by kernel_rfl) (by kernel_rfl) (.inr ⟨6, false, 20, rfl, rfl, by decide, (congrArg Value.bool hb4417)⟩) rfl (by decide) hSS (fun W hS => R_lenRow Tryz.underlying22 rfl hs2954) ?_
              refine PW_v 10 rfl (by kernel_rfl) (by kernel_rfl) (by kernel_rfl) (.inr ⟨6, false, 20, rfl, rfl, by decide, (congrArg Value.bool hb4417)⟩) rfl (by decide) hSS (fun W hS => R_int (k := .i64) (a := ((l2953.length : Int))) (b := 1) (v := (.int .i64 ((IntKind.i64.wrap (((l2953.length : Int)) - 1))))) rfl rfl rfl) ?_
              obtain ⟨x4425, hx4426, hm4389⟩ := bind_some hm4389
              refine PW_q 11 rfl (by kernel_rfl) (by kernel_rfl) (by kernel_rfl) (.inr ⟨6, false, 20, rfl, rfl, by decide, (congrArg Value.bool hb4417)⟩) rfl (by decide) hSS (R_indexRow (i := (IntKind.i64.wrap (((l2953.length : Int)) - 1))) (x0 := x4425) Tryz.underlying22 Tryz.sizeOf83 rfl rfl hs2954 (idx_nonneg hx4426) (idx_get hx4426)) (fun p4422 hp4423 => ?_)
              refine PW_v 12 rfl (by kernel_rfl) (by kernel_rfl) (by kernel_rfl) (.inr ⟨6, false, 20, rfl, rfl, by decide, (congrArg Value.bool hb4417)⟩) rfl (by decide) hSS (fun W hS => R_load (v := (.agg (encCred x4425).toArray)) rfl (load_ixA hS (fun p hq => by simp [hq]) hs2954 lenCred hp4423 (idx_get hx4426) Tryz.isAgg83 Tryz.sizeOf83)) ?_
              refine PW_v 13 rfl (by kernel_rfl) (by kernel_rfl) (by kernel_rfl) (.inr ⟨6, false, 20, rfl, rfl, by decide, (congrArg Value.bool hb4417)⟩) rfl (by decide) hSS (fun W hS => R_load (v := (.agg (encCred x4080).toArray)) rfl (load_boxA hS (.head _) (encCred x4080) rfl Tryz.isAgg83 Tryz.sizeOf83)) ?_
              obtain ⟨r4427, hr4428, hm4389⟩ := bind_some hm4389
              replace hST : ST NoF w _ _ ((b4327, Obj.cells ((encCred x4080).toArray : Array Value) 83 (0, 0)) :: ((b3701, Obj.cells ((encCred x4198).toArray : Array Value) 83 (0, 0)) :: (R2955 ++ L4317))) := hST
              have hsz := hST.size
              refine PW_e 14 rfl (by kernel_rfl) (.inr ⟨6, false, 20, rfl, rfl, by decide, (congrArg Value.bool hb4417)⟩) rfl (by decide) (E_gives (args := [(.agg (encCred x4425).toArray), (.agg (encCred x4080).toArray)]) hST rfl Tryz.call107 (by exact args2 rfl rfl) (w_ref05_Compare x4425 x4080 _ _  hr4428) (fun W4429 hST => ?_))
              have hSS : (Has (hp w) ((b4327, Obj.cells ((encCred x4080).toArray : Array Value) 83 (0, 0)) :: ((b3701, Obj.cells ((encCred x4198).toArray : Array Value) 83 (0, 0)) :: (R2955 ++ []))) _) := ((show ST NoF w _ _ ((b4327, Obj.cells ((encCred x4080).toArray : Array Value) 83 (0, 0)) :: ((b3701, Obj.cells ((encCred x4198).toArray : Array Value) 83 (0, 0)) :: (R2955 ++ L4317))) from hST).has.sub (Sub.refl _) (fun p hq => ((List.mem_cons.1 hq).elim (fun hq => by rw [hq]; exact (.head _)) (fun hq => ((List.mem_cons.1 hq).elim (fun hq => by rw [hq]; exact (.tail _ (.head _))) (fun hq => ((List.mem_append.1 hq).elim (fun hq => (.tail _ (.tail _ (List.mem_append_left _ hq)))) (fun hq => (absurd hq List.not_mem_nil)))))))))
              refine ⟨hSS, ?_⟩
              refine PW_v 15 rfl (by kernel_rfl) (by kernel_rfl) (by kernel_rfl) (.inr ⟨6, false, 20, rfl, rfl, by decide, (congrArg Value.bool hb4417)⟩) rfl (by decide) hSS (fun W hS => R_int (k := .i64) (a := r4427) (b := 0) (v := (.bool ((decide (r4427 < 0))))) rfl rfl rfl) ?_
              refine PW_v 16 rfl (by kernel_rfl) (by kernel_rfl) (by kernel_rfl) (.inr ⟨2, true, 16, rfl, rfl, by decide, (congrArg Value.bool hb4416)⟩) rfl (by decide) hSS (fun W hS => R_pickF (v := (.bool ((decide (r4427 < 0))))) (congrArg Value.bool hb4417) rfl) ?_
              refine PW_v 17 rfl (by kernel_rfl) (by kernel_rfl) (by kernel_rfl) (.inl rfl) rfl (by decide) hSS (fun W hS => R_pickT (v := (.bool ((decide (r4427 < 0))))) (congrArg Value.bool hb4416) rfl) ?_
              refine PW_v 18 rfl (by kernel_rfl) (by kernel_rfl) (by kernel_rfl) (.inl rfl) rfl (by decide) hSS (fun W hS => R_move (v := (.bool ((decide (r4427 < 0))))) rfl) ?_
              rcases bool_cases ((decide (r4427 < 0))) with hb4430 | hb4430
              · replace hm4389 := if_t hb4430 hm4389
                refine PW_v 19 rfl (by kernel_rfl) (by kernel_rfl) (by kernel_rfl) (.inr ⟨18, true, 32, rfl, rfl, by decide, (congrArg Value.bool hb4430)⟩) rfl (by decide) hSS (fun W hS => R_move (v := (.bool x4197)) e4322) ?_
                refine PW_v 20 rfl (by kernel_rfl) (by kernel_rfl) (by kernel_rfl) (.inr ⟨18, true, 32, rfl, rfl, by decide, (congrArg Value.bool hb4430)⟩) rfl (by decide) hSS (fun W hS => R_not (b := x4197) rfl) ?_
                refine PW_v 21 rfl (by kernel_rfl) (by kernel_rfl) (by kernel_rfl) (.inr ⟨18, true, 32, rfl, rfl, by decide, (congrArg Value.bool hb4430)⟩) rfl (by decide) hSS (fun W hS => R_move (v := (.bool ((!x4197)))) rfl) ?_
                rcases bool_cases ((!x4197)) with hb4431 | hb4431
                · replace hm4389 := if_t hb4431 hm4389
                  refine PW_no 22 rfl (by kernel_rfl) (by kernel_rfl) (by kernel_rfl) rfl rfl (by decide) (congrArg Value.bool hb4431) rfl (by decide) hSS ?_
                  refine PW_no 23 rfl (by kernel_rfl) (by kernel_rfl) (by kernel_rfl) rfl rfl (by decide) (congrArg Value.bool hb4431) rfl (by decide) hSS ?_
                  refine PW_no 24 rfl (by kernel_rfl) (by kernel_rfl) (by kernel_rfl) rfl rfl (by decide) (congrArg Value.bool hb4431) rfl (by decide) hSS ?_
                  refine PW_no 25 rfl (by kernel_rfl) (by kernel_rfl) (by kernel_rfl) rfl rfl (by decide) (congrArg Value.bool hb4431) rfl (by decide) hSS ?_
                  refine PW_v 26 rfl (by kernel_rfl) (by kernel_rfl) (by kernel_rfl) (.inr ⟨18, true, 32, rfl, rfl, by decide, (congrArg Value.bool hb4430)⟩) rfl (by decide) hSS (fun W hS => R_pickT (v := (.bool true)) (congrArg Value.bool hb4431) rfl) ?_
                  refine PW_v 27 rfl (by kernel_rfl) (by kernel_rfl) (by kernel_rfl) (.inl rfl) rfl (by decide) hSS (fun W hS => R_pickT (v := (.bool true)) (congrArg Value.bool hb4430) rfl) ?_
                  refine PW_done (by kernel_rfl) ?_
                  refine sq_n ?_
                  replace hm4389 := Option.some.inj hm4389; subst hm4389
                  exact ⟨true, _, (hST.sublist (List.Sublist.refl _)), e4319, e4320, e4321, e4322, rfl, e4323, eN, eI, rfl, hm4390⟩
                · replace hm4389 := if_f hb4431 hm4389
                  refine PW_v 22 rfl (by kernel_rfl) (by kernel_rfl) (by kernel_rfl) (.inr ⟨21, false, 35, rfl, rfl, by decide, (congrArg Value.bool hb4431)⟩) rfl (by decide) hSS (fun W hS => R_load (v := (.agg (encCred x4080).toArray)) rfl (load_boxA hS (.head _) (encCred x4080) rfl Tryz.isAgg83 Tryz.sizeOf83)) ?_
                  refine PW_v 23 rfl (by kernel_rfl) (by kernel_rfl) (by kernel_rfl) (.inr ⟨21, false, 35, rfl, rfl, by decide, (congrArg Value.bool hb4431)⟩) rfl (by decide) hSS (fun W hS => R_load (v := (.agg (encCred x4198).toArray)) e4321 (load_boxA hS (.tail _ (.head _)) (encCred x4198) rfl Tryz.isAgg83 Tryz.sizeOf83)) ?_
                  obtain ⟨r4432, hr4433, hm4389⟩ := bind_some hm4389
                  replace hST : ST NoF w _ _ ((b4327, Obj.cells ((encCred x4080).toArray : Array Value) 83 (0, 0)) :: ((b3701, Obj.cells ((encCred x4198).toArray : Array Value) 83 (0, 0)) :: (R2955 ++ L4317))) := hST
                  have hsz := hST.size
                  refine PW_e 24 rfl (by kernel_rfl) (.inr ⟨21, false, 35, rfl, rfl, by decide, (congrArg Value.bool hb4431)⟩) rfl (by decide) (E_gives (args := [(.agg (encCred x4080).toArray), (.agg (encCred x4198).toArray)]) hST rfl Tryz.call107 (by exact args2 rfl rfl) (w_ref05_Compare x4080 x4198 _ _  hr4433) (fun W4434 hST => ?_))
                  have hSS : (Has (hp w) ((b4327, Obj.cells ((encCred x4080).toArray : Array Value) 83 (0, 0)) :: ((b3701, Obj.cells ((encCred x4198).toArray : Array Value) 83 (0, 0)) :: (R2955 ++ []))) _) := ((show ST NoF w _ _ ((b4327, Obj.cells ((encCred x4080).toArray : Array Value) 83 (0, 0)) :: ((b3701, Obj.cells ((encCred x4198).toArray : Array Value) 83 (0, 0)) :: (R2955 ++ L4317))) from hST).has.sub (Sub.refl _) (fun p hq => ((List.mem_cons.1 hq).elim (fun hq => by rw [hq]; exact (.head _)) (fun hq => ((List.mem_cons.1 hq).elim (fun hq => by rw [hq]; exact (.tail _ (.head _))) (fun hq => ((List.mem_append.1 hq).elim (fun hq => (.tail _ (.tail _ (List.mem_append_left _ hq)))) (fun hq => (absurd hq List.not_mem_nil)))))))))
                  refine ⟨hSS, ?_⟩
                  refine PW_v 25 rfl (by kernel_rfl) (by kernel_rfl) (by kernel_rfl) (.inr ⟨21, false, 35, rfl, rfl, by decide, (congrArg Value.bool hb4431)⟩) rfl (by decide) hSS (fun W hS => R_int (k := .i64) (a := r4432) (b := 0) (v := (.bool ((decide (r4432 < 0))))) rfl rfl rfl) ?_
                  refine PW_v 26 rfl (by kernel_rfl) (by kernel_rfl) (by kernel_rfl) (.inr ⟨18, true, 32, rfl, rfl, by decide, (congrArg Value.bool hb4430)⟩) rfl (by decide) hSS (fun W hS => R_pickF (v := (.bool ((decide (r4432 < 0))))) (congrArg Value.bool hb4431) rfl) ?_
                  refine PW_v 27 rfl (by kernel_rfl) (by kernel_rfl) (by kernel_rfl) (.inl rfl) rfl (by decide) hSS (fun W hS => R_pickT (v := (.bool ((decide (r4432 < 0))))) (congrArg Value.bool hb4430) rfl) ?_
                  refine PW_done (by kernel_rfl) ?_
                  refine sq_n ?_
                  replace hm4389 := Option.some.inj hm4389; subst hm4389
                  exact ⟨((decide (r4432 < 0))), _, (hST.sublist (List.Sublist.refl _)), e4319, e4320, e4321, e4322, rfl, e4323, eN, eI, rfl, hm4390⟩
              · replace hm4389 := if_f hb4430 hm4389
                refine PW_no 19 rfl (by kernel_rfl) (by kernel_rfl) (by kernel_rfl) rfl rfl (by decide) (congrArg Value.bool hb4430) rfl (by decide) hSS ?_
                refine PW_no 20 rfl (by kernel_rfl) (by kernel_rfl) (by kernel_rfl) rfl rfl (by decide) (congrArg Value.bool hb4430) rfl (by decide) hSS ?_
                refine PW_no 21 rfl (by kernel_rfl) (by kernel_rfl) (by kernel_rfl) rfl rfl (by decide) (congrArg Value.bool hb4430) rfl (by decide) hSS ?_
                refine PW_nou 22 rfl (by kernel_rfl) (by kernel_rfl) (by kernel_rfl) rfl rfl (by decide) rfl rfl (by decide) hSS ?_
                refine PW_nou 23 rfl (by kernel_rfl) (by kernel_rfl) (by kernel_rfl) rfl rfl (by decide) rfl rfl (by decide) hSS ?_
                refine PW_nou 24 rfl (by kernel_rfl) (by kernel_rfl) (by kernel_rfl) rfl rfl (by decide) rfl rfl (by decide) hSS ?_
                refine PW_nou 25 rfl (by kernel_rfl) (by kernel_rfl) (by kernel_rfl) rfl rfl (by decide) rfl rfl (by decide) hSS ?_
                refine PW_no 26 rfl (by kernel_rfl) (by kernel_rfl) (by kernel_rfl) rfl rfl (by decide) (congrArg Value.bool hb4430) rfl (by decide) hSS ?_
                refine PW_v 27 rfl (by kernel_rfl) (by kernel_rfl) (by kernel_rfl) (.inl rfl) rfl (by decide) hSS (fun W hS => R_pickF (v := (.bool false)) (congrArg Value.bool hb4430) rfl) ?_
                refine PW_done (by kernel_rfl) ?_
                refine sq_n ?_
                replace hm4389 := Option.some.inj hm4389; subst hm4389
                exact ⟨false, _, (hST.sublist (List.Sublist.refl _)), e4319, e4320, e4321, e4322, rfl, e4323, eN, eI, rfl, hm4390⟩
          · replace hm4389 := if_f hb4416 hm4389
            refine PW_no 3 rfl (by kernel_rfl) (by kernel_rfl) (by kernel_rfl) rfl rfl (by decide) (congrArg Value.bool hb4416) rfl (by decide) hSS ?_
            refine PW_no 4 rfl (by kernel_rfl) (by kernel_rfl) (by kernel_rfl) rfl rfl (by decide) (congrArg Value.bool hb4416) rfl (by decide) hSS ?_
            refine PW_no 5 rfl (by kernel_rfl) (by kernel_rfl) (by kernel_rfl) rfl rfl (by decide) (congrArg Value.bool hb4416) rfl (by decide) hSS ?_
            refine PW_no 6 rfl (by kernel_rfl) (by kernel_rfl) (by kernel_rfl) rfl rfl (by decide) (congrArg Value.bool hb4416) rfl (by decide) hSS ?_
            refine PW_nou 7 rfl (by kernel_rfl) (by kernel_rfl) (by kernel_rfl) rfl rfl (by decide) rfl rfl (by decide) hSS ?_
            refine PW_nou 8 rfl (by kernel_rfl) (by kernel_rfl) (by kernel_rfl) rfl rfl (by decide) rfl rfl (by decide) hSS ?_
            refine PW_nou 9 rfl (by kernel_rfl) (by kernel_rfl) (by kernel_rfl) rfl rfl (by decide) rfl rfl (by decide) hSS ?_
            refine PW_nou 10 rfl (by kernel_rfl) (by kernel_rfl) (by kernel_rfl) rfl rfl (by decide) rfl rfl (by decide) hSS ?_
            refine PW_nou 11 rfl (by kernel_rfl) (by kernel_rfl) (by kernel_rfl) rfl rfl (by decide) rfl rfl (by decide) hSS ?_
            refine PW_nou 12 rfl (by kernel_rfl) (by kernel_rfl) (by kernel_rfl) rfl rfl (by decide) rfl rfl (by decide) hSS ?_
            refine PW_nou 13 rfl (by kernel_rfl) (by kernel_rfl) (by kernel_rfl) rfl rfl (by decide) rfl rfl (by decide) hSS ?_
            refine PW_nou 14 rfl (by kernel_rfl) (by kernel_rfl) (by kernel_rfl) rfl rfl (by decide) rfl rfl (by decide) hSS ?_
            refine PW_nou 15 rfl (by kernel_rfl) (by kernel_rfl) (by kernel_rfl) rfl rfl (by decide) rfl rfl (by decide) hSS ?_
            refine PW_no 16 rfl (by kernel_rfl) (by kernel_rfl) (by kernel_rfl) rfl rfl (by decide) (congrArg Value.bool hb4416) rfl (by decide) hSS ?_
            refine PW_v 17 rfl (by kernel_rfl) (by kernel_rfl) (by kernel_rfl) (.inl rfl) rfl (by decide) hSS (fun W hS => R_pickF (v := (.bool false)) (congrArg Value.bool hb4416) rfl) ?_
            refine PW_v 18 rfl (by kernel_rfl) (by kernel_rfl) (by kernel_rfl) (.inl rfl) rfl (by decide) hSS (fun W hS => R_move (v := (.bool false)) rfl) ?_
            refine PW_no 19 rfl (by kernel_rfl) (by kernel_rfl) (by kernel_rfl) rfl rfl (by decide) rfl rfl (by decide) hSS ?_
            refine PW_no 20 rfl (by kernel_rfl) (by kernel_rfl) (by kernel_rfl) rfl rfl (by decide) rfl rfl (by decide) hSS ?_
            refine PW_no 21 rfl (by kernel_rfl) (by kernel_rfl) (by kernel_rfl) rfl rfl (by decide) rfl rfl (by decide) hSS ?_
            refine PW_nou 22 rfl (by kernel_rfl) (by kernel_rfl) (by kernel_rfl) rfl rfl (by decide) rfl rfl (by decide) hSS ?_
            refine PW_nou 23 rfl (by kernel_rfl) (by kernel_rfl) (by kernel_rfl) rfl rfl (by decide) rfl rfl (by decide) hSS ?_
            refine PW_nou 24 rfl (by kernel_rfl) (by kernel_rfl) (by kernel_rfl) rfl rfl (by decide) rfl rfl (by decide) hSS ?_
            refine PW_nou 25 rfl (by kernel_rfl) (by kernel_rfl) (by kernel_rfl) rfl rfl (by decide) rfl rfl (by decide) hSS ?_
            refine PW_no 26 rfl (by kernel_rfl) (by kernel_rfl) (by kernel_rfl) rfl rfl (by decide) rfl rfl (by decide) hSS ?_
            refine PW_v 27 rfl (by kernel_rfl) (by kernel_rfl) (by kernel_rfl) (.inl rfl) rfl (by decide) hSS (fun W hS => R_pickF (v := (.bool false)) rfl rfl) ?_
            refine PW_done (by kernel_rfl) ?_
            refine sq_n ?_
            replace hm4389 := Option.some.inj hm4389; subst hm4389
            exact ⟨false, _, (hST.sublist (List.Sublist.refl _)), e4319, e4320, e4321, e4322, rfl, e4323, eN, eI, rfl, hm4390⟩
        · rintro E W ⟨x4374, L4375, hST, e4377, e4378, e4379, e4380, e4381, e4382, e4383, e4384, e4385, hm4376⟩
          refine CW_if (b := x4374) e4385 (fun hb4386 => ?_) (fun hb4386 => ?_)
          · replace hm4376 := if_t hb4386 hm4376
            refine CW_seq ?_
            refine CW_region ?_
            refine LW_v (.inl rfl) rfl (by decide) (R_load (v := (.agg (encCred x4080).toArray)) e4381 (load_boxA hST.has (.head _) (encCred x4080) rfl Tryz.isAgg83 Tryz.sizeOf83)) ?_
            refine LW_e0 (.inl rfl) rfl (E_store [_] (.agg (encCred x4080).toArray) ((encCred x4080).toArray) hST e4379 rfl Tryz.sizeOf83 (oneCred x4080) (Nat.le_of_ble_eq_true rfl) rfl (fun W4387 hST => ?_))
            refine LW_nil ?_
            refine sq_n ?_
            replace hST : ST NoF w _ _ ((b4327, Obj.cells ((encCred x4080).toArray : Array Value) 83 (0, 0)) :: ((b3701, Obj.cells ((encCred x4080).toArray : Array Value) 83 (0, 0)) :: (R2955 ++ L4375))) := hST
            replace hST : ST NoF w _ _ ((b3701, Obj.cells ((encCred x4080).toArray : Array Value) 83 (0, 0)) :: (R2955 ++ L4375)) := hST.sublist (List.Sublist.cons _ (List.Sublist.refl _))
            refine CW_region ?_
            refine LW_v (.inl rfl) rfl (by decide) (R_assign (v := (.bool true)) rfl) ?_
            refine LW_nil ?_
            refine bq_n ?_
            refine sq_n ?_
            exact ⟨e4384, true, x4080, _, ⟨rfl, e4383⟩, (hST.sublist (List.Sublist.refl _)), e4377, e4378, e4379, rfl, e4382, (by rw [hx4084]; exact hm4376)⟩
          · replace hm4376 := if_f hb4386 hm4376
            refine CW_skip ?_
            refine bq_n ?_
            refine sq_n ?_
            replace hST : ST NoF w _ _ ((b4327, Obj.cells ((encCred x4080).toArray : Array Value) 83 (0, 0)) :: ((b3701, Obj.cells ((encCred x4198).toArray : Array Value) 83 (0, 0)) :: (R2955 ++ L4375))) := hST
            replace hST : ST NoF w _ _ ((b3701, Obj.cells ((encCred x4198).toArray : Array Value) 83 (0, 0)) :: (R2955 ++ L4375)) := hST.sublist (List.Sublist.cons _ (List.Sublist.refl _))
            exact ⟨e4384, x4197, x4198, _, ⟨rfl, e4383⟩, (hST.sublist (List.Sublist.refl _)), e4377, e4378, e4379, e4380, e4382, (by rw [hx4084]; exact hm4376)⟩
      · rintro E W ⟨x4197, x4198, L4317, ⟨eI, eN⟩, hST, e4319, e4320, e4321, e4322, e4323, hm4318⟩
        rw [List.drop_length] at hm4318
        rw [m_ref05_Set_L2] at hm4318
        refine sq_n ?_
        replace hm4318 := Option.some.inj hm4318; subst hm4318
        exact ⟨x4197, x4198, _, (hST.sublist (List.Sublist.refl _)), e4319, e4320, e4321, e4322, hm4078⟩
    · rintro E W ⟨x4059, x4060, L4061, hST, e4063, e4064, e4065, e4066, hm4062⟩
      refine CW_seq ?_
      refine CW_seq ?_
      refine CW_region ?_
      refine LW_v (.inl rfl) rfl (by decide) (R_move (v := (.bool x4059)) e4066) ?_
      refine LW_v (.inl rfl) rfl (by decide) (R_not (b := x4059) rfl) ?_
      refine LW_nil ?_
      refine sq_n ?_
      refine CW_if (b := (!x4059)) rfl (fun hb4067 => ?_) (fun hb4067 => ?_)
      · replace hm4062 := if_t hb4067 hm4062
        refine CW_seq ?_
        refine CW_region ?_
        refine LW_v (.inl rfl) rfl (by decide) (R_move (v := v2952) e4064) ?_
        refine LW_v (.inl rfl) rfl (by decide) (R_assign (v := v2952) rfl) ?_
        refine LW_nil ?_
        refine sq_n ?_
        replace hST : ST NoF w _ _ ((b3701, Obj.cells ((encCred x4060).toArray : Array Value) 83 (0, 0)) :: (R2955 ++ L4061)) := hST
        replace hST : ST NoF w _ _ (R2955 ++ L4061) := hST.sublist (List.Sublist.cons _ (List.Sublist.refl _))
        refine CW_ret ?_
        refine sq_r (bq_r (sq_r (bq_r (sq_r ?_))))
        replace hm4062 := Option.some.inj hm4062; subst hm4062
        refine retQ_1 (v := v2952) rfl rfl ?_
        exact ⟨_, R2955, rfl, hST.backRow (fun p hq => by simp [hq]) hs2954.nd, hs2954⟩
      · replace hm4062 := if_f hb4067 hm4062
        refine CW_skip ?_
        refine sq_n ?_
        refine CW_region ?_
        refine LW_v (.inl rfl) rfl (by decide) (R_move (v := v2952) e4064) ?_
        refine LW_v (.inl rfl) rfl (by decide) (R_load (v := (.agg (encCred x4060).toArray)) e4065 (load_boxA hST.has (.head _) (encCred x4060) rfl Tryz.isAgg83 Tryz.sizeOf83)) ?_
        refine LW_e (.inl rfl) rfl (by decide) (E_buildSlice (qs := #[(0, (.agg (encCred x4060).toArray))]) (cs := (encCred x4060).toArray) hST (parts1 rfl) (run_lit [(.agg (encCred x4060).toArray)] Tryz.underlying22 Tryz.sizeOf83 Tryz.zeroValue83 (by decide) rfl (by intro v hv; simp only [List.mem_cons, List.not_mem_nil, or_false] at hv; rcases hv with rfl <;> rfl) rfl rfl) (fun W4069 b4068 hST => ?_))
        obtain ⟨l4070, hb4071, hm4062⟩ := bind_some hm4062
        refine LW_e (.inl rfl) rfl (by decide) (E_append (enc := encCred) (v := v2952) (vs := (.slice (some ⟨b4068, 0, none⟩) 1 1)) (R := R2955) [_, _] hST lenCred (by decide) oneCred Tryz.underlying22 info83.1 info83.2.1 rfl info83.2.2.1 info83.2.2.2 rfl rfl hs2954 (Sl.lit (enc := encCred) (l := [x4060]) lenCred rfl (Nat.le_of_ble_eq_true rfl) rfl (hST.at_ (.head _))) hb4071 (fun W4072 v4075 R4073 hST hR4074 => ?_))
        refine LW_v (.inl rfl) rfl (by decide) (R_assign (v := v4075) rfl) ?_
        refine LW_nil ?_
        refine bq_n ?_
        refine sq_n ?_
        replace hST : ST NoF w _ _ ((b4068, Obj.cells ((encCred x4060).toArray : Array Value) 83 (0, 0)) :: ((b3701, Obj.cells ((encCred x4060).toArray : Array Value) 83 (0, 0)) :: (R4073 ++ L4061))) := hST
        replace hST : ST NoF w _ _ (R4073 ++ L4061) := hST.sublist (List.Sublist.cons _ (List.Sublist.cons _ (List.Sublist.refl _)))
        exact ⟨n3698, Nat.lt_succ_self _, v4075, l4070, R4073, _, (hST.sublist (List.Sublist.refl _)), e4063, rfl, hR4074, hm4062⟩

theorem w_ref04_Set (v_a0 : Value) (a0 : List Role) (r : List Role) (w : World) (h_a0 : Sl (Pl encRole) 2 (hp w) v_a0 a0) (hm : m_ref04_Set a0 = some r) :
    GivesRow Tryz.prog 72 [v_a0] w 47 encRole 2 r := by
  have hST := ST.start w
  unfold m_ref04_Set at hm
  refine calls_of_CW (n := 49) Tryz.func72 rfl rfl (Nat.le_of_ble_eq_true rfl) ?_
  refine CW_seq ?_
  refine CW_region ?_
  refine LW_v (.inl rfl) rfl (by decide) (R_assign (v := (.slice none 0 0)) rfl) ?_
  refine LW_nil ?_
  refine sq_n ?_
  refine CW_seq ?_
  refine CW_region ?_
  refine LW_v (.inl rfl) rfl (by decide) (R_assign (v := (.slice none 0 0)) rfl) ?_
  refine LW_nil ?_
  refine sq_n ?_
  refine CW_tail ?_
  refine CW_block (CW_loop (fun m E W => ∃ (v2952 : Value) (l2953 : List Role) (R2955 : List (Nat × Obj)) (L3696 : List (Nat × Obj)), ST NoF w W (hp w) (R2955 ++ L3696) ∧ E 0 = v_a0 ∧ E 3 = v2952 ∧ Row 47 encRole 2 v2952 l2953 R2955 ∧ m_ref04_Set_L1 a0 m l2953 = some r) FUEL ⟨(.slice none 0 0), ([]), [], _, (hST.sublist (List.Sublist.refl _)), rfl, rfl, (Row.nil _ _ _), hm⟩ ?_)
  rintro m E W ⟨v2952, l2953, R2955, L3696, hST, e3699, e3700, hs2954, hm3697⟩
  cases m with
  | zero => rw [m_ref04_Set_L1] at hm3697; cases hm3697
  | succ n3698 =>
    rw [m_ref04_Set_L1] at hm3697
    refine CW_block ?_
    refine CW_seq ?_
    refine CW_region ?_
    refine LW_e (.inl rfl) rfl (by decide) (E_alloc hST Tryz.zeroValue47 (fun W3702 b3701 hST => ?_))
    refine LW_nil ?_
    refine sq_n ?_
    refine CW_seq ?_
    refine CW_region ?_
    refine LW_v (.inl rfl) rfl (by decide) (R_assign (v := (.bool false)) rfl) ?_
    refine LW_nil ?_
    refine sq_n ?_
    refine CW_seq ?_
    refine CW_seq ?_
    refine CW_region ?_
    refine LW_v (.inl rfl) rfl (by decide) (R_move (v := v_a0) e3699) ?_
    refine LW_v (.inl rfl) rfl (by decide) (R_len Tryz.underlying23 rfl h_a0) ?_
    refine LW_v (.inl rfl) rfl (by decide) (R_move (v := (.int .i64 0)) rfl) ?_
    refine LW_nil ?_
    refine sq_n ?_
    obtain ⟨s4076, hm4077, hm4078⟩ := bind_some hm3697
    refine CW_cut (fun E W => ∃ (x4059 : Bool) (x4060 : Role) (L4061 : List (Nat × Obj)), ST NoF w W (hp w) ((b3701, Obj.cells ((encRole x4060).toArray : Array Value) 47 (0, 0)) :: (R2955 ++ L4061)) ∧ E 0 = v_a0 ∧ E 3 = v2952 ∧ E 4 = (.pointer (some ⟨b3701, 0, none⟩)) ∧ E 5 = (.bool x4059) ∧ (if (!x4059) then some l2953 else (((appB 32 l2953 ([x4060]))).bind fun l4070 => (m_ref04_Set_L1 a0 n3698 l4070))) = some r) ?_ ?_
    · refine CW_range (fun i E W => ∃ (x4197 : Bool) (x4198 : Role) (L4317 : List (Nat × Obj)), (E 10 = .int .i64 (i : Nat) ∧ E 9 = .int .i64 (a0.length : Nat)) ∧ ST NoF w W (hp w) ((b3701, Obj.cells ((encRole x4198).toArray : Array Value) 47 (0, 0)) :: (R2955 ++ L4317)) ∧ E 0 = v_a0 ∧ E 3 = v2952 ∧ E 4 = (.pointer (some ⟨b3701, 0, none⟩)) ∧ E 5 = (.bool x4197) ∧ E 8 = v_a0 ∧ m_ref04_Set_L2 l2953 (a0.drop i) x4197 x4198 = some s4076) a0.length h_a0.len ⟨false, ((⟨zS, zS⟩ : Role)), _, ⟨rfl, rfl⟩, (hST.sublist (List.Sublist.refl _)), e3699, e3700, rfl, rfl, rfl, hm4077⟩ (by decide) (by decide) (by decide) (fun _ _ _ h => by obtain ⟨_, _, _, eIN, _⟩ := h; exact eIN) ?_ ?_
      · rintro i4079 E W hi4085 ⟨x4197, x4198, L4317, ⟨eI, eN⟩, hST, e4319, e4320, e4321, e4322, e4323, hm4318⟩
        obtain ⟨x4080, xs4081, hx4083, hx4082, hx4084⟩ := drop_cons hi4085
        rw [hx4083] at hm4318
        rw [m_ref04_Set_L2] at hm4318
        refine CW_block ?_
        refine CW_seq ?_
        refine CW_region ?_
        refine LW_q (.inl rfl) rfl (by decide) (R_indexP (enc := encRole) (i := (i4079 : Int)) (x0 := x4080) Tryz.underlying23 Tryz.sizeOf47 e4323 eI h_a0 (Int.natCast_nonneg _) hx4082) (fun p4324 hp4325 => ?_)
        refine LW_v (.inl rfl) rfl (by decide) (R_load rfl (load_atA hST.has hp4325 Tryz.isAgg47 Tryz.sizeOf47)) ?_
        refine LW_e (.inl rfl) rfl (by decide) (E_alloc hST Tryz.zeroValue47 (fun W4328 b4327 hST => ?_))
        refine LW_e0 (.inl rfl) rfl (E_store [] (.agg (encRole x4080).toArray) ((encRole x4080).toArray) hST rfl rfl Tryz.sizeOf47 (oneRole x4080) (Nat.le_of_ble_eq_true rfl) rfl (fun W4329 hST => ?_))
        refine LW_nil ?_
        refine sq_n ?_
        refine CW_seq ?_
        obtain ⟨s4388, hm4389, hm4390⟩ := bind_some hm4318
        refine CW_cut (fun E W => ∃ (x4374 : Bool) (L4375 : List (Nat × Obj)), ST NoF w W (hp w) ((b4327, Obj.cells ((encRole x4080).toArray : Array Value) 47 (0, 0)) :: ((b3701, Obj.cells ((encRole x4198).toArray : Array Value) 47 (0, 0)) :: (R2955 ++ L4375))) ∧ E 0 = v_a0 ∧ E 3 = v2952 ∧ E 4 = (.pointer (some ⟨b3701, 0, none⟩)) ∧ E 5 = (.bool x4197) ∧ E 7 = (.pointer (some ⟨b4327, 0, none⟩)) ∧ E 8 = v_a0 ∧ E 9 = (.int .i64 ((a0.length : Int))) ∧ E 10 = (.int .i64 ((i4079 : Int))) ∧ E 39 = (.bool x4374) ∧ (if x4374 then (m_ref04_Set_L2 l2953 xs4081 true x4080) else (m_ref04_Set_L2 l2953 xs4081 x4197 x4198)) = some s4076) ?_ ?_
        · refine PW_start (Has (hp w) ((b4327, Obj.cells ((encRole x4080).toArray : Array Value) 47 (0, 0)) :: ((b3701, Obj.cells ((encRole x4198).toArray : Array Value) 47 (0, 0)) :: (R2955 ++ [])))) Tryz_mixed ?_
          replace hST := hST.drew
          have hSS : (Has (hp w) ((b4327, Obj.cells ((encRole x4080).toArray : Array Value) 47 (0, 0)) :: ((b3701, Obj.cells ((encRole x4198).toArray : Array Value) 47 (0, 0)) :: (R2955 ++ []))) _) := ((show ST NoF w _ _ ((b4327, Obj.cells ((encRole x4080).toArray : Array Value) 47 (0, 0)) :: ((b3701, Obj.cells ((encRole x4198).toArray : Array Value) 47 (0, 0)) :: (R2955 ++ L4317))) from hST).has.sub (Sub.refl _) (fun p hq => ((List.mem_cons.1 hq).elim (fun hq => by rw [hq]; exact (.head _)) (fun hq => ((List.mem_cons.1 hq).elim (fun hq => by rw [hq]; exact (.tail _ (.head _))) (fun hq => ((List.mem_append.1 hq).elim (fun hq => (.tail _ (.tail _ (List.mem_append_left _ hq)))) (fun hq => (absurd hq List.not_mem_nil)))))))))
          refine PW_v 0 rfl (by kernel_rfl) (by kernel_rfl) (by kernel_rfl) (.inl rfl) rfl (by decide) hSS (fun W hS => R_load (v := (.agg (encRole x4080).toArray)) rfl (load_boxA hS (.head _) (encRole x4080) rfl Tryz.isAgg47 Tryz.sizeOf47)) ?_
          obtain ⟨r4413, hr4414, hm4389⟩ := bind_some hm4389
          replace hST : ST NoF w _ _ ((b4327, Obj.cells ((encRole x4080).toArray : Array Value) 47 (0, 0)) :: ((b3701, Obj.cells ((encRole x4198).toArray : Array Value) 47 (0, 0)) :: (R2955 ++ L4317))) := hST
          have hsz := hST.size
          refine PW_e 1 rfl (by kernel_rfl) (.inl rfl) rfl (by decide) (E_gives (args := [(.agg (encRole x4080).toArray)]) hST rfl Tryz.call51 (by exact args1 rfl) (w_ref04_Right x4080 _ _  hr4414) (fun W4415 hST => ?_))
          have hSS : (Has (hp w) ((b4327, Obj.cells ((encRole x4080).toArray : Array Value) 47 (0, 0)) :: ((b3701, Obj.cells ((encRole x4198).toArray : Array Value) 47 (0, 0)) :: (R2955 ++ []))) _) := ((show ST NoF w _ _ ((b4327, Obj.cells ((encRole x4080).toArray : Array Value) 47 (0, 0)) :: ((b3701, Obj.cells ((encRole x4198).toArray : Array Value) 47 (0, 0)) :: (R2955 ++ L4317))) from hST).has.sub (Sub.refl _) (fun p hq => ((List.mem_cons.1 hq).elim (fun hq => by rw [hq]; exact (.head _)) (fun hq => ((List.mem_cons.1 hq).elim (fun hq => by rw [hq]; exact (.tail _ (.head _))) (fun hq => ((List.mem_append.1 hq).elim (fun hq => (.tail _ (.tail _ (List.mem_append_left _ hq)))) (fun hq => (absurd hq List.not_mem_nil)))))))))
          refine ⟨hSS, ?_⟩
          refine PW_v 2 rfl (by kernel_rfl) (by kernel_rfl) (by kernel_rfl) (.inl rfl) rfl (by decide) hSS (fun W hS => R_move (v := (.bool r4413)) rfl) ?_
          rcases bool_cases r4413 with hb4416 | hb4416
          · replace hm4389 := if_t hb4416 hm4389
            refine PW_v 3 rfl (by kernel_rfl) (by kernel_rfl) (by kernel_rfl) (.inr ⟨2, true, 16, rfl, rfl, by decide, (congrArg Value.bool hb4416)⟩) rfl (by decide) hSS (fun W hS => R_move (v := v2952) e4320) ?_
            refine PW_v 4 rfl (by kernel_rfl) (by kernel_rfl) (by kernel_rfl) (.inr ⟨2, true, 16, rfl, rfl, by decide, (congrArg Value.bool hb4416)⟩) rfl (by decide) hSS (fun W hS => R_lenRow Tryz.underlying23 rfl hs2954) ?_
            refine PW_v 5 rfl (by kernel_rfl) (by kernel_rfl) (by kernel_rfl) (.inr ⟨2, true, 16, rfl, rfl, by decide, (congrArg Value.bool hb4416)⟩) rfl (by decide) hSS (fun W hS => R_int (k := .i64) (a := ((l2953.length : Int))) (b := 0) (v := (.bool ((((l2953.length : Int)) == 0)))) rfl rfl rfl) ?_
            refine PW_v 6 rfl (by kernel_rfl) (by kernel_rfl) (by kernel_rfl) (.inr ⟨2, true, 16, rfl, rfl, by decide, (congrArg Value.bool hb4416)⟩) rfl (by decide) hSS (fun W hS => R_move (v := (.bool ((((l2953.length : Int)) == 0)))) rfl) ?_
            rcases bool_cases ((((l2953.length : Int)) == 0)) with hb4417 | hb4417
            · replace hm4389 := if_t hb4417 hm4389
              refine PW_no 7 rfl (by kernel_rfl) (by kernel_rfl) (by kernel_rfl) rfl rfl (by decide) (congrArg Value.bool hb4417) rfl (by decide) hSS ?_
              refine PW_no 8 rfl (by kernel_rfl) (by kernel_rfl) (by kernel_rfl) rfl rfl (by decide) (congrArg Value.bool hb4417) rfl (by decide) hSS ?_
              refine PW_no 9 rfl (by kernel_rfl) (by kernel_rfl) (by kernel_rfl) rfl rfl (by decide) (congrArg Value.bool hb4417) rfl (by decide) hSS ?_
              refine PW_no 10 rfl (by kernel_rfl) (by kernel_rfl) (by kernel_rfl) rfl rfl (by decide) (congrArg Value.bool hb4417) rfl (by decide) hSS ?_
              refine PW_no 11 rfl (by kernel_rfl) (by kernel_rfl) (by kernel_rfl) rfl rfl (by decide) (congrArg Value.bool hb4417) rfl (by decide) hSS ?_
              refine PW_no 12 rfl (by kernel_rfl) (by kernel_rfl) (by kernel_rfl) rfl rfl (by decide) (congrArg Value.bool hb4417) rfl (by decide) hSS ?_
              refine PW_no 13 rfl (by kernel_rfl) (by kernel_rfl) (by kernel_rfl) rfl rfl (by decide) (congrArg Value.bool hb4417) rfl (by decide) hSS ?_
              refine PW_no 14 rfl (by kernel_rfl) (by kernel_rfl) (by kernel_rfl) rfl rfl (by decide) (congrArg Value.bool hb4417) rfl (by decide) hSS ?_
              refine PW_v 15 rfl (by kernel_rfl) (by kernel_rfl) (by kernel_rfl) (.inr ⟨2, true, 16, rfl, rfl, by decide, (congrArg Value.bool hb4416)⟩) rfl (by decide) hSS (fun W hS => R_pickT (v := (.bool true)) (congrArg Value.bool hb4417) rfl) ?_
              refine PW_v 16 rfl (by kernel_rfl) (by kernel_rfl) (by kernel_rfl) (.inl rfl) rfl (by decide) hSS (fun W hS => R_pickT (v := (.bool true)) (congrArg Value.bool hb4416) rfl) ?_
              refine PW_v 17 rfl (by kernel_rfl) (by kernel_rfl) (by kernel_rfl) (.inl rfl) rfl (by decide) hSS (fun W hS => R_move (v := (.bool true)) rfl) ?_
              refine PW_v 18 rfl (by kernel_rfl) (by kernel_rfl) (by kernel_rfl) (.inr ⟨17, true, 31, rfl, rfl, by decide, rfl⟩) rfl (by decide) hSS (fun W hS => R_move (v := (.bool x4197)) e4322) ?_
              refine PW_v 19 rfl (by kernel_rfl) (by kernel_rfl) (by kernel_rfl) (.inr ⟨17, true, 31, rfl, rfl, by decide, rfl⟩) rfl (by decide) hSS (fun W hS => R_not (b := x4197) rfl) ?_
              refine PW_v 20 rfl (by kernel_rfl) (by kernel_rfl) (by kernel_rfl) (.inr ⟨17, true, 31, rfl, rfl, by decide, rfl⟩) rfl (by decide) hSS (fun W hS => R_move (v := (.bool ((!x4197)))) rfl) ?_
              rcases bool_cases ((!x4197)) with hb4418 | hb4418
              · replace hm4389 := if_t hb4418 hm4389
                refine PW_no 21 rfl (by kernel_rfl) (by kernel_rfl) (by kernel_rfl) rfl rfl (by decide) (congrArg Value.bool hb4418) rfl (by decide) hSS ?_
                refine PW_no 22 rfl (by kernel_rfl) (by kernel_rfl) (by kernel_rfl) rfl rfl (by decide) (congrArg Value.bool hb4418) rfl (by decide) hSS ?_
                refine PW_no 23 rfl (by kernel_rfl) (by kernel_rfl) (by kernel_rfl) rfl rfl (by decide) (congrArg Value.bool hb4418) rfl (by decide) hSS ?_
                refine PW_v 24 rfl (by kernel_rfl) (by kernel_rfl) (by kernel_rfl) (.inr ⟨17, true, 31, rfl, rfl, by decide, rfl⟩) rfl (by decide) hSS (fun W hS => R_pickT (v := (.bool true)) (congrArg Value.bool hb4418) rfl) ?_
                refine PW_v 25 rfl (by kernel_rfl) (by kernel_rfl) (by kernel_rfl) (.inl rfl) rfl (by decide) hSS (fun W hS => R_pickT (v := (.bool true)) rfl rfl) ?_
                refine PW_done (by kernel_rfl) ?_
                refine sq_n ?_
                replace hm4389 := Option.some.inj hm4389; subst hm4389
                exact ⟨true, _, (hST.sublist (List.Sublist.refl _)), e4319, e4320, e4321, e4322, rfl, e4323, eN, eI, rfl, hm4390⟩
              · replace hm4389 := if_f hb4418 hm4389
                refine PW_v 21 rfl (by kernel_rfl) (by kernel_rfl) (by kernel_rfl) (.inr ⟨20, false, 34, rfl, rfl, by decide, (congrArg Value.bool hb4418)⟩) rfl (by decide) hSS (fun W hS => R_load (v := (.agg (encRole x4080).toArray)) rfl (load_boxA hS (.head _) (encRole x4080) rfl Tryz.isAgg47 Tryz.sizeOf47)) ?_
                refine PW_v 22 rfl (by kernel_rfl) (by kernel_rfl) (by kernel_rfl) (.inr ⟨20, false, 34, rfl, rfl, by decide, (congrArg Value.bool hb4418)⟩) rfl (by decide) hSS (fun W hS => R_load (v := (.agg (encRole x4198).toArray)) e4321 (load_boxA hS (.tail _ (.head _)) (encRole x4198) rfl Tryz.isAgg47 Tryz.sizeOf47)) ?_
                obtain ⟨r4419, hr4420, hm4389⟩ := bind_some hm4389
                replace hST : ST NoF w _ _ ((b4327, Obj.cells ((encRole x4080).toArray : Array Value) 47 (0, 0)) :: ((b3701, Obj.cells ((encRole x4198).toArray : Array Value) 47 (0, 0)) :: (R2955 ++ L4317))) := hST
                have hsz := hST.size
                refine PW_e 23 rfl (by kernel_rfl) (.inr ⟨20, false, 34, rfl, rfl, by decide, (congrArg Value.bool hb4418)⟩) rfl (by decide) (E_gives (args := [(.agg (encRole x4080).toArray), (.agg (encRole x4198).toArray)]) hST rfl Tryz.call123 (by exact args2 rfl rfl) (w_ref04_Less x4080 x4198 _ _  hr4420) (fun W4421 hST => ?_))
                have hSS : (Has (hp w) ((b4327, Obj.cells ((encRole x4080).toArray : Array Value) 47 (0, 0)) :: ((b3701, Obj.cells ((encRole x4198).toArray : Array Value) 47 (0, 0)) :: (R2955 ++ []))) _) := ((show ST NoF w _ _ ((b4327, Obj.cells ((encRole x4080).toArray : Array Value) 47 (0, 0)) :: ((b3701, Obj.cells ((encRole x4198).toArray : Array Value) 47 (0, 0)) :: (R2955 ++ L4317))) from hST).has.sub (Sub.refl _) (fun p hq => ((List.mem_cons.1 hq).elim (fun hq => by rw [hq]; exact (.head _)) (fun hq => ((List.mem_cons.1 hq).elim (fun hq => by rw [hq]; exact (.tail _ (.head _))) (fun hq => ((List.mem_append.1 hq).elim (fun hq => (.tail _ (.tail _ (List.mem_append_left _ hq)))) (fun hq => (absurd hq List.not_mem_nil)))))))))
                refine ⟨hSS, ?_⟩
                refine PW_v 24 rfl (by kernel_rfl) (by kernel_rfl) (by kernel_rfl) (.inr ⟨17, true, 31, rfl, rfl, by decide, rfl⟩) rfl (by decide) hSS (fun W hS => R_pickF (v := (.bool r4419)) (congrArg Value.bool hb4418) rfl) ?_
                refine PW_v 25 rfl (by kernel_rfl) (by kernel_rfl) (by kernel_rfl) (.inl rfl) rfl (by decide) hSS (fun W hS => R_pickT (v := (.bool r4419)) rfl rfl) ?_
                refine PW_done (by kernel_rfl) ?_
                refine sq_n ?_
                replace hm4389 := Option.some.inj hm4389; subst hm4389
                exact ⟨r4419, _, (hST.sublist (List.Sublist.refl _)), e4319, e4320, e4321, e4322, rfl, e4323, eN, eI, rfl, hm4390⟩
            · replace hm4389 := if_f hb4417 hm4389
              refine PW_v 7 rfl (by kernel_rfl) (by kernel_rfl) (by kernel_rfl) (.inr ⟨6, false, 20, rfl, rfl, by decide, (congrArg Value.bool hb4417)⟩) rfl (by decide) hSS (fun W hS => R_move (v := v2952) e4320) ?_
              refine PW_v 8 rfl (by kernel_rfl) (by kernel_rfl) (by kernel_rfl) (.inr ⟨6, false, 20, rfl, rfl, by decide, (congrArg Value.bool hb4417)⟩) rfl (by decide) hSS (fun W hS => R_move (v := v2952) e4320) ?_
              refine PW_v 9 rfl (by kernel_rfl) (by kernel_rfl) (by kernel_rfl) (.inr ⟨6, false, 20, rfl, rfl, by decide, (congrArg Value.bool hb4417)⟩) rfl (by decide) hSS (fun W hS => R_lenRow Tryz.underlying23 rfl hs2954) ?_
              refine PW_v 10 rfl (by kernel_rfl) (by kernel_rfl) (by kernel_rfl) (.inr ⟨6, false, 20, rfl, rfl, by decide, (congrArg Value.bool hb4417)⟩) rfl (by decide) hSS (fun W hS => R_int (k := .i64) (a := ((l2953.length : Int))) (b := 1) (v := (.int .i64 ((IntKind.i64.wrap (((l2953.length : Int)) - 1))))) rfl rfl rfl) ?_
              obtain ⟨x4425, hx4426, hm4389⟩ := bind_some hm4389
              refine PW_q 11 rfl (by kernel_rfl) (by kernel_rfl) (by kernel_rfl) (.inr ⟨6, false, 20, rfl, rfl, by decide, (congrArg Value.bool hb4417)⟩) rfl (by decide) hSS (R_indexRow (i := (IntKind.i64.wrap (((l2953.length : Int)) - 1))) (x0 := x4425) Tryz.underlying23 Tryz.sizeOf47 rfl rfl hs2954 (idx_nonneg hx4426) (idx_get hx4426)) (fun p4422 hp4423 => ?_)
              refine PW_v 12 rfl (by kernel_rfl) (by kernel_rfl) (by kernel_rfl) (.inr ⟨6, false, 20, rfl, rfl, by decide, (congrArg Value.bool hb4417)⟩) rfl (by decide) hSS (fun W hS => R_load (v := (.agg (encRole x4425).toArray)) rfl (load_ixA hS (fun p hq => by simp [hq]) hs2954 lenRole hp4423 (idx_get hx4426) Tryz.isAgg47 Tryz.sizeOf47)) ?_
              refine PW_v 13 rfl (by kernel_rfl) (by kernel_rfl) (by kernel_rfl) (.inr ⟨6, false, 20, rfl, rfl, by decide, (congrArg Value.bool hb4417)⟩) rfl (by decide) hSS (fun W hS => R_load (v := (.agg (encRole x4080).toArray)) rfl (load_boxA hS (.head _) (encRole x4080) rfl Tryz.isAgg47 Tryz.sizeOf47)) ?_
              obtain ⟨r4427, hr4428, hm4389⟩ := bind_some hm4389
              replace hST : ST NoF w _ _ ((b4327, Obj.cells ((encRole x4080).toArray : Array Value) 47 (0, 0)) :: ((b3701, Obj.cells ((encRole x4198).toArray : Array Value) 47 (0, 0)) :: (R2955 ++ L4317))) := hST
              have hsz := hST.size
              refine PW_e 14 rfl (by kernel_rfl) (.inr ⟨6, false, 20, rfl, rfl, by decide, (congrArg Value.bool hb4417)⟩) rfl (by decide) (E_gives (args := [(.agg (encRole x4425).toArray), (.agg (encRole x4080).toArray)]) hST rfl Tryz.call123 (by exact args2 rfl rfl) (w_ref04_Less x4425 x4080 _ _  hr4428) (fun W4429 hST => ?_))
              have hSS : (Has (hp w) ((b4327, Obj.cells ((encRole x4080).toArray : Array Value) 47 (0, 0)) :: ((b3701, Obj.cells ((encRole x4198).toArray : Array Value) 47 (0, 0)) :: (R2955 ++ []))) _) := ((show ST NoF w _ _ ((b4327, Obj.cells ((encRole x4080).toArray : Array Value) 47 (0, 0)) :: ((b3701, Obj.cells ((encRole x4198).toArray : Array Value) 47 (0, 0)) :: (R2955 ++ L4317))) from hST).has.sub (Sub.refl _) (fun p hq => ((List.mem_cons.1 hq).elim (fun hq => by rw [hq]; exact (.head _)) (fun hq => ((List.mem_cons.1 hq).elim (fun hq => by rw [hq]; exact (.tail _ (.head _))) (fun hq => ((List.mem_append.1 hq).elim (fun hq => (.tail _ (.tail _ (List.mem_append_left _ hq)))) (fun hq => (absurd hq List.not_mem_nil)))))))))
              refine ⟨hSS, ?_⟩
              refine PW_v 15 rfl (by kernel_rfl) (by kernel_rfl) (by kernel_rfl) (.inr ⟨2, true, 16, rfl, rfl, by decide, (congrArg Value.bool hb4416)⟩) rfl (by decide) hSS (fun W hS => R_pickF (v := (.bool r4427)) (congrArg Value.bool hb4417) rfl) ?_
              refine PW_v 16 rfl (by kernel_rfl) (by kernel_rfl) (by kernel_rfl) (.inl rfl) rfl (by decide) hSS (fun W hS => R_pickT (v := (.bool r4427)) (congrArg Value.bool hb4416) rfl) ?_
              refine PW_v 17 rfl (by kernel_rfl) (by kernel_rfl) (by kernel_rfl) (.inl rfl) rfl (by decide) hSS (fun W hS => R_move (v := (.bool r4427)) rfl) ?_
              rcases bool_cases r4427 with hb4430 | hb4430
              · replace hm4389 := if_t hb4430 hm4389
                refine PW_v 18 rfl (by kernel_rfl) (by kernel_rfl) (by kernel_rfl) (.inr ⟨17, true, 31, rfl, rfl, by decide, (congrArg Value.bool hb4430)⟩) rfl (by decide) hSS (fun W hS => R_move (v := (.bool x4197)) e4322) ?_
                refine PW_v 19 rfl (by kernel_rfl) (by kernel_rfl) (by kernel_rfl) (.inr ⟨17, true, 31, rfl, rfl, by decide, (congrArg Value.bool hb4430)⟩) rfl (by decide) hSS (fun W hS => R_not (b := x4197) rfl) ?_
                refine PW_v 20 rfl (by kernel_rfl) (by kernel_rfl) (by kernel_rfl) (.inr ⟨17, true, 31, rfl, rfl, by decide, (congrArg Value.bool hb4430)⟩) rfl (by decide) hSS (fun W hS => R_move (v := (.bool ((!x4197)))) rfl) ?_
                rcases bool_cases ((!x4197)) with hb4431 | hb4431
                · replace hm4389 := if_t hb4431 hm4389
                  refine PW_no 21 rfl (by kernel_rfl) (by kernel_rfl) (by kernel_rfl) rfl rfl (by decide) (congrArg Value.bool hb4431) rfl (by decide) hSS ?_
                  refine PW_no 22 rfl (by kernel_rfl) (by kernel_rfl) (by kernel_rfl) rfl rfl (by decide) (congrArg Value.bool hb4431) rfl (by decide) hSS ?_
                  refine PW_no 23 rfl (by kernel_rfl) (by kernel_rfl) (by kernel_rfl) rfl rfl (by decide) (congrArg Value.bool hb4431) rfl (by decide) hSS ?_
                  refine PW_v 24 rfl (by kernel_rfl) (by kernel_rfl) (by kernel_rfl) (.inr ⟨17, true, 31, rfl, rfl, by decide, (congrArg Value.bool hb4430)⟩) rfl (by decide) hSS (fun W hS => R_pickT (v := (.bool true)) (congrArg Value.bool hb4431) rfl) ?_
                  refine PW_v 25 rfl (by kernel_rfl) (by kernel_rfl) (by kernel_rfl) (.inl rfl) rfl (by decide) hSS (fun W hS => R_pickT (v := (.bool true)) (congrArg Value.bool hb4430) rfl) ?_
                  refine PW_done (by kernel_rfl) ?_
                  refine sq_n ?_
                  replace hm4389 := Option.some.inj hm4389; subst hm4389
                  exact ⟨true, _, (hST.sublist (List.Sublist.refl _)), e4319, e4320, e4321, e4322, rfl, e4323, eN, eI, rfl, hm4390⟩
                · replace hm4389 := if_f hb4431 hm4389
                  refine PW_v 21 rfl (by kernel_rfl) (by kernel_rfl) (by kernel_rfl) (.inr ⟨20, false, 34, rfl, rfl, by decide, (congrArg Value.bool hb4431)⟩) rfl (by decide) hSS (fun W hS => R_load (v := (.agg (encRole x4080).toArray)) rfl (load_boxA hS (.head _) (encRole x4080) rfl Tryz.isAgg47 Tryz.sizeOf47)) ?_
                  refine PW_v 22 rfl (by kernel_rfl) (by kernel_rfl) (by kernel_rfl) (.inr ⟨20, false, 34, rfl, rfl, by decide, (congrArg Value.bool hb4431)⟩) rfl (by decide) hSS (fun W hS => R_load (v := (.agg (encRole x4198).toArray)) e4321 (load_boxA hS (.tail _ (.head _)) (encRole x4198) rfl Tryz.isAgg47 Tryz.sizeOf47)) ?_
                  obtain ⟨r4432, hr4433, hm4389⟩ := bind_some hm4389
                  replace hST : ST NoF w _ _ ((b4327, Obj.cells ((encRole x4080).toArray : Array Value) 47 (0, 0)) :: ((b3701, Obj.cells ((encRole x4198).toArray : Array Value) 47 (0, 0)) :: (R2955 ++ L4317))) := hST
                  have hsz := hST.size
                  refine PW_e 23 rfl (by kernel_rfl) (.inr ⟨20, false, 34, rfl, rfl, by decide, (congrArg Value.bool hb4431)⟩) rfl (by decide) (E_gives (args := [(.agg (encRole x4080).toArray), (.agg (encRole x4198).toArray)]) hST rfl Tryz.call123 (by exact args2 rfl rfl) (w_ref04_Less x4080 x4198 _ _  hr4433) (fun W4434 hST => ?_))
                  have hSS : (Has (hp w) ((b4327, Obj.cells ((encRole x4080).toArray : Array Value) 47 (0, 0)) :: ((b3701, Obj.cells ((encRole x4198).toArray : Array Value) 47 (0, 0)) :: (R2955 ++ []))) _) := ((show ST NoF w _ _ ((b4327, Obj.cells ((encRole x4080).toArray : Array Value) 47 (0, 0)) :: ((b3701, Obj.cells ((encRole x4198).toArray : Array Value) 47 (0, 0)) :: (R2955 ++ L4317))) from hST).has.sub (Sub.refl _) (fun p hq => ((List.mem_cons.1 hq).elim (fun hq => by rw [hq]; exact (.head _)) (fun hq => ((List.mem_cons.1 hq).elim (fun hq => by rw [hq]; exact (.tail _ (.head _))) (fun hq => ((List.mem_append.1 hq).elim (fun hq => (.tail _ (.tail _ (List.mem_append_left _ hq)))) (fun hq => (absurd hq List.not_mem_nil)))))))))
                  refine ⟨hSS, ?_⟩
                  refine PW_v 24 rfl (by kernel_rfl) (by kernel_rfl) (by kernel_rfl) (.inr ⟨17, true, 31, rfl, rfl, by decide, (congrArg Value.bool hb4430)⟩) rfl (by decide) hSS (fun W hS => R_pickF (v := (.bool r4432)) (congrArg Value.bool hb4431) rfl) ?_
                  refine PW_v 25 rfl (by kernel_rfl) (by kernel_rfl) (by kernel_rfl) (.inl rfl) rfl (by decide) hSS (fun W hS => R_pickT (v := (.bool r4432)) (congrArg Value.bool hb4430) rfl) ?_
                  refine PW_done (by kernel_rfl) ?_
                  refine sq_n ?_
                  replace hm4389 := Option.some.inj hm4389; subst hm4389
                  exact ⟨r4432, _, (hST.sublist (List.Sublist.refl _)), e4319, e4320, e4321, e4322, rfl, e4323, eN, eI, rfl, hm4390⟩
              · replace hm4389 := if_f hb4430 hm4389
                refine PW_no 18 rfl (by kernel_rfl) (by kernel_rfl) (by kernel_rfl) rfl rfl (by decide) (congrArg Value.bool hb4430) rfl (by decide) hSS ?_
                refine PW_no 19 rfl (by kernel_rfl) (by kernel_rfl) (by kernel_rfl) rfl rfl (by decide) (congrArg Value.bool hb4430) rfl (by decide) hSS ?_
                refine PW_no 20 rfl (by kernel_rfl) (by kernel_rfl) (by kernel_rfl) rfl rfl (by decide) (congrArg Value.bool hb4430) rfl (by decide) hSS ?_
                refine PW_nou 21 rfl (by kernel_rfl) (by kernel_rfl) (by kernel_rfl) rfl rfl (by decide) rfl rfl (by decide) hSS ?_
                refine PW_nou 22 rfl (by kernel_rfl) (by kernel_rfl) (by kernel_rfl) rfl rfl (by decide) rfl rfl (by decide) hSS ?_
                refine PW_nou 23 rfl (by kernel_rfl) (by kernel_rfl) (by kernel_rfl) rfl rfl (by decide) rfl rfl (by decide) hSS ?_
                refine PW_no 24 rfl (by kernel_rfl) (by kernel_rfl) (by kernel_rfl) rfl rfl (by decide) (congrArg Value.bool hb4430) rfl (by decide) hSS ?_
                refine PW_v 25 rfl (by kernel_rfl) (by kernel_rfl) (by kernel_rfl) (.inl rfl) rfl (by decide) hSS (fun W hS => R_pickF (v := (.bool false)) (congrArg Value.bool hb4430) rfl) ?_
                refine PW_done (by kernel_rfl) ?_
                refine sq_n ?_
                replace hm4389 := Option.some.inj hm4389; subst hm4389
                exact ⟨false, _, (hST.sublist (List.Sublist.refl _)), e4319, e4320, e4321, e4322, rfl, e4323, eN, eI, rfl, hm4390⟩
          · replace hm4389 := if_f hb4416 hm4389
            refine PW_no 3 rfl (by kernel_rfl) (by kernel_rfl) (by kernel_rfl) rfl rfl (by decide) (congrArg Value.bool hb4416) rfl (by decide) hSS ?_
            refine PW_no 4 rfl (by kernel_rfl) (by kernel_rfl) (by kernel_rfl) rfl rfl (by decide) (congrArg Value.bool hb4416) rfl (by decide) hSS ?_
            refine PW_no 5 rfl (by kernel_rfl) (by kernel_rfl) (by kernel_rfl) rfl rfl (by decide) (congrArg Value.bool hb4416) rfl (by decide) hSS ?_
            refine PW_no 6 rfl (by kernel_rfl) (by kernel_rfl) (by kernel_rfl) rfl rfl (by decide) (congrArg Value.bool hb4416) rfl (by decide) hSS ?_
            refine PW_nou 7 rfl (by kernel_rfl) (by kernel_rfl) (by kernel_rfl) rfl rfl (by decide) rfl rfl (by decide) hSS ?_
            refine PW_nou 8 rfl (by kernel_rfl) (by kernel_rfl) (by kernel_rfl) rfl rfl (by decide) rfl rfl (by decide) hSS ?_
            refine PW_nou 9 rfl (by kernel_rfl) (by kernel_rfl) (by kernel_rfl) rfl rfl (by decide) rfl rfl (by decide) hSS ?_
            refine PW_nou 10 rfl (by kernel_rfl) (by kernel_rfl) (by kernel_rfl) rfl rfl (by decide) rfl rfl (by decide) hSS ?_
            refine PW_nou 11 rfl (by kernel_rfl) (by kernel_rfl) (by kernel_rfl) rfl rfl (by decide) rfl rfl (by decide) hSS ?_
            refine PW_nou 12 rfl (by kernel_rfl) (by kernel_rfl) (by kernel_rfl) rfl rfl (by decide) rfl rfl (by decide) hSS ?_
            refine PW_nou 13 rfl (by kernel_rfl) (by kernel_rfl) (by kernel_rfl) rfl rfl (by decide) rfl rfl (by decide) hSS ?_
            refine PW_nou 14 rfl (by kernel_rfl) (by kernel_rfl) (by kernel_rfl) rfl rfl (by decide) rfl rfl (by decide) hSS ?_
            refine PW_no 15 rfl (by kernel_rfl) (by kernel_rfl) (by kernel_rfl) rfl rfl (by decide) (congrArg Value.bool hb4416) rfl (by decide) hSS ?_
            refine PW_v 16 rfl (by kernel_rfl) (by kernel_rfl) (by kernel_rfl) (.inl rfl) rfl (by decide) hSS (fun W hS => R_pickF (v := (.bool false)) (congrArg Value.bool hb4416) rfl) ?_
            refine PW_v 17 rfl (by kernel_rfl) (by kernel_rfl) (by kernel_rfl) (.inl rfl) rfl (by decide) hSS (fun W hS => R_move (v := (.bool false)) rfl) ?_
            refine PW_no 18 rfl (by kernel_rfl) (by kernel_rfl) (by kernel_rfl) rfl rfl (by decide) rfl rfl (by decide) hSS ?_
            refine PW_no 19 rfl (by kernel_rfl) (by kernel_rfl) (by kernel_rfl) rfl rfl (by decide) rfl rfl (by decide) hSS ?_
            refine PW_no 20 rfl (by kernel_rfl) (by kernel_rfl) (by kernel_rfl) rfl rfl (by decide) rfl rfl (by decide) hSS ?_
            refine PW_nou 21 rfl (by kernel_rfl) (by kernel_rfl) (by kernel_rfl) rfl rfl (by decide) rfl rfl (by decide) hSS ?_
            refine PW_nou 22 rfl (by kernel_rfl) (by kernel_rfl) (by kernel_rfl) rfl rfl (by decide) rfl rfl (by decide) hSS ?_
            refine PW_nou 23 rfl (by kernel_rfl) (by kernel_rfl) (by kernel_rfl) rfl rfl (by decide) rfl rfl (by decide) hSS ?_
            refine PW_no 24 rfl (by kernel_rfl) (by kernel_rfl) (by kernel_rfl) rfl rfl (by decide) rfl rfl (by decide) hSS ?_
            refine PW_v 25 rfl (by kernel_rfl) (by kernel_rfl) (by kernel_rfl) (.inl rfl) rfl (by decide) hSS (fun W hS => R_pickF (v := (.bool false)) rfl rfl) ?_
            refine PW_done (by kernel_rfl) ?_
            refine sq_n ?_
            replace hm4389 := Option.some.inj hm4389; subst hm4389
            exact ⟨false, _, (hST.sublist (List.Sublist.refl _)), e4319, e4320, e4321, e4322, rfl, e4323, eN, eI, rfl, hm4390⟩
        · rintro E W ⟨x4374, L4375, hST, e4377, e4378, e4379, e4380, e4381, e4382, e4383, e4384, e4385, hm4376⟩
          refine CW_if (b := x4374) e4385 (fun hb4386 => ?_) (fun hb4386 => ?_)
          · replace hm4376 := if_t hb4386 hm4376
            refine CW_seq ?_
            refine CW_region ?_
            refine LW_v (.inl rfl) rfl (by decide) (R_load (v := (.agg (encRole x4080).toArray)) e4381 (load_boxA hST.has (.head _) (encRole x4080) rfl Tryz.isAgg47 Tryz.sizeOf47)) ?_
            refine LW_e0 (.inl rfl) rfl (E_store [_] (.agg (encRole x4080).toArray) ((encRole x4080).toArray) hST e4379 rfl Tryz.sizeOf47 (oneRole x4080) (Nat.le_of_ble_eq_true rfl) rfl (fun W4387 hST => ?_))
            refine LW_nil ?_
            refine sq_n ?_
            replace hST : ST NoF w _ _ ((b4327, Obj.cells ((encRole x4080).toArray : Array Value) 47 (0, 0)) :: ((b3701, Obj.cells ((encRole x4080).toArray : Array Value) 47 (0, 0)) :: (R2955 ++ L4375))) := hST
            replace hST : ST NoF w _ _ ((b3701, Obj.cells ((encRole x4080).toArray : Array Value) 47 (0, 0)) :: (R2955 ++ L4375)) := hST.sublist (List.Sublist.cons _ (List.Sublist.refl _))
            refine CW_region ?_
            refine LW_v (.inl rfl) rfl (by decide) (R_assign (v := (.bool true)) rfl) ?_
            refine LW_nil ?_
            refine bq_n ?_
            refine sq_n ?_
            exact ⟨e4384, true, x4080, _, ⟨rfl, e4383⟩, (hST.sublist (List.Sublist.refl _)), e4377, e4378, e4379, rfl, e4382, (by rw [hx4084]; exact hm4376)⟩
          · replace hm4376 := if_f hb4386 hm4376
            refine CW_skip ?_
            refine bq_n ?_
            refine sq_n ?_
            replace hST : ST NoF w _ _ ((b4327, Obj.cells ((encRole x4080).toArray : Array Value) 47 (0, 0)) :: ((b3701, Obj.cells ((encRole x4198).toArray : Array Value) 47 (0, 0)) :: (R2955 ++ L4375))) := hST
            replace hST : ST NoF w _ _ ((b3701, Obj.cells ((encRole x4198).toArray : Array Value) 47 (0, 0)) :: (R2955 ++ L4375)) := hST.sublist (List.Sublist.cons _ (List.Sublist.refl _))
            exact ⟨e4384, x4197, x4198, _, ⟨rfl, e4383⟩, (hST.sublist (List.Sublist.refl _)), e4377, e4378, e4379, e4380, e4382, (by rw [hx4084]; exact hm4376)⟩
      · rintro E W ⟨x4197, x4198, L4317, ⟨eI, eN⟩, hST, e4319, e4320, e4321, e4322, e4323, hm4318⟩
        rw [List.drop_length] at hm4318
        rw [m_ref04_Set_L2] at hm4318
        refine sq_n ?_
        replace hm4318 := Option.some.inj hm4318; subst hm4318
        exact ⟨x4197, x4198, _, (hST.sublist (List.Sublist.refl _)), e4319, e4320, e4321, e4322, hm4078⟩
    · rintro E W ⟨x4059, x4060, L4061, hST, e4063, e4064, e4065, e4066, hm4062⟩
      refine CW_seq ?_
      refine CW_seq ?_
      refine CW_region ?_
      refine LW_v (.inl rfl) rfl (by decide) (R_move (v := (.bool x4059)) e4066) ?_
      refine LW_v (.inl rfl) rfl (by decide) (R_not (b := x4059) rfl) ?_
      refine LW_nil ?_
      refine sq_n ?_
      refine CW_if (b := (!x4059)) rfl (fun hb4067 => ?_) (fun hb4067 => ?_)
      · replace hm4062 := if_t hb4067 hm4062
        refine CW_seq ?_
        refine CW_region ?_
        refine LW_v (.inl rfl) rfl (by decide) (R_move (v := v2952) e4064) ?_
        refine LW_v (.inl rfl) rfl (by decide) (R_assign (v := v2952) rfl) ?_
        refine LW_nil ?_
        refine sq_n ?_
        replace hST : ST NoF w _ _ ((b3701, Obj.cells ((encRole x4060).toArray : Array Value) 47 (0, 0)) :: (R2955 ++ L4061)) := hST
        replace hST : ST NoF w _ _ (R2955 ++ L4061) := hST.sublist (List.Sublist.cons _ (List.Sublist.refl _))
        refine CW_ret ?_
        refine sq_r (bq_r (sq_r (bq_r (sq_r ?_))))
        replace hm4062 := Option.some.inj hm4062; subst hm4062
        refine retQ_1 (v := v2952) rfl rfl ?_
        exact ⟨_, R2955, rfl, hST.backRow (fun p hq => by simp [hq]) hs2954.nd, hs2954⟩
      · replace hm4062 := if_f hb4067 hm4062
        refine CW_skip ?_
        refine sq_n ?_
        refine CW_region ?_
        refine LW_v (.inl rfl) rfl (by decide) (R_move (v := v2952) e4064) ?_
        refine LW_v (.inl rfl) rfl (by decide) (R_load (v := (.agg (encRole x4060).toArray)) e4065 (load_boxA hST.has (.head _) (encRole x4060) rfl Tryz.isAgg47 Tryz.sizeOf47)) ?_
        refine LW_e (.inl rfl) rfl (by decide) (E_buildSlice (qs := #[(0, (.agg (encRole x4060).toArray))]) (cs := (encRole x4060).toArray) hST (parts1 rfl) (run_lit [(.agg (encRole x4060).toArray)] Tryz.underlying23 Tryz.sizeOf47 Tryz.zeroValue47 (by decide) rfl (by intro v hv; simp only [List.mem_cons, List.not_mem_nil, or_false] at hv; rcases hv with rfl <;> rfl) rfl rfl) (fun W4069 b4068 hST => ?_))
        obtain ⟨l4070, hb4071, hm4062⟩ := bind_some hm4062
        refine LW_e (.inl rfl) rfl (by decide) (E_append (enc := encRole) (v := v2952) (vs := (.slice (some ⟨b4068, 0, none⟩) 1 1)) (R := R2955) [_, _] hST lenRole (by decide) oneRole Tryz.underlying23 info47.1 info47.2.1 rfl info47.2.2.1 info47.2.2.2 rfl rfl hs2954 (Sl.lit (enc := encRole) (l := [x4060]) lenRole rfl (Nat.le_of_ble_eq_true rfl) rfl (hST.at_ (.head _))) hb4071 (fun W4072 v4075 R4073 hST hR4074 => ?_))
        refine LW_v (.inl rfl) rfl (by decide) (R_assign (v := v4075) rfl) ?_
        refine LW_nil ?_
        refine bq_n ?_
        refine sq_n ?_
        replace hST : ST NoF w _ _ ((b4068, Obj.cells ((encRole x4060).toArray : Array Value) 47 (0, 0)) :: ((b3701, Obj.cells ((encRole x4060).toArray : Array Value) 47 (0, 0)) :: (R4073 ++ L4061))) := hST
        replace hST : ST NoF w _ _ (R4073 ++ L4061) := hST.sublist (List.Sublist.cons _ (List.Sublist.cons _ (List.Sublist.refl _)))
        exact ⟨n3698, Nat.lt_succ_self _, v4075, l4070, R4073, _, (hST.sublist (List.Sublist.refl _)), e4063, rfl, hR4074, hm4062⟩

theorem w_ref05_Has (v_a0 : Value) (a0 : List Cred) (a1 : Cred) (r : Bool) (w : World) (h_a0 : Sl (Pl encCred) 9 (hp w) v_a0 a0) (hm : m_ref05_Has a0 a1 = some r) :
    Gives Tryz.prog 73 [v_a0, (.agg (encCred a1).toArray)] w (.bool r) := by
  have hST := ST.start w
  unfold m_ref05_Has at hm
  refine calls_of_CW (n := 17) Tryz.func73 rfl rfl (Nat.le_of_ble_eq_true rfl) ?_
  refine CW_seq ?_
  refine CW_region ?_
  refine LW_e (.inl rfl) rfl (by decide) (E_box (v := (.agg (encCred a1).toArray)) hST rfl (fun W2 b1 hST => ?_))
  refine LW_v (.inl rfl) rfl (by decide) (R_assign (v := (.bool false)) rfl) ?_
  refine LW_nil ?_
  refine sq_n ?_
  refine CW_seq ?_
  refine CW_seq ?_
  refine CW_region ?_
  refine LW_v (.inl rfl) rfl (by decide) (R_move (v := v_a0) rfl) ?_
  refine LW_v (.inl rfl) rfl (by decide) (R_len Tryz.underlying22 rfl h_a0) ?_
  refine LW_v (.inl rfl) rfl (by decide) (R_move (v := (.int .i64 0)) rfl) ?_
  refine LW_nil ?_
  refine sq_n ?_
  refine CW_range (fun i E W => ∃  (L60 : List (Nat × Obj)), (E 9 = .int .i64 (i : Nat) ∧ E 8 = .int .i64 (a0.length : Nat)) ∧ ST NoF w W (hp w) ((b1, Obj.cells ((encCred a1).toArray : Array Value) 83 (0, 0)) :: L60) ∧ E 3 = (.pointer (some ⟨b1, 0, none⟩)) ∧ E 7 = v_a0 ∧ m_ref05_Has_L1 a1 (a0.drop i) = some r) a0.length h_a0.len ⟨_, ⟨rfl, rfl⟩, (hST.sublist (List.Sublist.refl _)), rfl, rfl, hm⟩ (by decide) (by decide) (by decide) (fun _ _ _ h => by obtain ⟨_, eIN, _⟩ := h; exact eIN) ?_ ?_
  · rintro i37 E W hi43 ⟨L60, ⟨eI, eN⟩, hST, e62, e63, hm61⟩
    obtain ⟨x38, xs39, hx41, hx40, hx42⟩ := drop_cons hi43
    rw [hx41] at hm61
    rw [m_ref05_Has_L1] at hm61
    refine CW_block ?_
    refine CW_seq ?_
    refine CW_region ?_
    refine LW_q (.inl rfl) rfl (by decide) (R_indexP (enc := encCred) (i := (i37 : Int)) (x0 := x38) Tryz.underlying22 Tryz.sizeOf83 e63 eI h_a0 (Int.natCast_nonneg _) hx40) (fun p64 hp65 => ?_)
    refine LW_v (.inl rfl) rfl (by decide) (R_load rfl (load_atA hST.has hp65 Tryz.isAgg83 Tryz.sizeOf83)) ?_
    refine LW_e (.inl rfl) rfl (by decide) (E_alloc hST Tryz.zeroValue83 (fun W68 b67 hST => ?_))
    refine LW_e0 (.inl rfl) rfl (E_store [] (.agg (encCred x38).toArray) ((encCred x38).toArray) hST rfl rfl Tryz.sizeOf83 (oneCred x38) (Nat.le_of_ble_eq_true rfl) rfl (fun W69 hST => ?_))
    refine LW_nil ?_
    refine sq_n ?_
    refine CW_seq ?_
    refine CW_region ?_
    refine LW_v (.inl rfl) rfl (by decide) (R_load (v := (.agg (encCred x38).toArray)) rfl (load_boxA hST.has (.head _) (encCred x38) rfl Tryz.isAgg83 Tryz.sizeOf83)) ?_
    refine LW_v (.inl rfl) rfl (by decide) (R_load (v := (.agg (encCred a1).toArray)) e62 (load_boxA hST.has (.tail _ (.head _)) (encCred a1) rfl Tryz.isAgg83 Tryz.sizeOf83)) ?_
    refine LW_v (.inl rfl) rfl (by decide) (R_eql (a := (encCred x38).toArray) (b := (encCred a1).toArray) rfl rfl (guard_agg Tryz.eqGuardType83) (bin_eql (eqInCred _ x38 a1))) ?_
    refine LW_nil ?_
    refine sq_n ?_
    replace hST : ST NoF w _ _ ((b1, Obj.cells ((encCred a1).toArray : Array Value) 83 (0, 0)) :: L60) := hST.sublist (List.Sublist.cons _ (List.Sublist.refl _))
    refine CW_if (b := (beqCred x38 a1)) rfl (fun hb70 => ?_) (fun hb70 => ?_)
    · replace hm61 := if_t hb70 hm61
      refine CW_seq ?_
      refine CW_region ?_
      refine LW_v (.inl rfl) rfl (by decide) (R_assign (v := (.bool true)) rfl) ?_
      refine LW_nil ?_
      refine sq_n ?_
      replace hST : ST NoF w _ _ L60 := hST.sublist (List.Sublist.cons _ (List.Sublist.refl _))
      refine CW_ret ?_
      refine bq_r (sq_r (bq_r (sq_r ?_)))
      replace hm61 := Option.some.inj hm61; subst hm61
      refine retQ_1 (v := (.bool true)) rfl rfl ?_
      exact ⟨rfl, hST.ex⟩
    · replace hm61 := if_f hb70 hm61
      refine CW_skip ?_
      refine bq_n ?_
      refine sq_n ?_
      exact ⟨eI, _, ⟨rfl, eN⟩, (hST.sublist (List.Sublist.refl _)), e62, e63, (by rw [hx42]; exact hm61)⟩
  · rintro E W ⟨L60, ⟨eI, eN⟩, hST, e62, e63, hm61⟩
    rw [List.drop_length] at hm61
    rw [m_ref05_Has_L1] at hm61
    refine sq_n ?_
    replace hST : ST NoF w _ _ L60 := hST.sublist (List.Sublist.cons _ (List.Sublist.refl _))
    refine CW_seq ?_
    refine CW_region ?_
    refine LW_v (.inl rfl) rfl (by decide) (R_assign (v := (.bool false)) rfl) ?_
    refine LW_nil ?_
    refine sq_n ?_
    refine CW_ret ?_
    replace hm61 := Option.some.inj hm61; subst hm61
    refine retQ_1 (v := (.bool false)) rfl rfl ?_
    exact ⟨rfl, hST.ex⟩

theorem w_ref04_Has (v_a0 : Value) (a0 : List Role) (a1 : Role) (r : Bool) (w : World) (h_a0 : Sl (Pl encRole) 2 (hp w) v_a0 a0) (hm : m_ref04_Has a0 a1 = some r) :
    Gives Tryz.prog 74 [v_a0, (.agg (encRole a1).toArray)] w (.bool r) := by
  have hST := ST.start w
  unfold m_ref04_Has at hm
  refine calls_of_CW (n := 17) Tryz.func74 rfl rfl (Nat.le_of_ble_eq_true rfl) ?_
  refine CW_seq ?_
  refine CW_region ?_
  refine LW_e (.inl rfl) rfl (by decide) (E_box (v := (.agg (encRole a1).toArray)) hST rfl (fun W2 b1 hST => ?_))
  refine LW_v (.inl rfl) rfl (by decide) (R_assign (v := (.bool false)) rfl) ?_
  refine LW_nil ?_
  refine sq_n ?_
  refine CW_seq ?_
  refine CW_seq ?_
  refine CW_region ?_
  refine LW_v (.inl rfl) rfl (by decide) (R_move (v := v_a0) rfl) ?_
  refine LW_v (.inl rfl) rfl (by decide) (R_len Tryz.underlying23 rfl h_a0) ?_
  refine LW_v (.inl rfl) rfl (by decide) (R_move (v := (.int .i64 0)) rfl) ?_
  refine LW_nil ?_
  refine sq_n ?_
  refine CW_range (fun i E W => ∃  (L60 : List (Nat × Obj)), (E 9 = .int .i64 (i : Nat) ∧ E 8 = .int .i64 (a0.length : Nat)) ∧ ST NoF w W (hp w) ((b1, Obj.cells ((encRole a1).toArray : Array Value) 47 (0, 0)) :: L60) ∧ E 3 = (.pointer (some ⟨b1, 0, none⟩)) ∧ E 7 = v_a0 ∧ m_ref04_Has_L1 a1 (a0.drop i) = some r) a0.length h_a0.len ⟨_, ⟨rfl, rfl⟩, (hST.sublist (List.Sublist.refl _)), rfl, rfl, hm⟩ (by decide) (by decide) (by decide) (fun _ _ _ h => by obtain ⟨_, eIN, _⟩ := h; exact eIN) ?_ ?_
  · rintro i37 E W hi43 ⟨L60, ⟨eI, eN⟩, hST, e62, e63, hm61⟩
    obtain ⟨x38, xs39, hx41, hx40, hx42⟩ := drop_cons hi43
    rw [hx41] at hm61
    rw [m_ref04_Has_L1] at hm61
    refine CW_block ?_
    refine CW_seq ?_
    refine CW_region ?_
    refine LW_q (.inl rfl) rfl (by decide) (R_indexP (enc := encRole) (i := (i37 : Int)) (x0 := x38) Tryz.underlying23 Tryz.sizeOf47 e63 eI h_a0 (Int.natCast_nonneg _) hx40) (fun p64 hp65 => ?_)
    refine LW_v (.inl rfl) rfl (by decide) (R_load rfl (load_atA hST.has hp65 Tryz.isAgg47 Tryz.sizeOf47)) ?_
    refine LW_e (.inl rfl) rfl (by decide) (E_alloc hST Tryz.zeroValue47 (fun W68 b67 hST => ?_))
    refine LW_e0 (.inl rfl) rfl (E_store [] (.agg (encRole x38).toArray) ((encRole x38).toArray) hST rfl rfl Tryz.sizeOf47 (oneRole x38) (Nat.le_of_ble_eq_true rfl) rfl (fun W69 hST => ?_))
    refine LW_nil ?_
    refine sq_n ?_
    refine CW_seq ?_
    refine CW_region ?_
    refine LW_v (.inl rfl) rfl (by decide) (R_load (v := (.agg (encRole x38).toArray)) rfl (load_boxA hST.has (.head _) (encRole x38) rfl Tryz.isAgg47 Tryz.sizeOf47)) ?_
    refine LW_v (.inl rfl) rfl (by decide) (R_load (v := (.agg (encRole a1).toArray)) e62 (load_boxA hST.has (.tail _ (.head _)) (encRole a1) rfl Tryz.isAgg47 Tryz.sizeOf47)) ?_
    refine LW_v (.inl rfl) rfl (by decide) (R_eql (a := (encRole x38).toArray) (b := (encRole a1).toArray) rfl rfl (guard_agg Tryz.eqGuardType47) (bin_eql (eqInRole _ x38 a1))) ?_
    refine LW_nil ?_
    refine sq_n ?_
    replace hST : ST NoF w _ _ ((b1, Obj.cells ((encRole a1).toArray : Array Value) 47 (0, 0)) :: L60) := hST.sublist (List.Sublist.cons _ (List.Sublist.refl _))
    refine CW_if (b := (beqRole x38 a1)) rfl (fun hb70 => ?_) (fun hb70 => ?_)
    · replace hm61 := if_t hb70 hm61
      refine CW_seq ?_
      refine CW_region ?_
      refine LW_v (.inl rfl) rfl (by decide) (R_assign (v := (.bool true)) rfl) ?_
      refine LW_nil ?_
      refine sq_n ?_
      replace hST : ST NoF w _ _ L60 := hST.sublist (List.Sublist.cons _ (List.Sublist.refl _))
      refine CW_ret ?_
      refine bq_r (sq_r (bq_r (sq_r ?_)))
      replace hm61 := Option.some.inj hm61; subst hm61
      refine retQ_1 (v := (.bool true)) rfl rfl ?_
      exact ⟨rfl, hST.ex⟩
    · replace hm61 := if_f hb70 hm61
      refine CW_skip ?_
      refine bq_n ?_
      refine sq_n ?_
      exact ⟨eI, _, ⟨rfl, eN⟩, (hST.sublist (List.Sublist.refl _)), e62, e63, (by rw [hx42]; exact hm61)⟩
  · rintro E W ⟨L60, ⟨eI, eN⟩, hST, e62, e63, hm61⟩
    rw [List.drop_length] at hm61
    rw [m_ref04_Has_L1] at hm61
    refine sq_n ?_
    replace hST : ST NoF w _ _ L60 := hST.sublist (List.Sublist.cons _ (List.Sublist.refl _))
    refine CW_seq ?_
    refine CW_region ?_
    refine LW_v (.inl rfl) rfl (by decide) (R_assign (v := (.bool false)) rfl) ?_
    refine LW_nil ?_
    refine sq_n ?_
    refine CW_ret ?_
    replace hm61 := Option.some.inj hm61; subst hm61
    refine retQ_1 (v := (.bool false)) rfl rfl ?_
    exact ⟨rfl, hST.ex⟩

theorem w_ref03_Has (v_a0 : Value) (a0 : List ByteArray) (a1 : ByteArray) (r : Bool) (w : World) (h_a0 : Sl (Pl encS) 1 (hp w) v_a0 a0) (hm : m_ref03_Has a0 a1 = some r) :
    Gives Tryz.prog 75 [v_a0, (.string a1)] w (.bool r) := by
  have hST := ST.start w
  unfold m_ref03_Has at hm
  refine calls_of_CW (n := 17) Tryz.func75 rfl rfl (Nat.le_of_ble_eq_true rfl) ?_
  refine CW_seq ?_
  refine CW_region ?_
  refine LW_v (.inl rfl) rfl (by decide) (R_assign (v := (.bool false)) rfl) ?_
  refine LW_nil ?_
  refine sq_n ?_
  refine CW_seq ?_
  refine CW_seq ?_
  refine CW_region ?_
  refine LW_v (.inl rfl) rfl (by decide) (R_move (v := v_a0) rfl) ?_
  refine LW_v (.inl rfl) rfl (by decide) (R_len Tryz.underlying27 rfl h_a0) ?_
  refine LW_v (.inl rfl) rfl (by decide) (R_move (v := (.int .i64 0)) rfl) ?_
  refine LW_nil ?_
  refine sq_n ?_
  refine CW_range (fun i E W => ∃  (L43 : List (Nat × Obj)), (E 9 = .int .i64 (i : Nat) ∧ E 8 = .int .i64 (a0.length : Nat)) ∧ ST NoF w W (hp w) L43 ∧ E 1 = (.string a1) ∧ E 7 = v_a0 ∧ m_ref03_Has_L1 a1 (a0.drop i) = some r) a0.length h_a0.len ⟨_, ⟨rfl, rfl⟩, (hST.sublist (List.Sublist.refl _)), rfl, rfl, hm⟩ (by decide) (by decide) (by decide) (fun _ _ _ h => by obtain ⟨_, eIN, _⟩ := h; exact eIN) ?_ ?_
  · rintro i26 E W hi32 ⟨L43, ⟨eI, eN⟩, hST, e45, e46, hm44⟩
    obtain ⟨x27, xs28, hx30, hx29, hx31⟩ := drop_cons hi32
    rw [hx30] at hm44
    rw [m_ref03_Has_L1] at hm44
    refine CW_block ?_
    refine CW_seq ?_
    refine CW_region ?_
    refine LW_q (.inl rfl) rfl (by decide) (R_indexP (enc := encS) (i := (i26 : Int)) (x0 := x27) Tryz.underlying27 Tryz.sizeOf9 e46 eI h_a0 (Int.natCast_nonneg _) hx29) (fun p47 hp48 => ?_)
    refine LW_v (.inl rfl) rfl (by decide) (R_load rfl (load_at1 hST.has (y := (.string x27)) hp48 Tryz.isAgg9)) ?_
    refine LW_v (.inl rfl) rfl (by decide) (R_assign (v := (.string x27)) rfl) ?_
    refine LW_nil ?_
    refine sq_n ?_
    refine CW_seq ?_
    refine CW_region ?_
    refine LW_v (.inl rfl) rfl (by decide) (R_move (v := (.string x27)) rfl) ?_
    refine LW_v (.inl rfl) rfl (by decide) (R_move (v := (.string a1)) e45) ?_
    refine LW_v (.inl rfl) rfl (by decide) (R_str (a := x27) (b := a1) (v := (.bool ((beqS x27 a1)))) rfl rfl rfl) ?_
    refine LW_nil ?_
    refine sq_n ?_
    refine CW_if (b := (beqS x27 a1)) rfl (fun hb50 => ?_) (fun hb50 => ?_)
    · replace hm44 := if_t hb50 hm44
      refine CW_seq ?_
      refine CW_region ?_
      refine LW_v (.inl rfl) rfl (by decide) (R_assign (v := (.bool true)) rfl) ?_
      refine LW_nil ?_
      refine sq_n ?_
      refine CW_ret ?_
      refine bq_r (sq_r (bq_r (sq_r ?_)))
      replace hm44 := Option.some.inj hm44; subst hm44
      refine retQ_1 (v := (.bool true)) rfl rfl ?_
      exact ⟨rfl, hST.ex⟩
    · replace hm44 := if_f hb50 hm44
      refine CW_skip ?_
      refine bq_n ?_
      refine sq_n ?_
      exact ⟨eI, _, ⟨rfl, eN⟩, (hST.sublist (List.Sublist.refl _)), e45, e46, (by rw [hx31]; exact hm44)⟩
  · rintro E W ⟨L43, ⟨eI, eN⟩, hST, e45, e46, hm44⟩
    rw [List.drop_length] at hm44
    rw [m_ref03_Has_L1] at hm44
    refine sq_n ?_
    refine CW_seq ?_
    refine CW_region ?_
    refine LW_v (.inl rfl) rfl (by decide) (R_assign (v := (.bool false)) rfl) ?_
    refine LW_nil ?_
    refine sq_n ?_
    refine CW_ret ?_
    replace hm44 := Option.some.inj hm44; subst hm44
    refine retQ_1 (v := (.bool false)) rfl rfl ?_
    exact ⟨rfl, hST.ex⟩

theorem w_ref03_Set (v_a0 : Value) (a0 : List ByteArray) (r : List ByteArray) (w : World) (h_a0 : Sl (Pl encS) 1 (hp w) v_a0 a0) (hm : m_ref03_Set a0 = some r) :
    GivesRow Tryz.prog 76 [v_a0] w 9 encS 1 r := by
  have hST := ST.start w
  unfold m_ref03_Set at hm
  refine calls_of_CW (n := 48) Tryz.func76 rfl rfl (Nat.le_of_ble_eq_true rfl) ?_
  refine CW_seq ?_
  refine CW_region ?_
  refine LW_v (.inl rfl) rfl (by decide) (R_assign (v := (.slice none 0 0)) rfl) ?_
  refine LW_nil ?_
  refine sq_n ?_
  refine CW_seq ?_
  refine CW_region ?_
  refine LW_v (.inl rfl) rfl (by decide) (R_assign (v := (.slice none 0 0)) rfl) ?_
  refine LW_nil ?_
  refine sq_n ?_
  refine CW_tail ?_
  refine CW_block (CW_loop (fun m E W => ∃ (v1296 : Value) (l1297 : List ByteArray) (R1299 : List (Nat × Obj)) (L1626 : List (Nat × Obj)), ST NoF w W (hp w) (R1299 ++ L1626) ∧ E 0 = v_a0 ∧ E 3 = v1296 ∧ Row 9 encS 1 v1296 l1297 R1299 ∧ m_ref03_Set_L1 a0 m l1297 = some r) FUEL ⟨(.slice none 0 0), ([]), [], _, (hST.sublist (List.Sublist.refl _)), rfl, rfl, (Row.nil _ _ _), hm⟩ ?_)
  rintro m E W ⟨v1296, l1297, R1299, L1626, hST, e1629, e1630, hs1298, hm1627⟩
  cases m with
  | zero => rw [m_ref03_Set_L1] at hm1627; cases hm1627
  | succ n1628 =>
    rw [m_ref03_Set_L1] at hm1627
    refine CW_block ?_
    refine CW_seq ?_
    refine CW_region ?_
    refine LW_v (.inl rfl) rfl (by decide) (R_assign (v := (.string zS)) rfl) ?_
    refine LW_nil ?_
    refine sq_n ?_
    refine CW_seq ?_
    refine CW_seq ?_
    refine CW_region ?_
    refine LW_v (.inl rfl) rfl (by decide) (R_move (v := v_a0) e1629) ?_
    refine LW_v (.inl rfl) rfl (by decide) (R_len Tryz.underlying27 rfl h_a0) ?_
    refine LW_v (.inl rfl) rfl (by decide) (R_move (v := (.int .i64 0)) rfl) ?_
    refine LW_nil ?_
    refine sq_n ?_
    obtain ⟨s1797, hm1798, hm1799⟩ := bind_some hm1627
    refine CW_cut (fun E W => ∃ (x1782 : ByteArray) (L1783 : List (Nat × Obj)), ST NoF w W (hp w) (R1299 ++ L1783) ∧ E 0 = v_a0 ∧ E 3 = v1296 ∧ E 4 = (.string x1782) ∧ (if (beqS x1782 zS) then some l1297 else (((appB 16 l1297 ([x1782]))).bind fun l1791 => (m_ref03_Set_L1 a0 n1628 l1791))) = some r) ?_ ?_
    · refine CW_range (fun i E W => ∃ (x1851 : ByteArray) (L1901 : List (Nat × Obj)), (E 9 = .int .i64 (i : Nat) ∧ E 8 = .int .i64 (a0.length : Nat)) ∧ ST NoF w W (hp w) (R1299 ++ L1901) ∧ E 0 = v_a0 ∧ E 3 = v1296 ∧ E 4 = (.string x1851) ∧ E 7 = v_a0 ∧ m_ref03_Set_L2 l1297 (a0.drop i) x1851 = some s1797) a0.length h_a0.len ⟨zS, _, ⟨rfl, rfl⟩, (hST.sublist (List.Sublist.refl _)), e1629, e1630, rfl, rfl, hm1798⟩ (by decide) (by decide) (by decide) (fun _ _ _ h => by obtain ⟨_, _, eIN, _⟩ := h; exact eIN) ?_ ?_
      · rintro i1800 E W hi1806 ⟨x1851, L1901, ⟨eI, eN⟩, hST, e1903, e1904, e1905, e1906, hm1902⟩
        obtain ⟨x1801, xs1802, hx1804, hx1803, hx1805⟩ := drop_cons hi1806
        rw [hx1804] at hm1902
        rw [m_ref03_Set_L2] at hm1902
        refine CW_block ?_
        refine CW_seq ?_
        refine CW_region ?_
        refine LW_q (.inl rfl) rfl (by decide) (R_indexP (enc := encS) (i := (i1800 : Int)) (x0 := x1801) Tryz.underlying27 Tryz.sizeOf9 e1906 eI h_a0 (Int.natCast_nonneg _) hx1803) (fun p1907 hp1908 => ?_)
        refine LW_v (.inl rfl) rfl (by decide) (R_load rfl (load_at1 hST.has (y := (.string x1801)) hp1908 Tryz.isAgg9)) ?_
        refine LW_v (.inl rfl) rfl (by decide) (R_assign (v := (.string x1801)) rfl) ?_
        refine LW_nil ?_
        refine sq_n ?_
        refine CW_seq ?_
        obtain ⟨s1935, hm1936, hm1937⟩ := bind_some hm1902
        refine CW_cut (fun E W => ∃ (x1923 : Bool) (L1924 : List (Nat × Obj)), ST NoF w W (hp w) (R1299 ++ L1924) ∧ E 0 = v_a0 ∧ E 3 = v1296 ∧ E 4 = (.string x1851) ∧ E 6 = (.string x1801) ∧ E 7 = v_a0 ∧ E 8 = (.int .i64 ((a0.length : Int))) ∧ E 9 = (.int .i64 ((i1800 : Int))) ∧ E 38 = (.bool x1923) ∧ (if x1923 then (m_ref03_Set_L2 l1297 xs1802 x1801) else (m_ref03_Set_L2 l1297 xs1802 x1851)) = some s1797) ?_ ?_
        · refine CW_region ?_
          refine LW_v (.inl rfl) rfl (by decide) (R_move (v := (.string x1801)) rfl) ?_
          obtain ⟨r1938, hr1939, hm1936⟩ := bind_some hm1936
          replace hST : ST NoF w _ _ (R1299 ++ L1901) := hST
          have hsz := hST.size
          refine LW_e (.inl rfl) rfl (by decide) (E_gives (args := [(.string x1801)]) hST rfl Tryz.call108 (by exact args1 rfl) (w_ref03_Right x1801 _ _  hr1939) (fun W1940 hST => ?_))
          refine LW_v (.inl rfl) rfl (by decide) (R_move (v := (.bool r1938)) rfl) ?_
          rcases bool_cases r1938 with hb1941 | hb1941
          · replace hm1936 := if_t hb1941 hm1936
            refine LW_v (.inr ⟨2, true, 15, rfl, rfl, by decide, (congrArg Value.bool hb1941)⟩) rfl (by decide) (R_move (v := v1296) e1904) ?_
            refine LW_v (.inr ⟨2, true, 15, rfl, rfl, by decide, (congrArg Value.bool hb1941)⟩) rfl (by decide) (R_lenRow Tryz.underlying27 rfl hs1298) ?_
            refine LW_v (.inr ⟨2, true, 15, rfl, rfl, by decide, (congrArg Value.bool hb1941)⟩) rfl (by decide) (R_int (k := .i64) (a := ((l1297.length : Int))) (b := 0) (v := (.bool ((((l1297.length : Int)) == 0)))) rfl rfl rfl) ?_
            refine LW_v (.inr ⟨2, true, 15, rfl, rfl, by decide, (congrArg Value.bool hb1941)⟩) rfl (by decide) (R_move (v := (.bool ((((l1297.length : Int)) == 0)))) rfl) ?_
            rcases bool_cases ((((l1297.length : Int)) == 0)) with hb1942 | hb1942
            · replace hm1936 := if_t hb1942 hm1936
              refine LW_no rfl (by decide) rfl rfl (by decide) (congrArg Value.bool hb1942) ?_
              refine LW_no rfl (by decide) rfl rfl (by decide) (congrArg Value.bool hb1942) ?_
              refine LW_no rfl (by decide) rfl rfl (by decide) (congrArg Value.bool hb1942) ?_
              refine LW_no rfl (by decide) rfl rfl (by decide) (congrArg Value.bool hb1942) ?_
              refine LW_no rfl (by decide) rfl rfl (by decide) (congrArg Value.bool hb1942) ?_
              refine LW_no rfl (by decide) rfl rfl (by decide) (congrArg Value.bool hb1942) ?_
              refine LW_no rfl (by decide) rfl rfl (by decide) (congrArg Value.bool hb1942) ?_
              refine LW_no rfl (by decide) rfl rfl (by decide) (congrArg Value.bool hb1942) ?_
              refine LW_v (.inr ⟨2, true, 15, rfl, rfl, by decide, (congrArg Value.bool hb1941)⟩) rfl (by decide) (R_pickT (v := (.bool true)) (congrArg Value.bool hb1942) rfl) ?_
              refine LW_v (.inl rfl) rfl (by decide) (R_pickT (v := (.bool true)) (congrArg Value.bool hb1941) rfl) ?_
              refine LW_v (.inl rfl) rfl (by decide) (R_move (v := (.bool true)) rfl) ?_
              refine LW_v (.inr ⟨17, true, 30, rfl, rfl, by decide, rfl⟩) rfl (by decide) (R_move (v := (.string x1851)) e1905) ?_
              refine LW_v (.inr ⟨17, true, 30, rfl, rfl, by decide, rfl⟩) rfl (by decide) (R_str (a := x1851) (b := zS) (v := (.bool ((beqS x1851 zS)))) rfl rfl rfl) ?_
              refine LW_v (.inr ⟨17, true, 30, rfl, rfl, by decide, rfl⟩) rfl (by decide) (R_move (v := (.bool ((beqS x1851 zS)))) rfl) ?_
              rcases bool_cases ((beqS x1851 zS)) with hb1943 | hb1943
              · replace hm1936 := if_t hb1943 hm1936
                refine LW_no rfl (by decide) rfl rfl (by decide) (congrArg Value.bool hb1943) ?_
                refine LW_no rfl (by decide) rfl rfl (by decide) (congrArg Value.bool hb1943) ?_
                refine LW_no rfl (by decide) rfl rfl (by decide) (congrArg Value.bool hb1943) ?_
                refine LW_v (.inr ⟨17, true, 30, rfl, rfl, by decide, rfl⟩) rfl (by decide) (R_pickT (v := (.bool true)) (congrArg Value.bool hb1943) rfl) ?_
                refine LW_v (.inl rfl) rfl (by decide) (R_pickT (v := (.bool true)) rfl rfl) ?_
                refine LW_nil ?_
                refine sq_n ?_
                replace hm1936 := Option.some.inj hm1936; subst hm1936
                exact ⟨true, _, (hST.sublist (List.Sublist.refl _)), e1903, e1904, e1905, rfl, e1906, eN, eI, rfl, hm1937⟩
              · replace hm1936 := if_f hb1943 hm1936
                refine LW_v (.inr ⟨20, false, 33, rfl, rfl, by decide, (congrArg Value.bool hb1943)⟩) rfl (by decide) (R_move (v := (.string x1801)) rfl) ?_
                refine LW_v (.inr ⟨20, false, 33, rfl, rfl, by decide, (congrArg Value.bool hb1943)⟩) rfl (by decide) (R_move (v := (.string x1851)) e1905) ?_
                refine LW_v (.inr ⟨20, false, 33, rfl, rfl, by decide, (congrArg Value.bool hb1943)⟩) rfl (by decide) (R_str (a := x1801) (b := x1851) (v := (.bool ((ltS x1801 x1851)))) rfl rfl rfl) ?_
                refine LW_v (.inr ⟨17, true, 30, rfl, rfl, by decide, rfl⟩) rfl (by decide) (R_pickF (v := (.bool ((ltS x1801 x1851)))) (congrArg Value.bool hb1943) rfl) ?_
                refine LW_v (.inl rfl) rfl (by decide) (R_pickT (v := (.bool ((ltS x1801 x1851)))) rfl rfl) ?_
                refine LW_nil ?_
                refine sq_n ?_
                replace hm1936 := Option.some.inj hm1936; subst hm1936
                exact ⟨((ltS x1801 x1851)), _, (hST.sublist (List.Sublist.refl _)), e1903, e1904, e1905, rfl, e1906, eN, eI, rfl, hm1937⟩
            · replace hm1936 := if_f hb1942 hm1936
              refine LW_v (.inr ⟨6, false, 19, rfl, rfl, by decide, (congrArg Value.bool hb1942)⟩) rfl (by decide) (R_move (v := (.string x1801)) rfl) ?_
              refine LW_v (.inr ⟨6, false, 19, rfl, rfl, by decide, (congrArg Value.bool hb1942)⟩) rfl (by decide) (R_move (v := v1296) e1904) ?_
              refine LW_v (.inr ⟨6, false, 19, rfl, rfl, by decide, (congrArg Value.bool hb1942)⟩) rfl (by decide) (R_move (v := v1296) e1904) ?_
              refine LW_v (.inr ⟨6, false, 19, rfl, rfl, by decide, (congrArg Value.bool hb1942)⟩) rfl (by decide) (R_lenRow Tryz.underlying27 rfl hs1298) ?_
              refine LW_v (.inr ⟨6, false, 19, rfl, rfl, by decide, (congrArg Value.bool hb1942)⟩) rfl (by decide) (R_int (k := .i64) (a := ((l1297.length : Int))) (b := 1) (v := (.int .i64 ((IntKind.i64.wrap (((l1297.length : Int)) - 1))))) rfl rfl rfl) ?_
              obtain ⟨x1947, hx1948, hm1936⟩ := bind_some hm1936
              refine LW_q (.inr ⟨6, false, 19, rfl, rfl, by decide, (congrArg Value.bool hb1942)⟩) rfl (by decide) (R_indexRow (i := (IntKind.i64.wrap (((l1297.length : Int)) - 1))) (x0 := x1947) Tryz.underlying27 Tryz.sizeOf9 rfl rfl hs1298 (idx_nonneg hx1948) (idx_get hx1948)) (fun p1944 hp1945 => ?_)
              refine LW_v (.inr ⟨6, false, 19, rfl, rfl, by decide, (congrArg Value.bool hb1942)⟩) rfl (by decide) (R_load (v := (.string x1947)) rfl (load_ix1 hST.has (fun p hq => by simp [hq]) hs1298 (fun _ => rfl) hp1945 (idx_get hx1948) (y := (.string x1947)) rfl Tryz.isAgg9)) ?_
              refine LW_v (.inr ⟨6, false, 19, rfl, rfl, by decide, (congrArg Value.bool hb1942)⟩) rfl (by decide) (R_str (a := x1801) (b := x1947) (v := (.bool ((!(ltS x1801 x1947 || beqS x1801 x1947))))) rfl rfl rfl) ?_
              refine LW_v (.inr ⟨2, true, 15, rfl, rfl, by decide, (congrArg Value.bool hb1941)⟩) rfl (by decide) (R_pickF (v := (.bool ((!(ltS x1801 x1947 || beqS x1801 x1947))))) (congrArg Value.bool hb1942) rfl) ?_
              refine LW_v (.inl rfl) rfl (by decide) (R_pickT (v := (.bool ((!(ltS x1801 x1947 || beqS x1801 x1947))))) (congrArg Value.bool hb1941) rfl) ?_
              refine LW_v (.inl rfl) rfl (by decide) (R_move (v := (.bool ((!(ltS x1801 x1947 || beqS x1801 x1947))))) rfl) ?_
              rcases bool_cases ((!(ltS x1801 x1947 || beqS x1801 x1947))) with hb1949 | hb1949
              · replace hm1936 := if_t hb1949 hm1936
                refine LW_v (.inr ⟨17, true, 30, rfl, rfl, by decide, (congrArg Value.bool hb1949)⟩) rfl (by decide) (R_move (v := (.string x1851)) e1905) ?_
                refine LW_v (.inr ⟨17, true, 30, rfl, rfl, by decide, (congrArg Value.bool hb1949)⟩) rfl (by decide) (R_str (a := x1851) (b := zS) (v := (.bool ((beqS x1851 zS)))) rfl rfl rfl) ?_
                refine LW_v (.inr ⟨17, true, 30, rfl, rfl, by decide, (congrArg Value.bool hb1949)⟩) rfl (by decide) (R_move (v := (.bool ((beqS x1851 zS)))) rfl) ?_
                rcases bool_cases ((beqS x1851 zS)) with hb1950 | hb1950
                · replace hm1936 := if_t hb1950 hm1936
                  refine LW_no rfl (by decide) rfl rfl (by decide) (congrArg Value.bool hb1950) ?_
                  refine LW_no rfl (by decide) rfl rfl (by decide) (congrArg Value.bool hb1950) ?_
                  refine LW_no rfl (by decide) rfl rfl (by decide) (congrArg Value.bool hb1950) ?_
                  refine LW_v (.inr ⟨17, true, 30, rfl, rfl, by decide, (congrArg Value.bool hb1949)⟩) rfl (by decide) (R_pickT (v := (.bool true)) (congrArg Value.bool hb1950) rfl) ?_
                  refine LW_v (.inl rfl) rfl (by decide) (R_pickT (v := (.bool true)) (congrArg Value.bool hb1949) rfl) ?_
                  refine LW_nil ?_
                  refine sq_n ?_
                  replace hm1936 := Option.some.inj hm1936; subst hm1936
                  exact ⟨true, _, (hST.sublist (List.Sublist.refl _)), e1903, e1904, e1905, rfl, e1906, eN, eI, rfl, hm1937⟩
                · replace hm1936 := if_f hb1950 hm1936
                  refine LW_v (.inr ⟨20, false, 33, rfl, rfl, by decide, (congrArg Value.bool hb1950)⟩) rfl (by decide) (R_move (v := (.string x1801)) rfl) ?_
                  refine LW_v (.inr ⟨20, false, 33, rfl, rfl, by decide, (congrArg Value.bool hb1950)⟩) rfl (by decide) (R_move (v := (.string x1851)) e1905) ?_
                  refine LW_v (.inr ⟨20, false, 33, rfl, rfl, by decide, (congrArg Value.bool hb1950)⟩) rfl (by decide) (R_str (a := x1801) (b := x1851) (v := (.bool ((ltS x1801 x1851)))) rfl rfl rfl) ?_
                  refine LW_v (.inr ⟨17, true, 30, rfl, rfl, by decide, (congrArg Value.bool hb1949)⟩) rfl (by decide) (R_pickF (v := (.bool ((ltS x1801 x1851)))) (congrArg Value.bool hb1950) rfl) ?_
                  refine LW_v (.inl rfl) rfl (by decide) (R_pickT (v := (.bool ((ltS x1801 x1851)))) (congrArg Value.bool hb1949) rfl) ?_
                  refine LW_nil ?_
                  refine sq_n ?_
                  replace hm1936 := Option.some.inj hm1936; subst hm1936
                  exact ⟨((ltS x1801 x1851)), _, (hST.sublist (List.Sublist.refl _)), e1903, e1904, e1905, rfl, e1906, eN, eI, rfl, hm1937⟩
              · replace hm1936 := if_f hb1949 hm1936
                refine LW_no rfl (by decide) rfl rfl (by decide) (congrArg Value.bool hb1949) ?_
                refine LW_no rfl (by decide) rfl rfl (by decide) (congrArg Value.bool hb1949) ?_
                refine LW_no rfl (by decide) rfl rfl (by decide) (congrArg Value.bool hb1949) ?_
                refine LW_nou rfl (by decide) rfl rfl (by decide) rfl ?_
                refine LW_nou rfl (by decide) rfl rfl (by decide) rfl ?_
                refine LW_nou rfl (by decide) rfl rfl (by decide) rfl ?_
                refine LW_no rfl (by decide) rfl rfl (by decide) (congrArg Value.bool hb1949) ?_
                refine LW_v (.inl rfl) rfl (by decide) (R_pickF (v := (.bool false)) (congrArg Value.bool hb1949) rfl) ?_
                refine LW_nil ?_
                refine sq_n ?_
                replace hm1936 := Option.some.inj hm1936; subst hm1936
                exact ⟨false, _, (hST.sublist (List.Sublist.refl _)), e1903, e1904, e1905, rfl, e1906, eN, eI, rfl, hm1937⟩
          · replace hm1936 := if_f hb1941 hm1936
            refine LW_no rfl (by decide) rfl rfl (by decide) (congrArg Value.bool hb1941) ?_
            refine LW_no rfl (by decide) rfl rfl (by decide) (congrArg Value.bool hb1941) ?_
            refine LW_no rfl (by decide) rfl rfl (by decide) (congrArg Value.bool hb1941) ?_
            refine LW_no rfl (by decide) rfl rfl (by decide) (congrArg Value.bool hb1941) ?_
            refine LW_nou rfl (by decide) rfl rfl (by decide) rfl ?_
            refine LW_nou rfl (by decide) rfl rfl (by decide) rfl ?_
            refine LW_nou rfl (by decide) rfl rfl (by decide) rfl ?_
            refine LW_nou rfl (by decide) rfl rfl (by decide) rfl ?_
            refine LW_nou rfl (by decide) rfl rfl (by decide) rfl ?_
            refine LW_nou rfl (by decide) rfl rfl (by decide) rfl ?_
            refine LW_nou rfl (by decide) rfl rfl (by decide) rfl ?_
            refine LW_nou rfl (by decide) rfl rfl (by decide) rfl ?_
            refine LW_no rfl (by decide) rfl rfl (by decide) (congrArg Value.bool hb1941) ?_
            refine LW_v (.inl rfl) rfl (by decide) (R_pickF (v := (.bool false)) (congrArg Value.bool hb1941) rfl) ?_
            refine LW_v (.inl rfl) rfl (by decide) (R_move (v := (.bool false)) rfl) ?_
            refine LW_no rfl (by decide) rfl rfl (by decide) rfl ?_
            refine LW_no rfl (by decide) rfl rfl (by decide) rfl ?_
            refine LW_no rfl (by decide) rfl rfl (by decide) rfl ?_
            refine LW_nou rfl (by decide) rfl rfl (by decide) rfl ?_
            refine LW_nou rfl (by decide) rfl rfl (by decide) rfl ?_
            refine LW_nou rfl (by decide) rfl rfl (by decide) rfl ?_
            refine LW_no rfl (by decide) rfl rfl (by decide) rfl ?_
            refine LW_v (.inl rfl) rfl (by decide) (R_pickF (v := (.bool false)) rfl rfl) ?_
            refine LW_nil ?_
            refine sq_n ?_
            replace hm1936 := Option.some.inj hm1936; subst hm1936
            exact ⟨false, _, (hST.sublist (List.Sublist.refl _)), e1903, e1904, e1905, rfl, e1906, eN, eI, rfl, hm1937⟩
        · rintro E W ⟨x1923, L1924, hST, e1926, e1927, e1928, e1929, e1930, e1931, e1932, e1933, hm1925⟩
          refine CW_if (b := x1923) e1933 (fun hb1934 => ?_) (fun hb1934 => ?_)
          · replace hm1925 := if_t hb1934 hm1925
            refine CW_region ?_
            refine LW_v (.inl rfl) rfl (by decide) (R_move (v := (.string x1801)) e1929) ?_
            refine LW_v (.inl rfl) rfl (by decide) (R_assign (v := (.string x1801)) rfl) ?_
            refine LW_nil ?_
            refine bq_n ?_
            refine sq_n ?_
            exact ⟨e1932, x1801, _, ⟨rfl, e1931⟩, (hST.sublist (List.Sublist.refl _)), e1926, e1927, rfl, e1930, (by rw [hx1805]; exact hm1925)⟩
          · replace hm1925 := if_f hb1934 hm1925
            refine CW_skip ?_
            refine bq_n ?_
            refine sq_n ?_
            exact ⟨e1932, x1851, _, ⟨rfl, e1931⟩, (hST.sublist (List.Sublist.refl _)), e1926, e1927, e1928, e1930, (by rw [hx1805]; exact hm1925)⟩
      · rintro E W ⟨x1851, L1901, ⟨eI, eN⟩, hST, e1903, e1904, e1905, e1906, hm1902⟩
        rw [List.drop_length] at hm1902
        rw [m_ref03_Set_L2] at hm1902
        refine sq_n ?_
        replace hm1902 := Option.some.inj hm1902; subst hm1902
        exact ⟨x1851, _, (hST.sublist (List.Sublist.refl _)), e1903, e1904, e1905, hm1799⟩
    · rintro E W ⟨x1782, L1783, hST, e1785, e1786, e1787, hm1784⟩
      refine CW_seq ?_
      refine CW_seq ?_
      refine CW_region ?_
      refine LW_v (.inl rfl) rfl (by decide) (R_move (v := (.string x1782)) e1787) ?_
      refine LW_v (.inl rfl) rfl (by decide) (R_str (a := x1782) (b := zS) (v := (.bool ((beqS x1782 zS)))) rfl rfl rfl) ?_
      refine LW_nil ?_
      refine sq_n ?_
      refine CW_if (b := (beqS x1782 zS)) rfl (fun hb1788 => ?_) (fun hb1788 => ?_)
      · replace hm1784 := if_t hb1788 hm1784
        refine CW_seq ?_
        refine CW_region ?_
        refine LW_v (.inl rfl) rfl (by decide) (R_move (v := v1296) e1786) ?_
        refine LW_v (.inl rfl) rfl (by decide) (R_assign (v := v1296) rfl) ?_
        refine LW_nil ?_
        refine sq_n ?_
        refine CW_ret ?_
        refine sq_r (bq_r (sq_r (bq_r (sq_r ?_))))
        replace hm1784 := Option.some.inj hm1784; subst hm1784
        refine retQ_1 (v := v1296) rfl rfl ?_
        exact ⟨_, R1299, rfl, hST.backRow (fun p hq => by simp [hq]) hs1298.nd, hs1298⟩
      · replace hm1784 := if_f hb1788 hm1784
        refine CW_skip ?_
        refine sq_n ?_
        refine CW_region ?_
        refine LW_v (.inl rfl) rfl (by decide) (R_move (v := v1296) e1786) ?_
        refine LW_v (.inl rfl) rfl (by decide) (R_move (v := (.string x1782)) e1787) ?_
        refine LW_e (.inl rfl) rfl (by decide) (E_buildSlice (qs := #[(0, (.string x1782))]) (cs := [(.string x1782)].toArray) hST (parts1 rfl) (run_lit [(.string x1782)] Tryz.underlying27 Tryz.sizeOf9 Tryz.zeroValue9 (by decide) rfl (by intro v hv; simp only [List.mem_cons, List.not_mem_nil, or_false] at hv; rcases hv with rfl <;> rfl) rfl rfl) (fun W1790 b1789 hST => ?_))
        obtain ⟨l1791, hb1792, hm1784⟩ := bind_some hm1784
        refine LW_e (.inl rfl) rfl (by decide) (E_append (enc := encS) (v := v1296) (vs := (.slice (some ⟨b1789, 0, none⟩) 1 1)) (R := R1299) [_] hST (fun _ => rfl) (by decide) oneS Tryz.underlying27 info9.1 info9.2.1 rfl info9.2.2.1 info9.2.2.2 rfl rfl hs1298 (Sl.lit (enc := encS) (l := [x1782]) (fun _ => rfl) rfl (Nat.le_of_ble_eq_true rfl) rfl (hST.at_ (.head _))) hb1792 (fun W1793 v1796 R1794 hST hR1795 => ?_))
        refine LW_v (.inl rfl) rfl (by decide) (R_assign (v := v1796) rfl) ?_
        refine LW_nil ?_
        refine bq_n ?_
        refine sq_n ?_
        replace hST : ST NoF w _ _ ((b1789, Obj.cells ([(.string x1782)].toArray : Array Value) 9 (0, 0)) :: (R1794 ++ L1783)) := hST
        replace hST : ST NoF w _ _ (R1794 ++ L1783) := hST.sublist (List.Sublist.cons _ (List.Sublist.refl _))
        exact ⟨n1628, Nat.lt_succ_self _, v1796, l1791, R1794, _, (hST.sublist (List.Sublist.refl _)), e1785, rfl, hR1795, hm1784⟩

theorem w_ref22_Of (v_a0 : Value) (a0 : List Cred) (v_a1 : Value) (a1 : List Role) (r : ((List Role) × (List ByteArray) × (List Cred))) (w : World) (h_a0 : Sl (Pl encCred) 9 (hp w) v_a0 a0) (h_a1 : Sl (Pl encRole) 2 (hp w) v_a1 a1) (hm : m_ref22_Of a0 a1 = some r) :
    GivesM Tryz.prog 18 [v_a0, v_a1] w [] (fun v L1 W' => ∃ (y1 : Value) (S2 : List (Nat × Obj)) (y4 : Value) (S5 : List (Nat × Obj)) (y7 : Value) (S8 : List (Nat × Obj)), v = (.agg #[y1, y4, y7]) ∧ L1 = (S2 ++ (S5 ++ (S8 ++ []))) ∧ Row 47 encRole 2 y1 r.1 S2 ∧ Row 9 encS 1 y4 r.2.1 S5 ∧ Row 83 encCred 9 y7 r.2.2 S8) := by
  have hST := ST.start w
  unfold m_ref22_Of at hm
  refine calls_of_CW (n := 91) Tryz.func18 rfl rfl (Nat.le_of_ble_eq_true rfl) ?_
  refine CW_seq ?_
  refine CW_region ?_
  refine LW_e (.inl rfl) rfl (by decide) (E_alloc hST Tryz.zeroValue29 (fun W2 b1 hST => ?_))
  refine LW_nil ?_
  refine sq_n ?_
  refine CW_seq ?_
  refine CW_region ?_
  refine LW_v (.inl rfl) rfl (by decide) (R_move (v := v_a0) rfl) ?_
  obtain ⟨r3, hr4, hm⟩ := bind_some hm
  replace hST : ST NoF w _ _ ((b1, Obj.cells (#[(.slice none 0 0), (.slice none 0 0), (.slice none 0 0)] : Array Value) 29 (0, 0)) :: []) := hST
  have hsz := hST.size
  refine LW_e (.inl rfl) rfl (by decide) (E_givesRow (args := [v_a0]) [_] _ hST rfl Tryz.call49 (by exact args1 rfl) (w_ref05_Set v_a0 a0 _ _ (h_a0.mono (Pl.mono _) hST.sub_hp) hr4) (fun W5 v8 μ6 R9 hST hle7 hR10 => ?_))
  refine LW_v (.inl rfl) rfl (by decide) (R_assign (v := v8) rfl) ?_
  refine LW_nil ?_
  refine sq_n ?_
  refine CW_seq ?_
  refine CW_region ?_
  refine LW_v (.inl rfl) rfl (by decide) (R_move (v := v_a1) rfl) ?_
  obtain ⟨r11, hr12, hm⟩ := bind_some hm
  replace hST : ST NoF w _ _ ((b1, Obj.cells (#[(.slice none 0 0), (.slice none 0 0), (.slice none 0 0)] : Array Value) 29 (0, 0)) :: (R9 ++ [])) := hST
  have hsz := hST.size
  refine LW_e (.inl rfl) rfl (by decide) (E_givesRow (args := [v_a1]) [_] _ hST rfl Tryz.call72 (by exact args1 rfl) (w_ref04_Set v_a1 a1 _ _ (h_a1.mono (Pl.mono _) (hle7.trans hST.sub_hp)) hr12) (fun W13 v16 μ14 R17 hST hle15 hR18 => ?_))
  obtain ⟨A19, c20, rfl⟩ := hR18.form
  refine LW_v (.inl rfl) rfl (by decide) (R_build (qs := #[(0, (.slice A19 r11.length c20))]) (v := (.agg #[(.slice A19 r11.length c20), (.slice none 0 0), (.slice none 0 0)])) (parts1 rfl) (run_build Tryz.zeroValue29 Tryz.underlying29 (pl29 _ Tryz.underlying29) (by kernel_rfl))) ?_
  refine LW_e (.inl rfl) rfl (by decide) (E_alloc hST Tryz.zeroValue29 (fun W22 b21 hST => ?_))
  refine LW_e0 (.inl rfl) rfl (E_store [] (.agg #[(.slice A19 r11.length c20), (.slice none 0 0), (.slice none 0 0)]) (#[(.slice A19 r11.length c20), (.slice none 0 0), (.slice none 0 0)]) hST rfl rfl Tryz.sizeOf29 (by simp [Value.cells, Value.oneCell']) (Nat.le_of_ble_eq_true rfl) rfl (fun W23 hST => ?_))
  refine LW_nil ?_
  refine sq_n ?_
  refine CW_tail ?_
  refine CW_block (CW_loop (fun m E W => ∃ (v5705 : Value) (l5706 : List Role) (R5708 : List (Nat × Obj)) (v5709 : Value) (l5710 : List ByteArray) (R5712 : List (Nat × Obj)) (v5713 : Value) (l5714 : List Cred) (R5716 : List (Nat × Obj)) (L7144 : List (Nat × Obj)), ST NoF w W μ14 ((b21, Obj.cells (#[v5705, v5709, v5713] : Array Value) 29 (0, 0)) :: ((b1, Obj.cells (#[(.slice none 0 0), (.slice none 0 0), (.slice none 0 0)] : Array Value) 29 (0, 0)) :: (R5708 ++ (R5712 ++ (R5716 ++ (R9 ++ L7144)))))) ∧ E 4 = (.pointer (some ⟨b1, 0, none⟩)) ∧ E 5 = v8 ∧ E 6 = (.pointer (some ⟨b21, 0, none⟩)) ∧ Row 47 encRole 2 v5705 l5706 R5708 ∧ Row 9 encS 1 v5709 l5710 R5712 ∧ Row 83 encCred 9 v5713 l5714 R5716 ∧ m_ref22_Of_L1 r3 m l5706 l5710 l5714 = some r) FUEL ⟨(.slice A19 r11.length c20), r11, R17, (.slice none 0 0), ([]), [], (.slice none 0 0), ([]), [], _, (hST.sublist (List.Sublist.refl _)), rfl, rfl, rfl, hR18, (Row.nil _ _ _), (Row.nil _ _ _), hm⟩ ?_)
  rintro m E W ⟨v5705, l5706, R5708, v5709, l5710, R5712, v5713, l5714, R5716, L7144, hST, e7147, e7148, e7149, hs5707, hs5711, hs5715, hm7145⟩
  cases m with
  | zero => rw [m_ref22_Of_L1] at hm7145; cases hm7145
  | succ n7146 =>
    rw [m_ref22_Of_L1] at hm7145
    refine CW_block ?_
    refine CW_seq ?_
    refine CW_region ?_
    refine LW_v (.inl rfl) rfl (by decide) (R_assign (v := (.bool false)) rfl) ?_
    refine LW_nil ?_
    refine sq_n ?_
    refine CW_seq ?_
    refine CW_seq ?_
    refine CW_region ?_
    refine LW_v (.inl rfl) rfl (by decide) (R_move (v := v8) e7148) ?_
    refine LW_v (.inl rfl) rfl (by decide) (R_lenRow Tryz.underlying22 rfl hR10) ?_
    refine LW_v (.inl rfl) rfl (by decide) (R_move (v := (.int .i64 0)) rfl) ?_
    refine LW_nil ?_
    refine sq_n ?_
    obtain ⟨s7896, hm7897, hm7898⟩ := bind_some hm7145
    refine CW_cut (fun E W => ∃ (x7813 : Bool) (v7814 : Value) (l7815 : List Role) (R7817 : List (Nat × Obj)) (v7818 : Value) (l7819 : List ByteArray) (R7821 : List (Nat × Obj)) (v7822 : Value) (l7823 : List Cred) (R7825 : List (Nat × Obj)) (L7826 : List (Nat × Obj)), ST NoF w W μ14 ((b21, Obj.cells (#[v7814, v7818, v7822] : Array Value) 29 (0, 0)) :: ((b1, Obj.cells (#[(.slice none 0 0), (.slice none 0 0), (.slice none 0 0)] : Array Value) 29 (0, 0)) :: (R7817 ++ (R7821 ++ (R7825 ++ (R9 ++ L7826)))))) ∧ E 4 = (.pointer (some ⟨b1, 0, none⟩)) ∧ E 5 = v8 ∧ E 6 = (.pointer (some ⟨b21, 0, none⟩)) ∧ E 7 = (.bool x7813) ∧ Row 47 encRole 2 v7814 l7815 R7817 ∧ Row 9 encS 1 v7818 l7819 R7821 ∧ Row 83 encCred 9 v7822 l7823 R7825 ∧ (if (!x7813) then (((m_ref04_Set l7815)).bind fun r7864 => (((m_ref03_Set l7819)).bind fun r7872 => (((m_ref05_Set l7823)).bind fun r7880 => some (r7864, r7872, r7880)))) else (m_ref22_Of_L1 r3 n7146 l7815 l7819 l7823)) = some r) ?_ ?_
    · refine CW_range (fun i E W => ∃ (x8112 : Bool) (v8113 : Value) (l8114 : List Role) (R8116 : List (Nat × Obj)) (v8117 : Value) (l8118 : List ByteArray) (R8120 : List (Nat × Obj)) (v8121 : Value) (l8122 : List Cred) (R8124 : List (Nat × Obj)) (L8349 : List (Nat × Obj)), (E 17 = .int .i64 (i : Nat) ∧ E 16 = .int .i64 (r3.length : Nat)) ∧ ST NoF w W μ14 ((b21, Obj.cells (#[v8113, v8117, v8121] : Array Value) 29 (0, 0)) :: ((b1, Obj.cells (#[(.slice none 0 0), (.slice none 0 0), (.slice none 0 0)] : Array Value) 29 (0, 0)) :: (R8116 ++ (R8120 ++ (R8124 ++ (R9 ++ L8349)))))) ∧ E 4 = (.pointer (some ⟨b1, 0, none⟩)) ∧ E 5 = v8 ∧ E 6 = (.pointer (some ⟨b21, 0, none⟩)) ∧ E 7 = (.bool x8112) ∧ E 15 = v8 ∧ Row 47 encRole 2 v8113 l8114 R8116 ∧ Row 9 encS 1 v8117 l8118 R8120 ∧ Row 83 encCred 9 v8121 l8122 R8124 ∧ m_ref22_Of_L2 (r3.drop i) x8112 l8114 l8118 l8122 = some s7896) r3.length hR10.len ⟨false, v5705, l5706, R5708, v5709, l5710, R5712, v5713, l5714, R5716, _, ⟨rfl, rfl⟩, (hST.sublist (List.Sublist.refl _)), e7147, e7148, e7149, rfl, rfl, hs5707, hs5711, hs5715, hm7897⟩ (by decide) (by decide) (by decide) (fun _ _ _ h => by obtain ⟨_, _, _, _, _, _, _, _, _, _, _, eIN, _⟩ := h; exact eIN) ?_ ?_
      · rintro i7899 E W hi7905 ⟨x8112, v8113, l8114, R8116, v8117, l8118, R8120, v8121, l8122, R8124, L8349, ⟨eI, eN⟩, hST, e8351, e8352, e8353, e8354, e8355, hs8115, hs8119, hs8123, hm8350⟩
        obtain ⟨x7900, xs7901, hx7903, hx7902, hx7904⟩ := drop_cons hi7905
        rw [hx7903] at hm8350
        rw [m_ref22_Of_L2] at hm8350
        refine CW_block ?_
        refine CW_seq ?_
        refine CW_region ?_
        refine LW_q (.inl rfl) rfl (by decide) (R_indexRow (i := (i7899 : Int)) (x0 := x7900) Tryz.underlying22 Tryz.sizeOf83 e8355 eI hR10 (Int.natCast_nonneg _) hx7902) (fun p8356 hp8357 => ?_)
        refine LW_v (.inl rfl) rfl (by decide) (R_load (v := (.agg (encCred x7900).toArray)) rfl (load_ixA hST.has (fun p hq => by simp [hq]) hR10 lenCred hp8357 hx7902 Tryz.isAgg83 Tryz.sizeOf83)) ?_
        refine LW_e (.inl rfl) rfl (by decide) (E_alloc hST Tryz.zeroValue83 (fun W8360 b8359 hST => ?_))
        refine LW_e0 (.inl rfl) rfl (E_store [] (.agg (encCred x7900).toArray) ((encCred x7900).toArray) hST rfl rfl Tryz.sizeOf83 (oneCred x7900) (Nat.le_of_ble_eq_true rfl) rfl (fun W8361 hST => ?_))
        refine LW_nil ?_
        refine sq_n ?_
        refine CW_seq ?_
        obtain ⟨s8517, hm8518, hm8519⟩ := bind_some hm8350
        refine CW_cut (fun E W => ∃  (L8403 : List (Nat × Obj)), ST NoF w W μ14 ((b8359, Obj.cells ((encCred x7900).toArray : Array Value) 83 (0, 0)) :: ((b21, Obj.cells (#[v8113, v8117, v8121] : Array Value) 29 (0, 0)) :: ((b1, Obj.cells (#[(.slice none 0 0), (.slice none 0 0), (.slice none 0 0)] : Array Value) 29 (0, 0)) :: (R8116 ++ (R8120 ++ (R8124 ++ (R9 ++ L8403))))))) ∧ E 4 = (.pointer (some ⟨b1, 0, none⟩)) ∧ E 5 = v8 ∧ E 6 = (.pointer (some ⟨b21, 0, none⟩)) ∧ E 9 = (.pointer (some ⟨b8359, 0, none⟩)) ∧ E 15 = v8 ∧ E 16 = (.int .i64 ((r3.length : Int))) ∧ E 17 = (.int .i64 ((i7899 : Int))) ∧ (((appB 136 l8122 ([x7900]))).bind fun l8414 => (((if (decide (x7900.Kind > 1)) then (((appB 32 l8114 ([x7900.B]))).bind fun l8508 => some l8508) else some l8114) : Option (List Role)).bind fun l8436 => (((if (x7900.Kind == 4) then (((appB 32 l8436 ([x7900.C]))).bind fun l8493 => some l8493) else some l8436) : Option (List Role)).bind fun l8462 => (if (x7900.Kind == 3) then (((appB 16 l8118 ([x7900.Word2]))).bind fun l8478 => (m_ref22_Of_L2 xs7901 true l8462 l8478 l8414)) else (m_ref22_Of_L2 xs7901 true l8462 l8118 l8414))))) = some s7896) ?_ ?_
        · refine CW_seq ?_
          obtain ⟨s8547, hm8548, hm8549⟩ := bind_some hm8518
          refine CW_cut (fun E W => ∃ (x8531 : Bool) (L8532 : List (Nat × Obj)), ST NoF w W μ14 ((b8359, Obj.cells ((encCred x7900).toArray : Array Value) 83 (0, 0)) :: ((b21, Obj.cells (#[v8113, v8117, v8121] : Array Value) 29 (0, 0)) :: ((b1, Obj.cells (#[(.slice none 0 0), (.slice none 0 0), (.slice none 0 0)] : Array Value) 29 (0, 0)) :: (R8116 ++ (R8120 ++ (R8124 ++ (R9 ++ L8532))))))) ∧ E 4 = (.pointer (some ⟨b1, 0, none⟩)) ∧ E 5 = v8 ∧ E 6 = (.pointer (some ⟨b21, 0, none⟩)) ∧ E 7 = (.bool x8112) ∧ E 9 = (.pointer (some ⟨b8359, 0, none⟩)) ∧ E 15 = v8 ∧ E 16 = (.int .i64 ((r3.length : Int))) ∧ E 17 = (.int .i64 ((i7899 : Int))) ∧ E 41 = (.bool x8531) ∧ (if x8531 then (((m_ref22_Of_L2 xs7901 x8112 l8114 l8118 l8122) : Option ((Bool × (List Role) × (List ByteArray) × (List Cred)))).bind fun q8544 => some (Sum.inl q8544)) else some (Sum.inr ())) = some s8517) ?_ ?_
          · refine CW_region ?_
            refine LW_v (.inl rfl) rfl (by decide) (R_field fa29_2 e8353) ?_
            refine LW_v (.inl rfl) rfl (by decide) (R_load (v := v8121) rfl (load_box1 hST.has (.tail _ (.head _)) rfl Tryz.isAgg22)) ?_
            refine LW_v (.inl rfl) rfl (by decide) (R_load (v := (.agg (encCred x7900).toArray)) rfl (load_boxA hST.has (.head _) (encCred x7900) rfl Tryz.isAgg83 Tryz.sizeOf83)) ?_
            obtain ⟨r8550, hr8551, hm8548⟩ := bind_some hm8548
            replace hST : ST NoF w _ _ ((b8359, Obj.cells ((encCred x7900).toArray : Array Value) 83 (0, 0)) :: ((b21, Obj.cells (#[v8113, v8117, v8121] : Array Value) 29 (0, 0)) :: ((b1, Obj.cells (#[(.slice none 0 0), (.slice none 0 0), (.slice none 0 0)] : Array Value) 29 (0, 0)) :: (R8116 ++ (R8120 ++ (R8124 ++ (R9 ++ L8349))))))) := hST
            have hsz := hST.size
            refine LW_e (.inl rfl) rfl (by decide) (E_gives (args := [v8121, (.agg (encCred x7900).toArray)]) hST rfl Tryz.call73 (by exact args2 rfl rfl) (w_ref05_Has v8121 l8122 x7900 _ _ (hs8123.sl lenCred (fun b o hq => hST.at_ (.tail _ (.tail _ (.tail _ (List.mem_append_right _ (List.mem_append_right _ (List.mem_append_left _ hq)))))))) hr8551) (fun W8552 hST => ?_))
            refine LW_v (.inl rfl) rfl (by decide) (R_move (v := (.bool r8550)) rfl) ?_
            rcases bool_cases r8550 with hb8553 | hb8553
            · replace hm8548 := if_t hb8553 hm8548
              refine LW_no rfl (by decide) rfl rfl (by decide) (congrArg Value.bool hb8553) ?_
              refine LW_no rfl (by decide) rfl rfl (by decide) (congrArg Value.bool hb8553) ?_
              refine LW_no rfl (by decide) rfl rfl (by decide) (congrArg Value.bool hb8553) ?_
              refine LW_no rfl (by decide) rfl rfl (by decide) (congrArg Value.bool hb8553) ?_
              refine LW_no rfl (by decide) rfl rfl (by decide) (congrArg Value.bool hb8553) ?_
              refine LW_no rfl (by decide) rfl rfl (by decide) (congrArg Value.bool hb8553) ?_
              refine LW_no rfl (by decide) rfl rfl (by decide) (congrArg Value.bool hb8553) ?_
              refine LW_nou rfl (by decide) rfl rfl (by decide) rfl ?_
              refine LW_nou rfl (by decide) rfl rfl (by decide) rfl ?_
              refine LW_nou rfl (by decide) rfl rfl (by decide) rfl ?_
              refine LW_nou rfl (by decide) rfl rfl (by decide) rfl ?_
              refine LW_nou rfl (by decide) rfl rfl (by decide) rfl ?_
              refine LW_nou rfl (by decide) rfl rfl (by decide) rfl ?_
              refine LW_nou rfl (by decide) rfl rfl (by decide) rfl ?_
              refine LW_no rfl (by decide) rfl rfl (by decide) (congrArg Value.bool hb8553) ?_
              refine LW_v (.inl rfl) rfl (by decide) (R_pickT (v := (.bool true)) (congrArg Value.bool hb8553) rfl) ?_
              refine LW_nil ?_
              refine sq_n ?_
              replace hm8548 := Option.some.inj hm8548; subst hm8548
              exact ⟨true, _, (hST.sublist (List.Sublist.refl _)), e8351, e8352, e8353, e8354, rfl, e8355, eN, eI, rfl, hm8549⟩
            · replace hm8548 := if_f hb8553 hm8548
              refine LW_v (.inr ⟨4, false, 25, rfl, rfl, by decide, (congrArg Value.bool hb8553)⟩) rfl (by decide) (R_field fa29_0 e8353) ?_
              refine LW_v (.inr ⟨4, false, 25, rfl, rfl, by decide, (congrArg Value.bool hb8553)⟩) rfl (by decide) (R_load (v := v8113) rfl (load_box1 hST.has (.tail _ (.head _)) rfl Tryz.isAgg23)) ?_
              refine LW_v (.inr ⟨4, false, 25, rfl, rfl, by decide, (congrArg Value.bool hb8553)⟩) rfl (by decide) (R_field fa83_1 rfl) ?_
              refine LW_v (.inr ⟨4, false, 25, rfl, rfl, by decide, (congrArg Value.bool hb8553)⟩) rfl (by decide) (R_load (v := (.agg (encRole x7900.Head).toArray)) rfl (load_boxA hST.has (.head _) (encRole x7900.Head) rfl Tryz.isAgg47 Tryz.sizeOf47)) ?_
              obtain ⟨r8554, hr8555, hm8548⟩ := bind_some hm8548
              replace hST : ST NoF w _ _ ((b8359, Obj.cells ((encCred x7900).toArray : Array Value) 83 (0, 0)) :: ((b21, Obj.cells (#[v8113, v8117, v8121] : Array Value) 29 (0, 0)) :: ((b1, Obj.cells (#[(.slice none 0 0), (.slice none 0 0), (.slice none 0 0)] : Array Value) 29 (0, 0)) :: (R8116 ++ (R8120 ++ (R8124 ++ (R9 ++ L8349))))))) := hST
              have hsz := hST.size
              refine LW_e (.inr ⟨4, false, 25, rfl, rfl, by decide, (congrArg Value.bool hb8553)⟩) rfl (by decide) (E_gives (args := [v8113, (.agg (encRole x7900.Head).toArray)]) hST rfl Tryz.call74 (by exact args2 rfl rfl) (w_ref04_Has v8113 l8114 x7900.Head _ _ (hs8115.sl lenRole (fun b o hq => hST.at_ (.tail _ (.tail _ (.tail _ (List.mem_append_left _ hq)))))) hr8555) (fun W8556 hST => ?_))
              refine LW_v (.inr ⟨4, false, 25, rfl, rfl, by decide, (congrArg Value.bool hb8553)⟩) rfl (by decide) (R_not (b := r8554) rfl) ?_
              refine LW_v (.inr ⟨4, false, 25, rfl, rfl, by decide, (congrArg Value.bool hb8553)⟩) rfl (by decide) (R_move (v := (.bool ((!r8554)))) rfl) ?_
              rcases bool_cases ((!r8554)) with hb8557 | hb8557
              · replace hm8548 := if_t hb8557 hm8548
                refine LW_v (.inr ⟨11, true, 32, rfl, rfl, by decide, (congrArg Value.bool hb8557)⟩) rfl (by decide) (R_field fa29_1 e8353) ?_
                refine LW_v (.inr ⟨11, true, 32, rfl, rfl, by decide, (congrArg Value.bool hb8557)⟩) rfl (by decide) (R_load (v := v8117) rfl (load_box1 hST.has (.tail _ (.head _)) rfl Tryz.isAgg27)) ?_
                refine LW_v (.inr ⟨11, true, 32, rfl, rfl, by decide, (congrArg Value.bool hb8557)⟩) rfl (by decide) (R_field fa83_1 rfl) ?_
                refine LW_v (.inr ⟨11, true, 32, rfl, rfl, by decide, (congrArg Value.bool hb8557)⟩) rfl (by decide) (R_field fa47_1 rfl) ?_
                refine LW_v (.inr ⟨11, true, 32, rfl, rfl, by decide, (congrArg Value.bool hb8557)⟩) rfl (by decide) (R_load (v := (.string x7900.Head.Word)) rfl (load_box1 hST.has (.head _) rfl Tryz.isAgg9)) ?_
                obtain ⟨r8558, hr8559, hm8548⟩ := bind_some hm8548
                replace hST : ST NoF w _ _ ((b8359, Obj.cells ((encCred x7900).toArray : Array Value) 83 (0, 0)) :: ((b21, Obj.cells (#[v8113, v8117, v8121] : Array Value) 29 (0, 0)) :: ((b1, Obj.cells (#[(.slice none 0 0), (.slice none 0 0), (.slice none 0 0)] : Array Value) 29 (0, 0)) :: (R8116 ++ (R8120 ++ (R8124 ++ (R9 ++ L8349))))))) := hST
                have hsz := hST.size
                refine LW_e (.inr ⟨11, true, 32, rfl, rfl, by decide, (congrArg Value.bool hb8557)⟩) rfl (by decide) (E_gives (args := [v8117, (.string x7900.Head.Word)]) hST rfl Tryz.call75 (by exact args2 rfl rfl) (w_ref03_Has v8117 l8118 x7900.Head.Word _ _ (hs8119.sl (fun _ => rfl) (fun b o hq => hST.at_ (.tail _ (.tail _ (.tail _ (List.mem_append_right _ (List.mem_append_left _ hq))))))) hr8559) (fun W8560 hST => ?_))
                refine LW_v (.inr ⟨11, true, 32, rfl, rfl, by decide, (congrArg Value.bool hb8557)⟩) rfl (by decide) (R_not (b := r8558) rfl) ?_
                refine LW_v (.inr ⟨4, false, 25, rfl, rfl, by decide, (congrArg Value.bool hb8553)⟩) rfl (by decide) (R_pickT (v := (.bool ((!r8558)))) (congrArg Value.bool hb8557) rfl) ?_
                refine LW_v (.inl rfl) rfl (by decide) (R_pickF (v := (.bool ((!r8558)))) (congrArg Value.bool hb8553) rfl) ?_
                refine LW_nil ?_
                refine sq_n ?_
                replace hm8548 := Option.some.inj hm8548; subst hm8548
                exact ⟨((!r8558)), _, (hST.sublist (List.Sublist.refl _)), e8351, e8352, e8353, e8354, rfl, e8355, eN, eI, rfl, hm8549⟩
              · replace hm8548 := if_f hb8557 hm8548
                refine LW_no rfl (by decide) rfl rfl (by decide) (congrArg Value.bool hb8557) ?_
                refine LW_no rfl (by decide) rfl rfl (by decide) (congrArg Value.bool hb8557) ?_
                refine LW_no rfl (by decide) rfl rfl (by decide) (congrArg Value.bool hb8557) ?_
                refine LW_no rfl (by decide) rfl rfl (by decide) (congrArg Value.bool hb8557) ?_
                refine LW_no rfl (by decide) rfl rfl (by decide) (congrArg Value.bool hb8557) ?_
                refine LW_no rfl (by decide) rfl rfl (by decide) (congrArg Value.bool hb8557) ?_
                refine LW_no rfl (by decide) rfl rfl (by decide) (congrArg Value.bool hb8557) ?_
                refine LW_v (.inr ⟨4, false, 25, rfl, rfl, by decide, (congrArg Value.bool hb8553)⟩) rfl (by decide) (R_pickF (v := (.bool false)) (congrArg Value.bool hb8557) rfl) ?_
                refine LW_v (.inl rfl) rfl (by decide) (R_pickF (v := (.bool false)) (congrArg Value.bool hb8553) rfl) ?_
                refine LW_nil ?_
                refine sq_n ?_
                replace hm8548 := Option.some.inj hm8548; subst hm8548
                exact ⟨false, _, (hST.sublist (List.Sublist.refl _)), e8351, e8352, e8353, e8354, rfl, e8355, eN, eI, rfl, hm8549⟩
          · rintro E W ⟨x8531, L8532, hST, e8534, e8535, e8536, e8537, e8538, e8539, e8540, e8541, e8542, hm8533⟩
            refine CW_if (b := x8531) e8542 (fun hb8543 => ?_) (fun hb8543 => ?_)
            · replace hm8533 := if_t hb8543 hm8533
              refine CW_exit ?_
              refine sq_e (bq_e ?_)
              obtain ⟨q8544, hq8545, hx8546⟩ := bind_some hm8533
              replace hx8546 := Option.some.inj hx8546; subst hx8546
              replace hm8519 : some q8544 = some s7896 := hm8519
              replace hm8519 := (Option.some.inj hm8519).symm; subst hm8519
              refine sq_n ?_
              replace hST : ST NoF w _ _ ((b8359, Obj.cells ((encCred x7900).toArray : Array Value) 83 (0, 0)) :: ((b21, Obj.cells (#[v8113, v8117, v8121] : Array Value) 29 (0, 0)) :: ((b1, Obj.cells (#[(.slice none 0 0), (.slice none 0 0), (.slice none 0 0)] : Array Value) 29 (0, 0)) :: (R8116 ++ (R8120 ++ (R8124 ++ (R9 ++ L8532))))))) := hST
              replace hST : ST NoF w _ _ ((b21, Obj.cells (#[v8113, v8117, v8121] : Array Value) 29 (0, 0)) :: ((b1, Obj.cells (#[(.slice none 0 0), (.slice none 0 0), (.slice none 0 0)] : Array Value) 29 (0, 0)) :: (R8116 ++ (R8120 ++ (R8124 ++ (R9 ++ L8532)))))) := hST.sublist (List.Sublist.cons _ (List.Sublist.refl _))
              exact ⟨e8541, x8112, v8113, l8114, R8116, v8117, l8118, R8120, v8121, l8122, R8124, _, ⟨rfl, e8540⟩, (hST.sublist (List.Sublist.refl _)), e8534, e8535, e8536, e8537, e8539, hs8115, hs8119, hs8123, (by rw [hx7904]; exact hq8545)⟩
            · replace hm8533 := if_f hb8543 hm8533
              refine CW_skip ?_
              refine sq_n ?_
              replace hm8533 := Option.some.inj hm8533; subst hm8533
              exact ⟨_, (hST.sublist (List.Sublist.refl _)), e8534, e8535, e8536, e8538, e8539, e8540, e8541, hm8519⟩
        · rintro E W ⟨L8403, hST, e8405, e8406, e8407, e8408, e8409, e8410, e8411, hm8404⟩
          refine CW_seq ?_
          refine CW_region ?_
          refine LW_v (.inl rfl) rfl (by decide) (R_assign (v := (.bool true)) rfl) ?_
          refine LW_nil ?_
          refine sq_n ?_
          refine CW_seq ?_
          refine CW_region ?_
          refine LW_v (.inl rfl) rfl (by decide) (R_field fa29_2 e8407) ?_
          refine LW_v (.inl rfl) rfl (by decide) (R_load (v := v8121) rfl (load_box1 hST.has (.tail _ (.head _)) rfl Tryz.isAgg22)) ?_
          refine LW_v (.inl rfl) rfl (by decide) (R_load (v := (.agg (encCred x7900).toArray)) e8408 (load_boxA hST.has (.head _) (encCred x7900) rfl Tryz.isAgg83 Tryz.sizeOf83)) ?_
          refine LW_e (.inl rfl) rfl (by decide) (E_buildSlice (qs := #[(0, (.agg (encCred x7900).toArray))]) (cs := (encCred x7900).toArray) hST (parts1 rfl) (run_lit [(.agg (encCred x7900).toArray)] Tryz.underlying22 Tryz.sizeOf83 Tryz.zeroValue83 (by decide) rfl (by intro v hv; simp only [List.mem_cons, List.not_mem_nil, or_false] at hv; rcases hv with rfl <;> rfl) rfl rfl) (fun W8413 b8412 hST => ?_))
          replace hST : ST NoF w _ _ ((b8412, Obj.cells ((encCred x7900).toArray : Array Value) 83 (0, 0)) :: ((b8359, Obj.cells ((encCred x7900).toArray : Array Value) 83 (0, 0)) :: ((b21, Obj.cells (#[v8113, v8117, v8121] : Array Value) 29 (0, 0)) :: ((b1, Obj.cells (#[(.slice none 0 0), (.slice none 0 0), (.slice none 0 0)] : Array Value) 29 (0, 0)) :: (R8124 ++ (R8116 ++ (R8120 ++ (R9 ++ L8403)))))))) := hST.perm (permD [[(b8412, Obj.cells ((encCred x7900).toArray : Array Value) 83 (0, 0))], [(b8359, Obj.cells ((encCred x7900).toArray : Array Value) 83 (0, 0))], [(b21, Obj.cells (#[v8113, v8117, v8121] : Array Value) 29 (0, 0))], [(b1, Obj.cells (#[(.slice none 0 0), (.slice none 0 0), (.slice none 0 0)] : Array Value) 29 (0, 0))], R8116, R8120, R8124] [0, 1, 2, 3, 4, 5, 6] [0, 1, 2, 3, 6, 4, 5] ((R9 ++ L8403)) (by decide) rfl rfl)
          obtain ⟨l8414, hb8415, hm8404⟩ := bind_some hm8404
          refine LW_e (.inl rfl) rfl (by decide) (E_append (enc := encCred) (v := v8121) (vs := (.slice (some ⟨b8412, 0, none⟩) 1 1)) (R := R8124) [_, _, _, _] hST lenCred (by decide) oneCred Tryz.underlying22 info83.1 info83.2.1 rfl info83.2.2.1 info83.2.2.2 rfl rfl hs8123 (Sl.lit (enc := encCred) (l := [x7900]) lenCred rfl (Nat.le_of_ble_eq_true rfl) rfl (hST.at_ (.head _))) hb8415 (fun W8416 v8419 R8417 hST hR8418 => ?_))
          refine LW_v (.inl rfl) rfl (by decide) (R_field fa29_2 e8407) ?_
          obtain ⟨A8420, c8421, rfl⟩ := hR8418.form
          refine LW_e0 (.inl rfl) rfl (E_store [_, _] (.slice A8420 l8414.length c8421) (#[v8113, v8117, (.slice A8420 l8414.length c8421)]) hST rfl rfl Tryz.sizeOf22 (by simp [Value.cells, Value.oneCell']) (Nat.le_of_ble_eq_true rfl) rfl (fun W8422 hST => ?_))
          refine LW_nil ?_
          refine sq_n ?_
          replace hST : ST NoF w _ _ ((b8412, Obj.cells ((encCred x7900).toArray : Array Value) 83 (0, 0)) :: ((b8359, Obj.cells ((encCred x7900).toArray : Array Value) 83 (0, 0)) :: ((b21, Obj.cells (#[v8113, v8117, (.slice A8420 l8414.length c8421)] : Array Value) 29 (0, 0)) :: ((b1, Obj.cells (#[(.slice none 0 0), (.slice none 0 0), (.slice none 0 0)] : Array Value) 29 (0, 0)) :: (R8417 ++ (R8116 ++ (R8120 ++ (R9 ++ L8403)))))))) := hST
          replace hST : ST NoF w _ _ ((b8359, Obj.cells ((encCred x7900).toArray : Array Value) 83 (0, 0)) :: ((b21, Obj.cells (#[v8113, v8117, (.slice A8420 l8414.length c8421)] : Array Value) 29 (0, 0)) :: ((b1, Obj.cells (#[(.slice none 0 0), (.slice none 0 0), (.slice none 0 0)] : Array Value) 29 (0, 0)) :: (R8417 ++ (R8116 ++ (R8120 ++ (R9 ++ L8403))))))) := hST.sublist (List.Sublist.cons _ (List.Sublist.refl _))
          refine CW_seq ?_
          obtain ⟨s8502, hm8503, hm8504⟩ := bind_some hm8404
          refine CW_cut (fun E W => ∃ (v8435 : Value) (l8436 : List Role) (R8438 : List (Nat × Obj)) (L8439 : List (Nat × Obj)), ST NoF w W μ14 ((b8359, Obj.cells ((encCred x7900).toArray : Array Value) 83 (0, 0)) :: ((b21, Obj.cells (#[v8435, v8117, (.slice A8420 l8414.length c8421)] : Array Value) 29 (0, 0)) :: ((b1, Obj.cells (#[(.slice none 0 0), (.slice none 0 0), (.slice none 0 0)] : Array Value) 29 (0, 0)) :: (R8417 ++ (R8438 ++ (R8120 ++ (R9 ++ L8439))))))) ∧ E 4 = (.pointer (some ⟨b1, 0, none⟩)) ∧ E 5 = v8 ∧ E 6 = (.pointer (some ⟨b21, 0, none⟩)) ∧ E 7 = (.bool true) ∧ E 9 = (.pointer (some ⟨b8359, 0, none⟩)) ∧ E 15 = v8 ∧ E 16 = (.int .i64 ((r3.length : Int))) ∧ E 17 = (.int .i64 ((i7899 : Int))) ∧ Row 47 encRole 2 v8435 l8436 R8438 ∧ (((if (x7900.Kind == 4) then (((appB 32 l8436 ([x7900.C]))).bind fun l8493 => some l8493) else some l8436) : Option (List Role)).bind fun l8462 => (if (x7900.Kind == 3) then (((appB 16 l8118 ([x7900.Word2]))).bind fun l8478 => (m_ref22_Of_L2 xs7901 true l8462 l8478 l8414)) else (m_ref22_Of_L2 xs7901 true l8462 l8118 l8414))) = some s7896) ?_ ?_
          · refine CW_seq ?_
            refine CW_region ?_
            refine LW_v (.inl rfl) rfl (by decide) (R_field fa83_0 e8408) ?_
            refine LW_v (.inl rfl) rfl (by decide) (R_load (v := (.int .i64 x7900.Kind)) rfl (load_box1 hST.has (.head _) rfl Tryz.isAgg3)) ?_
            refine LW_v (.inl rfl) rfl (by decide) (R_int (k := .i64) (a := x7900.Kind) (b := 1) (v := (.bool ((decide (x7900.Kind > 1))))) rfl rfl rfl) ?_
            refine LW_nil ?_
            refine sq_n ?_
            refine CW_if (b := (decide (x7900.Kind > 1))) rfl (fun hb8505 => ?_) (fun hb8505 => ?_)
            · replace hm8503 := if_t hb8505 hm8503
              refine CW_region ?_
              refine LW_v (.inl rfl) rfl (by decide) (R_field fa29_0 e8407) ?_
              refine LW_v (.inl rfl) rfl (by decide) (R_load (v := v8113) rfl (load_box1 hST.has (.tail _ (.head _)) rfl Tryz.isAgg23)) ?_
              refine LW_v (.inl rfl) rfl (by decide) (R_field fa83_3 e8408) ?_
              refine LW_v (.inl rfl) rfl (by decide) (R_load (v := (.agg (encRole x7900.B).toArray)) rfl (load_boxA hST.has (.head _) (encRole x7900.B) rfl Tryz.isAgg47 Tryz.sizeOf47)) ?_
              refine LW_e (.inl rfl) rfl (by decide) (E_buildSlice (qs := #[(0, (.agg (encRole x7900.B).toArray))]) (cs := (encRole x7900.B).toArray) hST (parts1 rfl) (run_lit [(.agg (encRole x7900.B).toArray)] Tryz.underlying23 Tryz.sizeOf47 Tryz.zeroValue47 (by decide) rfl (by intro v hv; simp only [List.mem_cons, List.not_mem_nil, or_false] at hv; rcases hv with rfl <;> rfl) rfl rfl) (fun W8507 b8506 hST => ?_))
              replace hST : ST NoF w _ _ ((b8506, Obj.cells ((encRole x7900.B).toArray : Array Value) 47 (0, 0)) :: ((b8359, Obj.cells ((encCred x7900).toArray : Array Value) 83 (0, 0)) :: ((b21, Obj.cells (#[v8113, v8117, (.slice A8420 l8414.length c8421)] : Array Value) 29 (0, 0)) :: ((b1, Obj.cells (#[(.slice none 0 0), (.slice none 0 0), (.slice none 0 0)] : Array Value) 29 (0, 0)) :: (R8116 ++ (R8417 ++ (R8120 ++ (R9 ++ L8403)))))))) := hST.perm (permD [[(b8506, Obj.cells ((encRole x7900.B).toArray : Array Value) 47 (0, 0))], [(b8359, Obj.cells ((encCred x7900).toArray : Array Value) 83 (0, 0))], [(b21, Obj.cells (#[v8113, v8117, (.slice A8420 l8414.length c8421)] : Array Value) 29 (0, 0))], [(b1, Obj.cells (#[(.slice none 0 0), (.slice none 0 0), (.slice none 0 0)] : Array Value) 29 (0, 0))], R8417, R8116] [0, 1, 2, 3, 4, 5] [0, 1, 2, 3, 5, 4] ((R8120 ++ (R9 ++ L8403))) (by decide) rfl rfl)
              obtain ⟨l8508, hb8509, hm8503⟩ := bind_some hm8503
              refine LW_e (.inl rfl) rfl (by decide) (E_append (enc := encRole) (v := v8113) (vs := (.slice (some ⟨b8506, 0, none⟩) 1 1)) (R := R8116) [_, _, _, _] hST lenRole (by decide) oneRole Tryz.underlying23 info47.1 info47.2.1 rfl info47.2.2.1 info47.2.2.2 rfl rfl hs8115 (Sl.lit (enc := encRole) (l := [x7900.B]) lenRole rfl (Nat.le_of_ble_eq_true rfl) rfl (hST.at_ (.head _))) hb8509 (fun W8510 v8513 R8511 hST hR8512 => ?_))
              refine LW_v (.inl rfl) rfl (by decide) (R_field fa29_0 e8407) ?_
              obtain ⟨A8514, c8515, rfl⟩ := hR8512.form
              refine LW_e0 (.inl rfl) rfl (E_store [_, _] (.slice A8514 l8508.length c8515) (#[(.slice A8514 l8508.length c8515), v8117, (.slice A8420 l8414.length c8421)]) hST rfl rfl Tryz.sizeOf23 (by simp [Value.cells, Value.oneCell']) (Nat.le_of_ble_eq_true rfl) rfl (fun W8516 hST => ?_))
              refine LW_nil ?_
              refine sq_n ?_
              replace hm8503 := Option.some.inj hm8503; subst hm8503
              replace hST : ST NoF w _ _ ((b8359, Obj.cells ((encCred x7900).toArray : Array Value) 83 (0, 0)) :: ((b21, Obj.cells (#[(.slice A8514 l8508.length c8515), v8117, (.slice A8420 l8414.length c8421)] : Array Value) 29 (0, 0)) :: ((b1, Obj.cells (#[(.slice none 0 0), (.slice none 0 0), (.slice none 0 0)] : Array Value) 29 (0, 0)) :: ((b8506, Obj.cells ((encRole x7900.B).toArray : Array Value) 47 (0, 0)) :: (R8417 ++ (R8511 ++ (R8120 ++ (R9 ++ L8403)))))))) := hST.perm (permD [[(b8506, Obj.cells ((encRole x7900.B).toArray : Array Value) 47 (0, 0))], [(b8359, Obj.cells ((encCred x7900).toArray : Array Value) 83 (0, 0))], [(b21, Obj.cells (#[(.slice A8514 l8508.length c8515), v8117, (.slice A8420 l8414.length c8421)] : Array Value) 29 (0, 0))], [(b1, Obj.cells (#[(.slice none 0 0), (.slice none 0 0), (.slice none 0 0)] : Array Value) 29 (0, 0))], R8511, R8417] [0, 1, 2, 3, 4, 5] [1, 2, 3, 0, 5, 4] ((R8120 ++ (R9 ++ L8403))) (by decide) rfl rfl)
              exact ⟨(.slice A8514 l8508.length c8515), l8508, R8511, _, (hST.sublist (List.Sublist.cons_cons _ (List.Sublist.cons_cons _ (List.Sublist.cons_cons _ (List.Sublist.cons _ (List.Sublist.refl _)))))), e8405, e8406, e8407, rfl, e8408, e8409, e8410, e8411, hR8512, hm8504⟩
            · replace hm8503 := if_f hb8505 hm8503
              refine CW_skip ?_
              refine sq_n ?_
              replace hm8503 := Option.some.inj hm8503; subst hm8503
              exact ⟨v8113, l8114, R8116, _, (hST.sublist (List.Sublist.refl _)), e8405, e8406, e8407, rfl, e8408, e8409, e8410, e8411, hs8115, hm8504⟩
          · rintro E W ⟨v8435, l8436, R8438, L8439, hST, e8441, e8442, e8443, e8444, e8445, e8446, e8447, e8448, hs8437, hm8440⟩
            refine CW_seq ?_
            obtain ⟨s8487, hm8488, hm8489⟩ := bind_some hm8440
            refine CW_cut (fun E W => ∃ (v8461 : Value) (l8462 : List Role) (R8464 : List (Nat × Obj)) (L8465 : List (Nat × Obj)), ST NoF w W μ14 ((b8359, Obj.cells ((encCred x7900).toArray : Array Value) 83 (0, 0)) :: ((b21, Obj.cells (#[v8461, v8117, (.slice A8420 l8414.length c8421)] : Array Value) 29 (0, 0)) :: ((b1, Obj.cells (#[(.slice none 0 0), (.slice none 0 0), (.slice none 0 0)] : Array Value) 29 (0, 0)) :: (R8417 ++ (R8464 ++ (R8120 ++ (R9 ++ L8465))))))) ∧ E 4 = (.pointer (some ⟨b1, 0, none⟩)) ∧ E 5 = v8 ∧ E 6 = (.pointer (some ⟨b21, 0, none⟩)) ∧ E 7 = (.bool true) ∧ E 9 = (.pointer (some ⟨b8359, 0, none⟩)) ∧ E 15 = v8 ∧ E 16 = (.int .i64 ((r3.length : Int))) ∧ E 17 = (.int .i64 ((i7899 : Int))) ∧ Row 47 encRole 2 v8461 l8462 R8464 ∧ (if (x7900.Kind == 3) then (((appB 16 l8118 ([x7900.Word2]))).bind fun l8478 => (m_ref22_Of_L2 xs7901 true l8462 l8478 l8414)) else (m_ref22_Of_L2 xs7901 true l8462 l8118 l8414)) = some s7896) ?_ ?_
            · refine CW_seq ?_
              refine CW_region ?_
              refine LW_v (.inl rfl) rfl (by decide) (R_field fa83_0 e8445) ?_
              refine LW_v (.inl rfl) rfl (by decide) (R_load (v := (.int .i64 x7900.Kind)) rfl (load_box1 hST.has (.head _) rfl Tryz.isAgg3)) ?_
              refine LW_v (.inl rfl) rfl (by decide) (R_int (k := .i64) (a := x7900.Kind) (b := 4) (v := (.bool ((x7900.Kind == 4)))) rfl rfl rfl) ?_
              refine LW_nil ?_
              refine sq_n ?_
              refine CW_if (b := (x7900.Kind == 4)) rfl (fun hb8490 => ?_) (fun hb8490 => ?_)
              · replace hm8488 := if_t hb8490 hm8488
                refine CW_region ?_
                refine LW_v (.inl rfl) rfl (by decide) (R_field fa29_0 e8443) ?_
                refine LW_v (.inl rfl) rfl (by decide) (R_load (v := v8435) rfl (load_box1 hST.has (.tail _ (.head _)) rfl Tryz.isAgg23)) ?_
                refine LW_v (.inl rfl) rfl (by decide) (R_field fa83_4 e8445) ?_
                refine LW_v (.inl rfl) rfl (by decide) (R_load (v := (.agg (encRole x7900.C).toArray)) rfl (load_boxA hST.has (.head _) (encRole x7900.C) rfl Tryz.isAgg47 Tryz.sizeOf47)) ?_
                refine LW_e (.inl rfl) rfl (by decide) (E_buildSlice (qs := #[(0, (.agg (encRole x7900.C).toArray))]) (cs := (encRole x7900.C).toArray) hST (parts1 rfl) (run_lit [(.agg (encRole x7900.C).toArray)] Tryz.underlying23 Tryz.sizeOf47 Tryz.zeroValue47 (by decide) rfl (by intro v hv; simp only [List.mem_cons, List.not_mem_nil, or_false] at hv; rcases hv with rfl <;> rfl) rfl rfl) (fun W8492 b8491 hST => ?_))
                replace hST : ST NoF w _ _ ((b8491, Obj.cells ((encRole x7900.C).toArray : Array Value) 47 (0, 0)) :: ((b8359, Obj.cells ((encCred x7900).toArray : Array Value) 83 (0, 0)) :: ((b21, Obj.cells (#[v8435, v8117, (.slice A8420 l8414.length c8421)] : Array Value) 29 (0, 0)) :: ((b1, Obj.cells (#[(.slice none 0 0), (.slice none 0 0), (.slice none 0 0)] : Array Value) 29 (0, 0)) :: (R8438 ++ (R8417 ++ (R8120 ++ (R9 ++ L8439)))))))) := hST.perm (permD [[(b8491, Obj.cells ((encRole x7900.C).toArray : Array Value) 47 (0, 0))], [(b8359, Obj.cells ((encCred x7900).toArray : Array Value) 83 (0, 0))], [(b21, Obj.cells (#[v8435, v8117, (.slice A8420 l8414.length c8421)] : Array Value) 29 (0, 0))], [(b1, Obj.cells (#[(.slice none 0 0), (.slice none 0 0), (.slice none 0 0)] : Array Value) 29 (0, 0))], R8417, R8438] [0, 1, 2, 3, 4, 5] [0, 1, 2, 3, 5, 4] ((R8120 ++ (R9 ++ L8439))) (by decide) rfl rfl)
                obtain ⟨l8493, hb8494, hm8488⟩ := bind_some hm8488
                refine LW_e (.inl rfl) rfl (by decide) (E_append (enc := encRole) (v := v8435) (vs := (.slice (some ⟨b8491, 0, none⟩) 1 1)) (R := R8438) [_, _, _, _] hST lenRole (by decide) oneRole Tryz.underlying23 info47.1 info47.2.1 rfl info47.2.2.1 info47.2.2.2 rfl rfl hs8437 (Sl.lit (enc := encRole) (l := [x7900.C]) lenRole rfl (Nat.le_of_ble_eq_true rfl) rfl (hST.at_ (.head _))) hb8494 (fun W8495 v8498 R8496 hST hR8497 => ?_))
                refine LW_v (.inl rfl) rfl (by decide) (R_field fa29_0 e8443) ?_
                obtain ⟨A8499, c8500, rfl⟩ := hR8497.form
                refine LW_e0 (.inl rfl) rfl (E_store [_, _] (.slice A8499 l8493.length c8500) (#[(.slice A8499 l8493.length c8500), v8117, (.slice A8420 l8414.length c8421)]) hST rfl rfl Tryz.sizeOf23 (by simp [Value.cells, Value.oneCell']) (Nat.le_of_ble_eq_true rfl) rfl (fun W8501 hST => ?_))
                refine LW_nil ?_
                refine sq_n ?_
                replace hm8488 := Option.some.inj hm8488; subst hm8488
                replace hST : ST NoF w _ _ ((b8359, Obj.cells ((encCred x7900).toArray : Array Value) 83 (0, 0)) :: ((b21, Obj.cells (#[(.slice A8499 l8493.length c8500), v8117, (.slice A8420 l8414.length c8421)] : Array Value) 29 (0, 0)) :: ((b1, Obj.cells (#[(.slice none 0 0), (.slice none 0 0), (.slice none 0 0)] : Array Value) 29 (0, 0)) :: ((b8491, Obj.cells ((encRole x7900.C).toArray : Array Value) 47 (0, 0)) :: (R8417 ++ (R8496 ++ (R8120 ++ (R9 ++ L8439)))))))) := hST.perm (permD [[(b8491, Obj.cells ((encRole x7900.C).toArray : Array Value) 47 (0, 0))], [(b8359, Obj.cells ((encCred x7900).toArray : Array Value) 83 (0, 0))], [(b21, Obj.cells (#[(.slice A8499 l8493.length c8500), v8117, (.slice A8420 l8414.length c8421)] : Array Value) 29 (0, 0))], [(b1, Obj.cells (#[(.slice none 0 0), (.slice none 0 0), (.slice none 0 0)] : Array Value) 29 (0, 0))], R8496, R8417] [0, 1, 2, 3, 4, 5] [1, 2, 3, 0, 5, 4] ((R8120 ++ (R9 ++ L8439))) (by decide) rfl rfl)
                exact ⟨(.slice A8499 l8493.length c8500), l8493, R8496, _, (hST.sublist (List.Sublist.cons_cons _ (List.Sublist.cons_cons _ (List.Sublist.cons_cons _ (List.Sublist.cons _ (List.Sublist.refl _)))))), e8441, e8442, e8443, e8444, e8445, e8446, e8447, e8448, hR8497, hm8489⟩
              · replace hm8488 := if_f hb8490 hm8488
                refine CW_skip ?_
                refine sq_n ?_
                replace hm8488 := Option.some.inj hm8488; subst hm8488
                exact ⟨v8435, l8436, R8438, _, (hST.sublist (List.Sublist.refl _)), e8441, e8442, e8443, e8444, e8445, e8446, e8447, e8448, hs8437, hm8489⟩
            · rintro E W ⟨v8461, l8462, R8464, L8465, hST, e8467, e8468, e8469, e8470, e8471, e8472, e8473, e8474, hs8463, hm8466⟩
              refine CW_seq ?_
              refine CW_region ?_
              refine LW_v (.inl rfl) rfl (by decide) (R_field fa83_0 e8471) ?_
              refine LW_v (.inl rfl) rfl (by decide) (R_load (v := (.int .i64 x7900.Kind)) rfl (load_box1 hST.has (.head _) rfl Tryz.isAgg3)) ?_
              refine LW_v (.inl rfl) rfl (by decide) (R_int (k := .i64) (a := x7900.Kind) (b := 3) (v := (.bool ((x7900.Kind == 3)))) rfl rfl rfl) ?_
              refine LW_nil ?_
              refine sq_n ?_
              refine CW_if (b := (x7900.Kind == 3)) rfl (fun hb8475 => ?_) (fun hb8475 => ?_)
              · replace hm8466 := if_t hb8475 hm8466
                refine CW_region ?_
                refine LW_v (.inl rfl) rfl (by decide) (R_field fa29_1 e8469) ?_
                refine LW_v (.inl rfl) rfl (by decide) (R_load (v := v8117) rfl (load_box1 hST.has (.tail _ (.head _)) rfl Tryz.isAgg27)) ?_
                refine LW_v (.inl rfl) rfl (by decide) (R_field fa83_5 e8471) ?_
                refine LW_v (.inl rfl) rfl (by decide) (R_load (v := (.string x7900.Word2)) rfl (load_box1 hST.has (.head _) rfl Tryz.isAgg9)) ?_
                refine LW_e (.inl rfl) rfl (by decide) (E_buildSlice (qs := #[(0, (.string x7900.Word2))]) (cs := [(.string x7900.Word2)].toArray) hST (parts1 rfl) (run_lit [(.string x7900.Word2)] Tryz.underlying27 Tryz.sizeOf9 Tryz.zeroValue9 (by decide) rfl (by intro v hv; simp only [List.mem_cons, List.not_mem_nil, or_false] at hv; rcases hv with rfl <;> rfl) rfl rfl) (fun W8477 b8476 hST => ?_))
                replace hST : ST NoF w _ _ ((b8476, Obj.cells ([(.string x7900.Word2)].toArray : Array Value) 9 (0, 0)) :: ((b8359, Obj.cells ((encCred x7900).toArray : Array Value) 83 (0, 0)) :: ((b21, Obj.cells (#[v8461, v8117, (.slice A8420 l8414.length c8421)] : Array Value) 29 (0, 0)) :: ((b1, Obj.cells (#[(.slice none 0 0), (.slice none 0 0), (.slice none 0 0)] : Array Value) 29 (0, 0)) :: (R8120 ++ (R8417 ++ (R8464 ++ (R9 ++ L8465)))))))) := hST.perm (permD [[(b8476, Obj.cells ([(.string x7900.Word2)].toArray : Array Value) 9 (0, 0))], [(b8359, Obj.cells ((encCred x7900).toArray : Array Value) 83 (0, 0))], [(b21, Obj.cells (#[v8461, v8117, (.slice A8420 l8414.length c8421)] : Array Value) 29 (0, 0))], [(b1, Obj.cells (#[(.slice none 0 0), (.slice none 0 0), (.slice none 0 0)] : Array Value) 29 (0, 0))], R8417, R8464, R8120] [0, 1, 2, 3, 4, 5, 6] [0, 1, 2, 3, 6, 4, 5] ((R9 ++ L8465)) (by decide) rfl rfl)
                obtain ⟨l8478, hb8479, hm8466⟩ := bind_some hm8466
                refine LW_e (.inl rfl) rfl (by decide) (E_append (enc := encS) (v := v8117) (vs := (.slice (some ⟨b8476, 0, none⟩) 1 1)) (R := R8120) [_, _, _, _] hST (fun _ => rfl) (by decide) oneS Tryz.underlying27 info9.1 info9.2.1 rfl info9.2.2.1 info9.2.2.2 rfl rfl hs8119 (Sl.lit (enc := encS) (l := [x7900.Word2]) (fun _ => rfl) rfl (Nat.le_of_ble_eq_true rfl) rfl (hST.at_ (.head _))) hb8479 (fun W8480 v8483 R8481 hST hR8482 => ?_))
                refine LW_v (.inl rfl) rfl (by decide) (R_field fa29_1 e8469) ?_
                obtain ⟨A8484, c8485, rfl⟩ := hR8482.form
                refine LW_e0 (.inl rfl) rfl (E_store [_, _] (.slice A8484 l8478.length c8485) (#[v8461, (.slice A8484 l8478.length c8485), (.slice A8420 l8414.length c8421)]) hST rfl rfl Tryz.sizeOf27 (by simp [Value.cells, Value.oneCell']) (Nat.le_of_ble_eq_true rfl) rfl (fun W8486 hST => ?_))
                refine LW_nil ?_
                refine bq_n ?_
                refine sq_n ?_
                replace hST : ST NoF w _ _ ((b8476, Obj.cells ([(.string x7900.Word2)].toArray : Array Value) 9 (0, 0)) :: ((b8359, Obj.cells ((encCred x7900).toArray : Array Value) 83 (0, 0)) :: ((b21, Obj.cells (#[v8461, (.slice A8484 l8478.length c8485), (.slice A8420 l8414.length c8421)] : Array Value) 29 (0, 0)) :: ((b1, Obj.cells (#[(.slice none 0 0), (.slice none 0 0), (.slice none 0 0)] : Array Value) 29 (0, 0)) :: (R8481 ++ (R8417 ++ (R8464 ++ (R9 ++ L8465)))))))) := hST
                replace hST : ST NoF w _ _ ((b21, Obj.cells (#[v8461, (.slice A8484 l8478.length c8485), (.slice A8420 l8414.length c8421)] : Array Value) 29 (0, 0)) :: ((b1, Obj.cells (#[(.slice none 0 0), (.slice none 0 0), (.slice none 0 0)] : Array Value) 29 (0, 0)) :: (R8481 ++ (R8417 ++ (R8464 ++ (R9 ++ L8465)))))) := hST.sublist (List.Sublist.cons _ (List.Sublist.cons _ (List.Sublist.refl _)))
                replace hST : ST NoF w _ _ ((b21, Obj.cells (#[v8461, (.slice A8484 l8478.length c8485), (.slice A8420 l8414.length c8421)] : Array Value) 29 (0, 0)) :: ((b1, Obj.cells (#[(.slice none 0 0), (.slice none 0 0), (.slice none 0 0)] : Array Value) 29 (0, 0)) :: (R8464 ++ (R8481 ++ (R8417 ++ (R9 ++ L8465)))))) := hST.perm (permD [[(b21, Obj.cells (#[v8461, (.slice A8484 l8478.length c8485), (.slice A8420 l8414.length c8421)] : Array Value) 29 (0, 0))], [(b1, Obj.cells (#[(.slice none 0 0), (.slice none 0 0), (.slice none 0 0)] : Array Value) 29 (0, 0))], R8481, R8417, R8464] [0, 1, 2, 3, 4] [0, 1, 4, 2, 3] ((R9 ++ L8465)) (by decide) rfl rfl)
                exact ⟨e8474, true, v8461, l8462, R8464, (.slice A8484 l8478.length c8485), l8478, R8481, (.slice A8420 l8414.length c8421), l8414, R8417, _, ⟨rfl, e8473⟩, (hST.sublist (List.Sublist.refl _)), e8467, e8468, e8469, e8470, e8472, hs8463, hR8482, hR8418, (by rw [hx7904]; exact hm8466)⟩
              · replace hm8466 := if_f hb8475 hm8466
                refine CW_skip ?_
                refine bq_n ?_
                refine sq_n ?_
                replace hST : ST NoF w _ _ ((b8359, Obj.cells ((encCred x7900).toArray : Array Value) 83 (0, 0)) :: ((b21, Obj.cells (#[v8461, v8117, (.slice A8420 l8414.length c8421)] : Array Value) 29 (0, 0)) :: ((b1, Obj.cells (#[(.slice none 0 0), (.slice none 0 0), (.slice none 0 0)] : Array Value) 29 (0, 0)) :: (R8417 ++ (R8464 ++ (R8120 ++ (R9 ++ L8465))))))) := hST
                replace hST : ST NoF w _ _ ((b21, Obj.cells (#[v8461, v8117, (.slice A8420 l8414.length c8421)] : Array Value) 29 (0, 0)) :: ((b1, Obj.cells (#[(.slice none 0 0), (.slice none 0 0), (.slice none 0 0)] : Array Value) 29 (0, 0)) :: (R8417 ++ (R8464 ++ (R8120 ++ (R9 ++ L8465)))))) := hST.sublist (List.Sublist.cons _ (List.Sublist.refl _))
                replace hST : ST NoF w _ _ ((b21, Obj.cells (#[v8461, v8117, (.slice A8420 l8414.length c8421)] : Array Value) 29 (0, 0)) :: ((b1, Obj.cells (#[(.slice none 0 0), (.slice none 0 0), (.slice none 0 0)] : Array Value) 29 (0, 0)) :: (R8464 ++ (R8120 ++ (R8417 ++ (R9 ++ L8465)))))) := hST.perm (permD [[(b21, Obj.cells (#[v8461, v8117, (.slice A8420 l8414.length c8421)] : Array Value) 29 (0, 0))], [(b1, Obj.cells (#[(.slice none 0 0), (.slice none 0 0), (.slice none 0 0)] : Array Value) 29 (0, 0))], R8417, R8464, R8120] [0, 1, 2, 3, 4] [0, 1, 3, 4, 2] ((R9 ++ L8465)) (by decide) rfl rfl)
                exact ⟨e8474, true, v8461, l8462, R8464, v8117, l8118, R8120, (.slice A8420 l8414.length c8421), l8414, R8417, _, ⟨rfl, e8473⟩, (hST.sublist (List.Sublist.refl _)), e8467, e8468, e8469, e8470, e8472, hs8463, hs8119, hR8418, (by rw [hx7904]; exact hm8466)⟩
      · rintro E W ⟨x8112, v8113, l8114, R8116, v8117, l8118, R8120, v8121, l8122, R8124, L8349, ⟨eI, eN⟩, hST, e8351, e8352, e8353, e8354, e8355, hs8115, hs8119, hs8123, hm8350⟩
        rw [List.drop_length] at hm8350
        rw [m_ref22_Of_L2] at hm8350
        refine sq_n ?_
        replace hm8350 := Option.some.inj hm8350; subst hm8350
        exact ⟨x8112, v8113, l8114, R8116, v8117, l8118, R8120, v8121, l8122, R8124, _, (hST.sublist (List.Sublist.refl _)), e8351, e8352, e8353, e8354, hs8115, hs8119, hs8123, hm7898⟩
    · rintro E W ⟨x7813, v7814, l7815, R7817, v7818, l7819, R7821, v7822, l7823, R7825, L7826, hST, e7828, e7829, e7830, e7831, hs7816, hs7820, hs7824, hm7827⟩
      refine CW_seq ?_
      refine CW_region ?_
      refine LW_v (.inl rfl) rfl (by decide) (R_move (v := (.bool x7813)) e7831) ?_
      refine LW_v (.inl rfl) rfl (by decide) (R_not (b := x7813) rfl) ?_
      refine LW_nil ?_
      refine sq_n ?_
      refine CW_if (b := (!x7813)) rfl (fun hb7832 => ?_) (fun hb7832 => ?_)
      · replace hm7827 := if_t hb7832 hm7827
        refine CW_seq ?_
        refine PW_start (Has μ14 ((b21, Obj.cells (#[v7814, v7818, v7822] : Array Value) 29 (0, 0)) :: (R7817 ++ (R7821 ++ (R7825 ++ (R9 ++ [])))))) Tryz_mixed ?_
        replace hST := hST.drew
        have hSS : (Has μ14 ((b21, Obj.cells (#[v7814, v7818, v7822] : Array Value) 29 (0, 0)) :: (R7817 ++ (R7821 ++ (R7825 ++ (R9 ++ []))))) _) := ((show ST NoF w _ _ ((b21, Obj.cells (#[v7814, v7818, v7822] : Array Value) 29 (0, 0)) :: ((b1, Obj.cells (#[(.slice none 0 0), (.slice none 0 0), (.slice none 0 0)] : Array Value) 29 (0, 0)) :: (R7817 ++ (R7821 ++ (R7825 ++ (R9 ++ L7826)))))) from hST).has.sub (Sub.refl _) (fun p hq => ((List.mem_cons.1 hq).elim (fun hq => by rw [hq]; exact (.head _)) (fun hq => ((List.mem_append.1 hq).elim (fun hq => (.tail _ (.tail _ (List.mem_append_left _ hq)))) (fun hq => ((List.mem_append.1 hq).elim (fun hq => (.tail _ (.tail _ (List.mem_append_right _ (List.mem_append_left _ hq))))) (fun hq => ((List.mem_append.1 hq).elim (fun hq => (.tail _ (.tail _ (List.mem_append_right _ (List.mem_append_right _ (List.mem_append_left _ hq)))))) (fun hq => ((List.mem_append.1 hq).elim (fun hq => (.tail _ (.tail _ (List.mem_append_right _ (List.mem_append_right _ (List.mem_append_right _ (List.mem_append_left _ hq))))))) (fun hq => (absurd hq List.not_mem_nil)))))))))))))
        refine PW_v 0 rfl (by kernel_rfl) (by kernel_rfl) (by kernel_rfl) (.inl rfl) rfl (by decide) hSS (fun W hS => R_field fa29_0 e7830) ?_
        refine PW_v 1 rfl (by kernel_rfl) (by kernel_rfl) (by kernel_rfl) (.inl rfl) rfl (by decide) hSS (fun W hS => R_load (v := v7814) rfl (load_box1 hS (.head _) rfl Tryz.isAgg23)) ?_
        refine PW_v 3 rfl (by kernel_rfl) (by kernel_rfl) (by kernel_rfl) (.inl rfl) rfl (by decide) hSS (fun W hS => R_field fa29_1 e7830) ?_
        refine PW_v 4 rfl (by kernel_rfl) (by kernel_rfl) (by kernel_rfl) (.inl rfl) rfl (by decide) hSS (fun W hS => R_load (v := v7818) rfl (load_box1 hS (.head _) rfl Tryz.isAgg27)) ?_
        refine PW_v 6 rfl (by kernel_rfl) (by kernel_rfl) (by kernel_rfl) (.inl rfl) rfl (by decide) hSS (fun W hS => R_field fa29_2 e7830) ?_
        refine PW_v 7 rfl (by kernel_rfl) (by kernel_rfl) (by kernel_rfl) (.inl rfl) rfl (by decide) hSS (fun W hS => R_load (v := v7822) rfl (load_box1 hS (.head _) rfl Tryz.isAgg22)) ?_
        obtain ⟨r7864, hr7865, hm7827⟩ := bind_some hm7827
        replace hST : ST NoF w _ _ ((b21, Obj.cells (#[v7814, v7818, v7822] : Array Value) 29 (0, 0)) :: ((b1, Obj.cells (#[(.slice none 0 0), (.slice none 0 0), (.slice none 0 0)] : Array Value) 29 (0, 0)) :: (R7817 ++ (R7821 ++ (R7825 ++ (R9 ++ L7826)))))) := hST
        have hsz := hST.size
        refine PW_e 2 rfl (by kernel_rfl) (.inl rfl) rfl (by decide) (E_givesRow (args := [v7814]) [_, _] _ hST rfl Tryz.call72 (by exact args1 rfl) (w_ref04_Set v7814 l7815 _ _ (hs7816.sl lenRole (fun b o hq => hST.at_ (.tail _ (.tail _ (List.mem_append_left _ hq))))) hr7865) (fun W7866 v7869 μ7867 R7870 hST hle7868 hR7871 => ?_))
        have hSS : (Has μ14 ((b21, Obj.cells (#[v7814, v7818, v7822] : Array Value) 29 (0, 0)) :: (R7817 ++ (R7821 ++ (R7825 ++ (R9 ++ []))))) _) := ((show ST NoF w _ _ ((b21, Obj.cells (#[v7814, v7818, v7822] : Array Value) 29 (0, 0)) :: ((b1, Obj.cells (#[(.slice none 0 0), (.slice none 0 0), (.slice none 0 0)] : Array Value) 29 (0, 0)) :: (R7870 ++ (R7817 ++ (R7821 ++ (R7825 ++ (R9 ++ L7826))))))) from hST).has.sub hle7868 (fun p hq => ((List.mem_cons.1 hq).elim (fun hq => by rw [hq]; exact (.head _)) (fun hq => ((List.mem_append.1 hq).elim (fun hq => (.tail _ (.tail _ (List.mem_append_right _ (List.mem_append_left _ hq))))) (fun hq => ((List.mem_append.1 hq).elim (fun hq => (.tail _ (.tail _ (List.mem_append_right _ (List.mem_append_right _ (List.mem_append_left _ hq)))))) (fun hq => ((List.mem_append.1 hq).elim (fun hq => (.tail _ (.tail _ (List.mem_append_right _ (List.mem_append_right _ (List.mem_append_right _ (List.mem_append_left _ hq))))))) (fun hq => ((List.mem_append.1 hq).elim (fun hq => (.tail _ (.tail _ (List.mem_append_right _ (List.mem_append_right _ (List.mem_append_right _ (List.mem_append_right _ (List.mem_append_left _ hq)))))))) (fun hq => (absurd hq List.not_mem_nil)))))))))))))
        refine ⟨hSS, ?_⟩
        obtain ⟨r7872, hr7873, hm7827⟩ := bind_some hm7827
        replace hST : ST NoF w _ _ ((b21, Obj.cells (#[v7814, v7818, v7822] : Array Value) 29 (0, 0)) :: ((b1, Obj.cells (#[(.slice none 0 0), (.slice none 0 0), (.slice none 0 0)] : Array Value) 29 (0, 0)) :: (R7870 ++ (R7817 ++ (R7821 ++ (R7825 ++ (R9 ++ L7826))))))) := hST
        have hsz := hST.size
        refine PW_e 5 rfl (by kernel_rfl) (.inl rfl) rfl (by decide) (E_givesRow (args := [v7818]) [_, _] _ hST rfl Tryz.call76 (by exact args1 rfl) (w_ref03_Set v7818 l7819 _ _ (hs7820.sl (fun _ => rfl) (fun b o hq => hST.at_ (.tail _ (.tail _ (List.mem_append_right _ (List.mem_append_right _ (List.mem_append_left _ hq))))))) hr7873) (fun W7874 v7877 μ7875 R7878 hST hle7876 hR7879 => ?_))
        have hSS : (Has μ14 ((b21, Obj.cells (#[v7814, v7818, v7822] : Array Value) 29 (0, 0)) :: (R7817 ++ (R7821 ++ (R7825 ++ (R9 ++ []))))) _) := ((show ST NoF w _ _ ((b21, Obj.cells (#[v7814, v7818, v7822] : Array Value) 29 (0, 0)) :: ((b1, Obj.cells (#[(.slice none 0 0), (.slice none 0 0), (.slice none 0 0)] : Array Value) 29 (0, 0)) :: (R7878 ++ (R7870 ++ (R7817 ++ (R7821 ++ (R7825 ++ (R9 ++ L7826)))))))) from hST).has.sub (hle7868.trans hle7876) (fun p hq => ((List.mem_cons.1 hq).elim (fun hq => by rw [hq]; exact (.head _)) (fun hq => ((List.mem_append.1 hq).elim (fun hq => (.tail _ (.tail _ (List.mem_append_right _ (List.mem_append_right _ (List.mem_append_left _ hq)))))) (fun hq => ((List.mem_append.1 hq).elim (fun hq => (.tail _ (.tail _ (List.mem_append_right _ (List.mem_append_right _ (List.mem_append_right _ (List.mem_append_left _ hq))))))) (fun hq => ((List.mem_append.1 hq).elim (fun hq => (.tail _ (.tail _ (List.mem_append_right _ (List.mem_append_right _ (List.mem_append_right _ (List.mem_append_right _ (List.mem_append_left _ hq)))))))) (fun hq => ((List.mem_append.1 hq).elim (fun hq => (.tail _ (.tail _ (List.mem_append_right _ (List.mem_append_right _ (List.mem_append_right _ (List.mem_append_right _ (List.mem_append_right _ (List.mem_append_left _ hq))))))))) (fun hq => (absurd hq List.not_mem_nil)))))))))))))
        refine ⟨hSS, ?_⟩
        obtain ⟨r7880, hr7881, hm7827⟩ := bind_some hm7827
        replace hST : ST NoF w _ _ ((b21, Obj.cells (#[v7814, v7818, v7822] : Array Value) 29 (0, 0)) :: ((b1, Obj.cells (#[(.slice none 0 0), (.slice none 0 0), (.slice none 0 0)] : Array Value) 29 (0, 0)) :: (R7878 ++ (R7870 ++ (R7817 ++ (R7821 ++ (R7825 ++ (R9 ++ L7826)))))))) := hST
        have hsz := hST.size
        refine PW_e 8 rfl (by kernel_rfl) (.inl rfl) rfl (by decide) (E_givesRow (args := [v7822]) [_, _] _ hST rfl Tryz.call49 (by exact args1 rfl) (w_ref05_Set v7822 l7823 _ _ (hs7824.sl lenCred (fun b o hq => hST.at_ (.tail _ (.tail _ (List.mem_append_right _ (List.mem_append_right _ (List.mem_append_right _ (List.mem_append_right _ (List.mem_append_left _ hq))))))))) hr7881) (fun W7882 v7885 μ7883 R7886 hST hle7884 hR7887 => ?_))
        have hSS : (Has μ14 ((b21, Obj.cells (#[v7814, v7818, v7822] : Array Value) 29 (0, 0)) :: (R7817 ++ (R7821 ++ (R7825 ++ (R9 ++ []))))) _) := ((show ST NoF w _ _ ((b21, Obj.cells (#[v7814, v7818, v7822] : Array Value) 29 (0, 0)) :: ((b1, Obj.cells (#[(.slice none 0 0), (.slice none 0 0), (.slice none 0 0)] : Array Value) 29 (0, 0)) :: (R7886 ++ (R7878 ++ (R7870 ++ (R7817 ++ (R7821 ++ (R7825 ++ (R9 ++ L7826))))))))) from hST).has.sub ((hle7868.trans hle7876).trans hle7884) (fun p hq => ((List.mem_cons.1 hq).elim (fun hq => by rw [hq]; exact (.head _)) (fun hq => ((List.mem_append.1 hq).elim (fun hq => (.tail _ (.tail _ (List.mem_append_right _ (List.mem_append_right _ (List.mem_append_right _ (List.mem_append_left _ hq))))))) (fun hq => ((List.mem_append.1 hq).elim (fun hq => (.tail _ (.tail _ (List.mem_append_right _ (List.mem_append_right _ (List.mem_append_right _ (List.mem_append_right _ (List.mem_append_left _ hq)))))))) (fun hq => ((List.mem_append.1 hq).elim (fun hq => (.tail _ (.tail _ (List.mem_append_right _ (List.mem_append_right _ (List.mem_append_right _ (List.mem_append_right _ (List.mem_append_right _ (List.mem_append_left _ hq))))))))) (fun hq => ((List.mem_append.1 hq).elim (fun hq => (.tail _ (.tail _ (List.mem_append_right _ (List.mem_append_right _ (List.mem_append_right _ (List.mem_append_right _ (List.mem_append_right _ (List.mem_append_right _ (List.mem_append_left _ hq)))))))))) (fun hq => (absurd hq List.not_mem_nil)))))))))))))
        refine ⟨hSS, ?_⟩
        obtain ⟨A7888, c7889, rfl⟩ := hR7871.form
        obtain ⟨A7890, c7891, rfl⟩ := hR7879.form
        obtain ⟨A7892, c7893, rfl⟩ := hR7887.form
        refine PW_v 9 rfl (by kernel_rfl) (by kernel_rfl) (by kernel_rfl) (.inl rfl) rfl (by decide) hSS (fun W hS => R_build (qs := #[(0, (.slice A7888 r7864.length c7889)), (1, (.slice A7890 r7872.length c7891)), (2, (.slice A7892 r7880.length c7893))]) (v := (.agg #[(.slice A7888 r7864.length c7889), (.slice A7890 r7872.length c7891), (.slice A7892 r7880.length c7893)])) (parts3 rfl rfl rfl) (run_build Tryz.zeroValue29 Tryz.underlying29 (pl29 _ Tryz.underlying29) (by kernel_rfl))) ?_
        refine PW_e0 10 rfl (by kernel_rfl) (.inl rfl) rfl (E_store [_] (.agg #[(.slice A7888 r7864.length c7889), (.slice A7890 r7872.length c7891), (.slice A7892 r7880.length c7893)]) (#[(.slice A7888 r7864.length c7889), (.slice A7890 r7872.length c7891), (.slice A7892 r7880.length c7893)]) hST e7828 rfl Tryz.sizeOf29 (by simp [Value.cells, Value.oneCell']) (Nat.le_of_ble_eq_true rfl) rfl (fun W7894 hST => ?_))
        have hSS : (Has μ14 ((b21, Obj.cells (#[v7814, v7818, v7822] : Array Value) 29 (0, 0)) :: (R7817 ++ (R7821 ++ (R7825 ++ (R9 ++ []))))) _) := ((show ST NoF w _ _ ((b21, Obj.cells (#[v7814, v7818, v7822] : Array Value) 29 (0, 0)) :: ((b1, Obj.cells (#[(.slice A7888 r7864.length c7889), (.slice A7890 r7872.length c7891), (.slice A7892 r7880.length c7893)] : Array Value) 29 (0, 0)) :: (R7886 ++ (R7878 ++ (R7870 ++ (R7817 ++ (R7821 ++ (R7825 ++ (R9 ++ L7826))))))))) from hST).has.sub ((hle7868.trans hle7876).trans hle7884) (fun p hq => ((List.mem_cons.1 hq).elim (fun hq => by rw [hq]; exact (.head _)) (fun hq => ((List.mem_append.1 hq).elim (fun hq => (.tail _ (.tail _ (List.mem_append_right _ (List.mem_append_right _ (List.mem_append_right _ (List.mem_append_left _ hq))))))) (fun hq => ((List.mem_append.1 hq).elim (fun hq => (.tail _ (.tail _ (List.mem_append_right _ (List.mem_append_right _ (List.mem_append_right _ (List.mem_append_right _ (List.mem_append_left _ hq)))))))) (fun hq => ((List.mem_append.1 hq).elim (fun hq => (.tail _ (.tail _ (List.mem_append_right _ (List.mem_append_right _ (List.mem_append_right _ (List.mem_append_right _ (List.mem_append_right _ (List.mem_append_left _ hq))))))))) (fun hq => ((List.mem_append.1 hq).elim (fun hq => (.tail _ (.tail _ (List.mem_append_right _ (List.mem_append_right _ (List.mem_append_right _ (List.mem_append_right _ (List.mem_append_right _ (List.mem_append_right _ (List.mem_append_left _ hq)))))))))) (fun hq => (absurd hq List.not_mem_nil)))))))))))))
        refine ⟨hSS, ?_⟩
        refine PW_done (by kernel_rfl) ?_
        refine sq_n ?_
        replace hST : ST NoF w _ _ ((b21, Obj.cells (#[v7814, v7818, v7822] : Array Value) 29 (0, 0)) :: ((b1, Obj.cells (#[(.slice A7888 r7864.length c7889), (.slice A7890 r7872.length c7891), (.slice A7892 r7880.length c7893)] : Array Value) 29 (0, 0)) :: (R7886 ++ (R7878 ++ (R7870 ++ (R7817 ++ (R7821 ++ (R7825 ++ (R9 ++ L7826))))))))) := hST
        replace hST : ST NoF w _ _ ((b1, Obj.cells (#[(.slice A7888 r7864.length c7889), (.slice A7890 r7872.length c7891), (.slice A7892 r7880.length c7893)] : Array Value) 29 (0, 0)) :: (R7886 ++ (R7878 ++ (R7870 ++ L7826)))) := hST.sublist (List.Sublist.cons _ (List.Sublist.cons_cons _ (List.Sublist.append (List.Sublist.refl _) (List.Sublist.append (List.Sublist.refl _) (List.Sublist.append (List.Sublist.refl _) (((((List.Sublist.refl _).trans (List.sublist_append_right _ _)).trans (List.sublist_append_right _ _)).trans (List.sublist_append_right _ _)).trans (List.sublist_append_right _ _)))))))
        refine CW_ret ?_
        refine bq_r (sq_r (bq_r (sq_r ?_)))
        replace hm7827 := Option.some.inj hm7827; subst hm7827
        refine retQ_cell (v := (.agg #[(.slice A7888 r7864.length c7889), (.slice A7890 r7872.length c7891), (.slice A7892 r7880.length c7893)])) rfl e7828 (load_boxA hST.has (.head _) [(.slice A7888 r7864.length c7889), (.slice A7890 r7872.length c7891), (.slice A7892 r7880.length c7893)] rfl Tryz.isAgg29 Tryz.sizeOf29) ?_
        replace hST : ST NoF w _ _ ((b1, Obj.cells (#[(.slice A7888 r7864.length c7889), (.slice A7890 r7872.length c7891), (.slice A7892 r7880.length c7893)] : Array Value) 29 (0, 0)) :: (R7886 ++ (R7878 ++ (R7870 ++ L7826)))) := hST
        exact ⟨_, (R7870 ++ (R7878 ++ (R7886 ++ []))), rfl, (ST.backL (L1 := (R7870 ++ (R7878 ++ (R7886 ++ [])))) (by have hh : ST NoF w _ _ (R7870 ++ (R7878 ++ (R7886 ++ ((b1, Obj.cells (#[(.slice A7888 r7864.length c7889), (.slice A7890 r7872.length c7891), (.slice A7892 r7880.length c7893)] : Array Value) 29 (0, 0)) :: L7826)))) := hST.perm (permD [[(b1, Obj.cells (#[(.slice A7888 r7864.length c7889), (.slice A7890 r7872.length c7891), (.slice A7892 r7880.length c7893)] : Array Value) 29 (0, 0))], R7886, R7878, R7870] [0, 1, 2, 3] [3, 2, 1, 0] L7826 (by decide) rfl rfl); simpa only [List.append_assoc, List.cons_append, List.nil_append] using hh)), (.slice A7888 r7864.length c7889), R7870, (.slice A7890 r7872.length c7891), R7878, (.slice A7892 r7880.length c7893), R7886, rfl, rfl, hR7871, hR7879, hR7887⟩
      · replace hm7827 := if_f hb7832 hm7827
        refine CW_skip ?_
        refine bq_n ?_
        refine sq_n ?_
        exact ⟨n7146, Nat.lt_succ_self _, v7814, l7815, R7817, v7818, l7819, R7821, v7822, l7823, R7825, _, (hST.sublist (List.Sublist.refl _)), e7828, e7829, e7830, hs7816, hs7820, hs7824, hm7827⟩

end Go.Proofs.YtfjdjbdnnoijgaaGreat
