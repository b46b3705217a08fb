/- a part of a proof of ChainUses -/
import Derived.Test.YtfjdjbdnnoijgaaGreatGH10W2
set_option linter.all false
namespace Go.Proofs.YtfjdjbdnnoijgaaGreat
open Go.RowKit
set_option maxRecDepth 10000
theorem w_ref05_Right (a0 : Cred) (r : Bool) (w : World)  (hm : m_ref05_Right a0 = some r) :
    Gives true Tryz.prog 106 [(.agg (encCred a0).toArray)] w (.bool r) := by
  have hST := ST.start (dd := true) w
  unfold m_ref05_Right at hm
  refine calls_of_CW (n := 93) Tryz.func106 rfl rfl (Nat.le_of_ble_eq_true rfl) ?_
  refine CW_seq ?_
  refine CW_region ?_
  refine LE (E_box (v := (.agg (encCred a0).toArray)) hST rfl (fun W2 b1 hST => ?_))
  refine LV (R_assign (v := (.bool false)) rfl) ?_
  refine LW_nil ?_
  refine sq_n ?_
  refine CW_seq ?_
  refine CW_region ?_
  refine LE (E_alloc hST Tryz.zeroValue47 (fun W4 b3 hST => ?_))
  refine LW_nil ?_
  refine sq_n ?_
  refine CW_seq ?_
  refine CW_seq ?_
  refine CW_region ?_
  refine LV (R_field fa83_1 rfl) ?_
  refine LV (R_load (v := (.agg (encRole a0.Head).toArray)) rfl (load_boxA hST.has (.tail _ (.head _)) (encRole a0.Head) rfl Tryz.isAgg47 Tryz.sizeOf47)) ?_
  obtain ⟨r5, hr6, hm⟩ := bind_some hm
  refine LE (E_gives (args := [(.agg (encRole a0.Head).toArray)]) hST rfl Tryz.call51 (by exact args1 rfl) ((w_ref04_Right a0.Head _ _  hr6)) (fun W7 hST => ?_))
  refine LV (R_not (b := r5) rfl) ?_
  refine LW_nil ?_
  refine sq_n ?_
  refine CW_if (b := (!r5)) rfl (fun hb8 => ?_) (fun hb8 => ?_)
  · replace hm := if_t hb8 hm
    refine CW_seq ?_
    refine CW_region ?_
    refine LV (R_assign (v := (.bool false)) rfl) ?_
    refine LW_nil ?_
    refine sq_n ?_
    replace hST : ST true NoF w _ _ [] := hST.sublist (List.Sublist.cons _ (List.Sublist.cons _ (List.Sublist.refl _)))
    refine CW_ret ?_
    refine sq_r ?_
    replace hm := Option.some.inj hm; subst hm
    refine retQ_1 (v := (.bool false)) rfl rfl ?_
    exact ⟨rfl, hST.ex⟩
  · replace hm := if_f hb8 hm
    refine CW_skip ?_
    refine sq_n ?_
    refine CW_seq ?_
    refine CW_seq ?_
    refine CW_region ?_
    refine LV (R_field fa83_0 rfl) ?_
    refine LV (R_load (v := (.int .i64 a0.Kind)) rfl (load_box1 hST.has (.tail _ (.head _)) rfl Tryz.isAgg3)) ?_
    refine LV (R_int (k := .i64) (a := a0.Kind) (b := 1) (v := (.bool ((a0.Kind == 1)))) rfl rfl rfl) ?_
    refine LW_nil ?_
    refine sq_n ?_
    refine CW_if (b := (a0.Kind == 1)) rfl (fun hb9 => ?_) (fun hb9 => ?_)
    · replace hm := if_t hb9 hm
      refine CW_seq ?_
      refine CW_region ?_
      refine LV (R_field fa83_2 rfl) ?_
      refine LV (R_load (v := (.string a0.Who)) rfl (load_box1 hST.has (.tail _ (.head _)) rfl Tryz.isAgg9)) ?_
      obtain ⟨r10, hr11, hm⟩ := bind_some hm
      refine LE (E_gives (args := [(.string a0.Who)]) hST rfl Tryz.call108 (by exact args1 rfl) ((w_ref03_Right a0.Who _ _  hr11)) (fun W12 hST => ?_))
      refine LV (R_move (v := (.bool r10)) rfl) ?_
      obtain ⟨s42, hm43, hm44⟩ := bind_some hm
      refine LW_join (J := fun E W => ∃ (x14 : Bool) (L15 : List (Nat × Obj)), ST true NoF w W (hp w) ((b3, Obj.cells ((encRole ((⟨zS, zS⟩ : Role))).toArray : Array Value) 47 (0, 0)) :: ((b1, Obj.cells ((encCred a0).toArray : Array Value) 83 (0, 0)) :: L15)) ∧ E 1 = (.pointer (some ⟨b1, 0, none⟩)) ∧ E 2 = (.bool false) ∧ E 3 = (.pointer (some ⟨b3, 0, none⟩)) ∧ E 19 = (.bool x14) ∧ (((if x14 then some ((beqRole a0.C ((⟨zS, zS⟩ : Role)))) else some false) : Option Bool).bind fun x22 => (((if x22 then some ((beqS a0.Word2 zS)) else some false) : Option Bool).bind fun x29 => some x29)) = some r) 5 ?_ (fun key45 => ?_)
      · rintro E W ⟨x14, L15, hST, e17, e18, e19, e20, hm16⟩
        refine LV (R_move (v := (.bool x14)) e20) ?_
        obtain ⟨s38, hm39, hm40⟩ := bind_some hm16
        refine LW_join (J := fun E W => ∃ (x22 : Bool) (L23 : List (Nat × Obj)), ST true NoF w W (hp w) ((b1, Obj.cells ((encCred a0).toArray : Array Value) 83 (0, 0)) :: L23) ∧ E 1 = (.pointer (some ⟨b1, 0, none⟩)) ∧ E 2 = (.bool false) ∧ E 25 = (.bool x22) ∧ (((if x22 then some ((beqS a0.Word2 zS)) else some false) : Option Bool).bind fun x29 => some x29) = some r) 5 ?_ (fun key41 => ?_)
        · rintro E W ⟨x22, L23, hST, e25, e26, e27, hm24⟩
          refine LV (R_move (v := (.bool x22)) e27) ?_
          obtain ⟨s34, hm35, hm36⟩ := bind_some hm24
          refine LW_join (J := fun E W => ∃ (x29 : Bool) (L30 : List (Nat × Obj)), ST true NoF w W (hp w) L30 ∧ E 2 = (.bool false) ∧ E 30 = (.bool x29) ∧ some x29 = some r) 4 ?_ (fun key37 => ?_)
          · rintro E W ⟨x29, L30, hST, e32, e33, hm31⟩
            refine LV (R_assign (v := (.bool x29)) e33) ?_
            refine LW_nil ?_
            refine sq_n ?_
            refine CW_ret ?_
            refine sq_r ?_
            replace hm31 := Option.some.inj hm31; subst hm31
            refine retQ_1 (v := (.bool x29)) rfl rfl ?_
            exact ⟨rfl, hST.ex⟩
          · rcases bool_cases x22 with hb28 | hb28
            · replace hm35 := if_t hb28 hm35
              refine LW_v (.inr ⟨15, true, 26, rfl, rfl, by decide, (congrArg Value.bool hb28)⟩) rfl (by decide) (R_field fa83_5 e25) ?_
              refine LW_v (.inr ⟨15, true, 26, rfl, rfl, by decide, (congrArg Value.bool hb28)⟩) rfl (by decide) (R_load (v := (.string a0.Word2)) rfl (load_box1 hST.has (.head _) rfl Tryz.isAgg9)) ?_
              refine LW_v (.inr ⟨15, true, 26, rfl, rfl, by decide, (congrArg Value.bool hb28)⟩) rfl (by decide) (R_str (a := a0.Word2) (b := zS) (v := (.bool ((beqS a0.Word2 zS)))) rfl rfl rfl) ?_
              refine LV (R_pickT (v := (.bool ((beqS a0.Word2 zS)))) (congrArg Value.bool hb28) rfl) ?_
              replace hm35 := Option.some.inj hm35; subst hm35
              exact key37 _ _ ⟨((beqS a0.Word2 zS)), _, (hST.sublist (List.Sublist.cons _ (List.Sublist.refl _))), e26, rfl, hm36⟩
            · replace hm35 := if_f hb28 hm35
              refine LW_no rfl (by decide) rfl rfl (by decide) (congrArg Value.bool hb28) ?_
              refine LW_no rfl (by decide) rfl rfl (by decide) (congrArg Value.bool hb28) ?_
              refine LW_no rfl (by decide) rfl rfl (by decide) (congrArg Value.bool hb28) ?_
              refine LV (R_pickF (v := (.bool false)) (congrArg Value.bool hb28) rfl) ?_
              replace hm35 := Option.some.inj hm35; subst hm35
              exact key37 _ _ ⟨false, _, (hST.sublist (List.Sublist.cons _ (List.Sublist.refl _))), e26, rfl, hm36⟩
        · rcases bool_cases x14 with hb21 | hb21
          · replace hm39 := if_t hb21 hm39
            refine LW_v (.inr ⟨9, true, 20, rfl, rfl, by decide, (congrArg Value.bool hb21)⟩) rfl (by decide) (R_field fa83_4 e17) ?_
            refine LW_v (.inr ⟨9, true, 20, rfl, rfl, by decide, (congrArg Value.bool hb21)⟩) rfl (by decide) (R_load (v := (.agg (encRole a0.C).toArray)) rfl (load_boxA hST.has (.tail _ (.head _)) (encRole a0.C) rfl Tryz.isAgg47 Tryz.sizeOf47)) ?_
            refine LW_v (.inr ⟨9, true, 20, rfl, rfl, by decide, (congrArg Value.bool hb21)⟩) rfl (by decide) (R_load (v := (.agg (encRole ((⟨zS, zS⟩ : Role))).toArray)) e19 (load_boxA hST.has (.head _) (encRole ((⟨zS, zS⟩ : Role))) rfl Tryz.isAgg47 Tryz.sizeOf47)) ?_
            refine LW_v (.inr ⟨9, true, 20, rfl, rfl, by decide, (congrArg Value.bool hb21)⟩) rfl (by decide) (R_eql (a := (encRole a0.C).toArray) (b := (encRole ((⟨zS, zS⟩ : Role))).toArray) rfl rfl (guard_agg Tryz.eqGuardType47) (bin_eql (eqInRole _ a0.C ((⟨zS, zS⟩ : Role))))) ?_
            refine LV (R_pickT (v := (.bool ((beqRole a0.C ((⟨zS, zS⟩ : Role)))))) (congrArg Value.bool hb21) rfl) ?_
            replace hm39 := Option.some.inj hm39; subst hm39
            exact key41 _ _ ⟨((beqRole a0.C ((⟨zS, zS⟩ : Role)))), _, (hST.sublist (List.Sublist.cons _ (List.Sublist.refl _))), e17, e18, rfl, hm40⟩
          · replace hm39 := if_f hb21 hm39
            refine LW_no rfl (by decide) rfl rfl (by decide) (congrArg Value.bool hb21) ?_
            refine LW_no rfl (by decide) rfl rfl (by decide) (congrArg Value.bool hb21) ?_
            refine LW_no rfl (by decide) rfl rfl (by decide) (congrArg Value.bool hb21) ?_
            refine LW_no rfl (by decide) rfl rfl (by decide) (congrArg Value.bool hb21) ?_
            refine LV (R_pickF (v := (.bool false)) (congrArg Value.bool hb21) rfl) ?_
            replace hm39 := Option.some.inj hm39; subst hm39
            exact key41 _ _ ⟨false, _, (hST.sublist (List.Sublist.cons _ (List.Sublist.refl _))), e17, e18, rfl, hm40⟩
      · rcases bool_cases r10 with hb13 | hb13
        · replace hm43 := if_t hb13 hm43
          refine LW_v (.inr ⟨3, true, 14, rfl, rfl, by decide, (congrArg Value.bool hb13)⟩) rfl (by decide) (R_field fa83_3 rfl) ?_
          refine LW_v (.inr ⟨3, true, 14, rfl, rfl, by decide, (congrArg Value.bool hb13)⟩) rfl (by decide) (R_load (v := (.agg (encRole a0.B).toArray)) rfl (load_boxA hST.has (.tail _ (.head _)) (encRole a0.B) rfl Tryz.isAgg47 Tryz.sizeOf47)) ?_
          refine LW_v (.inr ⟨3, true, 14, rfl, rfl, by decide, (congrArg Value.bool hb13)⟩) rfl (by decide) (R_load (v := (.agg (encRole ((⟨zS, zS⟩ : Role))).toArray)) rfl (load_boxA hST.has (.head _) (encRole ((⟨zS, zS⟩ : Role))) rfl Tryz.isAgg47 Tryz.sizeOf47)) ?_
          refine LW_v (.inr ⟨3, true, 14, rfl, rfl, by decide, (congrArg Value.bool hb13)⟩) rfl (by decide) (R_eql (a := (encRole a0.B).toArray) (b := (encRole ((⟨zS, zS⟩ : Role))).toArray) rfl rfl (guard_agg Tryz.eqGuardType47) (bin_eql (eqInRole _ a0.B ((⟨zS, zS⟩ : Role))))) ?_
          refine LV (R_pickT (v := (.bool ((beqRole a0.B ((⟨zS, zS⟩ : Role)))))) (congrArg Value.bool hb13) rfl) ?_
          replace hm43 := Option.some.inj hm43; subst hm43
          exact key45 _ _ ⟨((beqRole a0.B ((⟨zS, zS⟩ : Role)))), _, (hST.sublist (List.Sublist.refl _)), rfl, rfl, rfl, rfl, hm44⟩
        · replace hm43 := if_f hb13 hm43
          refine LW_no rfl (by decide) rfl rfl (by decide) (congrArg Value.bool hb13) ?_
          refine LW_no rfl (by decide) rfl rfl (by decide) (congrArg Value.bool hb13) ?_
          refine LW_no rfl (by decide) rfl rfl (by decide) (congrArg Value.bool hb13) ?_
          refine LW_no rfl (by decide) rfl rfl (by decide) (congrArg Value.bool hb13) ?_
          refine LV (R_pickF (v := (.bool false)) (congrArg Value.bool hb13) rfl) ?_
          replace hm43 := Option.some.inj hm43; subst hm43
          exact key45 _ _ ⟨false, _, (hST.sublist (List.Sublist.refl _)), rfl, rfl, rfl, rfl, hm44⟩
    · replace hm := if_f hb9 hm
      refine CW_skip ?_
      refine sq_n ?_
      refine CW_seq ?_
      refine CW_seq ?_
      refine CW_region ?_
      refine LV (R_field fa83_2 rfl) ?_
      refine LV (R_load (v := (.string a0.Who)) rfl (load_box1 hST.has (.tail _ (.head _)) rfl Tryz.isAgg9)) ?_
      refine LV (R_str (a := a0.Who) (b := zS) (v := (.bool ((!(beqS a0.Who zS))))) rfl rfl rfl) ?_
      refine LV (R_move (v := (.bool ((!(beqS a0.Who zS))))) rfl) ?_
      obtain ⟨s134, hm135, hm136⟩ := bind_some hm
      refine LW_join (J := fun E W => ∃ (x50 : Bool) (L51 : List (Nat × Obj)), ST true NoF w W (hp w) ((b3, Obj.cells ((encRole ((⟨zS, zS⟩ : Role))).toArray : Array Value) 47 (0, 0)) :: ((b1, Obj.cells ((encCred a0).toArray : Array Value) 83 (0, 0)) :: L51)) ∧ E 1 = (.pointer (some ⟨b1, 0, none⟩)) ∧ E 3 = (.pointer (some ⟨b3, 0, none⟩)) ∧ E 39 = (.bool x50) ∧ (if x50 then some false else (if (a0.Kind == 2) then (((if (beqRole a0.C ((⟨zS, zS⟩ : Role))) then some ((beqS a0.Word2 zS)) else some false) : Option Bool).bind fun x59 => some x59) else (if (a0.Kind == 3) then (((if (beqRole a0.C ((⟨zS, zS⟩ : Role))) then some ((beqS a0.B.Owner a0.Head.Owner)) else some false) : Option Bool).bind fun x69 => (((if x69 then (((m_ref03_Right a0.Word2)).bind fun r86 => some r86) else some false) : Option Bool).bind fun x78 => some x78)) else (((if (a0.Kind == 4) then some ((beqS a0.Word2 zS)) else some false) : Option Bool).bind fun x94 => (((if x94 then (((m_ref04_Right a0.C)).bind fun r127 => some r127) else some false) : Option Bool).bind fun x103 => (((if x103 then (((m_ref04_Less a0.B a0.C)).bind fun r120 => some r120) else some false) : Option Bool).bind fun x112 => some x112)))))) = some r) 5 ?_ (fun key137 => ?_)
      · rintro E W ⟨x50, L51, hST, e53, e54, e55, hm52⟩
        refine LW_nil ?_
        refine sq_n ?_
        refine CW_if (b := x50) e55 (fun hb56 => ?_) (fun hb56 => ?_)
        · replace hm52 := if_t hb56 hm52
          refine CW_seq ?_
          refine CW_region ?_
          refine LV (R_assign (v := (.bool false)) rfl) ?_
          refine LW_nil ?_
          refine sq_n ?_
          replace hST : ST true NoF w _ _ L51 := hST.sublist (List.Sublist.cons _ (List.Sublist.cons _ (List.Sublist.refl _)))
          refine CW_ret ?_
          refine sq_r ?_
          replace hm52 := Option.some.inj hm52; subst hm52
          refine retQ_1 (v := (.bool false)) rfl rfl ?_
          exact ⟨rfl, hST.ex⟩
        · replace hm52 := if_f hb56 hm52
          refine CW_skip ?_
          refine sq_n ?_
          refine CW_seq ?_
          refine CW_seq ?_
          refine CW_region ?_
          refine LV (R_field fa83_0 e53) ?_
          refine LV (R_load (v := (.int .i64 a0.Kind)) rfl (load_box1 hST.has (.tail _ (.head _)) rfl Tryz.isAgg3)) ?_
          refine LV (R_int (k := .i64) (a := a0.Kind) (b := 2) (v := (.bool ((a0.Kind == 2)))) rfl rfl rfl) ?_
          refine LW_nil ?_
          refine sq_n ?_
          refine CW_if (b := (a0.Kind == 2)) rfl (fun hb57 => ?_) (fun hb57 => ?_)
          · replace hm52 := if_t hb57 hm52
            refine CW_seq ?_
            refine CW_region ?_
            refine LV (R_field fa83_4 e53) ?_
            refine LV (R_load (v := (.agg (encRole a0.C).toArray)) rfl (load_boxA hST.has (.tail _ (.head _)) (encRole a0.C) rfl Tryz.isAgg47 Tryz.sizeOf47)) ?_
            refine LV (R_load (v := (.agg (encRole ((⟨zS, zS⟩ : Role))).toArray)) e54 (load_boxA hST.has (.head _) (encRole ((⟨zS, zS⟩ : Role))) rfl Tryz.isAgg47 Tryz.sizeOf47)) ?_
            refine LV (R_eql (a := (encRole a0.C).toArray) (b := (encRole ((⟨zS, zS⟩ : Role))).toArray) rfl rfl (guard_agg Tryz.eqGuardType47) (bin_eql (eqInRole _ a0.C ((⟨zS, zS⟩ : Role))))) ?_
            refine LV (R_move (v := (.bool ((beqRole a0.C ((⟨zS, zS⟩ : Role)))))) rfl) ?_
            obtain ⟨s63, hm64, hm65⟩ := bind_some hm52
            refine LW_join (J := fun E W => ∃ (x59 : Bool) (L60 : List (Nat × Obj)), ST true NoF w W (hp w) L60 ∧ E 51 = (.bool x59) ∧ some x59 = some r) 4 ?_ (fun key66 => ?_)
            · rintro E W ⟨x59, L60, hST, e62, hm61⟩
              refine LV (R_assign (v := (.bool x59)) e62) ?_
              refine LW_nil ?_
              refine sq_n ?_
              refine CW_ret ?_
              refine sq_r ?_
              replace hm61 := Option.some.inj hm61; subst hm61
              refine retQ_1 (v := (.bool x59)) rfl rfl ?_
              exact ⟨rfl, hST.ex⟩
            · rcases bool_cases ((beqRole a0.C ((⟨zS, zS⟩ : Role)))) with hb58 | hb58
              · replace hm64 := if_t hb58 hm64
                refine LW_v (.inr ⟨4, true, 47, rfl, rfl, by decide, (congrArg Value.bool hb58)⟩) rfl (by decide) (R_field fa83_5 e53) ?_
                refine LW_v (.inr ⟨4, true, 47, rfl, rfl, by decide, (congrArg Value.bool hb58)⟩) rfl (by decide) (R_load (v := (.string a0.Word2)) rfl (load_box1 hST.has (.tail _ (.head _)) rfl Tryz.isAgg9)) ?_
                refine LW_v (.inr ⟨4, true, 47, rfl, rfl, by decide, (congrArg Value.bool hb58)⟩) rfl (by decide) (R_str (a := a0.Word2) (b := zS) (v := (.bool ((beqS a0.Word2 zS)))) rfl rfl rfl) ?_
                refine LV (R_pickT (v := (.bool ((beqS a0.Word2 zS)))) (congrArg Value.bool hb58) rfl) ?_
                replace hm64 := Option.some.inj hm64; subst hm64
                exact key66 _ _ ⟨((beqS a0.Word2 zS)), _, (hST.sublist (List.Sublist.cons _ (List.Sublist.cons _ (List.Sublist.refl _)))), rfl, hm65⟩
              · replace hm64 := if_f hb58 hm64
                refine LW_no rfl (by decide) rfl rfl (by decide) (congrArg Value.bool hb58) ?_
                refine LW_no rfl (by decide) rfl rfl (by decide) (congrArg Value.bool hb58) ?_
                refine LW_no rfl (by decide) rfl rfl (by decide) (congrArg Value.bool hb58) ?_
                refine LV (R_pickF (v := (.bool false)) (congrArg Value.bool hb58) rfl) ?_
                replace hm64 := Option.some.inj hm64; subst hm64
                exact key66 _ _ ⟨false, _, (hST.sublist (List.Sublist.cons _ (List.Sublist.cons _ (List.Sublist.refl _)))), rfl, hm65⟩
          · replace hm52 := if_f hb57 hm52
            refine CW_skip ?_
            refine sq_n ?_
            refine CW_seq ?_
            refine CW_seq ?_
            refine CW_region ?_
            refine LV (R_field fa83_0 e53) ?_
            refine LV (R_load (v := (.int .i64 a0.Kind)) rfl (load_box1 hST.has (.tail _ (.head _)) rfl Tryz.isAgg3)) ?_
            refine LV (R_int (k := .i64) (a := a0.Kind) (b := 3) (v := (.bool ((a0.Kind == 3)))) rfl rfl rfl) ?_
            refine LW_nil ?_
            refine sq_n ?_
            refine CW_if (b := (a0.Kind == 3)) rfl (fun hb67 => ?_) (fun hb67 => ?_)
            · replace hm52 := if_t hb67 hm52
              refine CW_seq ?_
              refine CW_region ?_
              refine LV (R_field fa83_4 e53) ?_
              refine LV (R_load (v := (.agg (encRole a0.C).toArray)) rfl (load_boxA hST.has (.tail _ (.head _)) (encRole a0.C) rfl Tryz.isAgg47 Tryz.sizeOf47)) ?_
              refine LV (R_load (v := (.agg (encRole ((⟨zS, zS⟩ : Role))).toArray)) e54 (load_boxA hST.has (.head _) (encRole ((⟨zS, zS⟩ : Role))) rfl Tryz.isAgg47 Tryz.sizeOf47)) ?_
              refine LV (R_eql (a := (encRole a0.C).toArray) (b := (encRole ((⟨zS, zS⟩ : Role))).toArray) rfl rfl (guard_agg Tryz.eqGuardType47) (bin_eql (eqInRole _ a0.C ((⟨zS, zS⟩ : Role))))) ?_
              refine LV (R_move (v := (.bool ((beqRole a0.C ((⟨zS, zS⟩ : Role)))))) rfl) ?_
              obtain ⟨s89, hm90, hm91⟩ := bind_some hm52
              refine LW_join (J := fun E W => ∃ (x69 : Bool) (L70 : List (Nat × Obj)), ST true NoF w W (hp w) ((b1, Obj.cells ((encCred a0).toArray : Array Value) 83 (0, 0)) :: L70) ∧ E 1 = (.pointer (some ⟨b1, 0, none⟩)) ∧ E 67 = (.bool x69) ∧ (((if x69 then (((m_ref03_Right a0.Word2)).bind fun r86 => some r86) else some false) : Option Bool).bind fun x78 => some x78) = some r) 8 ?_ (fun key92 => ?_)
              · rintro E W ⟨x69, L70, hST, e72, e73, hm71⟩
                refine LV (R_move (v := (.bool x69)) e73) ?_
                obtain ⟨s82, hm83, hm84⟩ := bind_some hm71
                refine LW_join (J := fun E W => ∃ (x78 : Bool) (L79 : List (Nat × Obj)), ST true NoF w W (hp w) L79 ∧ E 72 = (.bool x78) ∧ some x78 = some r) 4 ?_ (fun key85 => ?_)
                · rintro E W ⟨x78, L79, hST, e81, hm80⟩
                  refine LV (R_assign (v := (.bool x78)) e81) ?_
                  refine LW_nil ?_
                  refine sq_n ?_
                  refine CW_ret ?_
                  refine sq_r ?_
                  replace hm80 := Option.some.inj hm80; subst hm80
                  refine retQ_1 (v := (.bool x78)) rfl rfl ?_
                  exact ⟨rfl, hST.ex⟩
                · rcases bool_cases x69 with hb74 | hb74
                  · replace hm83 := if_t hb74 hm83
                    refine LW_v (.inr ⟨13, true, 68, rfl, rfl, by decide, (congrArg Value.bool hb74)⟩) rfl (by decide) (R_field fa83_5 e72) ?_
                    refine LW_v (.inr ⟨13, true, 68, rfl, rfl, by decide, (congrArg Value.bool hb74)⟩) rfl (by decide) (R_load (v := (.string a0.Word2)) rfl (load_box1 hST.has (.head _) rfl Tryz.isAgg9)) ?_
                    obtain ⟨r86, hr87, hm83⟩ := bind_some hm83
                    refine LW_e (.inr ⟨13, true, 68, rfl, rfl, by decide, (congrArg Value.bool hb74)⟩) rfl (by decide) (E_gives (args := [(.string a0.Word2)]) hST rfl Tryz.call108 (by exact args1 rfl) ((w_ref03_Right a0.Word2 _ _  hr87)) (fun W88 hST => ?_))
                    refine LV (R_pickT (v := (.bool r86)) (congrArg Value.bool hb74) rfl) ?_
                    replace hm83 := Option.some.inj hm83; subst hm83
                    exact key85 _ _ ⟨r86, _, (hST.sublist (List.Sublist.cons _ (List.Sublist.refl _))), rfl, hm84⟩
                  · replace hm83 := if_f hb74 hm83
                    refine LW_no rfl (by decide) rfl rfl (by decide) (congrArg Value.bool hb74) ?_
                    refine LW_no rfl (by decide) rfl rfl (by decide) (congrArg Value.bool hb74) ?_
                    refine LW_no rfl (by decide) rfl rfl (by decide) (congrArg Value.bool hb74) ?_
                    refine LV (R_pickF (v := (.bool false)) (congrArg Value.bool hb74) rfl) ?_
                    replace hm83 := Option.some.inj hm83; subst hm83
                    exact key85 _ _ ⟨false, _, (hST.sublist (List.Sublist.cons _ (List.Sublist.refl _))), rfl, hm84⟩
              · rcases bool_cases ((beqRole a0.C ((⟨zS, zS⟩ : Role)))) with hb68 | hb68
                · replace hm90 := if_t hb68 hm90
                  refine LW_v (.inr ⟨4, true, 59, rfl, rfl, by decide, (congrArg Value.bool hb68)⟩) rfl (by decide) (R_field fa83_3 e53) ?_
                  refine LW_v (.inr ⟨4, true, 59, rfl, rfl, by decide, (congrArg Value.bool hb68)⟩) rfl (by decide) (R_field fa47_0 rfl) ?_
                  refine LW_v (.inr ⟨4, true, 59, rfl, rfl, by decide, (congrArg Value.bool hb68)⟩) rfl (by decide) (R_load (v := (.string a0.B.Owner)) rfl (load_box1 hST.has (.tail _ (.head _)) rfl Tryz.isAgg9)) ?_
                  refine LW_v (.inr ⟨4, true, 59, rfl, rfl, by decide, (congrArg Value.bool hb68)⟩) rfl (by decide) (R_field fa83_1 e53) ?_
                  refine LW_v (.inr ⟨4, true, 59, rfl, rfl, by decide, (congrArg Value.bool hb68)⟩) rfl (by decide) (R_field fa47_0 rfl) ?_
                  refine LW_v (.inr ⟨4, true, 59, rfl, rfl, by decide, (congrArg Value.bool hb68)⟩) rfl (by decide) (R_load (v := (.string a0.Head.Owner)) rfl (load_box1 hST.has (.tail _ (.head _)) rfl Tryz.isAgg9)) ?_
                  refine LW_v (.inr ⟨4, true, 59, rfl, rfl, by decide, (congrArg Value.bool hb68)⟩) rfl (by decide) (R_str (a := a0.B.Owner) (b := a0.Head.Owner) (v := (.bool ((beqS a0.B.Owner a0.Head.Owner)))) rfl rfl rfl) ?_
                  refine LV (R_pickT (v := (.bool ((beqS a0.B.Owner a0.Head.Owner)))) (congrArg Value.bool hb68) rfl) ?_
                  replace hm90 := Option.some.inj hm90; subst hm90
                  exact key92 _ _ ⟨((beqS a0.B.Owner a0.Head.Owner)), _, (hST.sublist (List.Sublist.cons _ (List.Sublist.refl _))), e53, rfl, hm91⟩
                · replace hm90 := if_f hb68 hm90
                  refine LW_no rfl (by decide) rfl rfl (by decide) (congrArg Value.bool hb68) ?_
                  refine LW_no rfl (by decide) rfl rfl (by decide) (congrArg Value.bool hb68) ?_
                  refine LW_no rfl (by decide) rfl rfl (by decide) (congrArg Value.bool hb68) ?_
                  refine LW_no rfl (by decide) rfl rfl (by decide) (congrArg Value.bool hb68) ?_
                  refine LW_no rfl (by decide) rfl rfl (by decide) (congrArg Value.bool hb68) ?_
                  refine LW_no rfl (by decide) rfl rfl (by decide) (congrArg Value.bool hb68) ?_
                  refine LW_no rfl (by decide) rfl rfl (by decide) (congrArg Value.bool hb68) ?_
                  refine LV (R_pickF (v := (.bool false)) (congrArg Value.bool hb68) rfl) ?_
                  replace hm90 := Option.some.inj hm90; subst hm90
                  exact key92 _ _ ⟨false, _, (hST.sublist (List.Sublist.cons _ (List.Sublist.refl _))), e53, rfl, hm91⟩
            · replace hm52 := if_f hb67 hm52
              refine CW_skip ?_
              refine sq_n ?_
              replace hST : ST true NoF w _ _ ((b1, Obj.cells ((encCred a0).toArray : Array Value) 83 (0, 0)) :: L51) := hST.sublist (List.Sublist.cons _ (List.Sublist.refl _))
              refine CW_seq ?_
              refine CW_region ?_
              refine LV (R_field fa83_0 e53) ?_
              refine LV (R_load (v := (.int .i64 a0.Kind)) rfl (load_box1 hST.has (.head _) rfl Tryz.isAgg3)) ?_
              refine LV (R_int (k := .i64) (a := a0.Kind) (b := 4) (v := (.bool ((a0.Kind == 4)))) rfl rfl rfl) ?_
              refine LV (R_move (v := (.bool ((a0.Kind == 4)))) rfl) ?_
              obtain ⟨s130, hm131, hm132⟩ := bind_some hm52
              refine LW_join (J := fun E W => ∃ (x94 : Bool) (L95 : List (Nat × Obj)), ST true NoF w W (hp w) ((b1, Obj.cells ((encCred a0).toArray : Array Value) 83 (0, 0)) :: L95) ∧ E 1 = (.pointer (some ⟨b1, 0, none⟩)) ∧ E 80 = (.bool x94) ∧ (((if x94 then (((m_ref04_Right a0.C)).bind fun r127 => some r127) else some false) : Option Bool).bind fun x103 => (((if x103 then (((m_ref04_Less a0.B a0.C)).bind fun r120 => some r120) else some false) : Option Bool).bind fun x112 => some x112)) = some r) 4 ?_ (fun key133 => ?_)
              · rintro E W ⟨x94, L95, hST, e97, e98, hm96⟩
                refine LV (R_move (v := (.bool x94)) e98) ?_
                obtain ⟨s123, hm124, hm125⟩ := bind_some hm96
                refine LW_join (J := fun E W => ∃ (x103 : Bool) (L104 : List (Nat × Obj)), ST true NoF w W (hp w) ((b1, Obj.cells ((encCred a0).toArray : Array Value) 83 (0, 0)) :: L104) ∧ E 1 = (.pointer (some ⟨b1, 0, none⟩)) ∧ E 85 = (.bool x103) ∧ (((if x103 then (((m_ref04_Less a0.B a0.C)).bind fun r120 => some r120) else some false) : Option Bool).bind fun x112 => some x112) = some r) 4 ?_ (fun key126 => ?_)
                · rintro E W ⟨x103, L104, hST, e106, e107, hm105⟩
                  refine LV (R_move (v := (.bool x103)) e107) ?_
                  obtain ⟨s116, hm117, hm118⟩ := bind_some hm105
                  refine LW_join (J := fun E W => ∃ (x112 : Bool) (L113 : List (Nat × Obj)), ST true NoF w W (hp w) L113 ∧ E 92 = (.bool x112) ∧ some x112 = some r) 6 ?_ (fun key119 => ?_)
                  · rintro E W ⟨x112, L113, hST, e115, hm114⟩
                    refine LV (R_assign (v := (.bool x112)) e115) ?_
                    refine LW_nil ?_
                    refine sq_n ?_
                    refine CW_ret ?_
                    replace hm114 := Option.some.inj hm114; subst hm114
                    refine retQ_1 (v := (.bool x112)) rfl rfl ?_
                    exact ⟨rfl, hST.ex⟩
                  · rcases bool_cases x103 with hb108 | hb108
                    · replace hm117 := if_t hb108 hm117
                      refine LW_v (.inr ⟨13, true, 86, rfl, rfl, by decide, (congrArg Value.bool hb108)⟩) rfl (by decide) (R_field fa83_3 e106) ?_
                      refine LW_v (.inr ⟨13, true, 86, rfl, rfl, by decide, (congrArg Value.bool hb108)⟩) rfl (by decide) (R_load (v := (.agg (encRole a0.B).toArray)) rfl (load_boxA hST.has (.head _) (encRole a0.B) rfl Tryz.isAgg47 Tryz.sizeOf47)) ?_
                      refine LW_v (.inr ⟨13, true, 86, rfl, rfl, by decide, (congrArg Value.bool hb108)⟩) rfl (by decide) (R_field fa83_4 e106) ?_
                      refine LW_v (.inr ⟨13, true, 86, rfl, rfl, by decide, (congrArg Value.bool hb108)⟩) rfl (by decide) (R_load (v := (.agg (encRole a0.C).toArray)) rfl (load_boxA hST.has (.head _) (encRole a0.C) rfl Tryz.isAgg47 Tryz.sizeOf47)) ?_
                      obtain ⟨r120, hr121, hm117⟩ := bind_some hm117
                      refine LW_e (.inr ⟨13, true, 86, rfl, rfl, by decide, (congrArg Value.bool hb108)⟩) rfl (by decide) (E_gives (args := [(.agg (encRole a0.B).toArray), (.agg (encRole a0.C).toArray)]) hST rfl Tryz.call123 (by exact args2 rfl rfl) ((w_ref04_Less a0.B a0.C _ _  hr121)) (fun W122 hST => ?_))
                      refine LV (R_pickT (v := (.bool r120)) (congrArg Value.bool hb108) rfl) ?_
                      replace hm117 := Option.some.inj hm117; subst hm117
                      exact key119 _ _ ⟨r120, _, (hST.sublist (List.Sublist.cons _ (List.Sublist.refl _))), rfl, hm118⟩
                    · replace hm117 := if_f hb108 hm117
                      refine LW_no rfl (by decide) rfl rfl (by decide) (congrArg Value.bool hb108) ?_
                      refine LW_no rfl (by decide) rfl rfl (by decide) (congrArg Value.bool hb108) ?_
                      refine LW_no rfl (by decide) rfl rfl (by decide) (congrArg Value.bool hb108) ?_
                      refine LW_no rfl (by decide) rfl rfl (by decide) (congrArg Value.bool hb108) ?_
                      refine LW_no rfl (by decide) rfl rfl (by decide) (congrArg Value.bool hb108) ?_
                      refine LV (R_pickF (v := (.bool false)) (congrArg Value.bool hb108) rfl) ?_
                      replace hm117 := Option.some.inj hm117; subst hm117
                      exact key119 _ _ ⟨false, _, (hST.sublist (List.Sublist.cons _ (List.Sublist.refl _))), rfl, hm118⟩
                · rcases bool_cases x94 with hb99 | hb99
                  · replace hm124 := if_t hb99 hm124
                    refine LW_v (.inr ⟨8, true, 81, rfl, rfl, by decide, (congrArg Value.bool hb99)⟩) rfl (by decide) (R_field fa83_4 e97) ?_
                    refine LW_v (.inr ⟨8, true, 81, rfl, rfl, by decide, (congrArg Value.bool hb99)⟩) rfl (by decide) (R_load (v := (.agg (encRole a0.C).toArray)) rfl (load_boxA hST.has (.head _) (encRole a0.C) rfl Tryz.isAgg47 Tryz.sizeOf47)) ?_
                    obtain ⟨r127, hr128, hm124⟩ := bind_some hm124
                    refine LW_e (.inr ⟨8, true, 81, rfl, rfl, by decide, (congrArg Value.bool hb99)⟩) rfl (by decide) (E_gives (args := [(.agg (encRole a0.C).toArray)]) hST rfl Tryz.call51 (by exact args1 rfl) ((w_ref04_Right a0.C _ _  hr128)) (fun W129 hST => ?_))
                    refine LV (R_pickT (v := (.bool r127)) (congrArg Value.bool hb99) rfl) ?_
                    replace hm124 := Option.some.inj hm124; subst hm124
                    exact key126 _ _ ⟨r127, _, (hST.sublist (List.Sublist.refl _)), e97, rfl, hm125⟩
                  · replace hm124 := if_f hb99 hm124
                    refine LW_no rfl (by decide) rfl rfl (by decide) (congrArg Value.bool hb99) ?_
                    refine LW_no rfl (by decide) rfl rfl (by decide) (congrArg Value.bool hb99) ?_
                    refine LW_no rfl (by decide) rfl rfl (by decide) (congrArg Value.bool hb99) ?_
                    refine LV (R_pickF (v := (.bool false)) (congrArg Value.bool hb99) rfl) ?_
                    replace hm124 := Option.some.inj hm124; subst hm124
                    exact key126 _ _ ⟨false, _, (hST.sublist (List.Sublist.refl _)), e97, rfl, hm125⟩
              · rcases bool_cases ((a0.Kind == 4)) with hb93 | hb93
                · replace hm131 := if_t hb93 hm131
                  refine LW_v (.inr ⟨3, true, 76, rfl, rfl, by decide, (congrArg Value.bool hb93)⟩) rfl (by decide) (R_field fa83_5 e53) ?_
                  refine LW_v (.inr ⟨3, true, 76, rfl, rfl, by decide, (congrArg Value.bool hb93)⟩) rfl (by decide) (R_load (v := (.string a0.Word2)) rfl (load_box1 hST.has (.head _) rfl Tryz.isAgg9)) ?_
                  refine LW_v (.inr ⟨3, true, 76, rfl, rfl, by decide, (congrArg Value.bool hb93)⟩) rfl (by decide) (R_str (a := a0.Word2) (b := zS) (v := (.bool ((beqS a0.Word2 zS)))) rfl rfl rfl) ?_
                  refine LV (R_pickT (v := (.bool ((beqS a0.Word2 zS)))) (congrArg Value.bool hb93) rfl) ?_
                  replace hm131 := Option.some.inj hm131; subst hm131
                  exact key133 _ _ ⟨((beqS a0.Word2 zS)), _, (hST.sublist (List.Sublist.refl _)), e53, rfl, hm132⟩
                · replace hm131 := if_f hb93 hm131
                  refine LW_no rfl (by decide) rfl rfl (by decide) (congrArg Value.bool hb93) ?_
                  refine LW_no rfl (by decide) rfl rfl (by decide) (congrArg Value.bool hb93) ?_
                  refine LW_no rfl (by decide) rfl rfl (by decide) (congrArg Value.bool hb93) ?_
                  refine LV (R_pickF (v := (.bool false)) (congrArg Value.bool hb93) rfl) ?_
                  replace hm131 := Option.some.inj hm131; subst hm131
                  exact key133 _ _ ⟨false, _, (hST.sublist (List.Sublist.refl _)), e53, rfl, hm132⟩
      · rcases bool_cases ((!(beqS a0.Who zS))) with hb46 | hb46
        · replace hm135 := if_t hb46 hm135
          refine LW_no rfl (by decide) rfl rfl (by decide) (congrArg Value.bool hb46) ?_
          refine LW_no rfl (by decide) rfl rfl (by decide) (congrArg Value.bool hb46) ?_
          refine LW_no rfl (by decide) rfl rfl (by decide) (congrArg Value.bool hb46) ?_
          refine LW_no rfl (by decide) rfl rfl (by decide) (congrArg Value.bool hb46) ?_
          refine LV (R_pickT (v := (.bool true)) (congrArg Value.bool hb46) rfl) ?_
          replace hm135 := Option.some.inj hm135; subst hm135
          exact key137 _ _ ⟨true, _, (hST.sublist (List.Sublist.refl _)), rfl, rfl, rfl, hm136⟩
        · replace hm135 := if_f hb46 hm135
          refine LW_v (.inr ⟨3, false, 34, rfl, rfl, by decide, (congrArg Value.bool hb46)⟩) rfl (by decide) (R_field fa83_3 rfl) ?_
          refine LW_v (.inr ⟨3, false, 34, rfl, rfl, by decide, (congrArg Value.bool hb46)⟩) rfl (by decide) (R_load (v := (.agg (encRole a0.B).toArray)) rfl (load_boxA hST.has (.tail _ (.head _)) (encRole a0.B) rfl Tryz.isAgg47 Tryz.sizeOf47)) ?_
          obtain ⟨r138, hr139, hm135⟩ := bind_some hm135
          refine LW_e (.inr ⟨3, false, 34, rfl, rfl, by decide, (congrArg Value.bool hb46)⟩) rfl (by decide) (E_gives (args := [(.agg (encRole a0.B).toArray)]) hST rfl Tryz.call51 (by exact args1 rfl) ((w_ref04_Right a0.B _ _  hr139)) (fun W140 hST => ?_))
          refine LW_v (.inr ⟨3, false, 34, rfl, rfl, by decide, (congrArg Value.bool hb46)⟩) rfl (by decide) (R_not (b := r138) rfl) ?_
          refine LV (R_pickF (v := (.bool ((!r138)))) (congrArg Value.bool hb46) rfl) ?_
          replace hm135 := Option.some.inj hm135; subst hm135
          exact key137 _ _ ⟨((!r138)), _, (hST.sublist (List.Sublist.refl _)), rfl, rfl, rfl, hm136⟩
theorem w_ref01_Number (a0 : Int) (r : ByteArray) (w : World)  (hm : m_ref01_Number a0 = some r) :
    Gives true Tryz.prog 231 [(.int .i64 a0)] w (.string r) := by
  have hST := ST.start (dd := true) w
  unfold m_ref01_Number at hm
  refine calls_of_CW (n := 22) Tryz.func231 rfl rfl (Nat.le_of_ble_eq_true rfl) ?_
  refine CW_seq ?_
  refine CW_region ?_
  refine LV (R_assign (v := (.string zS)) rfl) ?_
  refine LW_nil ?_
  refine sq_n ?_
  refine CW_seq ?_
  refine CW_region ?_
  refine LV (R_assign (v := (.string zS)) rfl) ?_
  refine LW_nil ?_
  refine sq_n ?_
  refine CW_seq ?_
  refine CW_block (CW_loop (fun m E W => ∃ (x32 : Int) (x33 : ByteArray) (L43 : List (Nat × Obj)), ST true NoF w W (hp w) L43 ∧ E 0 = (.int .i64 x32) ∧ E 3 = (.string x33) ∧ m_ref01_Number_L1 m x32 x33 = some r) FUEL ⟨a0, zS, _, (hST.sublist (List.Sublist.refl _)), rfl, rfl, hm⟩ ?_)
  rintro m E W ⟨x32, x33, L43, hST, e46, e47, hm44⟩
  cases m with
  | zero => rw [m_ref01_Number_L1] at hm44; cases hm44
  | succ n45 =>
    rw [m_ref01_Number_L1] at hm44
    refine CW_seq ?_
    refine CW_seq ?_
    refine CW_region ?_
    refine LV (R_move (v := (.int .i64 x32)) e46) ?_
    refine LV (R_int (k := .i64) (a := x32) (b := 128) (v := (.bool ((decide (x32 ≥ 128))))) rfl rfl rfl) ?_
    refine LW_nil ?_
    refine sq_n ?_
    refine CW_if (b := (decide (x32 ≥ 128))) rfl (fun hb48 => ?_) (fun hb48 => ?_)
    · replace hm44 := if_t hb48 hm44
      refine CW_skip ?_
      refine sq_n ?_
      refine CW_block ?_
      refine CW_seq ?_
      refine CW_region ?_
      refine LV (R_move (v := (.string x33)) e47) ?_
      refine LV (R_move (v := (.int .i64 x32)) e46) ?_
      refine LV (R_div (k := .i64) (a := x32) (b := 128) (v := (.int .i64 ((Int.tmod x32 128)))) rfl rfl (by decide) rfl) ?_
      refine LV (R_int (k := .i64) (a := 128) (b := ((Int.tmod x32 128))) (v := (.int .i64 ((IntKind.i64.wrap (128 + ((Int.tmod x32 128))))))) rfl rfl rfl) ?_
      refine LV (R_convInt (k' := .i64) (a := (IntKind.i64.wrap (128 + ((Int.tmod x32 128))))) Tryz.underlying3 Tryz.underlying5 rfl) ?_
      refine LE (E_buildSlice (qs := #[(0, (.int .u8 ((IntKind.u8.wrap ((IntKind.i64.wrap (128 + ((Int.tmod x32 128)))))))))]) (cs := [(.int .u8 ((IntKind.u8.wrap ((IntKind.i64.wrap (128 + ((Int.tmod x32 128))))))))].toArray) hST (parts1 rfl) (run_lit [(.int .u8 ((IntKind.u8.wrap ((IntKind.i64.wrap (128 + ((Int.tmod x32 128))))))))] Tryz.underlying189 Tryz.sizeOf5 Tryz.zeroValue5 (by decide) rfl (by intro v hv; simp only [List.mem_cons, List.not_mem_nil, or_false] at hv; rcases hv with rfl <;> rfl) rfl rfl) (fun W50 b49 hST => ?_))
      refine LV (R_strOf Tryz.underlying189 Tryz.underlying5 Tryz.underlying9 rfl (Sl.lit (enc := (encIk .u8)) (l := [(IntKind.u8.wrap ((IntKind.i64.wrap (128 + ((Int.tmod x32 128))))))]) (fun _ => rfl) rfl (Nat.le_of_ble_eq_true rfl) rfl (hST.at_ (.head _)))) ?_
      obtain ⟨s51, hs52, hm44⟩ := bind_some hm44
      refine LV (R_cat rfl rfl hs52) ?_
      refine LV (R_assign (v := (.string s51)) rfl) ?_
      refine LW_nil ?_
      refine sq_n ?_
      replace hST : ST true NoF w _ _ L43 := hST.sublist (List.Sublist.cons _ (List.Sublist.refl _))
      refine CW_region ?_
      refine LV (R_move (v := (.int .i64 x32)) e46) ?_
      refine LV (R_div (k := .i64) (a := x32) (b := 128) (v := (.int .i64 ((IntKind.i64.wrap (Int.tdiv x32 128))))) rfl rfl (by decide) rfl) ?_
      refine LV (R_assign (v := (.int .i64 ((IntKind.i64.wrap (Int.tdiv x32 128))))) rfl) ?_
      refine LW_nil ?_
      refine bq_n ?_
      refine sq_n ?_
      exact ⟨n45, Nat.lt_succ_self _, ((IntKind.i64.wrap (Int.tdiv x32 128))), s51, _, (hST.sublist (List.Sublist.refl _)), rfl, rfl, hm44⟩
    · replace hm44 := if_f hb48 hm44
      refine CW_exit ?_
      refine sq_e (sq_e (bq_e ?_))
      refine sq_n ?_
      refine CW_seq ?_
      refine CW_region ?_
      refine LV (R_move (v := (.string x33)) e47) ?_
      refine LV (R_move (v := (.int .i64 x32)) e46) ?_
      refine LV (R_convInt (k' := .i64) (a := x32) Tryz.underlying3 Tryz.underlying5 rfl) ?_
      refine LE (E_buildSlice (qs := #[(0, (.int .u8 ((IntKind.u8.wrap x32))))]) (cs := [(.int .u8 ((IntKind.u8.wrap x32)))].toArray) hST (parts1 rfl) (run_lit [(.int .u8 ((IntKind.u8.wrap x32)))] Tryz.underlying189 Tryz.sizeOf5 Tryz.zeroValue5 (by decide) rfl (by intro v hv; simp only [List.mem_cons, List.not_mem_nil, or_false] at hv; rcases hv with rfl <;> rfl) rfl rfl) (fun W54 b53 hST => ?_))
      refine LV (R_strOf Tryz.underlying189 Tryz.underlying5 Tryz.underlying9 rfl (Sl.lit (enc := (encIk .u8)) (l := [(IntKind.u8.wrap x32)]) (fun _ => rfl) rfl (Nat.le_of_ble_eq_true rfl) rfl (hST.at_ (.head _)))) ?_
      obtain ⟨s55, hs56, hm44⟩ := bind_some hm44
      refine LV (R_cat rfl rfl hs56) ?_
      refine LV (R_assign (v := (.string s55)) rfl) ?_
      refine LW_nil ?_
      refine sq_n ?_
      replace hST : ST true NoF w _ _ L43 := hST.sublist (List.Sublist.cons _ (List.Sublist.refl _))
      refine CW_ret ?_
      replace hm44 := Option.some.inj hm44; subst hm44
      refine retQ_1 (v := (.string s55)) rfl rfl ?_
      exact ⟨rfl, hST.ex⟩
theorem w_ref01_Text (a0 : ByteArray) (r : ByteArray) (w : World)  (hm : m_ref01_Text a0 = some r) :
    Gives true Tryz.prog 233 [(.string a0)] w (.string r) := by
  have hST := ST.start (dd := true) w
  unfold m_ref01_Text at hm
  refine calls_of_CW (n := 8) Tryz.func233 rfl rfl (Nat.le_of_ble_eq_true rfl) ?_
  refine CW_seq ?_
  refine CW_region ?_
  refine LV (R_assign (v := (.string zS)) rfl) ?_
  refine LW_nil ?_
  refine sq_n ?_
  refine CW_seq ?_
  refine CW_region ?_
  refine LV (R_move (v := (.string a0)) rfl) ?_
  refine LV (R_lenStr (s := a0) Tryz.underlying9 rfl) ?_
  obtain ⟨r1, hr2, hm⟩ := bind_some hm
  refine LE (E_gives (args := [(.int .i64 ((a0.size : Int)))]) hST rfl Tryz.call231 (by exact args1 rfl) ((w_ref01_Number ((a0.size : Int)) _ _  hr2)) (fun W3 hST => ?_))
  refine LV (R_move (v := (.string a0)) rfl) ?_
  obtain ⟨s4, hs5, hm⟩ := bind_some hm
  refine LV (R_cat rfl rfl hs5) ?_
  refine LV (R_assign (v := (.string s4)) rfl) ?_
  refine LW_nil ?_
  refine sq_n ?_
  refine CW_ret ?_
  replace hm := Option.some.inj hm; subst hm
  refine retQ_1 (v := (.string s4)) rfl rfl ?_
  exact ⟨rfl, hST.ex⟩
theorem w_ref04_Bytes (a0 : Role) (r : ByteArray) (w : World)  (hm : m_ref04_Bytes a0 = some r) :
    Gives true Tryz.prog 232 [(.agg (encRole a0).toArray)] w (.string r) := by
  have hST := ST.start (dd := true) w
  unfold m_ref04_Bytes at hm
  refine calls_of_CW (n := 10) Tryz.func232 rfl rfl (Nat.le_of_ble_eq_true rfl) ?_
  refine CW_seq ?_
  refine CW_region ?_
  refine LE (E_box (v := (.agg (encRole a0).toArray)) hST rfl (fun W2 b1 hST => ?_))
  refine LV (R_assign (v := (.string zS)) rfl) ?_
  refine LW_nil ?_
  refine sq_n ?_
  refine CW_seq ?_
  refine PX_start (fun l W => Has (hp w) ((b1, Obj.cells ((encRole a0).toArray : Array Value) 47 (0, 0)) :: []) W) Tryz_mixed ?_
  replace hST := hST.drew
  have hS0 : Has (hp w) ((b1, Obj.cells ((encRole a0).toArray : Array Value) 47 (0, 0)) :: []) _ := hST.has.sub (Sub.refl _) (fun p hq => ((List.mem_cons.1 hq).elim (fun hq => by rw [hq]; exact (.head _)) (fun hq => (absurd hq List.not_mem_nil))))
  refine PV 0 rfl hS0 (R_field fa47_0 rfl) ?_
  refine PX_v 1 rfl (by kernel_rfl) (.inl rfl) rfl (by decide) (fun _ _ h => h) hS0 (fun l W hpd hs => have hS := hs; R_load (v := (.string a0.Owner)) rfl (load_box1 hS (.head _) rfl Tryz.isAgg9)) ?_
  refine PV 3 rfl hS0 (R_field fa47_1 rfl) ?_
  refine PX_v 4 rfl (by kernel_rfl) (.inl rfl) rfl (by decide) (fun _ _ h => h) hS0 (fun l W hpd hs => have hS := hs; R_load (v := (.string a0.Word)) rfl (load_box1 hS (.head _) rfl Tryz.isAgg9)) ?_
  obtain ⟨r19, hr20, hm⟩ := bind_some hm
  refine PX_e 2 rfl (by kernel_rfl) (.inl rfl) rfl (by decide) (E_gives (args := [(.string a0.Owner)]) hST rfl Tryz.call233 (by exact args1 rfl) ((w_ref01_Text a0.Owner _ _  hr20)) (fun W21 hST => ?_))
  have hS0 : Has (hp w) ((b1, Obj.cells ((encRole a0).toArray : Array Value) 47 (0, 0)) :: []) _ := hST.has.sub (Sub.refl _) (fun p hq => ((List.mem_cons.1 hq).elim (fun hq => by rw [hq]; exact (.head _)) (fun hq => (absurd hq List.not_mem_nil))))
  refine ⟨hS0, ?_⟩
  obtain ⟨r22, hr23, hm⟩ := bind_some hm
  refine PX_e 5 rfl (by kernel_rfl) (.inl rfl) rfl (by decide) (E_gives (args := [(.string a0.Word)]) hST rfl Tryz.call233 (by exact args1 rfl) ((w_ref01_Text a0.Word _ _  hr23)) (fun W24 hST => ?_))
  have hS0 : Has (hp w) ((b1, Obj.cells ((encRole a0).toArray : Array Value) 47 (0, 0)) :: []) _ := hST.has.sub (Sub.refl _) (fun p hq => ((List.mem_cons.1 hq).elim (fun hq => by rw [hq]; exact (.head _)) (fun hq => (absurd hq List.not_mem_nil))))
  refine ⟨hS0, ?_⟩
  obtain ⟨s25, hs26, hm⟩ := bind_some hm
  refine PV 6 rfl hS0 (R_cat rfl rfl hs26) ?_
  refine PV 7 rfl hS0 (R_assign (v := (.string s25)) rfl) ?_
  refine PX_done (by kernel_rfl) ?_
  refine sq_n ?_
  replace hST : ST true NoF w _ _ [] := hST.sublist (List.Sublist.cons _ (List.Sublist.refl _))
  refine CW_ret ?_
  replace hm := Option.some.inj hm; subst hm
  refine retQ_1 (v := (.string s25)) rfl rfl ?_
  exact ⟨rfl, hST.ex⟩
theorem w_ref05_Bytes (a0 : Cred) (r : ByteArray) (w : World)  (hm : m_ref05_Bytes a0 = some r) :
    Gives true Tryz.prog 189 [(.agg (encCred a0).toArray)] w (.string r) := by
  have hST := ST.start (dd := true) w
  unfold m_ref05_Bytes at hm
  refine calls_of_CW (n := 41) Tryz.func189 rfl rfl (Nat.le_of_ble_eq_true rfl) ?_
  refine CW_seq ?_
  refine CW_region ?_
  refine LE (E_box (v := (.agg (encCred a0).toArray)) hST rfl (fun W2 b1 hST => ?_))
  refine LV (R_assign (v := (.string zS)) rfl) ?_
  refine LW_nil ?_
  refine sq_n ?_
  refine CW_seq ?_
  refine PX_start (fun l W => Has (hp w) ((b1, Obj.cells ((encCred a0).toArray : Array Value) 83 (0, 0)) :: []) W) Tryz_mixed ?_
  replace hST := hST.drew
  have hS0 : Has (hp w) ((b1, Obj.cells ((encCred a0).toArray : Array Value) 83 (0, 0)) :: []) _ := hST.has.sub (Sub.refl _) (fun p hq => ((List.mem_cons.1 hq).elim (fun hq => by rw [hq]; exact (.head _)) (fun hq => (absurd hq List.not_mem_nil))))
  refine PV 0 rfl hS0 (R_field fa83_0 rfl) ?_
  refine PX_v 1 rfl (by kernel_rfl) (.inl rfl) rfl (by decide) (fun _ _ h => h) hS0 (fun l W hpd hs => have hS := hs; R_load (v := (.int .i64 a0.Kind)) rfl (load_box1 hS (.head _) rfl Tryz.isAgg3)) ?_
  refine PV 3 rfl hS0 (R_field fa83_1 rfl) ?_
  refine PX_v 4 rfl (by kernel_rfl) (.inl rfl) rfl (by decide) (fun _ _ h => h) hS0 (fun l W hpd hs => have hS := hs; R_load (v := (.agg (encRole a0.Head).toArray)) rfl (load_boxA hS (.head _) (encRole a0.Head) rfl Tryz.isAgg47 Tryz.sizeOf47)) ?_
  obtain ⟨r19, hr20, hm⟩ := bind_some hm
  refine PX_e 2 rfl (by kernel_rfl) (.inl rfl) rfl (by decide) (E_gives (args := [(.int .i64 a0.Kind)]) hST rfl Tryz.call231 (by exact args1 rfl) ((w_ref01_Number a0.Kind _ _  hr20)) (fun W21 hST => ?_))
  have hS0 : Has (hp w) ((b1, Obj.cells ((encCred a0).toArray : Array Value) 83 (0, 0)) :: []) _ := hST.has.sub (Sub.refl _) (fun p hq => ((List.mem_cons.1 hq).elim (fun hq => by rw [hq]; exact (.head _)) (fun hq => (absurd hq List.not_mem_nil))))
  refine ⟨hS0, ?_⟩
  obtain ⟨r22, hr23, hm⟩ := bind_some hm
  refine PX_e 5 rfl (by kernel_rfl) (.inl rfl) rfl (by decide) (E_gives (args := [(.agg (encRole a0.Head).toArray)]) hST rfl Tryz.call232 (by exact args1 rfl) ((w_ref04_Bytes a0.Head _ _  hr23)) (fun W24 hST => ?_))
  have hS0 : Has (hp w) ((b1, Obj.cells ((encCred a0).toArray : Array Value) 83 (0, 0)) :: []) _ := hST.has.sub (Sub.refl _) (fun p hq => ((List.mem_cons.1 hq).elim (fun hq => by rw [hq]; exact (.head _)) (fun hq => (absurd hq List.not_mem_nil))))
  refine ⟨hS0, ?_⟩
  obtain ⟨s25, hs26, hm⟩ := bind_some hm
  refine PV 6 rfl hS0 (R_cat rfl rfl hs26) ?_
  refine PV 7 rfl hS0 (R_assign (v := (.string s25)) rfl) ?_
  refine PX_done (by kernel_rfl) ?_
  refine sq_n ?_
  refine CW_seq ?_
  refine CW_seq ?_
  refine CW_region ?_
  refine LV (R_field fa83_0 rfl) ?_
  refine LV (R_load (v := (.int .i64 a0.Kind)) rfl (load_box1 hST.has (.head _) rfl Tryz.isAgg3)) ?_
  refine LV (R_int (k := .i64) (a := a0.Kind) (b := 1) (v := (.bool ((a0.Kind == 1)))) rfl rfl rfl) ?_
  refine LW_nil ?_
  refine sq_n ?_
  refine CW_if (b := (a0.Kind == 1)) rfl (fun hb27 => ?_) (fun hb27 => ?_)
  · replace hm := if_t hb27 hm
    refine CW_seq ?_
    refine CW_region ?_
    refine LV (R_move (v := (.string s25)) rfl) ?_
    refine LV (R_field fa83_2 rfl) ?_
    refine LV (R_load (v := (.string a0.Who)) rfl (load_box1 hST.has (.head _) rfl Tryz.isAgg9)) ?_
    obtain ⟨r28, hr29, hm⟩ := bind_some hm
    refine LE (E_gives (args := [(.string a0.Who)]) hST rfl Tryz.call233 (by exact args1 rfl) ((w_ref01_Text a0.Who _ _  hr29)) (fun W30 hST => ?_))
    obtain ⟨s31, hs32, hm⟩ := bind_some hm
    refine LV (R_cat rfl rfl hs32) ?_
    refine LV (R_assign (v := (.string s31)) rfl) ?_
    refine LW_nil ?_
    refine sq_n ?_
    replace hST : ST true NoF w _ _ [] := hST.sublist (List.Sublist.cons _ (List.Sublist.refl _))
    refine CW_ret ?_
    refine sq_r ?_
    replace hm := Option.some.inj hm; subst hm
    refine retQ_1 (v := (.string s31)) rfl rfl ?_
    exact ⟨rfl, hST.ex⟩
  · replace hm := if_f hb27 hm
    refine CW_skip ?_
    refine sq_n ?_
    refine CW_seq ?_
    refine CW_region ?_
    refine LV (R_move (v := (.string s25)) rfl) ?_
    refine LV (R_field fa83_3 rfl) ?_
    refine LV (R_load (v := (.agg (encRole a0.B).toArray)) rfl (load_boxA hST.has (.head _) (encRole a0.B) rfl Tryz.isAgg47 Tryz.sizeOf47)) ?_
    obtain ⟨r33, hr34, hm⟩ := bind_some hm
    refine LE (E_gives (args := [(.agg (encRole a0.B).toArray)]) hST rfl Tryz.call232 (by exact args1 rfl) ((w_ref04_Bytes a0.B _ _  hr34)) (fun W35 hST => ?_))
    obtain ⟨s36, hs37, hm⟩ := bind_some hm
    refine LV (R_cat rfl rfl hs37) ?_
    refine LV (R_assign (v := (.string s36)) rfl) ?_
    refine LW_nil ?_
    refine sq_n ?_
    refine CW_seq ?_
    obtain ⟨s68, hm69, hm70⟩ := bind_some hm
    refine CW_cut (fun E W => ∃ (x44 : ByteArray) (L45 : List (Nat × Obj)), ST true NoF w W (hp w) ((b1, Obj.cells ((encCred a0).toArray : Array Value) 83 (0, 0)) :: L45) ∧ E 1 = (.pointer (some ⟨b1, 0, none⟩)) ∧ E 3 = (.string x44) ∧ (((if (a0.Kind == 4) then (((m_ref04_Bytes a0.C)).bind fun r63 => (((catS x44 r63)).bind fun s66 => some s66)) else some x44) : Option ByteArray).bind fun x55 => some x55) = some r) ?_ ?_
    · refine CW_seq ?_
      refine CW_region ?_
      refine LV (R_field fa83_0 rfl) ?_
      refine LV (R_load (v := (.int .i64 a0.Kind)) rfl (load_box1 hST.has (.head _) rfl Tryz.isAgg3)) ?_
      refine LV (R_int (k := .i64) (a := a0.Kind) (b := 3) (v := (.bool ((a0.Kind == 3)))) rfl rfl rfl) ?_
      refine LW_nil ?_
      refine sq_n ?_
      refine CW_if (b := (a0.Kind == 3)) rfl (fun hb71 => ?_) (fun hb71 => ?_)
      · replace hm69 := if_t hb71 hm69
        refine CW_region ?_
        refine LV (R_move (v := (.string s36)) rfl) ?_
        refine LV (R_field fa83_5 rfl) ?_
        refine LV (R_load (v := (.string a0.Word2)) rfl (load_box1 hST.has (.head _) rfl Tryz.isAgg9)) ?_
        obtain ⟨r72, hr73, hm69⟩ := bind_some hm69
        refine LE (E_gives (args := [(.string a0.Word2)]) hST rfl Tryz.call233 (by exact args1 rfl) ((w_ref01_Text a0.Word2 _ _  hr73)) (fun W74 hST => ?_))
        obtain ⟨s75, hs76, hm69⟩ := bind_some hm69
        refine LV (R_cat rfl rfl hs76) ?_
        refine LV (R_assign (v := (.string s75)) rfl) ?_
        refine LW_nil ?_
        refine sq_n ?_
        replace hm69 := Option.some.inj hm69; subst hm69
        exact ⟨s75, _, (hST.sublist (List.Sublist.refl _)), rfl, rfl, hm70⟩
      · replace hm69 := if_f hb71 hm69
        refine CW_skip ?_
        refine sq_n ?_
        replace hm69 := Option.some.inj hm69; subst hm69
        exact ⟨s36, _, (hST.sublist (List.Sublist.refl _)), rfl, rfl, hm70⟩
    · rintro E W ⟨x44, L45, hST, e47, e48, hm46⟩
      refine CW_seq ?_
      obtain ⟨s59, hm60, hm61⟩ := bind_some hm46
      refine CW_cut (fun E W => ∃ (x55 : ByteArray) (L56 : List (Nat × Obj)), ST true NoF w W (hp w) L56 ∧ E 3 = (.string x55) ∧ some x55 = some r) ?_ ?_
      · refine CW_seq ?_
        refine CW_region ?_
        refine LV (R_field fa83_0 e47) ?_
        refine LV (R_load (v := (.int .i64 a0.Kind)) rfl (load_box1 hST.has (.head _) rfl Tryz.isAgg3)) ?_
        refine LV (R_int (k := .i64) (a := a0.Kind) (b := 4) (v := (.bool ((a0.Kind == 4)))) rfl rfl rfl) ?_
        refine LW_nil ?_
        refine sq_n ?_
        refine CW_if (b := (a0.Kind == 4)) rfl (fun hb62 => ?_) (fun hb62 => ?_)
        · replace hm60 := if_t hb62 hm60
          refine CW_region ?_
          refine LV (R_move (v := (.string x44)) e48) ?_
          refine LV (R_field fa83_4 e47) ?_
          refine LV (R_load (v := (.agg (encRole a0.C).toArray)) rfl (load_boxA hST.has (.head _) (encRole a0.C) rfl Tryz.isAgg47 Tryz.sizeOf47)) ?_
          obtain ⟨r63, hr64, hm60⟩ := bind_some hm60
          refine LE (E_gives (args := [(.agg (encRole a0.C).toArray)]) hST rfl Tryz.call232 (by exact args1 rfl) ((w_ref04_Bytes a0.C _ _  hr64)) (fun W65 hST => ?_))
          obtain ⟨s66, hs67, hm60⟩ := bind_some hm60
          refine LV (R_cat rfl rfl hs67) ?_
          refine LV (R_assign (v := (.string s66)) rfl) ?_
          refine LW_nil ?_
          refine sq_n ?_
          replace hm60 := Option.some.inj hm60; subst hm60
          exact ⟨s66, _, (hST.sublist (List.Sublist.cons _ (List.Sublist.refl _))), rfl, hm61⟩
        · replace hm60 := if_f hb62 hm60
          refine CW_skip ?_
          refine sq_n ?_
          replace hm60 := Option.some.inj hm60; subst hm60
          exact ⟨x44, _, (hST.sublist (List.Sublist.cons _ (List.Sublist.refl _))), e48, hm61⟩
      · rintro E W ⟨x55, L56, hST, e58, hm57⟩
        refine CW_seq ?_
        refine CW_region ?_
        refine LV (R_move (v := (.string x55)) e58) ?_
        refine LV (R_assign (v := (.string x55)) rfl) ?_
        refine LW_nil ?_
        refine sq_n ?_
        refine CW_ret ?_
        replace hm57 := Option.some.inj hm57; subst hm57
        refine retQ_1 (v := (.string x55)) rfl rfl ?_
        exact ⟨rfl, hST.ex⟩
theorem w_ref05_bytes (a0 : Cred) (r : ByteArray) (w : World)  (hm : m_ref05_bytes a0 = some r) :
    Gives true Tryz.prog 152 [(.agg (encCred a0).toArray)] w (.string r) := by
  have hST := ST.start (dd := true) w
  unfold m_ref05_bytes at hm
  refine calls_of_CW (n := 8) Tryz.func152 rfl rfl (Nat.le_of_ble_eq_true rfl) ?_
  refine CW_seq ?_
  refine CW_region ?_
  refine LE (E_box (v := (.agg (encCred a0).toArray)) hST rfl (fun W2 b1 hST => ?_))
  refine LV (R_assign (v := (.string zS)) rfl) ?_
  refine LW_nil ?_
  refine sq_n ?_
  refine CW_seq ?_
  refine CW_seq ?_
  refine CW_region ?_
  refine LV (R_load (v := (.agg (encCred a0).toArray)) rfl (load_boxA hST.has (.head _) (encCred a0) rfl Tryz.isAgg83 Tryz.sizeOf83)) ?_
  obtain ⟨r3, hr4, hm⟩ := bind_some hm
  refine LE (E_gives (args := [(.agg (encCred a0).toArray)]) hST rfl Tryz.call106 (by exact args1 rfl) ((w_ref05_Right a0 _ _  hr4)) (fun W5 hST => ?_))
  refine LV (R_not (b := r3) rfl) ?_
  refine LW_nil ?_
  refine sq_n ?_
  refine CW_if (b := (!r3)) rfl (fun hb6 => ?_) (fun hb6 => ?_)
  · replace hm := if_t hb6 hm
    refine CW_seq ?_
    refine CW_region ?_
    refine LV (R_assign (v := (.string zS)) rfl) ?_
    refine LW_nil ?_
    refine sq_n ?_
    replace hST : ST true NoF w _ _ [] := hST.sublist (List.Sublist.cons _ (List.Sublist.refl _))
    refine CW_ret ?_
    refine sq_r ?_
    replace hm := Option.some.inj hm; subst hm
    refine retQ_1 (v := (.string zS)) rfl rfl ?_
    exact ⟨rfl, hST.ex⟩
  · replace hm := if_f hb6 hm
    refine CW_skip ?_
    refine sq_n ?_
    refine CW_seq ?_
    refine CW_region ?_
    refine LV (R_load (v := (.agg (encCred a0).toArray)) rfl (load_boxA hST.has (.head _) (encCred a0) rfl Tryz.isAgg83 Tryz.sizeOf83)) ?_
    obtain ⟨r7, hr8, hm⟩ := bind_some hm
    refine LE (E_gives (args := [(.agg (encCred a0).toArray)]) hST rfl Tryz.call189 (by exact args1 rfl) ((w_ref05_Bytes a0 _ _  hr8)) (fun W9 hST => ?_))
    refine LV (R_assign (v := (.string r7)) rfl) ?_
    refine LW_nil ?_
    refine sq_n ?_
    replace hST : ST true NoF w _ _ [] := hST.sublist (List.Sublist.cons _ (List.Sublist.refl _))
    refine CW_ret ?_
    replace hm := Option.some.inj hm; subst hm
    refine retQ_1 (v := (.string r7)) rfl rfl ?_
    exact ⟨rfl, hST.ex⟩
theorem w_ref05_Compare (a0 : Cred) (a1 : Cred) (r : Int) (w : World)  (hm : m_ref05_Compare a0 a1 = some r) :
    Gives true Tryz.prog 107 [(.agg (encCred a0).toArray), (.agg (encCred a1).toArray)] w (.int .i64 r) := by
  have hST := ST.start (dd := true) w
  unfold m_ref05_Compare at hm
  refine calls_of_CW (n := 17) Tryz.func107 rfl rfl (Nat.le_of_ble_eq_true rfl) ?_
  refine CW_seq ?_
  refine CW_region ?_
  refine LE (E_box (v := (.agg (encCred a0).toArray)) hST rfl (fun W2 b1 hST => ?_))
  refine LE (E_box (v := (.agg (encCred a1).toArray)) hST rfl (fun W4 b3 hST => ?_))
  refine LV (R_assign (v := (.int .i64 0)) rfl) ?_
  refine LW_nil ?_
  refine sq_n ?_
  refine CW_seq ?_
  refine CW_region ?_
  refine LV (R_load (v := (.agg (encCred a0).toArray)) rfl (load_boxA hST.has (.tail _ (.head _)) (encCred a0) rfl Tryz.isAgg83 Tryz.sizeOf83)) ?_
  obtain ⟨r5, hr6, hm⟩ := bind_some hm
  refine LE (E_gives (args := [(.agg (encCred a0).toArray)]) hST rfl Tryz.call152 (by exact args1 rfl) ((w_ref05_bytes a0 _ _  hr6)) (fun W7 hST => ?_))
  refine LV (R_assign (v := (.string r5)) rfl) ?_
  refine LW_nil ?_
  refine sq_n ?_
  replace hST : ST true NoF w _ _ ((b3, Obj.cells ((encCred a1).toArray : Array Value) 83 (0, 0)) :: []) := hST.sublist (List.Sublist.cons_cons _ (List.Sublist.cons _ (List.Sublist.refl _)))
  refine CW_seq ?_
  refine CW_region ?_
  refine LV (R_load (v := (.agg (encCred a1).toArray)) rfl (load_boxA hST.has (.head _) (encCred a1) rfl Tryz.isAgg83 Tryz.sizeOf83)) ?_
  obtain ⟨r8, hr9, hm⟩ := bind_some hm
  refine LE (E_gives (args := [(.agg (encCred a1).toArray)]) hST rfl Tryz.call152 (by exact args1 rfl) ((w_ref05_bytes a1 _ _  hr9)) (fun W10 hST => ?_))
  refine LV (R_assign (v := (.string r8)) rfl) ?_
  refine LW_nil ?_
  refine sq_n ?_
  replace hST : ST true NoF w _ _ [] := hST.sublist (List.Sublist.cons _ (List.Sublist.refl _))
  refine CW_seq ?_
  refine CW_seq ?_
  refine CW_region ?_
  refine LV (R_move (v := (.string r5)) rfl) ?_
  refine LV (R_move (v := (.string r8)) rfl) ?_
  refine LV (R_str (a := r5) (b := r8) (v := (.bool ((ltS r5 r8)))) rfl rfl rfl) ?_
  refine LW_nil ?_
  refine sq_n ?_
  refine CW_if (b := (ltS r5 r8)) rfl (fun hb11 => ?_) (fun hb11 => ?_)
  · replace hm := if_t hb11 hm
    refine CW_seq ?_
    refine CW_region ?_
    refine LV (R_assign (v := (.int .i64 ((-1)))) rfl) ?_
    refine LW_nil ?_
    refine sq_n ?_
    refine CW_ret ?_
    refine sq_r ?_
    replace hm := Option.some.inj hm; subst hm
    refine retQ_1 (v := (.int .i64 ((-1)))) rfl rfl ?_
    exact ⟨rfl, hST.ex⟩
  · replace hm := if_f hb11 hm
    refine CW_skip ?_
    refine sq_n ?_
    refine CW_seq ?_
    refine CW_seq ?_
    refine CW_region ?_
    refine LV (R_move (v := (.string r5)) rfl) ?_
    refine LV (R_move (v := (.string r8)) rfl) ?_
    refine LV (R_str (a := r5) (b := r8) (v := (.bool ((!(ltS r5 r8 || beqS r5 r8))))) rfl rfl rfl) ?_
    refine LW_nil ?_
    refine sq_n ?_
    refine CW_if (b := (!(ltS r5 r8 || beqS r5 r8))) rfl (fun hb12 => ?_) (fun hb12 => ?_)
    · replace hm := if_t hb12 hm
      refine CW_seq ?_
      refine CW_region ?_
      refine LV (R_assign (v := (.int .i64 1)) rfl) ?_
      refine LW_nil ?_
      refine sq_n ?_
      refine CW_ret ?_
      refine sq_r ?_
      replace hm := Option.some.inj hm; subst hm
      refine retQ_1 (v := (.int .i64 1)) rfl rfl ?_
      exact ⟨rfl, hST.ex⟩
    · replace hm := if_f hb12 hm
      refine CW_skip ?_
      refine sq_n ?_
      refine CW_seq ?_
      refine CW_region ?_
      refine LV (R_assign (v := (.int .i64 0)) rfl) ?_
      refine LW_nil ?_
      refine sq_n ?_
      refine CW_ret ?_
      replace hm := Option.some.inj hm; subst hm
      refine retQ_1 (v := (.int .i64 0)) rfl rfl ?_
      exact ⟨rfl, hST.ex⟩
theorem w_ref05_Set (v_a0 : Value) (a0 : List Cred) (r : List Cred) (w : World) (h_a0 : Sl (Pl encCred) 9 (hp w) v_a0 a0) (hm : m_ref05_Set a0 = some r) :
    GivesRow true Tryz.prog 49 [v_a0] w 83 encCred 9 r := by
  have hST := ST.start (dd := true) w
  unfold m_ref05_Set at hm
  refine calls_of_CW (n := 51) Tryz.func49 rfl rfl (Nat.le_of_ble_eq_true rfl) ?_
  refine CW_seq ?_
  refine CW_region ?_
  refine LV (R_assign (v := (.slice none 0 0)) rfl) ?_
  refine LW_nil ?_
  refine sq_n ?_
  refine CW_seq ?_
  refine CW_region ?_
  refine LV (R_assign (v := (.slice none 0 0)) rfl) ?_
  refine LW_nil ?_
  refine sq_n ?_
  refine CW_tail ?_
  refine CW_block (CW_loop (fun m E W => ∃ (v11496 : Value) (l11497 : List Cred) (R11499 : List (Nat × Obj)) (L14376 : List (Nat × Obj)), ST true NoF w W (hp w) (R11499 ++ L14376) ∧ E 0 = v_a0 ∧ E 3 = v11496 ∧ Row 83 encCred 9 v11496 l11497 R11499 ∧ m_ref05_Set_L1 a0 m l11497 = some r) FUEL ⟨(.slice none 0 0), ([]), [], _, (hST.sublist (List.Sublist.refl _)), rfl, rfl, (Row.nil _ _ _), hm⟩ ?_)
  rintro m E W ⟨v11496, l11497, R11499, L14376, hST, e14379, e14380, hs11498, hm14377⟩
  cases m with
  | zero => rw [m_ref05_Set_L1] at hm14377; cases hm14377
  | succ n14378 =>
    rw [m_ref05_Set_L1] at hm14377
    refine CW_block ?_
    refine CW_seq ?_
    refine CW_region ?_
    refine LE (E_alloc hST Tryz.zeroValue83 (fun W14382 b14381 hST => ?_))
    refine LW_nil ?_
    refine sq_n ?_
    refine CW_seq ?_
    refine CW_region ?_
    refine LV (R_assign (v := (.bool false)) rfl) ?_
    refine LW_nil ?_
    refine sq_n ?_
    refine CW_seq ?_
    refine CW_seq ?_
    refine CW_region ?_
    refine LV (R_move (v := v_a0) e14379) ?_
    refine LV (R_len Tryz.underlying22 rfl h_a0) ?_
    refine LV (R_move (v := (.int .i64 0)) rfl) ?_
    refine LW_nil ?_
    refine sq_n ?_
    obtain ⟨s15824, hm15825, hm15826⟩ := bind_some hm14377
    refine CW_cut (fun E W => ∃ (x15807 : Bool) (x15808 : Cred) (L15809 : List (Nat × Obj)), ST true NoF w W (hp w) ((b14381, Obj.cells ((encCred x15808).toArray : Array Value) 83 (0, 0)) :: (R11499 ++ L15809)) ∧ E 0 = v_a0 ∧ E 3 = v11496 ∧ E 4 = (.pointer (some ⟨b14381, 0, none⟩)) ∧ E 5 = (.bool x15807) ∧ (if (!x15807) then some l11497 else (((appB 136 l11497 ([x15808]))).bind fun l15818 => (m_ref05_Set_L1 a0 n14378 l15818))) = some r) ?_ ?_
    · refine CW_range (fun i E W => ∃ (x16301 : Bool) (x16302 : Cred) (L16777 : List (Nat × Obj)), (E 10 = .int .i64 (i : Nat) ∧ E 9 = .int .i64 (a0.length : Nat)) ∧ ST true NoF w W (hp w) ((b14381, Obj.cells ((encCred x16302).toArray : Array Value) 83 (0, 0)) :: (R11499 ++ L16777)) ∧ E 0 = v_a0 ∧ E 3 = v11496 ∧ E 4 = (.pointer (some ⟨b14381, 0, none⟩)) ∧ E 5 = (.bool x16301) ∧ E 8 = v_a0 ∧ m_ref05_Set_L2 l11497 (a0.drop i) x16301 x16302 = some s15824) a0.length h_a0.len ⟨false, ((⟨0, (⟨zS, zS⟩ : Role), zS, (⟨zS, zS⟩ : Role), (⟨zS, zS⟩ : Role), zS⟩ : Cred)), _, ⟨rfl, rfl⟩, (hST.sublist (List.Sublist.refl _)), e14379, e14380, rfl, rfl, rfl, hm15825⟩ (by decide) (by decide) (by decide) (fun _ _ _ h => by obtain ⟨_, _, _, eIN, _⟩ := h; exact eIN) ?_ ?_
      · rintro i15827 E W hi15833 ⟨x16301, x16302, L16777, ⟨eI, eN⟩, hST, e16779, e16780, e16781, e16782, e16783, hm16778⟩
        obtain ⟨x15828, xs15829, hx15831, hx15830, hx15832⟩ := drop_cons hi15833
        rw [hx15831] at hm16778
        rw [m_ref05_Set_L2] at hm16778
        refine CW_block ?_
        refine CW_seq ?_
        refine CW_region ?_
        refine LQ (R_indexP (enc := encCred) (i := (i15827 : Int)) (x0 := x15828) Tryz.underlying22 Tryz.sizeOf83 e16783 eI h_a0 (Int.natCast_nonneg _) hx15830) (fun p16784 hp16785 => ?_)
        refine LV (R_load rfl (load_atA hST.has hp16785 Tryz.isAgg83 Tryz.sizeOf83)) ?_
        refine LE (E_alloc hST Tryz.zeroValue83 (fun W16788 b16787 hST => ?_))
        refine LW_e0 (.inl rfl) rfl (E_store [] (.agg (encCred x15828).toArray) ((encCred x15828).toArray) hST rfl rfl Tryz.sizeOf83 (oneCred x15828) (Nat.le_of_ble_eq_true rfl) rfl (fun W16789 hST => ?_))
        refine LW_nil ?_
        refine sq_n ?_
        refine CW_seq ?_
        refine PX_start (fun l W => Has (hp w) ((b16787, Obj.cells ((encCred x15828).toArray : Array Value) 83 (0, 0)) :: ((b14381, Obj.cells ((encCred x16302).toArray : Array Value) 83 (0, 0)) :: (R11499 ++ []))) W) Tryz_mixed ?_
        replace hST := hST.drew
        replace hST : ST true NoF w _ _ ((b16787, Obj.cells ((encCred x15828).toArray : Array Value) 83 (0, 0)) :: ((b14381, Obj.cells ((encCred x16302).toArray : Array Value) 83 (0, 0)) :: (R11499 ++ L16777))) := hST
        have hS0 : Has (hp w) ((b16787, Obj.cells ((encCred x15828).toArray : Array Value) 83 (0, 0)) :: ((b14381, Obj.cells ((encCred x16302).toArray : Array Value) 83 (0, 0)) :: (R11499 ++ []))) _ := hST.has.sub (Sub.refl _) (fun p hq => ((List.mem_cons.1 hq).elim (fun hq => by rw [hq]; exact (.head _)) (fun hq => ((List.mem_cons.1 hq).elim (fun hq => by rw [hq]; exact (.tail _ (.head _))) (fun hq => ((List.mem_append.1 hq).elim (fun hq => (.tail _ (.tail _ (List.mem_append_left _ hq)))) (fun hq => (absurd hq List.not_mem_nil))))))))
        refine PX_v 0 rfl (by kernel_rfl) (.inl rfl) rfl (by decide) (fun _ _ h => h) hS0 (fun l W hpd hs => have hS := hs; R_load (v := (.agg (encCred x15828).toArray)) rfl (load_boxA hS (.head _) (encCred x15828) rfl Tryz.isAgg83 Tryz.sizeOf83)) ?_
        obtain ⟨r17096, hr17097, hm16778⟩ := bind_some hm16778
        refine PX_e 1 rfl (by kernel_rfl) (.inl rfl) rfl (by decide) (E_gives (args := [(.agg (encCred x15828).toArray)]) hST rfl Tryz.call106 (by exact args1 rfl) ((w_ref05_Right x15828 _ _  hr17097)) (fun W17098 hST => ?_))
        have hS0 : Has (hp w) ((b16787, Obj.cells ((encCred x15828).toArray : Array Value) 83 (0, 0)) :: ((b14381, Obj.cells ((encCred x16302).toArray : Array Value) 83 (0, 0)) :: (R11499 ++ []))) _ := hST.has.sub (Sub.refl _) (fun p hq => ((List.mem_cons.1 hq).elim (fun hq => by rw [hq]; exact (.head _)) (fun hq => ((List.mem_cons.1 hq).elim (fun hq => by rw [hq]; exact (.tail _ (.head _))) (fun hq => ((List.mem_append.1 hq).elim (fun hq => (.tail _ (.tail _ (List.mem_append_left _ hq)))) (fun hq => (absurd hq List.not_mem_nil))))))))
        refine ⟨hS0, ?_⟩
        refine PV 2 rfl hS0 (R_move (v := (.bool r17096)) rfl) ?_
        obtain ⟨s17213, hm17214, hm17215⟩ := bind_some hm16778
        refine PX_join (J := fun E W => ∃ (x17134 : Bool) (L17135 : List (Nat × Obj)), ST true NoF w W (hp w) ((b16787, Obj.cells ((encCred x15828).toArray : Array Value) 83 (0, 0)) :: ((b14381, Obj.cells ((encCred x16302).toArray : Array Value) 83 (0, 0)) :: (R11499 ++ L17135))) ∧ E 0 = v_a0 ∧ E 3 = v11496 ∧ E 4 = (.pointer (some ⟨b14381, 0, none⟩)) ∧ E 5 = (.bool x16301) ∧ E 7 = (.pointer (some ⟨b16787, 0, none⟩)) ∧ E 8 = v_a0 ∧ E 9 = (.int .i64 ((a0.length : Int))) ∧ E 10 = (.int .i64 ((i15827 : Int))) ∧ E 31 = (.bool x17134) ∧ (((if x17134 then (((if (!x16301) then some true else (((m_ref05_Compare x15828 x16302)).bind fun r17210 => some ((decide (r17210 < 0))))) : Option Bool).bind fun x17193 => some x17193) else some false) : Option Bool).bind fun x17171 => (if x17171 then (m_ref05_Set_L2 l11497 xs15829 true x15828) else (m_ref05_Set_L2 l11497 xs15829 x16301 x16302))) = some s15824) #[true, true, true, true, true, true, true, true, true, true, true, true, true, true, true, true, true, true, false, false, false, false, false, false, false, false, false, false] 10 ?_ (fun key17216 => ?_)
        · rintro E W ⟨x17134, L17135, hST, e17137, e17138, e17139, e17140, e17141, e17142, e17143, e17144, e17145, hm17136⟩
          have hS0 : Has (hp w) ((b16787, Obj.cells ((encCred x15828).toArray : Array Value) 83 (0, 0)) :: ((b14381, Obj.cells ((encCred x16302).toArray : Array Value) 83 (0, 0)) :: (R11499 ++ []))) _ := hST.has.sub (Sub.refl _) (fun p hq => ((List.mem_cons.1 hq).elim (fun hq => by rw [hq]; exact (.head _)) (fun hq => ((List.mem_cons.1 hq).elim (fun hq => by rw [hq]; exact (.tail _ (.head _))) (fun hq => ((List.mem_append.1 hq).elim (fun hq => (.tail _ (.tail _ (List.mem_append_left _ hq)))) (fun hq => (absurd hq List.not_mem_nil))))))))
          refine PV 18 rfl hS0 (R_move (v := (.bool x17134)) e17145) ?_
          obtain ⟨s17185, hm17186, hm17187⟩ := bind_some hm17136
          refine PX_join (J := fun E W => ∃ (x17171 : Bool) (L17172 : List (Nat × Obj)), ST true NoF w W (hp w) ((b16787, Obj.cells ((encCred x15828).toArray : Array Value) 83 (0, 0)) :: ((b14381, Obj.cells ((encCred x16302).toArray : Array Value) 83 (0, 0)) :: (R11499 ++ L17172))) ∧ E 0 = v_a0 ∧ E 3 = v11496 ∧ E 4 = (.pointer (some ⟨b14381, 0, none⟩)) ∧ E 5 = (.bool x16301) ∧ E 7 = (.pointer (some ⟨b16787, 0, none⟩)) ∧ E 8 = v_a0 ∧ E 9 = (.int .i64 ((a0.length : Int))) ∧ E 10 = (.int .i64 ((i15827 : Int))) ∧ E 41 = (.bool x17171) ∧ (if x17171 then (m_ref05_Set_L2 l11497 xs15829 true x15828) else (m_ref05_Set_L2 l11497 xs15829 x16301 x16302)) = some s15824) #[true, true, true, true, true, true, true, true, true, true, true, true, true, true, true, true, true, true, true, true, true, true, true, true, true, true, true, true] 0 ?_ (fun key17188 => ?_)
          · rintro E W ⟨x17171, L17172, hST, e17174, e17175, e17176, e17177, e17178, e17179, e17180, e17181, e17182, hm17173⟩
            have hS0 : Has (hp w) ((b16787, Obj.cells ((encCred x15828).toArray : Array Value) 83 (0, 0)) :: ((b14381, Obj.cells ((encCred x16302).toArray : Array Value) 83 (0, 0)) :: (R11499 ++ []))) _ := hST.has.sub (Sub.refl _) (fun p hq => ((List.mem_cons.1 hq).elim (fun hq => by rw [hq]; exact (.head _)) (fun hq => ((List.mem_cons.1 hq).elim (fun hq => by rw [hq]; exact (.tail _ (.head _))) (fun hq => ((List.mem_append.1 hq).elim (fun hq => (.tail _ (.tail _ (List.mem_append_left _ hq)))) (fun hq => (absurd hq List.not_mem_nil))))))))
            refine PX_done (by kernel_rfl) ?_
            refine sq_n ?_
            refine CW_if (b := x17171) e17182 (fun hb17183 => ?_) (fun hb17183 => ?_)
            · replace hm17173 := if_t hb17183 hm17173
              refine CW_seq ?_
              refine CW_region ?_
              refine LV (R_load (v := (.agg (encCred x15828).toArray)) e17178 (load_boxA hST.has (.head _) (encCred x15828) rfl Tryz.isAgg83 Tryz.sizeOf83)) ?_
              refine LW_e0 (.inl rfl) rfl (E_store [_] (.agg (encCred x15828).toArray) ((encCred x15828).toArray) hST e17176 rfl Tryz.sizeOf83 (oneCred x15828) (Nat.le_of_ble_eq_true rfl) rfl (fun W17184 hST => ?_))
              refine LW_nil ?_
              refine sq_n ?_
              replace hST : ST true NoF w _ _ ((b16787, Obj.cells ((encCred x15828).toArray : Array Value) 83 (0, 0)) :: ((b14381, Obj.cells ((encCred x15828).toArray : Array Value) 83 (0, 0)) :: (R11499 ++ L17172))) := hST
              replace hST : ST true NoF w _ _ ((b14381, Obj.cells ((encCred x15828).toArray : Array Value) 83 (0, 0)) :: (R11499 ++ L17172)) := hST.sublist (List.Sublist.cons _ (List.Sublist.refl _))
              refine CW_region ?_
              refine LV (R_assign (v := (.bool true)) rfl) ?_
              refine LW_nil ?_
              refine bq_n ?_
              refine sq_n ?_
              exact ⟨e17181, true, x15828, _, ⟨rfl, e17180⟩, (hST.sublist (List.Sublist.refl _)), e17174, e17175, e17176, rfl, e17179, (by rw [hx15832]; exact hm17173)⟩
            · replace hm17173 := if_f hb17183 hm17173
              refine CW_skip ?_
              refine bq_n ?_
              refine sq_n ?_
              replace hST : ST true NoF w _ _ ((b14381, Obj.cells ((encCred x16302).toArray : Array Value) 83 (0, 0)) :: (R11499 ++ L17172)) := hST.sublist (List.Sublist.cons _ (List.Sublist.refl _))
              exact ⟨e17181, x16301, x16302, _, ⟨rfl, e17180⟩, (hST.sublist (List.Sublist.refl _)), e17174, e17175, e17176, e17177, e17179, (by rw [hx15832]; exact hm17173)⟩
          · rcases bool_cases x17134 with hb17146 | hb17146
            · replace hm17186 := if_t hb17146 hm17186
              refine PX_v 19 rfl (by kernel_rfl) (.inr ⟨18, true, 32, rfl, rfl, by decide, (congrArg Value.bool hb17146)⟩) rfl (by decide) (fun _ _ h => h) hS0 (fun _ _ _ _ => R_move (v := (.bool x16301)) e17140) ?_
              refine PX_v 20 rfl (by kernel_rfl) (.inr ⟨18, true, 32, rfl, rfl, by decide, (congrArg Value.bool hb17146)⟩) rfl (by decide) (fun _ _ h => h) hS0 (fun _ _ _ _ => R_not (b := x16301) rfl) ?_
              refine PX_v 21 rfl (by kernel_rfl) (.inr ⟨18, true, 32, rfl, rfl, by decide, (congrArg Value.bool hb17146)⟩) rfl (by decide) (fun _ _ h => h) hS0 (fun _ _ _ _ => R_move (v := (.bool ((!x16301)))) rfl) ?_
              obtain ⟨s17206, hm17207, hm17208⟩ := bind_some hm17186
              refine PX_join (J := fun E W => ∃ (x17193 : Bool) (L17194 : List (Nat × Obj)), ST true NoF w W (hp w) ((b16787, Obj.cells ((encCred x15828).toArray : Array Value) 83 (0, 0)) :: ((b14381, Obj.cells ((encCred x16302).toArray : Array Value) 83 (0, 0)) :: (R11499 ++ L17194))) ∧ E 0 = v_a0 ∧ E 3 = v11496 ∧ E 4 = (.pointer (some ⟨b14381, 0, none⟩)) ∧ E 5 = (.bool x16301) ∧ E 7 = (.pointer (some ⟨b16787, 0, none⟩)) ∧ E 8 = v_a0 ∧ E 9 = (.int .i64 ((a0.length : Int))) ∧ E 10 = (.int .i64 ((i15827 : Int))) ∧ E 32 = (.bool x17134) ∧ E 40 = (.bool x17193) ∧ some x17193 = some s17185) #[true, true, true, true, true, true, true, true, true, true, true, true, true, true, true, true, true, true, true, true, true, true, true, true, true, true, true, false] 1 ?_ (fun key17209 => ?_)
              · rintro E W ⟨x17193, L17194, hST, e17196, e17197, e17198, e17199, e17200, e17201, e17202, e17203, e17204, e17205, hm17195⟩
                have hS0 : Has (hp w) ((b16787, Obj.cells ((encCred x15828).toArray : Array Value) 83 (0, 0)) :: ((b14381, Obj.cells ((encCred x16302).toArray : Array Value) 83 (0, 0)) :: (R11499 ++ []))) _ := hST.has.sub (Sub.refl _) (fun p hq => ((List.mem_cons.1 hq).elim (fun hq => by rw [hq]; exact (.head _)) (fun hq => ((List.mem_cons.1 hq).elim (fun hq => by rw [hq]; exact (.tail _ (.head _))) (fun hq => ((List.mem_append.1 hq).elim (fun hq => (.tail _ (.tail _ (List.mem_append_left _ hq)))) (fun hq => (absurd hq List.not_mem_nil))))))))
                refine PV 27 rfl hS0 (R_pickT (v := (.bool x17193)) (e17204.trans (congrArg Value.bool hb17146)) e17205) ?_
                replace hm17195 := Option.some.inj hm17195; subst hm17195
                refine PX_at (by kernel_rfl) (key17188 _ _ ⟨x17193, _, (hST.sublist (List.Sublist.refl _)), e17196, e17197, e17198, e17199, e17200, e17201, e17202, e17203, rfl, hm17187⟩)
              · rcases bool_cases ((!x16301)) with hb17189 | hb17189
                · replace hm17207 := if_t hb17189 hm17207
                  refine PX_no 22 rfl (by kernel_rfl) rfl rfl (by decide) (congrArg Value.bool hb17189) rfl (by decide) (fun _ _ h => h) hS0 ?_
                  refine PX_no 23 rfl (by kernel_rfl) rfl rfl (by decide) (congrArg Value.bool hb17189) rfl (by decide) (fun _ _ h => h) hS0 ?_
                  refine PX_no 24 rfl (by kernel_rfl) rfl rfl (by decide) (congrArg Value.bool hb17189) rfl (by decide) (fun _ _ h => h) hS0 ?_
                  refine PX_no 25 rfl (by kernel_rfl) rfl rfl (by decide) (congrArg Value.bool hb17189) rfl (by decide) (fun _ _ h => h) hS0 ?_
                  refine PX_v 26 rfl (by kernel_rfl) (.inr ⟨18, true, 32, rfl, rfl, by decide, (congrArg Value.bool hb17146)⟩) rfl (by decide) (fun _ _ h => h) hS0 (fun _ _ _ _ => R_pickT (v := (.bool true)) (congrArg Value.bool hb17189) rfl) ?_
                  replace hm17207 := Option.some.inj hm17207; subst hm17207
                  refine PX_at (by kernel_rfl) (key17209 _ _ ⟨true, _, (hST.sublist (List.Sublist.refl _)), e17137, e17138, e17139, e17140, e17141, e17142, e17143, e17144, rfl, rfl, hm17208⟩)
                · replace hm17207 := if_f hb17189 hm17207
                  refine PX_v 22 rfl (by kernel_rfl) (.inr ⟨21, false, 35, rfl, rfl, by decide, (congrArg Value.bool hb17189)⟩) rfl (by decide) (fun _ _ h => h) hS0 (fun l W hpd hs => have hS := hs; R_load (v := (.agg (encCred x15828).toArray)) e17141 (load_boxA hS (.head _) (encCred x15828) rfl Tryz.isAgg83 Tryz.sizeOf83)) ?_
                  refine PX_v 23 rfl (by kernel_rfl) (.inr ⟨21, false, 35, rfl, rfl, by decide, (congrArg Value.bool hb17189)⟩) rfl (by decide) (fun _ _ h => h) hS0 (fun l W hpd hs => have hS := hs; R_load (v := (.agg (encCred x16302).toArray)) e17139 (load_boxA hS (.tail _ (.head _)) (encCred x16302) rfl Tryz.isAgg83 Tryz.sizeOf83)) ?_
                  obtain ⟨r17210, hr17211, hm17207⟩ := bind_some hm17207
                  refine PX_e 24 rfl (by kernel_rfl) (.inr ⟨21, false, 35, rfl, rfl, by decide, (congrArg Value.bool hb17189)⟩) rfl (by decide) (E_gives (args := [(.agg (encCred x15828).toArray), (.agg (encCred x16302).toArray)]) hST rfl Tryz.call107 (by exact args2 rfl rfl) ((w_ref05_Compare x15828 x16302 _ _  hr17211)) (fun W17212 hST => ?_))
                  have hS0 : Has (hp w) ((b16787, Obj.cells ((encCred x15828).toArray : Array Value) 83 (0, 0)) :: ((b14381, Obj.cells ((encCred x16302).toArray : Array Value) 83 (0, 0)) :: (R11499 ++ []))) _ := hST.has.sub (Sub.refl _) (fun p hq => ((List.mem_cons.1 hq).elim (fun hq => by rw [hq]; exact (.head _)) (fun hq => ((List.mem_cons.1 hq).elim (fun hq => by rw [hq]; exact (.tail _ (.head _))) (fun hq => ((List.mem_append.1 hq).elim (fun hq => (.tail _ (.tail _ (List.mem_append_left _ hq)))) (fun hq => (absurd hq List.not_mem_nil))))))))
                  refine ⟨hS0, ?_⟩
                  refine PX_v 25 rfl (by kernel_rfl) (.inr ⟨21, false, 35, rfl, rfl, by decide, (congrArg Value.bool hb17189)⟩) rfl (by decide) (fun _ _ h => h) hS0 (fun _ _ _ _ => R_int (k := .i64) (a := r17210) (b := 0) (v := (.bool ((decide (r17210 < 0))))) rfl rfl rfl) ?_
                  refine PX_v 26 rfl (by kernel_rfl) (.inr ⟨18, true, 32, rfl, rfl, by decide, (congrArg Value.bool hb17146)⟩) rfl (by decide) (fun _ _ h => h) hS0 (fun _ _ _ _ => R_pickF (v := (.bool ((decide (r17210 < 0))))) (congrArg Value.bool hb17189) rfl) ?_
                  replace hm17207 := Option.some.inj hm17207; subst hm17207
                  refine PX_at (by kernel_rfl) (key17209 _ _ ⟨((decide (r17210 < 0))), _, (hST.sublist (List.Sublist.refl _)), e17137, e17138, e17139, e17140, e17141, e17142, e17143, e17144, rfl, rfl, hm17208⟩)
            · replace hm17186 := if_f hb17146 hm17186
              refine PX_no 19 rfl (by kernel_rfl) rfl rfl (by decide) (congrArg Value.bool hb17146) rfl (by decide) (fun _ _ h => h) hS0 ?_
              refine PX_no 20 rfl (by kernel_rfl) rfl rfl (by decide) (congrArg Value.bool hb17146) rfl (by decide) (fun _ _ h => h) hS0 ?_
              refine PX_no 21 rfl (by kernel_rfl) rfl rfl (by decide) (congrArg Value.bool hb17146) rfl (by decide) (fun _ _ h => h) hS0 ?_
              refine PX_nou 22 rfl (by kernel_rfl) rfl rfl (by decide) rfl rfl (by decide) (fun _ _ h => h) hS0 ?_
              refine PX_nou 23 rfl (by kernel_rfl) rfl rfl (by decide) rfl rfl (by decide) (fun _ _ h => h) hS0 ?_
              refine PX_nou 24 rfl (by kernel_rfl) rfl rfl (by decide) rfl rfl (by decide) (fun _ _ h => h) hS0 ?_
              refine PX_nou 25 rfl (by kernel_rfl) rfl rfl (by decide) rfl rfl (by decide) (fun _ _ h => h) hS0 ?_
              refine PX_no 26 rfl (by kernel_rfl) rfl rfl (by decide) (congrArg Value.bool hb17146) rfl (by decide) (fun _ _ h => h) hS0 ?_
              refine PV 27 rfl hS0 (R_pickF (v := (.bool false)) (congrArg Value.bool hb17146) rfl) ?_
              replace hm17186 := Option.some.inj hm17186; subst hm17186
              refine PX_at (by kernel_rfl) (key17188 _ _ ⟨false, _, (hST.sublist (List.Sublist.refl _)), e17137, e17138, e17139, e17140, e17141, e17142, e17143, e17144, rfl, hm17187⟩)
        · rcases bool_cases r17096 with hb17099 | hb17099
          · replace hm17214 := if_t hb17099 hm17214
            refine PX_v 3 rfl (by kernel_rfl) (.inr ⟨2, true, 16, rfl, rfl, by decide, (congrArg Value.bool hb17099)⟩) rfl (by decide) (fun _ _ h => h) hS0 (fun _ _ _ _ => R_move (v := v11496) e16780) ?_
            refine PX_v 4 rfl (by kernel_rfl) (.inr ⟨2, true, 16, rfl, rfl, by decide, (congrArg Value.bool hb17099)⟩) rfl (by decide) (fun _ _ h => h) hS0 (fun _ _ _ _ => R_lenRow Tryz.underlying22 rfl hs11498) ?_
            refine PX_v 5 rfl (by kernel_rfl) (.inr ⟨2, true, 16, rfl, rfl, by decide, (congrArg Value.bool hb17099)⟩) rfl (by decide) (fun _ _ h => h) hS0 (fun _ _ _ _ => R_int (k := .i64) (a := ((l11497.length : Int))) (b := 0) (v := (.bool ((((l11497.length : Int)) == 0)))) rfl rfl rfl) ?_
            refine PX_v 6 rfl (by kernel_rfl) (.inr ⟨2, true, 16, rfl, rfl, by decide, (congrArg Value.bool hb17099)⟩) rfl (by decide) (fun _ _ h => h) hS0 (fun _ _ _ _ => R_move (v := (.bool ((((l11497.length : Int)) == 0)))) rfl) ?_
            obtain ⟨s17239, hm17240, hm17241⟩ := bind_some hm17214
            refine PX_join (J := fun E W => ∃ (x17226 : Bool) (L17227 : List (Nat × Obj)), ST true NoF w W (hp w) ((b16787, Obj.cells ((encCred x15828).toArray : Array Value) 83 (0, 0)) :: ((b14381, Obj.cells ((encCred x16302).toArray : Array Value) 83 (0, 0)) :: (R11499 ++ L17227))) ∧ E 0 = v_a0 ∧ E 3 = v11496 ∧ E 4 = (.pointer (some ⟨b14381, 0, none⟩)) ∧ E 5 = (.bool x16301) ∧ E 7 = (.pointer (some ⟨b16787, 0, none⟩)) ∧ E 8 = v_a0 ∧ E 9 = (.int .i64 ((a0.length : Int))) ∧ E 10 = (.int .i64 ((i15827 : Int))) ∧ E 16 = (.bool r17096) ∧ E 30 = (.bool x17226) ∧ some x17226 = some s17213) #[true, true, true, true, true, true, true, true, true, true, true, true, true, true, true, true, true, false, false, false, false, false, false, false, false, false, false, false] 11 ?_ (fun key17242 => ?_)
            · rintro E W ⟨x17226, L17227, hST, e17229, e17230, e17231, e17232, e17233, e17234, e17235, e17236, e17237, e17238, hm17228⟩
              have hS0 : Has (hp w) ((b16787, Obj.cells ((encCred x15828).toArray : Array Value) 83 (0, 0)) :: ((b14381, Obj.cells ((encCred x16302).toArray : Array Value) 83 (0, 0)) :: (R11499 ++ []))) _ := hST.has.sub (Sub.refl _) (fun p hq => ((List.mem_cons.1 hq).elim (fun hq => by rw [hq]; exact (.head _)) (fun hq => ((List.mem_cons.1 hq).elim (fun hq => by rw [hq]; exact (.tail _ (.head _))) (fun hq => ((List.mem_append.1 hq).elim (fun hq => (.tail _ (.tail _ (List.mem_append_left _ hq)))) (fun hq => (absurd hq List.not_mem_nil))))))))
              refine PV 17 rfl hS0 (R_pickT (v := (.bool x17226)) (e17237.trans (congrArg Value.bool hb17099)) e17238) ?_
              replace hm17228 := Option.some.inj hm17228; subst hm17228
              refine PX_at (by kernel_rfl) (key17216 _ _ ⟨x17226, _, (hST.sublist (List.Sublist.refl _)), e17229, e17230, e17231, e17232, e17233, e17234, e17235, e17236, rfl, hm17215⟩)
            · rcases bool_cases ((((l11497.length : Int)) == 0)) with hb17217 | hb17217
              · replace hm17240 := if_t hb17217 hm17240
                refine PX_no 7 rfl (by kernel_rfl) rfl rfl (by decide) (congrArg Value.bool hb17217) rfl (by decide) (fun _ _ h => h) hS0 ?_
                refine PX_no 8 rfl (by kernel_rfl) rfl rfl (by decide) (congrArg Value.bool hb17217) rfl (by decide) (fun _ _ h => h) hS0 ?_
                refine PX_no 9 rfl (by kernel_rfl) rfl rfl (by decide) (congrArg Value.bool hb17217) rfl (by decide) (fun _ _ h => h) hS0 ?_
                refine PX_no 10 rfl (by kernel_rfl) rfl rfl (by decide) (congrArg Value.bool hb17217) rfl (by decide) (fun _ _ h => h) hS0 ?_
                refine PX_no 11 rfl (by kernel_rfl) rfl rfl (by decide) (congrArg Value.bool hb17217) rfl (by decide) (fun _ _ h => h) hS0 ?_
                refine PX_no 12 rfl (by kernel_rfl) rfl rfl (by decide) (congrArg Value.bool hb17217) rfl (by decide) (fun _ _ h => h) hS0 ?_
                refine PX_no 13 rfl (by kernel_rfl) rfl rfl (by decide) (congrArg Value.bool hb17217) rfl (by decide) (fun _ _ h => h) hS0 ?_
                refine PX_no 14 rfl (by kernel_rfl) rfl rfl (by decide) (congrArg Value.bool hb17217) rfl (by decide) (fun _ _ h => h) hS0 ?_
                refine PX_no 15 rfl (by kernel_rfl) rfl rfl (by decide) (congrArg Value.bool hb17217) rfl (by decide) (fun _ _ h => h) hS0 ?_
                refine PX_v 16 rfl (by kernel_rfl) (.inr ⟨2, true, 16, rfl, rfl, by decide, (congrArg Value.bool hb17099)⟩) rfl (by decide) (fun _ _ h => h) hS0 (fun _ _ _ _ => R_pickT (v := (.bool true)) (congrArg Value.bool hb17217) rfl) ?_
                replace hm17240 := Option.some.inj hm17240; subst hm17240
                refine PX_at (by kernel_rfl) (key17242 _ _ ⟨true, _, (hST.sublist (List.Sublist.refl _)), e16779, e16780, e16781, e16782, rfl, e16783, eN, eI, rfl, rfl, hm17241⟩)
              · replace hm17240 := if_f hb17217 hm17240
                refine PX_v 7 rfl (by kernel_rfl) (.inr ⟨6, false, 20, rfl, rfl, by decide, (congrArg Value.bool hb17217)⟩) rfl (by decide) (fun _ _ h => h) hS0 (fun _ _ _ _ => R_move (v := v11496) e16780) ?_
                refine PX_v 8 rfl (by kernel_rfl) (.inr ⟨6, false, 20, rfl, rfl, by decide, (congrArg Value.bool hb17217)⟩) rfl (by decide) (fun _ _ h => h) hS0 (fun _ _ _ _ => R_move (v := v11496) e16780) ?_
                refine PX_v 9 rfl (by kernel_rfl) (.inr ⟨6, false, 20, rfl, rfl, by decide, (congrArg Value.bool hb17217)⟩) rfl (by decide) (fun _ _ h => h) hS0 (fun _ _ _ _ => R_lenRow Tryz.underlying22 rfl hs11498) ?_
                refine PX_v 10 rfl (by kernel_rfl) (.inr ⟨6, false, 20, rfl, rfl, by decide, (congrArg Value.bool hb17217)⟩) rfl (by decide) (fun _ _ h => h) hS0 (fun _ _ _ _ => R_int (k := .i64) (a := ((l11497.length : Int))) (b := 1) (v := (.int .i64 ((IntKind.i64.wrap (((l11497.length : Int)) - 1))))) rfl rfl rfl) ?_
                obtain ⟨x17246, hx17247, hm17240⟩ := bind_some hm17240
                refine PX_q 11 rfl (by kernel_rfl) (.inr ⟨6, false, 20, rfl, rfl, by decide, (congrArg Value.bool hb17217)⟩) rfl (by decide) (fun _ _ h => h) hS0 (R_indexRow (i := (IntKind.i64.wrap (((l11497.length : Int)) - 1))) (x0 := x17246) Tryz.underlying22 Tryz.sizeOf83 rfl rfl hs11498 (idx_nonneg hx17247) (idx_get hx17247)) (fun p17243 hp17244 => ?_)
                refine PX_v 12 rfl (by kernel_rfl) (.inr ⟨6, false, 20, rfl, rfl, by decide, (congrArg Value.bool hb17217)⟩) rfl (by decide) (fun _ _ h => h) hS0 (fun l W hpd hs => have hS := hs; R_load (v := (.agg (encCred x17246).toArray)) rfl (load_ixA hS (fun p hq => by simp [hq]) hs11498 lenCred hp17244 (idx_get hx17247) Tryz.isAgg83 Tryz.sizeOf83)) ?_
                refine PX_v 13 rfl (by kernel_rfl) (.inr ⟨6, false, 20, rfl, rfl, by decide, (congrArg Value.bool hb17217)⟩) rfl (by decide) (fun _ _ h => h) hS0 (fun l W hpd hs => have hS := hs; R_load (v := (.agg (encCred x15828).toArray)) rfl (load_boxA hS (.head _) (encCred x15828) rfl Tryz.isAgg83 Tryz.sizeOf83)) ?_
                obtain ⟨r17248, hr17249, hm17240⟩ := bind_some hm17240
                refine PX_e 14 rfl (by kernel_rfl) (.inr ⟨6, false, 20, rfl, rfl, by decide, (congrArg Value.bool hb17217)⟩) rfl (by decide) (E_gives (args := [(.agg (encCred x17246).toArray), (.agg (encCred x15828).toArray)]) hST rfl Tryz.call107 (by exact args2 rfl rfl) ((w_ref05_Compare x17246 x15828 _ _  hr17249)) (fun W17250 hST => ?_))
                have hS0 : Has (hp w) ((b16787, Obj.cells ((encCred x15828).toArray : Array Value) 83 (0, 0)) :: ((b14381, Obj.cells ((encCred x16302).toArray : Array Value) 83 (0, 0)) :: (R11499 ++ []))) _ := hST.has.sub (Sub.refl _) (fun p hq => ((List.mem_cons.1 hq).elim (fun hq => by rw [hq]; exact (.head _)) (fun hq => ((List.mem_cons.1 hq).elim (fun hq => by rw [hq]; exact (.tail _ (.head _))) (fun hq => ((List.mem_append.1 hq).elim (fun hq => (.tail _ (.tail _ (List.mem_append_left _ hq)))) (fun hq => (absurd hq List.not_mem_nil))))))))
                refine ⟨hS0, ?_⟩
                refine PX_v 15 rfl (by kernel_rfl) (.inr ⟨6, false, 20, rfl, rfl, by decide, (congrArg Value.bool hb17217)⟩) rfl (by decide) (fun _ _ h => h) hS0 (fun _ _ _ _ => R_int (k := .i64) (a := r17248) (b := 0) (v := (.bool ((decide (r17248 < 0))))) rfl rfl rfl) ?_
                refine PX_v 16 rfl (by kernel_rfl) (.inr ⟨2, true, 16, rfl, rfl, by decide, (congrArg Value.bool hb17099)⟩) rfl (by decide) (fun _ _ h => h) hS0 (fun _ _ _ _ => R_pickF (v := (.bool ((decide (r17248 < 0))))) (congrArg Value.bool hb17217) rfl) ?_
                replace hm17240 := Option.some.inj hm17240; subst hm17240
                refine PX_at (by kernel_rfl) (key17242 _ _ ⟨((decide (r17248 < 0))), _, (hST.sublist (List.Sublist.refl _)), e16779, e16780, e16781, e16782, rfl, e16783, eN, eI, rfl, rfl, hm17241⟩)
          · replace hm17214 := if_f hb17099 hm17214
            refine PX_no 3 rfl (by kernel_rfl) rfl rfl (by decide) (congrArg Value.bool hb17099) rfl (by decide) (fun _ _ h => h) hS0 ?_
            refine PX_no 4 rfl (by kernel_rfl) rfl rfl (by decide) (congrArg Value.bool hb17099) rfl (by decide) (fun _ _ h => h) hS0 ?_
            refine PX_no 5 rfl (by kernel_rfl) rfl rfl (by decide) (congrArg Value.bool hb17099) rfl (by decide) (fun _ _ h => h) hS0 ?_
            refine PX_no 6 rfl (by kernel_rfl) rfl rfl (by decide) (congrArg Value.bool hb17099) rfl (by decide) (fun _ _ h => h) hS0 ?_
            refine PX_nou 7 rfl (by kernel_rfl) rfl rfl (by decide) rfl rfl (by decide) (fun _ _ h => h) hS0 ?_
            refine PX_nou 8 rfl (by kernel_rfl) rfl rfl (by decide) rfl rfl (by decide) (fun _ _ h => h) hS0 ?_
            refine PX_nou 9 rfl (by kernel_rfl) rfl rfl (by decide) rfl rfl (by decide) (fun _ _ h => h) hS0 ?_
            refine PX_nou 10 rfl (by kernel_rfl) rfl rfl (by decide) rfl rfl (by decide) (fun _ _ h => h) hS0 ?_
            refine PX_nou 11 rfl (by kernel_rfl) rfl rfl (by decide) rfl rfl (by decide) (fun _ _ h => h) hS0 ?_
            refine PX_nou 12 rfl (by kernel_rfl) rfl rfl (by decide) rfl rfl (by decide) (fun _ _ h => h) hS0 ?_
            refine PX_nou 13 rfl (by kernel_rfl) rfl rfl (by decide) rfl rfl (by decide) (fun _ _ h => h) hS0 ?_
            refine PX_nou 14 rfl (by kernel_rfl) rfl rfl (by decide) rfl rfl (by decide) (fun _ _ h => h) hS0 ?_
            refine PX_nou 15 rfl (by kernel_rfl) rfl rfl (by decide) rfl rfl (by decide) (fun _ _ h => h) hS0 ?_
            refine PX_no 16 rfl (by kernel_rfl) rfl rfl (by decide) (congrArg Value.bool hb17099) rfl (by decide) (fun _ _ h => h) hS0 ?_
            refine PV 17 rfl hS0 (R_pickF (v := (.bool false)) (congrArg Value.bool hb17099) rfl) ?_
            replace hm17214 := Option.some.inj hm17214; subst hm17214
            refine PX_at (by kernel_rfl) (key17216 _ _ ⟨false, _, (hST.sublist (List.Sublist.refl _)), e16779, e16780, e16781, e16782, rfl, e16783, eN, eI, rfl, hm17215⟩)
      · rintro E W ⟨x16301, x16302, L16777, ⟨eI, eN⟩, hST, e16779, e16780, e16781, e16782, e16783, hm16778⟩
        rw [List.drop_length] at hm16778
        rw [m_ref05_Set_L2] at hm16778
        refine sq_n ?_
        replace hm16778 := Option.some.inj hm16778; subst hm16778
        exact ⟨x16301, x16302, _, (hST.sublist (List.Sublist.refl _)), e16779, e16780, e16781, e16782, hm15826⟩
    · rintro E W ⟨x15807, x15808, L15809, hST, e15811, e15812, e15813, e15814, hm15810⟩
      refine CW_seq ?_
      refine CW_seq ?_
      refine CW_region ?_
      refine LV (R_move (v := (.bool x15807)) e15814) ?_
      refine LV (R_not (b := x15807) rfl) ?_
      refine LW_nil ?_
      refine sq_n ?_
      refine CW_if (b := (!x15807)) rfl (fun hb15815 => ?_) (fun hb15815 => ?_)
      · replace hm15810 := if_t hb15815 hm15810
        refine CW_seq ?_
        refine CW_region ?_
        refine LV (R_move (v := v11496) e15812) ?_
        refine LV (R_assign (v := v11496) rfl) ?_
        refine LW_nil ?_
        refine sq_n ?_
        replace hST : ST true NoF w _ _ (R11499 ++ L15809) := hST.sublist (List.Sublist.cons _ (List.Sublist.refl _))
        refine CW_ret ?_
        refine sq_r (bq_r (sq_r (bq_r (sq_r ?_))))
        replace hm15810 := Option.some.inj hm15810; subst hm15810
        refine retQ_1 (v := v11496) rfl rfl ?_
        exact ⟨_, R11499, rfl, hST.backRow (fun p hq => by simp [hq]) hs11498.nd, hs11498⟩
      · replace hm15810 := if_f hb15815 hm15810
        refine CW_skip ?_
        refine sq_n ?_
        refine CW_region ?_
        refine LV (R_move (v := v11496) e15812) ?_
        refine LV (R_load (v := (.agg (encCred x15808).toArray)) e15813 (load_boxA hST.has (.head _) (encCred x15808) rfl Tryz.isAgg83 Tryz.sizeOf83)) ?_
        refine LE (E_buildSlice (qs := #[(0, (.agg (encCred x15808).toArray))]) (cs := (encCred x15808).toArray) hST (parts1 rfl) (run_lit [(.agg (encCred x15808).toArray)] Tryz.underlying22 Tryz.sizeOf83 Tryz.zeroValue83 (by decide) rfl (by intro v hv; simp only [List.mem_cons, List.not_mem_nil, or_false] at hv; rcases hv with rfl <;> rfl) rfl rfl) (fun W15817 b15816 hST => ?_))
        obtain ⟨l15818, hb15819, hm15810⟩ := bind_some hm15810
        refine LE (E_append (enc := encCred) (v := v11496) (vs := (.slice (some ⟨b15816, 0, none⟩) 1 1)) (R := R11499) [_, _] hST lenCred (by decide) oneCred Tryz.underlying22 info83.1 info83.2.1 rfl info83.2.2.1 info83.2.2.2 rfl rfl hs11498 (Sl.lit (enc := encCred) (l := [x15808]) lenCred rfl (Nat.le_of_ble_eq_true rfl) rfl (hST.at_ (.head _))) hb15819 (fun W15820 v15823 R15821 hST hR15822 => ?_))
        refine LV (R_assign (v := v15823) rfl) ?_
        refine LW_nil ?_
        refine bq_n ?_
        refine sq_n ?_
        replace hST : ST true NoF w _ _ ((b15816, Obj.cells ((encCred x15808).toArray : Array Value) 83 (0, 0)) :: ((b14381, Obj.cells ((encCred x15808).toArray : Array Value) 83 (0, 0)) :: (R15821 ++ L15809))) := hST
        replace hST : ST true NoF w _ _ (R15821 ++ L15809) := hST.sublist (List.Sublist.cons _ (List.Sublist.cons _ (List.Sublist.refl _)))
        exact ⟨n14378, Nat.lt_succ_self _, v15823, l15818, R15821, _, (hST.sublist (List.Sublist.refl _)), e15811, rfl, hR15822, hm15810⟩
theorem w_ref10_Used (v_a0 : Value) (a0 : List Step) (r : List Cred) (w : World) (h_a0 : Sl (Pl encStep) 12 (hp w) v_a0 a0) (hm : m_ref10_Used a0 = some r) :
    GivesRow true Tryz.prog 59 [v_a0] w 83 encCred 9 r := by
  have hST := ST.start (dd := true) w
  unfold m_ref10_Used at hm
  refine calls_of_CW (n := 20) Tryz.func59 rfl rfl (Nat.le_of_ble_eq_true rfl) ?_
  refine CW_seq ?_
  refine CW_region ?_
  refine LV (R_assign (v := (.slice none 0 0)) rfl) ?_
  refine LW_nil ?_
  refine sq_n ?_
  refine CW_seq ?_
  refine CW_region ?_
  refine LV (R_assign (v := (.slice none 0 0)) rfl) ?_
  refine LW_nil ?_
  refine sq_n ?_
  refine CW_seq ?_
  refine CW_seq ?_
  refine CW_region ?_
  refine LV (R_move (v := v_a0) rfl) ?_
  refine LV (R_len Tryz.underlying79 rfl h_a0) ?_
  refine LV (R_move (v := (.int .i64 0)) rfl) ?_
  refine LW_nil ?_
  refine sq_n ?_
  refine CW_range (fun i E W => ∃ (v85 : Value) (l86 : List Cred) (R88 : List (Nat × Obj)) (L109 : List (Nat × Obj)), (E 8 = .int .i64 (i : Nat) ∧ E 7 = .int .i64 (a0.length : Nat)) ∧ ST true NoF w W (hp w) (R88 ++ L109) ∧ E 3 = v85 ∧ E 6 = v_a0 ∧ Row 83 encCred 9 v85 l86 R88 ∧ m_ref10_Used_L1 (a0.drop i) l86 = some r) a0.length h_a0.len ⟨(.slice none 0 0), ([]), [], _, ⟨rfl, rfl⟩, (hST.sublist (List.Sublist.refl _)), rfl, rfl, (Row.nil _ _ _), hm⟩ (by decide) (by decide) (by decide) (fun _ _ _ h => by obtain ⟨_, _, _, _, eIN, _⟩ := h; exact eIN) ?_ ?_
  · rintro i64 E W hi70 ⟨v85, l86, R88, L109, ⟨eI, eN⟩, hST, e111, e112, hs87, hm110⟩
    obtain ⟨x65, xs66, hx68, hx67, hx69⟩ := drop_cons hi70
    rw [hx68] at hm110
    rw [m_ref10_Used_L1] at hm110
    refine CW_block ?_
    refine CW_seq ?_
    refine CW_region ?_
    refine LQ (R_indexP (enc := encStep) (i := (i64 : Int)) (x0 := x65) Tryz.underlying79 Tryz.sizeOf89 e112 eI h_a0 (Int.natCast_nonneg _) hx67) (fun p113 hp114 => ?_)
    refine LV (R_load rfl (load_atA hST.has hp114 Tryz.isAgg89 Tryz.sizeOf89)) ?_
    refine LE (E_alloc hST Tryz.zeroValue89 (fun W117 b116 hST => ?_))
    refine LW_e0 (.inl rfl) rfl (E_store [] (.agg (encStep x65).toArray) ((encStep x65).toArray) hST rfl rfl Tryz.sizeOf89 (oneStep x65) (Nat.le_of_ble_eq_true rfl) rfl (fun W118 hST => ?_))
    refine LW_nil ?_
    refine sq_n ?_
    refine CW_region ?_
    refine LV (R_move (v := v85) e111) ?_
    refine LV (R_field fa89_0 rfl) ?_
    refine LV (R_load (v := (.agg (encCred x65.Cred).toArray)) rfl (load_boxA hST.has (.head _) (encCred x65.Cred) rfl Tryz.isAgg83 Tryz.sizeOf83)) ?_
    refine LE (E_buildSlice (qs := #[(0, (.agg (encCred x65.Cred).toArray))]) (cs := (encCred x65.Cred).toArray) hST (parts1 rfl) (run_lit [(.agg (encCred x65.Cred).toArray)] Tryz.underlying22 Tryz.sizeOf83 Tryz.zeroValue83 (by decide) rfl (by intro v hv; simp only [List.mem_cons, List.not_mem_nil, or_false] at hv; rcases hv with rfl <;> rfl) rfl rfl) (fun W120 b119 hST => ?_))
    replace hST : ST true NoF w _ _ ((b119, Obj.cells ((encCred x65.Cred).toArray : Array Value) 83 (0, 0)) :: ((b116, Obj.cells ((encStep x65).toArray : Array Value) 89 (0, 0)) :: (R88 ++ L109))) := hST
    obtain ⟨l121, hb122, hm110⟩ := bind_some hm110
    refine LE (E_append (enc := encCred) (v := v85) (vs := (.slice (some ⟨b119, 0, none⟩) 1 1)) (R := R88) [_, _] hST lenCred (by decide) oneCred Tryz.underlying22 info83.1 info83.2.1 rfl info83.2.2.1 info83.2.2.2 rfl rfl hs87 (Sl.lit (enc := encCred) (l := [x65.Cred]) lenCred rfl (Nat.le_of_ble_eq_true rfl) rfl (hST.at_ (.head _))) hb122 (fun W123 v126 R124 hST hR125 => ?_))
    refine LV (R_assign (v := v126) rfl) ?_
    refine LW_nil ?_
    refine bq_n ?_
    refine sq_n ?_
    replace hST : ST true NoF w _ _ ((b119, Obj.cells ((encCred x65.Cred).toArray : Array Value) 83 (0, 0)) :: ((b116, Obj.cells ((encStep x65).toArray : Array Value) 89 (0, 0)) :: (R124 ++ L109))) := hST
    replace hST : ST true NoF w _ _ (R124 ++ L109) := hST.sublist (List.Sublist.cons _ (List.Sublist.cons _ (List.Sublist.refl _)))
    exact ⟨eI, v126, l121, R124, _, ⟨rfl, eN⟩, (hST.sublist (List.Sublist.refl _)), rfl, e112, hR125, (by rw [hx69]; exact hm110)⟩
  · rintro E W ⟨v85, l86, R88, L109, ⟨eI, eN⟩, hST, e111, e112, hs87, hm110⟩
    rw [List.drop_length] at hm110
    rw [m_ref10_Used_L1] at hm110
    refine sq_n ?_
    refine CW_seq ?_
    refine CW_region ?_
    refine LV (R_move (v := v85) e111) ?_
    obtain ⟨r127, hr128, hm110⟩ := bind_some hm110
    refine LE (E_givesRow (args := [v85]) [] _ hST rfl Tryz.call49 (by exact args1 rfl) ((w_ref05_Set v85 l86 _ _ (hs87.sl lenCred (fun b o hq => hST.at_ (List.mem_append_left _ hq))) hr128)) (fun W129 v132 μ130 R133 hST hle131 hR134 => ?_))
    refine LV (R_assign (v := v132) rfl) ?_
    refine LW_nil ?_
    refine sq_n ?_
    replace hST : ST true NoF w _ _ (R133 ++ (R88 ++ L109)) := hST
    replace hST : ST true NoF w _ _ (R133 ++ L109) := hST.sublist (List.Sublist.append (List.Sublist.refl _) ((List.Sublist.refl _).trans (List.sublist_append_right _ _)))
    refine CW_ret ?_
    replace hm110 := Option.some.inj hm110; subst hm110
    refine retQ_1 (v := v132) rfl rfl ?_
    exact ⟨_, R133, rfl, hST.backRow (fun p hq => by simp [hq]) hR134.nd, hR134⟩
theorem w_ref05_Same (v_a0 : Value) (a0 : List Cred) (v_a1 : Value) (a1 : List Cred) (r : Bool) (w : World) (h_a0 : Sl (Pl encCred) 9 (hp w) v_a0 a0) (h_a1 : Sl (Pl encCred) 9 (hp w) v_a1 a1) (hm : m_ref05_Same a0 a1 = some r) :
    Gives true Tryz.prog 24 [v_a0, v_a1] w (.bool r) := by
  have hST := ST.start (dd := true) w
  unfold m_ref05_Same at hm
  refine calls_of_CW (n := 26) Tryz.func24 rfl rfl (Nat.le_of_ble_eq_true rfl) ?_
  refine CW_seq ?_
  refine CW_region ?_
  refine LV (R_assign (v := (.bool false)) rfl) ?_
  refine LW_nil ?_
  refine sq_n ?_
  refine CW_seq ?_
  refine CW_seq ?_
  refine CW_region ?_
  refine LV (R_move (v := v_a0) rfl) ?_
  refine LV (R_len Tryz.underlying22 rfl h_a0) ?_
  refine LV (R_move (v := v_a1) rfl) ?_
  refine LV (R_len Tryz.underlying22 rfl h_a1) ?_
  refine LV (R_int (k := .i64) (a := ((a0.length : Int))) (b := ((a1.length : Int))) (v := (.bool ((((a0.length : Int)) != ((a1.length : Int)))))) rfl rfl rfl) ?_
  refine LW_nil ?_
  refine sq_n ?_
  refine CW_if (b := (((a0.length : Int)) != ((a1.length : Int)))) rfl (fun hb1 => ?_) (fun hb1 => ?_)
  · replace hm := if_t hb1 hm
    refine CW_seq ?_
    refine CW_region ?_
    refine LV (R_assign (v := (.bool false)) rfl) ?_
    refine LW_nil ?_
    refine sq_n ?_
    refine CW_ret ?_
    refine sq_r ?_
    replace hm := Option.some.inj hm; subst hm
    refine retQ_1 (v := (.bool false)) rfl rfl ?_
    exact ⟨rfl, hST.ex⟩
  · replace hm := if_f hb1 hm
    refine CW_skip ?_
    refine sq_n ?_
    refine CW_seq ?_
    refine CW_seq ?_
    refine CW_region ?_
    refine LV (R_move (v := v_a0) rfl) ?_
    refine LV (R_len Tryz.underlying22 rfl h_a0) ?_
    refine LV (R_move (v := (.int .i64 0)) rfl) ?_
    refine LW_nil ?_
    refine sq_n ?_
    refine CW_range (fun i E W => ∃  (L149 : List (Nat × Obj)), (E 13 = .int .i64 (i : Nat) ∧ E 12 = .int .i64 (a0.length : Nat)) ∧ ST true NoF w W (hp w) L149 ∧ E 0 = v_a0 ∧ E 1 = v_a1 ∧ m_ref05_Same_L1 a1 (a0.drop i) i = some r) a0.length h_a0.len ⟨_, ⟨rfl, rfl⟩, (hST.sublist (List.Sublist.refl _)), rfl, rfl, hm⟩ (by decide) (by decide) (by decide) (fun _ _ _ h => by obtain ⟨_, eIN, _⟩ := h; exact eIN) ?_ ?_
    · rintro i90 E W hi96 ⟨L149, ⟨eI, eN⟩, hST, e151, e152, hm150⟩
      obtain ⟨x91, xs92, hx94, hx93, hx95⟩ := drop_cons hi96
      rw [hx94] at hm150
      rw [m_ref05_Same_L1] at hm150
      refine CW_block ?_
      refine CW_seq ?_
      refine CW_region ?_
      refine LV (R_move (v := (.int .i64 ((i90 : Int)))) eI) ?_
      refine LV (R_assign (v := (.int .i64 ((i90 : Int)))) rfl) ?_
      refine LW_nil ?_
      refine sq_n ?_
      refine CW_seq ?_
      refine PX_start (fun l W => Has (hp w) [] W) Tryz_mixed ?_
      replace hST := hST.drew
      have hS0 : Has (hp w) [] _ := hST.has.sub (Sub.refl _) (fun p hq => (absurd hq List.not_mem_nil))
      refine PV 0 rfl hS0 (R_move (v := v_a0) e151) ?_
      refine PV 1 rfl hS0 (R_move (v := (.int .i64 ((i90 : Int)))) rfl) ?_
      refine PX_q 2 rfl (by kernel_rfl) (.inl rfl) rfl (by decide) (fun _ _ h => h) hS0 (R_indexP (enc := encCred) (i := (i90 : Int)) (x0 := x91) Tryz.underlying22 Tryz.sizeOf83 rfl rfl h_a0 (Int.natCast_nonneg _) hx93) (fun p169 hp170 => ?_)
      refine PX_v 3 rfl (by kernel_rfl) (.inl rfl) rfl (by decide) (fun _ _ h => h) hS0 (fun l W hpd hs => have hS := hs; R_load rfl (load_atA hS hp170 Tryz.isAgg83 Tryz.sizeOf83)) ?_
      refine PV 4 rfl hS0 (R_move (v := v_a1) e152) ?_
      refine PV 5 rfl hS0 (R_move (v := (.int .i64 ((i90 : Int)))) rfl) ?_
      obtain ⟨x175, hx176, hm150⟩ := bind_some hm150
      refine PX_q 6 rfl (by kernel_rfl) (.inl rfl) rfl (by decide) (fun _ _ h => h) hS0 (R_indexP (enc := encCred) (i := (i90 : Int)) (x0 := x175) Tryz.underlying22 Tryz.sizeOf83 rfl rfl h_a1 (idx_nonneg hx176) (idx_get hx176)) (fun p172 hp173 => ?_)
      refine PX_v 7 rfl (by kernel_rfl) (.inl rfl) rfl (by decide) (fun _ _ h => h) hS0 (fun l W hpd hs => have hS := hs; R_load rfl (load_atA hS hp173 Tryz.isAgg83 Tryz.sizeOf83)) ?_
      refine PV 8 rfl hS0 (R_neq (a := (encCred x91).toArray) (b := (encCred x175).toArray) rfl rfl (guard_agg Tryz.eqGuardType83) (bin_neq (eqInCred _ x91 x175))) ?_
      refine PX_done (by kernel_rfl) ?_
      refine sq_n ?_
      refine CW_if (b := (!(beqCred x91 x175))) rfl (fun hb177 => ?_) (fun hb177 => ?_)
      · replace hm150 := if_t hb177 hm150
        refine CW_seq ?_
        refine CW_region ?_
        refine LV (R_assign (v := (.bool false)) rfl) ?_
        refine LW_nil ?_
        refine sq_n ?_
        refine CW_ret ?_
        refine bq_r (sq_r (bq_r (sq_r ?_)))
        replace hm150 := Option.some.inj hm150; subst hm150
        refine retQ_1 (v := (.bool false)) rfl rfl ?_
        exact ⟨rfl, hST.ex⟩
      · replace hm150 := if_f hb177 hm150
        refine CW_skip ?_
        refine bq_n ?_
        refine sq_n ?_
        exact ⟨eI, _, ⟨rfl, eN⟩, (hST.sublist (List.Sublist.refl _)), e151, e152, (by rw [hx95]; exact hm150)⟩
    · rintro E W ⟨L149, ⟨eI, eN⟩, hST, e151, e152, hm150⟩
      rw [List.drop_length] at hm150
      rw [m_ref05_Same_L1] at hm150
      refine sq_n ?_
      refine CW_seq ?_
      refine CW_region ?_
      refine LV (R_assign (v := (.bool true)) rfl) ?_
      refine LW_nil ?_
      refine sq_n ?_
      refine CW_ret ?_
      replace hm150 := Option.some.inj hm150; subst hm150
      refine retQ_1 (v := (.bool true)) rfl rfl ?_
      exact ⟨rfl, hST.ex⟩
theorem w_ref10_Merge (v_a0 : Value) (a0 : List (List Step)) (r : List Step) (w : World) (h_a0 : Sl (SlR encStep 12) 1 (hp w) v_a0 a0) (hm : m_ref10_Merge a0 = some r) :
    GivesRow true Tryz.prog 61 [v_a0] w 89 encStep 12 r := by
  have hST := ST.start (dd := true) w
  unfold m_ref10_Merge at hm
  refine calls_of_CW (n := 47) Tryz.func61 rfl rfl (Nat.le_of_ble_eq_true rfl) ?_
  refine CW_seq ?_
  refine CW_region ?_
  refine LV (R_assign (v := (.slice none 0 0)) rfl) ?_
  refine LW_nil ?_
  refine sq_n ?_
  refine CW_seq ?_
  refine CW_region ?_
  refine LV (R_assign (v := (.slice none 0 0)) rfl) ?_
  refine LW_nil ?_
  refine sq_n ?_
  refine CW_seq ?_
  refine CW_seq ?_
  refine CW_region ?_
  refine LV (R_move (v := v_a0) rfl) ?_
  refine LV (R_len Tryz.underlying91 rfl h_a0) ?_
  refine LV (R_move (v := (.int .i64 0)) rfl) ?_
  refine LW_nil ?_
  refine sq_n ?_
  refine CW_range (fun i E W => ∃ (v5405 : Value) (l5406 : List Step) (R5408 : List (Nat × Obj)) (L6759 : List (Nat × Obj)), (E 13 = .int .i64 (i : Nat) ∧ E 12 = .int .i64 (a0.length : Nat)) ∧ ST true NoF w W (hp w) (R5408 ++ L6759) ∧ E 3 = v5405 ∧ E 11 = v_a0 ∧ Row 89 encStep 12 v5405 l5406 R5408 ∧ m_ref10_Merge_L1 (a0.drop i) l5406 = some r) a0.length h_a0.len ⟨(.slice none 0 0), ([]), [], _, ⟨rfl, rfl⟩, (hST.sublist (List.Sublist.refl _)), rfl, rfl, (Row.nil _ _ _), hm⟩ (by decide) (by decide) (by decide) (fun _ _ _ h => by obtain ⟨_, _, _, _, eIN, _⟩ := h; exact eIN) ?_ ?_
  · rintro i4054 E W hi4060 ⟨v5405, l5406, R5408, L6759, ⟨eI, eN⟩, hST, e6761, e6762, hs5407, hm6760⟩
    obtain ⟨x4055, xs4056, hx4058, hx4057, hx4059⟩ := drop_cons hi4060
    rw [hx4058] at hm6760
    rw [m_ref10_Merge_L1] at hm6760
    refine CW_block ?_
    refine CW_seq ?_
    refine CW_region ?_
    refine LQ (R_indexN (enc := encStep) (k2 := 12) (i := (i4054 : Int)) (x0 := x4055) Tryz.underlying91 Tryz.sizeOf79 e6762 eI h_a0 (Int.natCast_nonneg _) hx4057) (fun p6763 ⟨v6766, hp6764, hs6767⟩ => ?_)
    refine LV (R_load rfl (load_at1 hST.has (y := v6766) hp6764 Tryz.isAgg79)) ?_
    refine LV (R_assign (v := v6766) rfl) ?_
    refine LW_nil ?_
    refine sq_n ?_
    refine CW_seq ?_
    refine CW_region ?_
    refine LV (R_move (v := v6766) rfl) ?_
    refine LV (R_len Tryz.underlying79 rfl hs6767) ?_
    refine LV (R_move (v := (.int .i64 0)) rfl) ?_
    refine LW_nil ?_
    refine sq_n ?_
    refine CW_tail ?_
    obtain ⟨s7441, hm7442, hm7443⟩ := bind_some hm6760
    refine CW_cut (fun E W => ∃ (v7431 : Value) (l7432 : List Step) (R7434 : List (Nat × Obj)) (L7435 : List (Nat × Obj)), ST true NoF w W (hp w) (R7434 ++ L7435) ∧ E 3 = v7431 ∧ E 11 = v_a0 ∧ E 12 = (.int .i64 ((a0.length : Int))) ∧ E 13 = (.int .i64 ((i4054 : Int))) ∧ Row 89 encStep 12 v7431 l7432 R7434 ∧ (m_ref10_Merge_L1 xs4056 l7432) = some r) ?_ ?_
    · refine CW_range (fun i E W => ∃ (v7663 : Value) (l7664 : List Step) (R7666 : List (Nat × Obj)) (L7888 : List (Nat × Obj)), (E 19 = .int .i64 (i : Nat) ∧ E 18 = .int .i64 (x4055.length : Nat)) ∧ ST true NoF w W (hp w) (R7666 ++ L7888) ∧ E 3 = v7663 ∧ E 11 = v_a0 ∧ E 12 = (.int .i64 ((a0.length : Int))) ∧ E 13 = (.int .i64 ((i4054 : Int))) ∧ E 17 = v6766 ∧ Row 89 encStep 12 v7663 l7664 R7666 ∧ m_ref10_Merge_L2 (x4055.drop i) l7664 = some s7441) x4055.length hs6767.len ⟨v5405, l5406, R5408, _, ⟨rfl, rfl⟩, (hST.sublist (List.Sublist.refl _)), e6761, e6762, eN, eI, rfl, hs5407, hm7442⟩ (by decide) (by decide) (by decide) (fun _ _ _ h => by obtain ⟨_, _, _, _, eIN, _⟩ := h; exact eIN) ?_ ?_
      · rintro i7444 E W hi7450 ⟨v7663, l7664, R7666, L7888, ⟨eI, eN⟩, hST, e7890, e7891, e7892, e7893, e7894, hs7665, hm7889⟩
        obtain ⟨x7445, xs7446, hx7448, hx7447, hx7449⟩ := drop_cons hi7450
        rw [hx7448] at hm7889
        rw [m_ref10_Merge_L2] at hm7889
        refine CW_block ?_
        refine CW_seq ?_
        refine CW_region ?_
        refine LQ (R_indexP (enc := encStep) (i := (i7444 : Int)) (x0 := x7445) Tryz.underlying79 Tryz.sizeOf89 e7894 eI hs6767 (Int.natCast_nonneg _) hx7447) (fun p7895 hp7896 => ?_)
        refine LV (R_load rfl (load_atA hST.has hp7896 Tryz.isAgg89 Tryz.sizeOf89)) ?_
        refine LE (E_alloc hST Tryz.zeroValue89 (fun W7899 b7898 hST => ?_))
        refine LW_e0 (.inl rfl) rfl (E_store [] (.agg (encStep x7445).toArray) ((encStep x7445).toArray) hST rfl rfl Tryz.sizeOf89 (oneStep x7445) (Nat.le_of_ble_eq_true rfl) rfl (fun W7900 hST => ?_))
        refine LW_nil ?_
        refine sq_n ?_
        refine CW_seq ?_
        refine CW_region ?_
        refine LV (R_assign (v := (.bool false)) rfl) ?_
        refine LW_nil ?_
        refine sq_n ?_
        refine CW_seq ?_
        refine CW_seq ?_
        refine CW_region ?_
        refine LV (R_move (v := v7663) e7890) ?_
        refine LV (R_lenRow Tryz.underlying79 rfl hs7665) ?_
        refine LV (R_move (v := (.int .i64 0)) rfl) ?_
        refine LW_nil ?_
        refine sq_n ?_
        obtain ⟨s8013, hm8014, hm8015⟩ := bind_some hm7889
        refine CW_cut (fun E W => ∃ (x7992 : Bool) (L7993 : List (Nat × Obj)), ST true NoF w W (hp w) ((b7898, Obj.cells ((encStep x7445).toArray : Array Value) 89 (0, 0)) :: (R7666 ++ L7993)) ∧ E 3 = v7663 ∧ E 7 = (.pointer (some ⟨b7898, 0, none⟩)) ∧ E 8 = (.bool x7992) ∧ E 11 = v_a0 ∧ E 12 = (.int .i64 ((a0.length : Int))) ∧ E 13 = (.int .i64 ((i4054 : Int))) ∧ E 17 = v6766 ∧ E 18 = (.int .i64 ((x4055.length : Int))) ∧ E 19 = (.int .i64 ((i7444 : Int))) ∧ (if (!x7992) then (((appB 184 l7664 ([x7445]))).bind fun l8007 => (m_ref10_Merge_L2 xs7446 l8007)) else (m_ref10_Merge_L2 xs7446 l7664)) = some s7441) ?_ ?_
        · replace hST : ST true NoF w _ _ ((b7898, Obj.cells ((encStep x7445).toArray : Array Value) 89 (0, 0)) :: (R7666 ++ L7888)) := hST
          refine CW_range (fun i E W => ∃ (x8029 : Bool) (L8068 : List (Nat × Obj)), (E 25 = .int .i64 (i : Nat) ∧ E 24 = .int .i64 (l7664.length : Nat)) ∧ ST true NoF w W (hp w) ((b7898, Obj.cells ((encStep x7445).toArray : Array Value) 89 (0, 0)) :: (R7666 ++ L8068)) ∧ E 3 = v7663 ∧ E 7 = (.pointer (some ⟨b7898, 0, none⟩)) ∧ E 8 = (.bool x8029) ∧ E 11 = v_a0 ∧ E 12 = (.int .i64 ((a0.length : Int))) ∧ E 13 = (.int .i64 ((i4054 : Int))) ∧ E 17 = v6766 ∧ E 18 = (.int .i64 ((x4055.length : Int))) ∧ E 19 = (.int .i64 ((i7444 : Int))) ∧ E 23 = v7663 ∧ m_ref10_Merge_L3 x7445 (l7664.drop i) x8029 = some s8013) l7664.length hs7665.len ⟨false, _, ⟨rfl, rfl⟩, (hST.sublist (List.Sublist.refl _)), e7890, rfl, rfl, e7891, e7892, e7893, e7894, eN, eI, rfl, hm8014⟩ (by decide) (by decide) (by decide) (fun _ _ _ h => by obtain ⟨_, _, eIN, _⟩ := h; exact eIN) ?_ ?_
          · rintro i8016 E W hi8022 ⟨x8029, L8068, ⟨eI, eN⟩, hST, e8070, e8071, e8072, e8073, e8074, e8075, e8076, e8077, e8078, e8079, hm8069⟩
            obtain ⟨x8017, xs8018, hx8020, hx8019, hx8021⟩ := drop_cons hi8022
            rw [hx8020] at hm8069
            rw [m_ref10_Merge_L3] at hm8069
            refine CW_block ?_
            refine CW_seq ?_
            refine CW_region ?_
            refine LQ (R_indexRow (i := (i8016 : Int)) (x0 := x8017) Tryz.underlying79 Tryz.sizeOf89 e8079 eI hs7665 (Int.natCast_nonneg _) hx8019) (fun p8080 hp8081 => ?_)
            refine LV (R_load (v := (.agg (encStep x8017).toArray)) rfl (load_ixA hST.has (fun p hq => by simp [hq]) hs7665 lenStep hp8081 hx8019 Tryz.isAgg89 Tryz.sizeOf89)) ?_
            refine LE (E_alloc hST Tryz.zeroValue89 (fun W8084 b8083 hST => ?_))
            refine LW_e0 (.inl rfl) rfl (E_store [] (.agg (encStep x8017).toArray) ((encStep x8017).toArray) hST rfl rfl Tryz.sizeOf89 (oneStep x8017) (Nat.le_of_ble_eq_true rfl) rfl (fun W8085 hST => ?_))
            refine LW_nil ?_
            refine sq_n ?_
            refine CW_region ?_
            refine LV (R_move (v := (.bool x8029)) e8072) ?_
            refine LV (R_move (v := (.bool x8029)) rfl) ?_
            obtain ⟨s8103, hm8104, hm8105⟩ := bind_some hm8069
            refine LW_join (J := fun E W => ∃ (x8087 : Bool) (L8088 : List (Nat × Obj)), ST true NoF w W (hp w) ((b7898, Obj.cells ((encStep x7445).toArray : Array Value) 89 (0, 0)) :: (R7666 ++ L8088)) ∧ E 3 = v7663 ∧ E 7 = (.pointer (some ⟨b7898, 0, none⟩)) ∧ E 8 = (.bool x8029) ∧ E 11 = v_a0 ∧ E 12 = (.int .i64 ((a0.length : Int))) ∧ E 13 = (.int .i64 ((i4054 : Int))) ∧ E 17 = v6766 ∧ E 18 = (.int .i64 ((x4055.length : Int))) ∧ E 19 = (.int .i64 ((i7444 : Int))) ∧ E 23 = v7663 ∧ E 24 = (.int .i64 ((l7664.length : Int))) ∧ E 25 = (.int .i64 ((i8016 : Int))) ∧ E 36 = (.bool x8087) ∧ (m_ref10_Merge_L3 x7445 xs8018 x8087) = some s8013) 6 ?_ (fun key8106 => ?_)
            · rintro E W ⟨x8087, L8088, hST, e8090, e8091, e8092, e8093, e8094, e8095, e8096, e8097, e8098, e8099, e8100, e8101, e8102, hm8089⟩
              refine LV (R_assign (v := (.bool x8087)) e8102) ?_
              refine LW_nil ?_
              refine bq_n ?_
              refine sq_n ?_
              exact ⟨e8101, x8087, _, ⟨rfl, e8100⟩, (hST.sublist (List.Sublist.refl _)), e8090, e8091, rfl, e8093, e8094, e8095, e8096, e8097, e8098, e8099, (by rw [hx8021]; exact hm8089)⟩
            · rcases bool_cases x8029 with hb8086 | hb8086
              · replace hm8104 := if_t hb8086 hm8104
                refine LW_no rfl (by decide) rfl rfl (by decide) (congrArg Value.bool hb8086) ?_
                refine LW_no rfl (by decide) rfl rfl (by decide) (congrArg Value.bool hb8086) ?_
                refine LW_no rfl (by decide) rfl rfl (by decide) (congrArg Value.bool hb8086) ?_
                refine LW_no rfl (by decide) rfl rfl (by decide) (congrArg Value.bool hb8086) ?_
                refine LW_no rfl (by decide) rfl rfl (by decide) (congrArg Value.bool hb8086) ?_
                refine LV (R_pickT (v := (.bool true)) (congrArg Value.bool hb8086) rfl) ?_
                replace hm8104 := Option.some.inj hm8104; subst hm8104
                replace hST : ST true NoF w _ _ ((b8083, Obj.cells ((encStep x8017).toArray : Array Value) 89 (0, 0)) :: ((b7898, Obj.cells ((encStep x7445).toArray : Array Value) 89 (0, 0)) :: (R7666 ++ L8068))) := hST
                exact key8106 _ _ ⟨true, _, (hST.sublist (List.Sublist.cons _ (List.Sublist.refl _))), e8070, e8071, e8072, e8073, e8074, e8075, e8076, e8077, e8078, e8079, eN, eI, rfl, hm8105⟩
              · replace hm8104 := if_f hb8086 hm8104
                refine LW_v (.inr ⟨1, false, 30, rfl, rfl, by decide, (congrArg Value.bool hb8086)⟩) rfl (by decide) (R_field fa89_1 rfl) ?_
                refine LW_v (.inr ⟨1, false, 30, rfl, rfl, by decide, (congrArg Value.bool hb8086)⟩) rfl (by decide) (R_load (v := (.agg (encFact x8017.Fact).toArray)) rfl (load_boxA hST.has (.head _) (encFact x8017.Fact) rfl Tryz.isAgg78 Tryz.sizeOf78)) ?_
                refine LW_v (.inr ⟨1, false, 30, rfl, rfl, by decide, (congrArg Value.bool hb8086)⟩) rfl (by decide) (R_field fa89_1 e8071) ?_
                refine LW_v (.inr ⟨1, false, 30, rfl, rfl, by decide, (congrArg Value.bool hb8086)⟩) rfl (by decide) (R_load (v := (.agg (encFact x7445.Fact).toArray)) rfl (load_boxA hST.has (.tail _ (.head _)) (encFact x7445.Fact) rfl Tryz.isAgg78 Tryz.sizeOf78)) ?_
                refine LW_v (.inr ⟨1, false, 30, rfl, rfl, by decide, (congrArg Value.bool hb8086)⟩) rfl (by decide) (R_eql (a := (encFact x8017.Fact).toArray) (b := (encFact x7445.Fact).toArray) rfl rfl (guard_agg Tryz.eqGuardType78) (bin_eql (eqInFact _ x8017.Fact x7445.Fact))) ?_
                refine LV (R_pickF (v := (.bool ((beqFact x8017.Fact x7445.Fact)))) (congrArg Value.bool hb8086) rfl) ?_
                replace hm8104 := Option.some.inj hm8104; subst hm8104
                replace hST : ST true NoF w _ _ ((b8083, Obj.cells ((encStep x8017).toArray : Array Value) 89 (0, 0)) :: ((b7898, Obj.cells ((encStep x7445).toArray : Array Value) 89 (0, 0)) :: (R7666 ++ L8068))) := hST
                exact key8106 _ _ ⟨((beqFact x8017.Fact x7445.Fact)), _, (hST.sublist (List.Sublist.cons _ (List.Sublist.refl _))), e8070, e8071, e8072, e8073, e8074, e8075, e8076, e8077, e8078, e8079, eN, eI, rfl, hm8105⟩
          · rintro E W ⟨x8029, L8068, ⟨eI, eN⟩, hST, e8070, e8071, e8072, e8073, e8074, e8075, e8076, e8077, e8078, e8079, hm8069⟩
            rw [List.drop_length] at hm8069
            rw [m_ref10_Merge_L3] at hm8069
            refine sq_n ?_
            replace hm8069 := Option.some.inj hm8069; subst hm8069
            exact ⟨x8029, _, (hST.sublist (List.Sublist.refl _)), e8070, e8071, e8072, e8073, e8074, e8075, e8076, e8077, e8078, hm8015⟩
        · rintro E W ⟨x7992, L7993, hST, e7995, e7996, e7997, e7998, e7999, e8000, e8001, e8002, e8003, hm7994⟩
          refine CW_seq ?_
          refine CW_region ?_
          refine LV (R_move (v := (.bool x7992)) e7997) ?_
          refine LV (R_not (b := x7992) rfl) ?_
          refine LW_nil ?_
          refine sq_n ?_
          refine CW_if (b := (!x7992)) rfl (fun hb8004 => ?_) (fun hb8004 => ?_)
          · replace hm7994 := if_t hb8004 hm7994
            refine CW_region ?_
            refine LV (R_move (v := v7663) e7995) ?_
            refine LV (R_load (v := (.agg (encStep x7445).toArray)) e7996 (load_boxA hST.has (.head _) (encStep x7445) rfl Tryz.isAgg89 Tryz.sizeOf89)) ?_
            refine LE (E_buildSlice (qs := #[(0, (.agg (encStep x7445).toArray))]) (cs := (encStep x7445).toArray) hST (parts1 rfl) (run_lit [(.agg (encStep x7445).toArray)] Tryz.underlying79 Tryz.sizeOf89 Tryz.zeroValue89 (by decide) rfl (by intro v hv; simp only [List.mem_cons, List.not_mem_nil, or_false] at hv; rcases hv with rfl <;> rfl) rfl rfl) (fun W8006 b8005 hST => ?_))
            obtain ⟨l8007, hb8008, hm7994⟩ := bind_some hm7994
            refine LE (E_append (enc := encStep) (v := v7663) (vs := (.slice (some ⟨b8005, 0, none⟩) 1 1)) (R := R7666) [_, _] hST lenStep (by decide) oneStep Tryz.underlying79 info89.1 info89.2.1 rfl info89.2.2.1 info89.2.2.2 rfl rfl hs7665 (Sl.lit (enc := encStep) (l := [x7445]) lenStep rfl (Nat.le_of_ble_eq_true rfl) rfl (hST.at_ (.head _))) hb8008 (fun W8009 v8012 R8010 hST hR8011 => ?_))
            refine LV (R_assign (v := v8012) rfl) ?_
            refine LW_nil ?_
            refine bq_n ?_
            refine sq_n ?_
            replace hST : ST true NoF w _ _ ((b8005, Obj.cells ((encStep x7445).toArray : Array Value) 89 (0, 0)) :: ((b7898, Obj.cells ((encStep x7445).toArray : Array Value) 89 (0, 0)) :: (R8010 ++ L7993))) := hST
            replace hST : ST true NoF w _ _ (R8010 ++ L7993) := hST.sublist (List.Sublist.cons _ (List.Sublist.cons _ (List.Sublist.refl _)))
            exact ⟨e8003, v8012, l8007, R8010, _, ⟨rfl, e8002⟩, (hST.sublist (List.Sublist.refl _)), rfl, e7998, e7999, e8000, e8001, hR8011, (by rw [hx7449]; exact hm7994)⟩
          · replace hm7994 := if_f hb8004 hm7994
            refine CW_skip ?_
            refine bq_n ?_
            refine sq_n ?_
            replace hST : ST true NoF w _ _ (R7666 ++ L7993) := hST.sublist (List.Sublist.cons _ (List.Sublist.refl _))
            exact ⟨e8003, v7663, l7664, R7666, _, ⟨rfl, e8002⟩, (hST.sublist (List.Sublist.refl _)), e7995, e7998, e7999, e8000, e8001, hs7665, (by rw [hx7449]; exact hm7994)⟩
      · rintro E W ⟨v7663, l7664, R7666, L7888, ⟨eI, eN⟩, hST, e7890, e7891, e7892, e7893, e7894, hs7665, hm7889⟩
        rw [List.drop_length] at hm7889
        rw [m_ref10_Merge_L2] at hm7889
        refine sq_n ?_
        replace hm7889 := Option.some.inj hm7889; subst hm7889
        exact ⟨v7663, l7664, R7666, _, (hST.sublist (List.Sublist.refl _)), e7890, e7891, e7892, e7893, hs7665, hm7443⟩
    · rintro E W ⟨v7431, l7432, R7434, L7435, hST, e7437, e7438, e7439, e7440, hs7433, hm7436⟩
      refine bq_n ?_
      refine sq_n ?_
      exact ⟨e7440, v7431, l7432, R7434, _, ⟨rfl, e7439⟩, (hST.sublist (List.Sublist.refl _)), e7437, e7438, hs7433, (by rw [hx4059]; exact hm7436)⟩
  · rintro E W ⟨v5405, l5406, R5408, L6759, ⟨eI, eN⟩, hST, e6761, e6762, hs5407, hm6760⟩
    rw [List.drop_length] at hm6760
    rw [m_ref10_Merge_L1] at hm6760
    refine sq_n ?_
    refine CW_seq ?_
    refine CW_region ?_
    refine LV (R_move (v := v5405) e6761) ?_
    refine LV (R_assign (v := v5405) rfl) ?_
    refine LW_nil ?_
    refine sq_n ?_
    refine CW_ret ?_
    replace hm6760 := Option.some.inj hm6760; subst hm6760
    refine retQ_1 (v := v5405) rfl rfl ?_
    exact ⟨_, R5408, rfl, hST.backRow (fun p hq => by simp [hq]) hs5407.nd, hs5407⟩
theorem w_ref09_Same (v_a0 : Value) (a0 : List Step) (v_a1 : Value) (a1 : List Step) (r : Bool) (w : World) (h_a0 : Sl (Pl encStep) 12 (hp w) v_a0 a0) (h_a1 : Sl (Pl encStep) 12 (hp w) v_a1 a1) (hm : m_ref09_Same a0 a1 = some r) :
    Gives true Tryz.prog 54 [v_a0, v_a1] w (.bool r) := by
  have hST := ST.start (dd := true) w
  unfold m_ref09_Same at hm
  refine calls_of_CW (n := 26) Tryz.func54 rfl rfl (Nat.le_of_ble_eq_true rfl) ?_
  refine CW_seq ?_
  refine CW_region ?_
  refine LV (R_assign (v := (.bool false)) rfl) ?_
  refine LW_nil ?_
  refine sq_n ?_
  refine CW_seq ?_
  refine CW_seq ?_
  refine CW_region ?_
  refine LV (R_move (v := v_a0) rfl) ?_
  refine LV (R_len Tryz.underlying79 rfl h_a0) ?_
  refine LV (R_move (v := v_a1) rfl) ?_
  refine LV (R_len Tryz.underlying79 rfl h_a1) ?_
  refine LV (R_int (k := .i64) (a := ((a0.length : Int))) (b := ((a1.length : Int))) (v := (.bool ((((a0.length : Int)) != ((a1.length : Int)))))) rfl rfl rfl) ?_
  refine LW_nil ?_
  refine sq_n ?_
  refine CW_if (b := (((a0.length : Int)) != ((a1.length : Int)))) rfl (fun hb1 => ?_) (fun hb1 => ?_)
  · replace hm := if_t hb1 hm
    refine CW_seq ?_
    refine CW_region ?_
    refine LV (R_assign (v := (.bool false)) rfl) ?_
    refine LW_nil ?_
    refine sq_n ?_
    refine CW_ret ?_
    refine sq_r ?_
    replace hm := Option.some.inj hm; subst hm
    refine retQ_1 (v := (.bool false)) rfl rfl ?_
    exact ⟨rfl, hST.ex⟩
  · replace hm := if_f hb1 hm
    refine CW_skip ?_
    refine sq_n ?_
    refine CW_seq ?_
    refine CW_seq ?_
    refine CW_region ?_
    refine LV (R_move (v := v_a0) rfl) ?_
    refine LV (R_len Tryz.underlying79 rfl h_a0) ?_
    refine LV (R_move (v := (.int .i64 0)) rfl) ?_
    refine LW_nil ?_
    refine sq_n ?_
    refine CW_range (fun i E W => ∃  (L149 : List (Nat × Obj)), (E 13 = .int .i64 (i : Nat) ∧ E 12 = .int .i64 (a0.length : Nat)) ∧ ST true NoF w W (hp w) L149 ∧ E 0 = v_a0 ∧ E 1 = v_a1 ∧ m_ref09_Same_L1 a1 (a0.drop i) i = some r) a0.length h_a0.len ⟨_, ⟨rfl, rfl⟩, (hST.sublist (List.Sublist.refl _)), rfl, rfl, hm⟩ (by decide) (by decide) (by decide) (fun _ _ _ h => by obtain ⟨_, eIN, _⟩ := h; exact eIN) ?_ ?_
    · rintro i90 E W hi96 ⟨L149, ⟨eI, eN⟩, hST, e151, e152, hm150⟩
      obtain ⟨x91, xs92, hx94, hx93, hx95⟩ := drop_cons hi96
      rw [hx94] at hm150
      rw [m_ref09_Same_L1] at hm150
      refine CW_block ?_
      refine CW_seq ?_
      refine CW_region ?_
      refine LV (R_move (v := (.int .i64 ((i90 : Int)))) eI) ?_
      refine LV (R_assign (v := (.int .i64 ((i90 : Int)))) rfl) ?_
      refine LW_nil ?_
      refine sq_n ?_
      refine CW_seq ?_
      refine PX_start (fun l W => Has (hp w) [] W) Tryz_mixed ?_
      replace hST := hST.drew
      have hS0 : Has (hp w) [] _ := hST.has.sub (Sub.refl _) (fun p hq => (absurd hq List.not_mem_nil))
      refine PV 0 rfl hS0 (R_move (v := v_a0) e151) ?_
      refine PV 1 rfl hS0 (R_move (v := (.int .i64 ((i90 : Int)))) rfl) ?_
      refine PX_q 2 rfl (by kernel_rfl) (.inl rfl) rfl (by decide) (fun _ _ h => h) hS0 (R_indexP (enc := encStep) (i := (i90 : Int)) (x0 := x91) Tryz.underlying79 Tryz.sizeOf89 rfl rfl h_a0 (Int.natCast_nonneg _) hx93) (fun p169 hp170 => ?_)
      refine PX_v 3 rfl (by kernel_rfl) (.inl rfl) rfl (by decide) (fun _ _ h => h) hS0 (fun l W hpd hs => have hS := hs; R_load rfl (load_atA hS hp170 Tryz.isAgg89 Tryz.sizeOf89)) ?_
      refine PV 4 rfl hS0 (R_move (v := v_a1) e152) ?_
      refine PV 5 rfl hS0 (R_move (v := (.int .i64 ((i90 : Int)))) rfl) ?_
      obtain ⟨x175, hx176, hm150⟩ := bind_some hm150
      refine PX_q 6 rfl (by kernel_rfl) (.inl rfl) rfl (by decide) (fun _ _ h => h) hS0 (R_indexP (enc := encStep) (i := (i90 : Int)) (x0 := x175) Tryz.underlying79 Tryz.sizeOf89 rfl rfl h_a1 (idx_nonneg hx176) (idx_get hx176)) (fun p172 hp173 => ?_)
      refine PX_v 7 rfl (by kernel_rfl) (.inl rfl) rfl (by decide) (fun _ _ h => h) hS0 (fun l W hpd hs => have hS := hs; R_load rfl (load_atA hS hp173 Tryz.isAgg89 Tryz.sizeOf89)) ?_
      refine PV 8 rfl hS0 (R_neq (a := (encStep x91).toArray) (b := (encStep x175).toArray) rfl rfl (guard_agg Tryz.eqGuardType89) (bin_neq (eqInStep _ x91 x175))) ?_
      refine PX_done (by kernel_rfl) ?_
      refine sq_n ?_
      refine CW_if (b := (!(beqStep x91 x175))) rfl (fun hb177 => ?_) (fun hb177 => ?_)
      · replace hm150 := if_t hb177 hm150
        refine CW_seq ?_
        refine CW_region ?_
        refine LV (R_assign (v := (.bool false)) rfl) ?_
        refine LW_nil ?_
        refine sq_n ?_
        refine CW_ret ?_
        refine bq_r (sq_r (bq_r (sq_r ?_)))
        replace hm150 := Option.some.inj hm150; subst hm150
        refine retQ_1 (v := (.bool false)) rfl rfl ?_
        exact ⟨rfl, hST.ex⟩
      · replace hm150 := if_f hb177 hm150
        refine CW_skip ?_
        refine bq_n ?_
        refine sq_n ?_
        exact ⟨eI, _, ⟨rfl, eN⟩, (hST.sublist (List.Sublist.refl _)), e151, e152, (by rw [hx95]; exact hm150)⟩
    · rintro E W ⟨L149, ⟨eI, eN⟩, hST, e151, e152, hm150⟩
      rw [List.drop_length] at hm150
      rw [m_ref09_Same_L1] at hm150
      refine sq_n ?_
      refine CW_seq ?_
      refine CW_region ?_
      refine LV (R_assign (v := (.bool true)) rfl) ?_
      refine LW_nil ?_
      refine sq_n ?_
      refine CW_ret ?_
      replace hm150 := Option.some.inj hm150; subst hm150
      refine retQ_1 (v := (.bool true)) rfl rfl ?_
      exact ⟨rfl, hST.ex⟩
theorem w_law10_ChainUses (v_a0 : Value) (a0 : List (List Step)) (r : Bool) (w : World) (h_a0 : Sl (SlR encStep 12) 1 (hp w) v_a0 a0) (hm : m_law10_ChainUses a0 = some r) :
    Gives true Tryz.prog 10 [v_a0] w (.bool r) := by
  have hST := ST.start (dd := true) w
  unfold m_law10_ChainUses at hm
  refine calls_of_CW (n := 38) Tryz.func10 rfl rfl (Nat.le_of_ble_eq_true rfl) ?_
  refine CW_seq ?_
  refine CW_region ?_
  refine LV (R_assign (v := (.bool false)) rfl) ?_
  refine LW_nil ?_
  refine sq_n ?_
  refine CW_seq ?_
  refine CW_seq ?_
  refine CW_region ?_
  obtain ⟨r1, hr2, hm⟩ := bind_some hm
  refine LE (E_gives (args := []) hST rfl Tryz.call52 (by exact args0 ) ((w_law10_first  _ _  hr2)) (fun W3 hST => ?_))
  refine LV (R_not (b := r1) rfl) ?_
  refine LW_nil ?_
  refine sq_n ?_
  refine CW_if (b := (!r1)) rfl (fun hb4 => ?_) (fun hb4 => ?_)
  · replace hm := if_t hb4 hm
    refine CW_seq ?_
    refine CW_region ?_
    refine LV (R_assign (v := (.bool false)) rfl) ?_
    refine LW_nil ?_
    refine sq_n ?_
    refine CW_ret ?_
    refine sq_r ?_
    replace hm := Option.some.inj hm; subst hm
    refine retQ_1 (v := (.bool false)) rfl rfl ?_
    exact ⟨rfl, hST.ex⟩
  · replace hm := if_f hb4 hm
    refine CW_skip ?_
    refine sq_n ?_
    refine CW_seq ?_
    refine CW_region ?_
    refine LV (R_assign (v := (.int .i64 0)) rfl) ?_
    refine LW_nil ?_
    refine sq_n ?_
    refine CW_seq ?_
    refine CW_region ?_
    refine LV (R_assign (v := (.slice none 0 0)) rfl) ?_
    refine LW_nil ?_
    refine sq_n ?_
    refine CW_seq ?_
    refine CW_seq ?_
    refine CW_region ?_
    refine LV (R_move (v := v_a0) rfl) ?_
    refine LV (R_len Tryz.underlying91 rfl h_a0) ?_
    refine LV (R_move (v := (.int .i64 0)) rfl) ?_
    refine LW_nil ?_
    refine sq_n ?_
    refine CW_range (fun i E W => ∃ (x95 : Int) (v96 : Value) (l97 : List Step) (R99 : List (Nat × Obj)) (L123 : List (Nat × Obj)), (E 11 = .int .i64 (i : Nat) ∧ E 10 = .int .i64 (a0.length : Nat)) ∧ ST true NoF w W (hp w) (R99 ++ L123) ∧ E 0 = v_a0 ∧ E 3 = (.int .i64 x95) ∧ E 4 = v96 ∧ E 9 = v_a0 ∧ Row 89 encStep 12 v96 l97 R99 ∧ m_law10_ChainUses_L1 a0 (a0.drop i) x95 l97 = some r) a0.length h_a0.len ⟨0, (.slice none 0 0), ([]), [], _, ⟨rfl, rfl⟩, (hST.sublist (List.Sublist.refl _)), rfl, rfl, rfl, rfl, (Row.nil _ _ _), hm⟩ (by decide) (by decide) (by decide) (fun _ _ _ h => by obtain ⟨_, _, _, _, _, eIN, _⟩ := h; exact eIN) ?_ ?_
    · rintro i74 E W hi80 ⟨x95, v96, l97, R99, L123, ⟨eI, eN⟩, hST, e125, e126, e127, e128, hs98, hm124⟩
      obtain ⟨x75, xs76, hx78, hx77, hx79⟩ := drop_cons hi80
      rw [hx78] at hm124
      rw [m_law10_ChainUses_L1] at hm124
      refine CW_block ?_
      refine CW_seq ?_
      refine CW_region ?_
      refine LQ (R_indexN (enc := encStep) (k2 := 12) (i := (i74 : Int)) (x0 := x75) Tryz.underlying91 Tryz.sizeOf79 e128 eI h_a0 (Int.natCast_nonneg _) hx77) (fun p129 ⟨v132, hp130, hs133⟩ => ?_)
      refine LV (R_load rfl (load_at1 hST.has (y := v132) hp130 Tryz.isAgg79)) ?_
      refine LV (R_assign (v := v132) rfl) ?_
      refine LW_nil ?_
      refine sq_n ?_
      refine CW_seq ?_
      refine CW_region ?_
      refine LV (R_move (v := (.int .i64 x95)) e126) ?_
      refine LV (R_move (v := v132) rfl) ?_
      obtain ⟨r134, hr135, hm124⟩ := bind_some hm124
      refine LE (E_gives (args := [v132]) hST rfl Tryz.call57 (by exact args1 rfl) ((w_law09_Great v132 x75 _ _ (hs133.mono (Pl.mono _) hST.sub_hp) hr135)) (fun W136 hST => ?_))
      refine LV (R_int (k := .i64) (a := 20) (b := r134) (v := (.int .i64 ((IntKind.i64.wrap (20 + r134))))) rfl rfl rfl) ?_
      refine LV (R_int (k := .i64) (a := x95) (b := ((IntKind.i64.wrap (20 + r134)))) (v := (.int .i64 ((IntKind.i64.wrap (x95 + ((IntKind.i64.wrap (20 + r134)))))))) rfl rfl rfl) ?_
      refine LV (R_assign (v := (.int .i64 ((IntKind.i64.wrap (x95 + ((IntKind.i64.wrap (20 + r134)))))))) rfl) ?_
      refine LW_nil ?_
      refine sq_n ?_
      refine CW_region ?_
      refine LV (R_move (v := v96) e127) ?_
      refine LV (R_move (v := v132) rfl) ?_
      obtain ⟨l137, hb138, hm124⟩ := bind_some hm124
      refine LE (E_append (enc := encStep) (v := v96) (vs := v132) (R := R99) [] hST lenStep (by decide) oneStep Tryz.underlying79 info89.1 info89.2.1 rfl info89.2.2.1 info89.2.2.2 rfl rfl hs98 (hs133.mono (Pl.mono _) hST.sub_hp) hb138 (fun W139 v142 R140 hST hR141 => ?_))
      refine LV (R_assign (v := v142) rfl) ?_
      refine LW_nil ?_
      refine bq_n ?_
      refine sq_n ?_
      replace hST : ST true NoF w _ _ (R140 ++ L123) := hST
      exact ⟨eI, ((IntKind.i64.wrap (x95 + ((IntKind.i64.wrap (20 + r134)))))), v142, l137, R140, _, ⟨rfl, eN⟩, (hST.sublist (List.Sublist.refl _)), e125, rfl, rfl, e128, hR141, (by rw [hx79]; exact hm124)⟩
    · rintro E W ⟨x95, v96, l97, R99, L123, ⟨eI, eN⟩, hST, e125, e126, e127, e128, hs98, hm124⟩
      rw [List.drop_length] at hm124
      rw [m_law10_ChainUses_L1] at hm124
      refine sq_n ?_
      refine CW_seq ?_
      refine CW_seq ?_
      refine CW_region ?_
      refine LV (R_move (v := (.int .i64 x95)) e126) ?_
      refine LV (R_int (k := .i64) (a := x95) (b := 3000) (v := (.bool ((decide (x95 > 3000))))) rfl rfl rfl) ?_
      refine LW_nil ?_
      refine sq_n ?_
      refine CW_if (b := (decide (x95 > 3000))) rfl (fun hb143 => ?_) (fun hb143 => ?_)
      · replace hm124 := if_t hb143 hm124
        refine CW_seq ?_
        refine CW_region ?_
        refine LV (R_assign (v := (.bool true)) rfl) ?_
        refine LW_nil ?_
        refine sq_n ?_
        replace hST : ST true NoF w _ _ L123 := hST.sublist ((List.Sublist.refl _).trans (List.sublist_append_right _ _))
        refine CW_ret ?_
        refine sq_r ?_
        replace hm124 := Option.some.inj hm124; subst hm124
        refine retQ_1 (v := (.bool true)) rfl rfl ?_
        exact ⟨rfl, hST.ex⟩
      · replace hm124 := if_f hb143 hm124
        refine CW_skip ?_
        refine sq_n ?_
        refine CW_seq ?_
        refine CW_region ?_
        refine LV (R_move (v := v96) e127) ?_
        obtain ⟨r144, hr145, hm124⟩ := bind_some hm124
        refine LE (E_givesRow (args := [v96]) [] _ hST rfl Tryz.call58 (by exact args1 rfl) ((w_chain_Used v96 l97 _ _ (hs98.sl lenStep (fun b o hq => hST.at_ (List.mem_append_left _ hq))) hr145)) (fun W146 v149 μ147 R150 hST hle148 hR151 => ?_))
        refine LV (R_move (v := v96) e127) ?_
        replace hST : ST true NoF w _ _ (R150 ++ (R99 ++ L123)) := hST
        obtain ⟨r152, hr153, hm124⟩ := bind_some hm124
        refine LE (E_givesRow (args := [v96]) [] _ hST rfl Tryz.call59 (by exact args1 rfl) ((w_ref10_Used v96 l97 _ _ (hs98.sl lenStep (fun b o hq => hST.at_ (List.mem_append_right _ (List.mem_append_left _ hq)))) hr153)) (fun W154 v157 μ155 R158 hST hle156 hR159 => ?_))
        replace hST : ST true NoF w _ _ (R158 ++ (R150 ++ (R99 ++ L123))) := hST
        obtain ⟨r160, hr161, hm124⟩ := bind_some hm124
        refine LE (E_gives (args := [v149, v157]) hST rfl Tryz.call24 (by exact args2 rfl rfl) ((w_ref05_Same v149 r144 v157 r152 _ _ (hR151.sl lenCred (fun b o hq => hST.at_ (List.mem_append_right _ (List.mem_append_left _ hq)))) (hR159.sl lenCred (fun b o hq => hST.at_ (List.mem_append_left _ hq))) hr161)) (fun W162 hST => ?_))
        refine LV (R_move (v := (.bool r160)) rfl) ?_
        obtain ⟨s189, hm190, hm191⟩ := bind_some hm124
        refine LW_join (J := fun E W => ∃ (x184 : Bool) (μ183 : Mem) (L185 : List (Nat × Obj)), Sub μ155 μ183 ∧ ST true NoF w W μ183 L185 ∧ E 37 = (.bool x184) ∧ some x184 = some r) 6 ?_ (fun key192 => ?_)
        · rintro E W ⟨x184, μ183, L185, hle187, hST, e188, hm186⟩
          refine LV (R_assign (v := (.bool x184)) e188) ?_
          refine LW_nil ?_
          refine sq_n ?_
          refine CW_ret ?_
          replace hm186 := Option.some.inj hm186; subst hm186
          refine retQ_1 (v := (.bool x184)) rfl rfl ?_
          exact ⟨rfl, hST.ex⟩
        · rcases bool_cases r160 with hb163 | hb163
          · replace hm190 := if_t hb163 hm190
            refine LW_v (.inr ⟨5, true, 31, rfl, rfl, by decide, (congrArg Value.bool hb163)⟩) rfl (by decide) (R_move (v := v_a0) e125) ?_
            obtain ⟨r193, hr194, hm190⟩ := bind_some hm190
            refine LW_e (.inr ⟨5, true, 31, rfl, rfl, by decide, (congrArg Value.bool hb163)⟩) rfl (by decide) (E_givesRow (args := [v_a0]) [] _ hST rfl Tryz.call60 (by exact args1 rfl) ((w_chain_Merge v_a0 a0 _ _ (h_a0.mono (SlR.mono _ _) ((hle148.trans hle156).trans hST.sub_hp)) hr194)) (fun W195 v198 μ196 R199 hST hle197 hR200 => ?_))
            refine LW_v (.inr ⟨5, true, 31, rfl, rfl, by decide, (congrArg Value.bool hb163)⟩) rfl (by decide) (R_move (v := v_a0) e125) ?_
            replace hST : ST true NoF w _ _ (R199 ++ (R158 ++ (R150 ++ (R99 ++ L123)))) := hST
            obtain ⟨r201, hr202, hm190⟩ := bind_some hm190
            refine LW_e (.inr ⟨5, true, 31, rfl, rfl, by decide, (congrArg Value.bool hb163)⟩) rfl (by decide) (E_givesRow (args := [v_a0]) [] _ hST rfl Tryz.call61 (by exact args1 rfl) ((w_ref10_Merge v_a0 a0 _ _ (h_a0.mono (SlR.mono _ _) (((hle148.trans hle156).trans hle197).trans hST.sub_hp)) hr202)) (fun W203 v206 μ204 R207 hST hle205 hR208 => ?_))
            replace hST : ST true NoF w _ _ (R207 ++ (R199 ++ (R158 ++ (R150 ++ (R99 ++ L123))))) := hST
            obtain ⟨r209, hr210, hm190⟩ := bind_some hm190
            refine LW_e (.inr ⟨5, true, 31, rfl, rfl, by decide, (congrArg Value.bool hb163)⟩) rfl (by decide) (E_gives (args := [v198, v206]) hST rfl Tryz.call54 (by exact args2 rfl rfl) ((w_ref09_Same v198 r193 v206 r201 _ _ (hR200.sl lenStep (fun b o hq => hST.at_ (List.mem_append_right _ (List.mem_append_left _ hq)))) (hR208.sl lenStep (fun b o hq => hST.at_ (List.mem_append_left _ hq))) hr210)) (fun W211 hST => ?_))
            refine LV (R_pickT (v := (.bool r209)) (congrArg Value.bool hb163) rfl) ?_
            replace hm190 := Option.some.inj hm190; subst hm190
            exact key192 _ _ ⟨r209, μ204, _, (hle197.trans hle205), (hST.sublist ((((((List.Sublist.refl _).trans (List.sublist_append_right _ _)).trans (List.sublist_append_right _ _)).trans (List.sublist_append_right _ _)).trans (List.sublist_append_right _ _)).trans (List.sublist_append_right _ _))), rfl, hm191⟩
          · replace hm190 := if_f hb163 hm190
            refine LW_no rfl (by decide) rfl rfl (by decide) (congrArg Value.bool hb163) ?_
            refine LW_no rfl (by decide) rfl rfl (by decide) (congrArg Value.bool hb163) ?_
            refine LW_no rfl (by decide) rfl rfl (by decide) (congrArg Value.bool hb163) ?_
            refine LW_no rfl (by decide) rfl rfl (by decide) (congrArg Value.bool hb163) ?_
            refine LW_no rfl (by decide) rfl rfl (by decide) (congrArg Value.bool hb163) ?_
            refine LV (R_pickF (v := (.bool false)) (congrArg Value.bool hb163) rfl) ?_
            replace hm190 := Option.some.inj hm190; subst hm190
            exact key192 _ _ ⟨false, μ155, _, (Sub.refl _), (hST.sublist ((((List.Sublist.refl _).trans (List.sublist_append_right _ _)).trans (List.sublist_append_right _ _)).trans (List.sublist_append_right _ _))), rfl, hm191⟩
end Go.Proofs.YtfjdjbdnnoijgaaGreat
