/- a part of a proof of RevokeLoses -/
import Derived.Test.YtmlncblocfcmiaaGreatRVW2v
set_option linter.all false
namespace Go.Proofs.YtmlncblocfcmiaaGreat
open Go.RowKit
set_option maxRecDepth 10000
theorem w_law34_RevokeLoses (k : Value) (G : List Cred) (z : Value) (Z : List Cred) (y : Fact) (r : Bool) (w : World) (H : Sl (Pl encCred) 9 (hp w) k G) (a8 : Sl (Pl encCred) 9 (hp w) z Z) (hm : m_law34_RevokeLoses G Z y = some r) :
    Gives false Tryz.prog 7 [k, z, (.agg (encFact y).toArray)] w (.bool r) := by
  have hST := ST.start (dd := false) w
  unfold m_law34_RevokeLoses at hm
  refine calls_of_CW (n := 49) Tryz.func7 rfl rfl (Nat.le_of_ble_eq_true rfl) (CW_seq (CW_region (VE (E_box (v := (.agg (encFact y).toArray)) hST rfl (fun W2 b1 hST => V (R_assign rfl) (LW_nil (sq_n (CW_seq (CW_seq (CW_region ?_))))))))))
  obtain ⟨r3, e9, hm⟩ := bind_some hm
  refine VE (E_gives (args := []) hST rfl Tryz.call34 (by exact args0 ) ((w_law34_first  _ _  e9)) (fun W5 hST => V (R_not rfl) (LW_nil (sq_n (CW_if (b := (!r3)) rfl (fun b9 => ?_) (fun b9 => ?_))))))
  · replace hm := if_t b9 hm
    refine CW_seq (CW_region (V (R_assign rfl) (LW_nil (sq_n ?_))))
    replace hST := hST.sel (Db St)
    refine CW_ret (sq_r ?_)
    replace hm := Option.some.inj hm; subst hm
    exact retQ_1 (v := (.bool false)) rfl rfl ⟨rfl, hST.ex⟩
  replace hm := if_f b9 hm
  refine CW_skip (sq_n (CW_seq (CW_seq (CW_region (V (R_move rfl) ?_)))))
  obtain ⟨r7, f0, hm⟩ := bind_some hm
  refine VE (E_gives (args := [k]) hST rfl Tryz.call21 (by exact args1 rfl) (Gives.weak (w_law05_Great k G _ _ (H.mono (Pl.mono _) hST.sub_hp) f0)) (fun W9 hST => V (R_int rfl rfl rfl) (V (R_move rfl) ?_)))
  obtain ⟨g6, i, b5⟩ := bind_some hm
  refine LW_join (J := fun E W => ∃ (b6 : Bool) (d7 : List (Nat × Obj)), ST false NoF w W (hp w) ((b1, Obj.cells ((encFact y).toArray : Array Value) 38 (0, 0)) :: d7) ∧ E 0 = k ∧ E 1 = z ∧ E 5 = (.pointer (some ⟨b1, 0, none⟩)) ∧ E 16 = (.bool b6) ∧ (((if b6 then some true else some ((decide (((IntKind.i64.wrap (((IntKind.i64.wrap (((y.Who.size : Int)) + ((y.Role.Owner.size : Int))))) + ((y.Role.Word.size : Int))))) > 200)))) : Option Bool).bind fun Y => (if Y then some true else (((m_revoke_Lost G Z)).bind fun K => (((m_ref34_Lost G Z)).bind fun M => (((m_ref08_Same K M)).bind fun N => (((if N then (((m_revoke_Critical G y)).bind fun Q => (((m_ref34_Critical G y)).bind fun T => (((m_ref05_Same Q T)).bind fun U => some U))) else some false) : Option Bool).bind fun D => some D)))))) = some r) 4 ?_ (fun a7 => ?_)
  · rintro E W ⟨b6, d7, hST, d9, e0, a4, e7, e4⟩
    refine V (R_move e7) ?_
    obtain ⟨g5, t, b4⟩ := bind_some e4
    refine LW_join (J := fun E W => ∃ (Y : Bool) (d8 : List (Nat × Obj)), ST false NoF w W (hp w) ((b1, Obj.cells ((encFact y).toArray : Array Value) 38 (0, 0)) :: d8) ∧ E 0 = k ∧ E 1 = z ∧ E 5 = (.pointer (some ⟨b1, 0, none⟩)) ∧ E 32 = (.bool Y) ∧ (if Y then some true else (((m_revoke_Lost G Z)).bind fun K => (((m_ref34_Lost G Z)).bind fun M => (((m_ref08_Same K M)).bind fun N => (((if N then (((m_revoke_Critical G y)).bind fun Q => (((m_ref34_Critical G y)).bind fun T => (((m_ref05_Same Q T)).bind fun U => some U))) else some false) : Option Bool).bind fun D => some D))))) = some r) 15 ?_ (fun a6 => ?_)
    · rintro E W ⟨Y, d8, hST, b2, e1, e2, e8, j⟩
      refine LW_nil (sq_n (CW_if (b := Y) e8 (fun a9 => ?_) (fun a9 => ?_)))
      · replace j := if_t a9 j
        refine CW_seq (CW_region (V (R_assign rfl) (LW_nil (sq_n ?_))))
        replace hST := hST.sel (Db St)
        refine CW_ret (sq_r ?_)
        replace j := Option.some.inj j; subst j
        exact retQ_1 (v := (.bool true)) rfl rfl ⟨rfl, hST.ex⟩
      replace j := if_f a9 j
      refine CW_skip (sq_n (CW_seq ?_))
      replace hST := hST.drew
      have hS0 := hST.has.sel (Kb Sn)
      refine PX_start1 hS0 Tryz_mixed (X 0 rfl hS0 (R_move b2) (X 1 rfl hS0 (R_move e1) (X 3 rfl hS0 (R_move b2) (X 4 rfl hS0 (R_move e1) ?_))))
      obtain ⟨K, d0, j⟩ := bind_some j
      refine XE 2 rfl (F_givesRow (args := [k, z]) _ hST rfl Tryz.call45 (by exact args2 rfl rfl) ((w_revoke_Lost k G z Z _ _ (H.mono (Pl.mono _) hST.sub_hp) (a8.mono (Pl.mono _) hST.sub_hp) d0)) (fun f5 c1 g7 f1 hST g hl183 c6 => ?_))
      have hS0 := hST.has.selS g (Dr (Kb Sn))
      refine ⟨hS0, ?_⟩
      obtain ⟨M, d1, j⟩ := bind_some j
      refine XE 5 rfl (F_givesRow (args := [k, z]) _ hST rfl Tryz.call46 (by exact args2 rfl rfl) (GivesRow.weak (w_ref34_Lost k G z Z _ _ (H.mono (Pl.mono _) (g.trans hST.sub_hp)) (a8.mono (Pl.mono _) (g.trans hST.sub_hp)) d1)) (fun f6 c2 c5 f2 hST u hl192 c7 => ?_))
      have hS0 := hST.has.selS (g.trans u) (Dr (Dr (Kb Sn)))
      refine ⟨hS0, ?_⟩
      obtain ⟨N, d2, j⟩ := bind_some j
      refine XE 6 rfl (E_gives (args := [c1, c2]) hST rfl Tryz.call44 (by exact args2 rfl rfl) (Gives.weak (w_ref08_Same c1 K c2 M _ _ (c6.sl lenFact (fun b o hq => hST.at_ (Ma (Ml hq)))) (c7.sl lenFact (fun b o hq => hST.at_ (Ml hq))) d2)) (fun f7 hST => ?_))
      have hS0 := hST.has.selS (g.trans u) (Dr (Dr (Kb Sn)))
      refine ⟨hS0, (X 7 rfl hS0 (R_move rfl) ?_)⟩
      obtain ⟨g4, f, b3⟩ := bind_some j
      refine PX_join (J := fun E W => ∃ (D : Bool) (b0 : Mem) (b7 : List (Nat × Obj)), Sub c5 b0 ∧ ST false NoF w W b0 ((b1, Obj.cells ((encFact y).toArray : Array Value) 38 (0, 0)) :: b7) ∧ E 48 = (.bool D) ∧ some D = some r) #[true, true, true, true, true, true, true, true, true, true, true, true, true, true, true, true, false] 1 ?_ (fun a5 => ?_)
      · rintro E W ⟨D, b0, b7, c0, hST, e3, a3⟩
        have hS0 := hST.has.selS ((g.trans u).trans c0) (Kb Sn)
        refine X 16 rfl hS0 (R_assign e3) (PX_done (by kernel_rfl) (sq_n ?_))
        replace hST := hST.sel (Db St)
        refine CW_ret ?_
        replace a3 := Option.some.inj a3; subst a3
        exact retQ_1 (v := (.bool D)) rfl rfl ⟨rfl, hST.ex⟩
      rcases bool_cases N with c | c
      · replace f := if_t c f
        refine Xg 8 rfl rfl (congrArg Value.bool c) hS0 (R_move b2) (XgH 9 rfl rfl (congrArg Value.bool c) hS0 (fun _ hS => R_load e2 (load_boxA hS Mh (encFact y) rfl Tryz.isAgg38 Tryz.sizeOf38)) (Xg 11 rfl rfl (congrArg Value.bool c) hS0 (R_move b2) (XgH 12 rfl rfl (congrArg Value.bool c) hS0 (fun _ hS => R_load e2 (load_boxA hS Mh (encFact y) rfl Tryz.isAgg38 Tryz.sizeOf38)) ?_)))
        obtain ⟨Q, d3, f⟩ := bind_some f
        refine XgE 10 rfl rfl (congrArg Value.bool c) (F_givesRow (args := [k, (.agg (encFact y).toArray)]) _ hST rfl Tryz.call47 (by exact args2 rfl rfl) ((w_revoke_Critical k G y _ _ (H.mono (Pl.mono _) ((g.trans u).trans hST.sub_hp)) d3)) (fun f8 c3 g8 f3 hST B hl236 c8 => ?_))
        have hS0 := hST.has.selS ((g.trans u).trans B) (Dr (Dr (Dr (Kb Sn))))
        refine ⟨hS0, ?_⟩
        obtain ⟨T, d4, f⟩ := bind_some f
        refine XgE 13 rfl rfl (congrArg Value.bool c) (F_givesRow (args := [k, (.agg (encFact y).toArray)]) _ hST rfl Tryz.call48 (by exact args2 rfl rfl) (GivesRow.weak (w_ref34_Critical k G y _ _ (H.mono (Pl.mono _) (((g.trans u).trans B).trans hST.sub_hp)) d4)) (fun f9 c4 e6 f4 hST I hl245 c9 => ?_))
        have hS0 := hST.has.selS (((g.trans u).trans B).trans I) (Dr (Dr (Dr (Dr (Kb Sn)))))
        refine ⟨hS0, ?_⟩
        obtain ⟨U, d5, f⟩ := bind_some f
        refine XgE 14 rfl rfl (congrArg Value.bool c) (E_gives (args := [c3, c4]) hST rfl Tryz.call41 (by exact args2 rfl rfl) (Gives.weak (w_ref05_Same c3 Q c4 T _ _ (c8.sl lenCred (fun b o hq => hST.at_ (Ma (Ml hq)))) (c9.sl lenCred (fun b o hq => hST.at_ (Ml hq))) d5)) (fun g0 hST => ?_))
        have hS0 := hST.has.selS (((g.trans u).trans B).trans I) (Dr (Dr (Dr (Dr (Kb Sn)))))
        refine ⟨hS0, (X 15 rfl hS0 (R_pickT (congrArg Value.bool c) rfl) ?_)⟩
        replace f := Option.some.inj f; subst f
        refine PX_at (by kernel_rfl) (a5 _ _ ⟨U, e6, _, (B.trans I), (hST.sel (Dr (Dr (Dr (Dr St))))), rfl, b3⟩)
      replace f := if_f c f
      refine Xn 8 rfl rfl (congrArg Value.bool c) hS0 (Xn 9 rfl rfl (congrArg Value.bool c) hS0 (Xn 10 rfl rfl (congrArg Value.bool c) hS0 (Xn 11 rfl rfl (congrArg Value.bool c) hS0 (Xn 12 rfl rfl (congrArg Value.bool c) hS0 (Xn 13 rfl rfl (congrArg Value.bool c) hS0 (Xn 14 rfl rfl (congrArg Value.bool c) hS0 (X 15 rfl hS0 (R_pickF (congrArg Value.bool c) rfl) ?_)))))))
      replace f := Option.some.inj f; subst f
      refine PX_at (by kernel_rfl) (a5 _ _ ⟨false, c5, _, (Sub.refl _), (hST.sel (Dr (Dr St))), rfl, b3⟩)
    rcases bool_cases b6 with a | a
    · replace t := if_t a t
      refine Vn rfl (congrArg Value.bool a) (Vn rfl (congrArg Value.bool a) (Vn rfl (congrArg Value.bool a) (Vn rfl (congrArg Value.bool a) (Vn rfl (congrArg Value.bool a) (Vn rfl (congrArg Value.bool a) (Vn rfl (congrArg Value.bool a) (Vn rfl (congrArg Value.bool a) (Vn rfl (congrArg Value.bool a) (Vn rfl (congrArg Value.bool a) (Vn rfl (congrArg Value.bool a) (Vn rfl (congrArg Value.bool a) (Vn rfl (congrArg Value.bool a) (Vn rfl (congrArg Value.bool a) (V (R_pickT (congrArg Value.bool a) rfl) ?_))))))))))))))
      replace t := Option.some.inj t; subst t
      exact a6 _ _ ⟨true, _, (hST.sel St), d9, e0, a4, rfl, b4⟩
    replace t := if_f a t
    refine Vg rfl (congrArg Value.bool a) (R_field fa38_1 a4) (Vg rfl (congrArg Value.bool a) (R_load rfl (load_box1 hST.has Mh rfl Tryz.isAgg9)) (Vg rfl (congrArg Value.bool a) (R_lenStr Tryz.underlying9 rfl) (Vg rfl (congrArg Value.bool a) (R_field fa38_0 a4) (Vg rfl (congrArg Value.bool a) (R_field fa28_0 rfl) (Vg rfl (congrArg Value.bool a) (R_load rfl (load_box1 hST.has Mh rfl Tryz.isAgg9)) (Vg rfl (congrArg Value.bool a) (R_lenStr Tryz.underlying9 rfl) (Vg rfl (congrArg Value.bool a) (R_int rfl rfl rfl) (Vg rfl (congrArg Value.bool a) (R_field fa38_0 a4) (Vg rfl (congrArg Value.bool a) (R_field fa28_1 rfl) (Vg rfl (congrArg Value.bool a) (R_load rfl (load_box1 hST.has Mh rfl Tryz.isAgg9)) (Vg rfl (congrArg Value.bool a) (R_lenStr Tryz.underlying9 rfl) (Vg rfl (congrArg Value.bool a) (R_int rfl rfl rfl) (Vg rfl (congrArg Value.bool a) (R_int rfl rfl rfl) (V (R_pickF (congrArg Value.bool a) rfl) ?_))))))))))))))
    replace t := Option.some.inj t; subst t
    exact a6 _ _ ⟨((decide (((IntKind.i64.wrap (((IntKind.i64.wrap (((y.Who.size : Int)) + ((y.Role.Owner.size : Int))))) + ((y.Role.Word.size : Int))))) > 200))), _, (hST.sel St), d9, e0, a4, rfl, b4⟩
  rcases bool_cases ((decide (r7 > 900))) with x | x
  · replace i := if_t x i
    refine Vn rfl (congrArg Value.bool x) (Vn rfl (congrArg Value.bool x) (Vn rfl (congrArg Value.bool x) (V (R_pickT (congrArg Value.bool x) rfl) ?_)))
    replace i := Option.some.inj i; subst i
    exact a7 _ _ ⟨true, _, (hST.sel St), rfl, rfl, rfl, rfl, b5⟩
  replace i := if_f x i
  refine Vg rfl (congrArg Value.bool x) (R_move rfl) ?_
  obtain ⟨e5, d6, i⟩ := bind_some i
  refine VgE rfl (congrArg Value.bool x) (E_gives (args := [z]) hST rfl Tryz.call21 (by exact args1 rfl) (Gives.weak (w_law05_Great z Z _ _ (a8.mono (Pl.mono _) hST.sub_hp) d6)) (fun g1 hST => Vg rfl (congrArg Value.bool x) (R_int rfl rfl rfl) (V (R_pickF (congrArg Value.bool x) rfl) ?_)))
  replace i := Option.some.inj i; subst i
  exact a7 _ _ ⟨((decide (e5 > 600))), _, (hST.sel St), rfl, rfl, rfl, rfl, b5⟩
end Go.Proofs.YtmlncblocfcmiaaGreat
