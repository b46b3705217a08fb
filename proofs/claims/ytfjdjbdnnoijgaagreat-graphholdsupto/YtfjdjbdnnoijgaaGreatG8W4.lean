/- a part of a proof of GraphHolds -/
import Derived.Test.YtfjdjbdnnoijgaaGreatG8W3
set_option linter.all false
namespace Go.Proofs.YtfjdjbdnnoijgaaGreat
open Go.RowKit
set_option maxRecDepth 10000
theorem w_law22_GraphHolds (v_a0 : Value) (a0 : List Cred) (v_a1 : Value) (a1 : List Role) (r : Bool) (w : World) (h_a0 : Sl (Pl encCred) 9 (hp w) v_a0 a0) (h_a1 : Sl (Pl encRole) 2 (hp w) v_a1 a1) (hm : m_law22_GraphHolds a0 a1 = some r) :
    Gives false Tryz.prog 8 [v_a0, v_a1] w (.bool r) := by
  have hST := ST.start (dd := false) w
  unfold m_law22_GraphHolds at hm
  refine calls_of_CW (n := 44) Tryz.func8 rfl rfl (Nat.le_of_ble_eq_true rfl) ?_
  refine CW_seq ?_
  refine CW_region ?_
  refine LW_v (.inl rfl) rfl (by decide) (R_assign (v := (.bool false)) rfl) ?_
  refine LW_nil ?_
  refine sq_n ?_
  refine CW_seq ?_
  refine CW_seq ?_
  refine CW_region ?_
  obtain ⟨r1, hr2, hm⟩ := bind_some hm
  refine LW_e (.inl rfl) rfl (by decide) (E_gives (args := []) hST rfl Tryz.call15 (by exact args0 ) (Gives.weak (w_law22_first  _ _  hr2)) (fun W3 hST => ?_))
  refine LW_v (.inl rfl) rfl (by decide) (R_not (b := r1) rfl) ?_
  refine LW_nil ?_
  refine sq_n ?_
  refine CW_if (b := (!r1)) rfl (fun hb4 => ?_) (fun hb4 => ?_)
  · replace hm := if_t hb4 hm
    refine CW_seq ?_
    refine CW_region ?_
    refine LW_v (.inl rfl) rfl (by decide) (R_assign (v := (.bool false)) rfl) ?_
    refine LW_nil ?_
    refine sq_n ?_
    refine CW_ret ?_
    refine sq_r ?_
    replace hm := Option.some.inj hm; subst hm
    refine retQ_1 (v := (.bool false)) rfl rfl ?_
    exact ⟨rfl, hST.ex⟩
  · replace hm := if_f hb4 hm
    refine CW_skip ?_
    refine sq_n ?_
    refine CW_seq ?_
    refine CW_seq ?_
    refine CW_region ?_
    refine LW_v (.inl rfl) rfl (by decide) (R_move (v := v_a0) rfl) ?_
    obtain ⟨r5, hr6, hm⟩ := bind_some hm
    refine LW_e (.inl rfl) rfl (by decide) (E_gives (args := [v_a0]) hST rfl Tryz.call16 (by exact args1 rfl) (Gives.weak (w_law05_Great v_a0 a0 _ _ (h_a0.mono (Pl.mono _) hST.sub_hp) hr6)) (fun W7 hST => ?_))
    refine LW_v (.inl rfl) rfl (by decide) (R_int (k := .i64) (a := r5) (b := 1500) (v := (.bool ((decide (r5 > 1500))))) rfl rfl rfl) ?_
    refine LW_v (.inl rfl) rfl (by decide) (R_move (v := (.bool ((decide (r5 > 1500))))) rfl) ?_
    obtain ⟨s882, hm883, hm884⟩ := bind_some hm
    refine LW_join (J := fun E W => ∃ (x12 : Bool) (L13 : List (Nat × Obj)), ST false NoF w W (hp w) L13 ∧ E 0 = v_a0 ∧ E 1 = v_a1 ∧ E 17 = (.bool x12) ∧ (if x12 then some true else (((m_model_Of a0)).bind fun r19 => (((m_graph_New a0 a1)).bind fun r44 => (((m_graph_Graph_Relevant r44.1 r44.2.1 r44.2.2.1 r44.2.2.2)).bind fun r67 => (((m_model_Of r67)).bind fun r75 => m_law22_GraphHolds_L1 r19 r75 a1))))) = some r) 3 ?_ (fun key885 => ?_)
    · rintro E W ⟨x12, L13, hST, e15, e16, e17, hm14⟩
      refine LW_nil ?_
      refine sq_n ?_
      refine CW_if (b := x12) e17 (fun hb18 => ?_) (fun hb18 => ?_)
      · replace hm14 := if_t hb18 hm14
        refine CW_seq ?_
        refine CW_region ?_
        refine LW_v (.inl rfl) rfl (by decide) (R_assign (v := (.bool true)) rfl) ?_
        refine LW_nil ?_
        refine sq_n ?_
        refine CW_ret ?_
        refine sq_r ?_
        replace hm14 := Option.some.inj hm14; subst hm14
        refine retQ_1 (v := (.bool true)) rfl rfl ?_
        exact ⟨rfl, hST.ex⟩
      · replace hm14 := if_f hb18 hm14
        refine CW_skip ?_
        refine sq_n ?_
        refine CW_seq ?_
        refine CW_region ?_
        refine LW_v (.inl rfl) rfl (by decide) (R_move (v := v_a0) e15) ?_
        obtain ⟨r19, hr20, hm14⟩ := bind_some hm14
        have hsz := hST.size
        refine LW_e (.inl rfl) rfl (by decide) (E_callM (args := [v_a0]) (caps := #[]) [] L13 hST (List.Perm.refl _) rfl Tryz.call31 (by exact args1 rfl) (fun _ _ _ _ => (w_model_Of v_a0 a0 _ _ (h_a0.mono (Pl.mono _) hST.sub_hp) hr20)) (fun W21 v24 μ22 L26 hST hle23 hlift hK25 => ?_))
        obtain ⟨b27, y28, S29, y31, S32, y34, S35, y37, S38, y40, S41, hv43, rfl, hy30, hy33, hy36, hy39, hy42⟩ := hK25
        replace hv43 := hv43.symm; subst hv43
        simp only [List.append_assoc, List.cons_append, List.nil_append] at hST
        refine LW_v (.inl rfl) rfl (by decide) (R_move (v := v_a0) e15) ?_
        refine LW_v (.inl rfl) rfl (by decide) (R_move (v := v_a1) e16) ?_
        replace hST : ST false NoF w _ _ ((b27, Obj.cells (#[y28, y31, y34, y37, y40, (.int .i64 (r19.2.2.2.2.2))] : Array Value) 134 (0, 0)) :: (S29 ++ (S32 ++ (S35 ++ (S38 ++ (S41 ++ L13)))))) := hST
        obtain ⟨r44, hr45, hm14⟩ := bind_some hm14
        have hsz := hST.size
        refine LW_e (.inl rfl) rfl (by decide) (E_callM (args := [v_a0, v_a1]) (caps := #[]) [] (((b27, Obj.cells (#[y28, y31, y34, y37, y40, (.int .i64 (r19.2.2.2.2.2))] : Array Value) 134 (0, 0)) :: (S29 ++ (S32 ++ (S35 ++ (S38 ++ (S41 ++ L13))))))) hST (List.Perm.refl _) rfl Tryz.call19 (by exact args2 rfl rfl) (fun _ _ _ _ => GivesM.weak (w_graph_New v_a0 a0 v_a1 a1 _ _ (h_a0.mono (Pl.mono _) (hle23.trans hST.sub_hp)) (h_a1.mono (Pl.mono _) (hle23.trans hST.sub_hp)) hr45)) (fun W46 v49 μ47 L51 hST hle48 hlift hK50 => ?_))
        obtain ⟨b52, y53, y57, S58, y60, S61, y63, S64, hv66, rfl, hy54, hf55, hy59, hy62, hy65⟩ := hK50
        replace hv66 := hv66.symm; subst hv66
        have hs56 := hy54.lift hf55 hlift
        replace hf55 := hf55.mono hsz
        simp only [List.append_assoc, List.cons_append, List.nil_append] at hST
        replace hST : ST false NoF w _ _ ((b52, Obj.cells (#[y53, y57, y60, y63] : Array Value) 122 (0, 0)) :: ((b27, Obj.cells (#[y28, y31, y34, y37, y40, (.int .i64 (r19.2.2.2.2.2))] : Array Value) 134 (0, 0)) :: (S58 ++ (S61 ++ (S64 ++ (S29 ++ (S32 ++ (S35 ++ (S38 ++ (S41 ++ L13)))))))))) := hST.perm (permD [[(b52, Obj.cells (#[y53, y57, y60, y63] : Array Value) 122 (0, 0))], S58, S61, S64, [(b27, Obj.cells (#[y28, y31, y34, y37, y40, (.int .i64 (r19.2.2.2.2.2))] : Array Value) 134 (0, 0))]] [0, 1, 2, 3, 4] [0, 4, 1, 2, 3] ((S29 ++ (S32 ++ (S35 ++ (S38 ++ (S41 ++ L13)))))) (by decide) rfl rfl)
        obtain ⟨r67, hr68, hm14⟩ := bind_some hm14
        refine LW_e (.inl rfl) rfl (by decide) (E_givesRow (args := [(.pointer (some ⟨b52, 0, none⟩))]) [_, _] _ hST rfl Tryz.call25 (by exact args1 rfl) (GivesRow.weak (w_graph_Graph_Relevant b52 y53 r44.1 y57 r44.2.1 y60 r44.2.2.1 y63 r44.2.2.2 _ _ (hs56.mono (Pl.mono _) hST.sub_hp) (hy59.at (fun b o hq => hST.at_ (.tail _ (.tail _ (List.mem_append_left _ hq))))) (hy62.at (fun b o hq => hST.at_ (.tail _ (.tail _ (List.mem_append_right _ (List.mem_append_left _ hq)))))) (hy65.at (fun b o hq => hST.at_ (.tail _ (.tail _ (List.mem_append_right _ (List.mem_append_right _ (List.mem_append_left _ hq))))))) (At.of (hST.at_ (.head _)) _ rfl) hr68)) (fun W69 v72 μ70 R73 hST hle71 hR74 => ?_))
        replace hST : ST false NoF w _ _ ((b52, Obj.cells (#[y53, y57, y60, y63] : Array Value) 122 (0, 0)) :: ((b27, Obj.cells (#[y28, y31, y34, y37, y40, (.int .i64 (r19.2.2.2.2.2))] : Array Value) 134 (0, 0)) :: (R73 ++ (S58 ++ (S61 ++ (S64 ++ (S29 ++ (S32 ++ (S35 ++ (S38 ++ (S41 ++ L13))))))))))) := hST
        obtain ⟨r75, hr76, hm14⟩ := bind_some hm14
        have hsz := hST.size
        refine LW_e (.inl rfl) rfl (by decide) (E_callM (args := [v72]) (caps := #[]) [] (((b52, Obj.cells (#[y53, y57, y60, y63] : Array Value) 122 (0, 0)) :: ((b27, Obj.cells (#[y28, y31, y34, y37, y40, (.int .i64 (r19.2.2.2.2.2))] : Array Value) 134 (0, 0)) :: (R73 ++ (S58 ++ (S61 ++ (S64 ++ (S29 ++ (S32 ++ (S35 ++ (S38 ++ (S41 ++ L13)))))))))))) hST (List.Perm.refl _) rfl Tryz.call31 (by exact args1 rfl) (fun _ _ _ _ => (w_model_Of v72 r67 _ _ (hR74.sl lenCred (fun b o hq => hST.at_ (.tail _ (.tail _ (List.mem_append_left _ hq))))) hr76)) (fun W77 v80 μ78 L82 hST hle79 hlift hK81 => ?_))
        obtain ⟨b83, y84, S85, y87, S88, y90, S91, y93, S94, y96, S97, hv99, rfl, hy86, hy89, hy92, hy95, hy98⟩ := hK81
        replace hv99 := hv99.symm; subst hv99
        simp only [List.append_assoc, List.cons_append, List.nil_append] at hST
        replace hST : ST false NoF w _ _ ((b83, Obj.cells (#[y84, y87, y90, y93, y96, (.int .i64 (r75.2.2.2.2.2))] : Array Value) 134 (0, 0)) :: ((b52, Obj.cells (#[y53, y57, y60, y63] : Array Value) 122 (0, 0)) :: ((b27, Obj.cells (#[y28, y31, y34, y37, y40, (.int .i64 (r19.2.2.2.2.2))] : Array Value) 134 (0, 0)) :: (S85 ++ (S88 ++ (S91 ++ (S94 ++ (S97 ++ (R73 ++ (S58 ++ (S61 ++ (S64 ++ (S29 ++ (S32 ++ (S35 ++ (S38 ++ (S41 ++ L13))))))))))))))))) := hST.perm (permD [[(b83, Obj.cells (#[y84, y87, y90, y93, y96, (.int .i64 (r75.2.2.2.2.2))] : Array Value) 134 (0, 0))], S85, S88, S91, S94, S97, [(b52, Obj.cells (#[y53, y57, y60, y63] : Array Value) 122 (0, 0))], [(b27, Obj.cells (#[y28, y31, y34, y37, y40, (.int .i64 (r19.2.2.2.2.2))] : Array Value) 134 (0, 0))]] [0, 1, 2, 3, 4, 5, 6, 7] [0, 6, 7, 1, 2, 3, 4, 5] ((R73 ++ (S58 ++ (S61 ++ (S64 ++ (S29 ++ (S32 ++ (S35 ++ (S38 ++ (S41 ++ L13)))))))))) (by decide) rfl rfl)
        refine LW_v (.inl rfl) rfl (by decide) (R_assign (v := (.pointer (some ⟨b27, 0, none⟩))) rfl) ?_
        refine LW_v (.inl rfl) rfl (by decide) (R_assign (v := (.pointer (some ⟨b83, 0, none⟩))) rfl) ?_
        refine LW_nil ?_
        refine sq_n ?_
        replace hST : ST false NoF w _ _ ((b83, Obj.cells (#[y84, y87, y90, y93, y96, (.int .i64 (r75.2.2.2.2.2))] : Array Value) 134 (0, 0)) :: ((b27, Obj.cells (#[y28, y31, y34, y37, y40, (.int .i64 (r19.2.2.2.2.2))] : Array Value) 134 (0, 0)) :: (S85 ++ (S88 ++ (S91 ++ (S94 ++ (S97 ++ (S29 ++ (S32 ++ (S35 ++ (S38 ++ (S41 ++ L13)))))))))))) := hST.sublist (List.Sublist.cons_cons _ (List.Sublist.cons _ (List.Sublist.cons_cons _ (List.Sublist.append (List.Sublist.refl _) (List.Sublist.append (List.Sublist.refl _) (List.Sublist.append (List.Sublist.refl _) (List.Sublist.append (List.Sublist.refl _) (List.Sublist.append (List.Sublist.refl _) (((((List.Sublist.refl _).trans (List.sublist_append_right _ _)).trans (List.sublist_append_right _ _)).trans (List.sublist_append_right _ _)).trans (List.sublist_append_right _ _))))))))))
        refine CW_seq ?_
        refine CW_seq ?_
        refine CW_region ?_
        refine LW_v (.inl rfl) rfl (by decide) (R_move (v := v_a1) e16) ?_
        refine LW_v (.inl rfl) rfl (by decide) (R_len Tryz.underlying23 rfl h_a1) ?_
        refine LW_v (.inl rfl) rfl (by decide) (R_move (v := (.int .i64 0)) rfl) ?_
        refine LW_nil ?_
        refine sq_n ?_
        refine CW_range (fun i E W => ∃  (μ622 : Mem) (L752 : List (Nat × Obj)), (E 27 = .int .i64 (i : Nat) ∧ E 26 = .int .i64 (a1.length : Nat)) ∧ Sub μ78 μ622 ∧ ST false NoF w W μ622 ((b83, Obj.cells (#[y84, y87, y90, y93, y96, (.int .i64 r75.2.2.2.2.2)] : Array Value) 134 (0, 0)) :: ((b27, Obj.cells (#[y28, y31, y34, y37, y40, (.int .i64 r19.2.2.2.2.2)] : Array Value) 134 (0, 0)) :: (S85 ++ (S88 ++ (S91 ++ (S94 ++ (S97 ++ (S29 ++ (S32 ++ (S35 ++ (S38 ++ (S41 ++ L752)))))))))))) ∧ E 5 = (.pointer (some ⟨b27, 0, none⟩)) ∧ E 6 = (.pointer (some ⟨b83, 0, none⟩)) ∧ E 25 = v_a1 ∧ m_law22_GraphHolds_L1 r19 r75 (a1.drop i) = some r) a1.length h_a1.len ⟨μ78, _, ⟨rfl, rfl⟩, (Sub.refl _), (hST.sublist (List.Sublist.refl _)), rfl, rfl, rfl, hm14⟩ (by decide) (by decide) (by decide) (fun _ _ _ h => by obtain ⟨_, _, eIN, _⟩ := h; exact eIN) ?_ ?_
        · rintro i491 E W hi497 ⟨μ622, L752, ⟨eI, eN⟩, hle754, hST, e755, e756, e757, hm753⟩
          obtain ⟨x492, xs493, hx495, hx494, hx496⟩ := drop_cons hi497
          rw [hx495] at hm753
          rw [m_law22_GraphHolds_L1] at hm753
          refine CW_block ?_
          refine CW_seq ?_
          refine CW_region ?_
          refine LW_q (.inl rfl) rfl (by decide) (R_indexP (enc := encRole) (i := (i491 : Int)) (x0 := x492) Tryz.underlying23 Tryz.sizeOf47 e757 eI (h_a1.mono (Pl.mono _) ((((hle23.trans hle48).trans hle71).trans hle79).trans hle754)) (Int.natCast_nonneg _) hx494) (fun p758 hp759 => ?_)
          refine LW_v (.inl rfl) rfl (by decide) (R_load rfl (load_atA hST.has hp759 Tryz.isAgg47 Tryz.sizeOf47)) ?_
          refine LW_e (.inl rfl) rfl (by decide) (E_alloc hST Tryz.zeroValue47 (fun W762 b761 hST => ?_))
          refine LW_e0 (.inl rfl) rfl (E_store [] (.agg (encRole x492).toArray) ((encRole x492).toArray) hST rfl rfl Tryz.sizeOf47 (oneRole x492) (Nat.le_of_ble_eq_true rfl) rfl (fun W763 hST => ?_))
          refine LW_nil ?_
          refine sq_n ?_
          refine CW_seq ?_
          refine PX_start (fun l W => Has μ622 ((b761, Obj.cells ((encRole x492).toArray : Array Value) 47 (0, 0)) :: []) W) Tryz_mixed ?_
          replace hST := hST.drew
          replace hST : ST false NoF w _ _ ((b761, Obj.cells ((encRole x492).toArray : Array Value) 47 (0, 0)) :: ((b83, Obj.cells (#[y84, y87, y90, y93, y96, (.int .i64 r75.2.2.2.2.2)] : Array Value) 134 (0, 0)) :: ((b27, Obj.cells (#[y28, y31, y34, y37, y40, (.int .i64 r19.2.2.2.2.2)] : Array Value) 134 (0, 0)) :: (S85 ++ (S88 ++ (S91 ++ (S94 ++ (S97 ++ (S29 ++ (S32 ++ (S35 ++ (S38 ++ (S41 ++ L752))))))))))))) := hST
          have hS0 : Has μ622 ((b761, Obj.cells ((encRole x492).toArray : Array Value) 47 (0, 0)) :: []) _ := hST.has.sub (Sub.refl _) (fun p hq => ((List.mem_cons.1 hq).elim (fun hq => by rw [hq]; exact (.head _)) (fun hq => (absurd hq List.not_mem_nil))))
          refine PX_v 0 rfl (by kernel_rfl) (.inl rfl) rfl (by decide) (fun _ _ h => h) hS0 (fun _ _ _ _ => R_move (v := (.pointer (some ⟨b27, 0, none⟩))) e755) ?_
          refine PX_v 1 rfl (by kernel_rfl) (.inl rfl) rfl (by decide) (fun _ _ h => h) hS0 (fun l W hpd hs => have hS := hs; R_load (v := (.agg (encRole x492).toArray)) rfl (load_boxA hS (.head _) (encRole x492) rfl Tryz.isAgg47 Tryz.sizeOf47)) ?_
          refine PX_v 3 rfl (by kernel_rfl) (.inl rfl) rfl (by decide) (fun _ _ h => h) hS0 (fun _ _ _ _ => R_move (v := (.pointer (some ⟨b83, 0, none⟩))) e756) ?_
          refine PX_v 4 rfl (by kernel_rfl) (.inl rfl) rfl (by decide) (fun _ _ h => h) hS0 (fun l W hpd hs => have hS := hs; R_load (v := (.agg (encRole x492).toArray)) rfl (load_boxA hS (.head _) (encRole x492) rfl Tryz.isAgg47 Tryz.sizeOf47)) ?_
          obtain ⟨r842, hr843, hm753⟩ := bind_some hm753
          refine PX_e 2 rfl (by kernel_rfl) (.inl rfl) rfl (by decide) (E_givesRow (args := [(.pointer (some ⟨b27, 0, none⟩)), (.agg (encRole x492).toArray)]) [_, _, _] _ hST rfl Tryz.call37 (by exact args2 rfl rfl) ((w_model_Model_Members b27 y28 r19.1 y31 r19.2.1 y34 r19.2.2.1 y37 r19.2.2.2.1 y40 r19.2.2.2.2.1 r19.2.2.2.2.2 x492 _ _ (hy30.at (fun b o hq => hST.at_ (.tail _ (.tail _ (.tail _ (List.mem_append_right _ (List.mem_append_right _ (List.mem_append_right _ (List.mem_append_right _ (List.mem_append_right _ (List.mem_append_left _ hq))))))))))) (hy33.sl lenCred (fun b o hq => hST.at_ (.tail _ (.tail _ (.tail _ (List.mem_append_right _ (List.mem_append_right _ (List.mem_append_right _ (List.mem_append_right _ (List.mem_append_right _ (List.mem_append_right _ (List.mem_append_left _ hq)))))))))))) (hy36.at (fun b o hq => hST.at_ (.tail _ (.tail _ (.tail _ (List.mem_append_right _ (List.mem_append_right _ (List.mem_append_right _ (List.mem_append_right _ (List.mem_append_right _ (List.mem_append_right _ (List.mem_append_right _ (List.mem_append_left _ hq))))))))))))) (hy39.at (fun b o hq => hST.at_ (.tail _ (.tail _ (.tail _ (List.mem_append_right _ (List.mem_append_right _ (List.mem_append_right _ (List.mem_append_right _ (List.mem_append_right _ (List.mem_append_right _ (List.mem_append_right _ (List.mem_append_right _ (List.mem_append_left _ hq)))))))))))))) ((hy42.slL lenFact).mono (Pl.mono _) (memL_held (fun b o hq => hST.at_ (.tail _ (.tail _ (.tail _ (List.mem_append_right _ (List.mem_append_right _ (List.mem_append_right _ (List.mem_append_right _ (List.mem_append_right _ (List.mem_append_right _ (List.mem_append_right _ (List.mem_append_right _ (List.mem_append_right _ (List.mem_append_left _ hq)))))))))))))))) (At.of (hST.at_ (.tail _ (.tail _ (.head _)))) _ rfl) hr843)) (fun W844 v847 μ845 R848 hST hle846 hR849 => ?_))
          replace hST : ST false NoF w _ _ ((b761, Obj.cells ((encRole x492).toArray : Array Value) 47 (0, 0)) :: ((b83, Obj.cells (#[y84, y87, y90, y93, y96, (.int .i64 r75.2.2.2.2.2)] : Array Value) 134 (0, 0)) :: ((b27, Obj.cells (#[y28, y31, y34, y37, y40, (.int .i64 r19.2.2.2.2.2)] : Array Value) 134 (0, 0)) :: (R848 ++ (S85 ++ (S88 ++ (S91 ++ (S94 ++ (S97 ++ (S29 ++ (S32 ++ (S35 ++ (S38 ++ (S41 ++ L752)))))))))))))) := hST
          have hS0 : Has μ622 ((b761, Obj.cells ((encRole x492).toArray : Array Value) 47 (0, 0)) :: []) _ := hST.has.sub hle846 (fun p hq => ((List.mem_cons.1 hq).elim (fun hq => by rw [hq]; exact (.head _)) (fun hq => (absurd hq List.not_mem_nil))))
          refine ⟨hS0, ?_⟩
          obtain ⟨r850, hr851, hm753⟩ := bind_some hm753
          refine PX_e 5 rfl (by kernel_rfl) (.inl rfl) rfl (by decide) (E_givesRow (args := [(.pointer (some ⟨b83, 0, none⟩)), (.agg (encRole x492).toArray)]) [_, _, _] _ hST rfl Tryz.call37 (by exact args2 rfl rfl) ((w_model_Model_Members b83 y84 r75.1 y87 r75.2.1 y90 r75.2.2.1 y93 r75.2.2.2.1 y96 r75.2.2.2.2.1 r75.2.2.2.2.2 x492 _ _ (hy86.at (fun b o hq => hST.at_ (.tail _ (.tail _ (.tail _ (List.mem_append_right _ (List.mem_append_left _ hq))))))) (hy89.sl lenCred (fun b o hq => hST.at_ (.tail _ (.tail _ (.tail _ (List.mem_append_right _ (List.mem_append_right _ (List.mem_append_left _ hq)))))))) (hy92.at (fun b o hq => hST.at_ (.tail _ (.tail _ (.tail _ (List.mem_append_right _ (List.mem_append_right _ (List.mem_append_right _ (List.mem_append_left _ hq))))))))) (hy95.at (fun b o hq => hST.at_ (.tail _ (.tail _ (.tail _ (List.mem_append_right _ (List.mem_append_right _ (List.mem_append_right _ (List.mem_append_right _ (List.mem_append_left _ hq)))))))))) ((hy98.slL lenFact).mono (Pl.mono _) (memL_held (fun b o hq => hST.at_ (.tail _ (.tail _ (.tail _ (List.mem_append_right _ (List.mem_append_right _ (List.mem_append_right _ (List.mem_append_right _ (List.mem_append_right _ (List.mem_append_left _ hq)))))))))))) (At.of (hST.at_ (.tail _ (.head _))) _ rfl) hr851)) (fun W852 v855 μ853 R856 hST hle854 hR857 => ?_))
          replace hST : ST false NoF w _ _ ((b761, Obj.cells ((encRole x492).toArray : Array Value) 47 (0, 0)) :: ((b83, Obj.cells (#[y84, y87, y90, y93, y96, (.int .i64 r75.2.2.2.2.2)] : Array Value) 134 (0, 0)) :: ((b27, Obj.cells (#[y28, y31, y34, y37, y40, (.int .i64 r19.2.2.2.2.2)] : Array Value) 134 (0, 0)) :: (R856 ++ (R848 ++ (S85 ++ (S88 ++ (S91 ++ (S94 ++ (S97 ++ (S29 ++ (S32 ++ (S35 ++ (S38 ++ (S41 ++ L752))))))))))))))) := hST
          have hS0 : Has μ622 ((b761, Obj.cells ((encRole x492).toArray : Array Value) 47 (0, 0)) :: []) _ := hST.has.sub (hle846.trans hle854) (fun p hq => ((List.mem_cons.1 hq).elim (fun hq => by rw [hq]; exact (.head _)) (fun hq => (absurd hq List.not_mem_nil))))
          refine ⟨hS0, ?_⟩
          obtain ⟨r858, hr859, hm753⟩ := bind_some hm753
          refine PX_e 6 rfl (by kernel_rfl) (.inl rfl) rfl (by decide) (E_gives (args := [v847, v855]) hST rfl Tryz.call22 (by exact args2 rfl rfl) (Gives.weak (w_ref03_Same v847 r842 v855 r850 _ _ (hR849.sl (fun _ => rfl) (fun b o hq => hST.at_ (.tail _ (.tail _ (.tail _ (List.mem_append_right _ (List.mem_append_left _ hq))))))) (hR857.sl (fun _ => rfl) (fun b o hq => hST.at_ (.tail _ (.tail _ (.tail _ (List.mem_append_left _ hq)))))) hr859)) (fun W860 hST => ?_))
          have hS0 : Has μ622 ((b761, Obj.cells ((encRole x492).toArray : Array Value) 47 (0, 0)) :: []) _ := hST.has.sub (hle846.trans hle854) (fun p hq => ((List.mem_cons.1 hq).elim (fun hq => by rw [hq]; exact (.head _)) (fun hq => (absurd hq List.not_mem_nil))))
          refine ⟨hS0, ?_⟩
          refine PX_v 7 rfl (by kernel_rfl) (.inl rfl) rfl (by decide) (fun _ _ h => h) hS0 (fun _ _ _ _ => R_not (b := r858) rfl) ?_
          refine PX_v 8 rfl (by kernel_rfl) (.inl rfl) rfl (by decide) (fun _ _ h => h) hS0 (fun _ _ _ _ => R_move (v := (.bool ((!r858)))) rfl) ?_
          obtain ⟨s875, hm876, hm877⟩ := bind_some hm753
          refine PX_join (J := fun E W => ∃ (x865 : Bool) (L866 : List (Nat × Obj)), ST false NoF w W μ853 ((b761, Obj.cells ((encRole x492).toArray : Array Value) 47 (0, 0)) :: ((b83, Obj.cells (#[y84, y87, y90, y93, y96, (.int .i64 r75.2.2.2.2.2)] : Array Value) 134 (0, 0)) :: ((b27, Obj.cells (#[y28, y31, y34, y37, y40, (.int .i64 r19.2.2.2.2.2)] : Array Value) 134 (0, 0)) :: (S85 ++ (S88 ++ (S91 ++ (S94 ++ (S97 ++ (S29 ++ (S32 ++ (S35 ++ (S38 ++ (S41 ++ L866))))))))))))) ∧ E 5 = (.pointer (some ⟨b27, 0, none⟩)) ∧ E 6 = (.pointer (some ⟨b83, 0, none⟩)) ∧ E 25 = v_a1 ∧ E 26 = (.int .i64 ((a1.length : Int))) ∧ E 27 = (.int .i64 ((i491 : Int))) ∧ E 42 = (.bool x865) ∧ (if x865 then some false else (m_law22_GraphHolds_L1 r19 r75 xs493)) = some r) #[true, true, true, true, true, true, true, true, true, true, true, true] 0 ?_ (fun key878 => ?_)
          · rintro E W ⟨x865, L866, hST, e868, e869, e870, e871, e872, e873, hm867⟩
            have hS0 : Has μ622 ((b761, Obj.cells ((encRole x492).toArray : Array Value) 47 (0, 0)) :: []) _ := hST.has.sub (hle846.trans hle854) (fun p hq => ((List.mem_cons.1 hq).elim (fun hq => by rw [hq]; exact (.head _)) (fun hq => (absurd hq List.not_mem_nil))))
            refine PX_done (by kernel_rfl) ?_
            refine sq_n ?_
            replace hST : ST false NoF w _ _ ((b83, Obj.cells (#[y84, y87, y90, y93, y96, (.int .i64 r75.2.2.2.2.2)] : Array Value) 134 (0, 0)) :: ((b27, Obj.cells (#[y28, y31, y34, y37, y40, (.int .i64 r19.2.2.2.2.2)] : Array Value) 134 (0, 0)) :: (S85 ++ (S88 ++ (S91 ++ (S94 ++ (S97 ++ (S29 ++ (S32 ++ (S35 ++ (S38 ++ (S41 ++ L866)))))))))))) := hST.sublist (List.Sublist.cons _ (List.Sublist.refl _))
            refine CW_if (b := x865) e873 (fun hb874 => ?_) (fun hb874 => ?_)
            · replace hm867 := if_t hb874 hm867
              refine CW_seq ?_
              refine CW_region ?_
              refine LW_v (.inl rfl) rfl (by decide) (R_assign (v := (.bool false)) rfl) ?_
              refine LW_nil ?_
              refine sq_n ?_
              replace hST : ST false NoF w _ _ L866 := hST.sublist (List.Sublist.cons _ (List.Sublist.cons _ (((((((((((List.Sublist.refl _).trans (List.sublist_append_right _ _)).trans (List.sublist_append_right _ _)).trans (List.sublist_append_right _ _)).trans (List.sublist_append_right _ _)).trans (List.sublist_append_right _ _)).trans (List.sublist_append_right _ _)).trans (List.sublist_append_right _ _)).trans (List.sublist_append_right _ _)).trans (List.sublist_append_right _ _)).trans (List.sublist_append_right _ _))))
              refine CW_ret ?_
              refine bq_r (sq_r (bq_r (sq_r ?_)))
              replace hm867 := Option.some.inj hm867; subst hm867
              refine retQ_1 (v := (.bool false)) rfl rfl ?_
              exact ⟨rfl, hST.ex⟩
            · replace hm867 := if_f hb874 hm867
              refine CW_skip ?_
              refine bq_n ?_
              refine sq_n ?_
              exact ⟨e872, μ853, _, ⟨rfl, e871⟩, ((hle754.trans hle846).trans hle854), (hST.sublist (List.Sublist.refl _)), e868, e869, e870, (by rw [hx496]; exact hm867)⟩
          · rcases bool_cases ((!r858)) with hb861 | hb861
            · replace hm876 := if_t hb861 hm876
              refine PX_v 9 rfl (by kernel_rfl) (.inr ⟨8, true, 39, rfl, rfl, by decide, (congrArg Value.bool hb861)⟩) rfl (by decide) (fun _ _ h => h) hS0 (fun l W hpd hs => have hS := hs; R_load (v := (.agg (encRole x492).toArray)) rfl (load_boxA hS (.head _) (encRole x492) rfl Tryz.isAgg47 Tryz.sizeOf47)) ?_
              obtain ⟨r879, hr880, hm876⟩ := bind_some hm876
              refine PX_e 10 rfl (by kernel_rfl) (.inr ⟨8, true, 39, rfl, rfl, by decide, (congrArg Value.bool hb861)⟩) rfl (by decide) (E_gives (args := [(.agg (encRole x492).toArray)]) hST rfl Tryz.call51 (by exact args1 rfl) (Gives.weak (w_ref04_Right x492 _ _  hr880)) (fun W881 hST => ?_))
              have hS0 : Has μ622 ((b761, Obj.cells ((encRole x492).toArray : Array Value) 47 (0, 0)) :: []) _ := hST.has.sub (hle846.trans hle854) (fun p hq => ((List.mem_cons.1 hq).elim (fun hq => by rw [hq]; exact (.head _)) (fun hq => (absurd hq List.not_mem_nil))))
              refine ⟨hS0, ?_⟩
              refine PX_v 11 rfl (by kernel_rfl) (.inl rfl) rfl (by decide) (fun _ _ h => h) hS0 (fun _ _ _ _ => R_pickT (v := (.bool r879)) (congrArg Value.bool hb861) rfl) ?_
              replace hm876 := Option.some.inj hm876; subst hm876
              refine PX_at (by kernel_rfl) (key878 _ _ ⟨r879, _, (hST.sublist (List.Sublist.cons_cons _ (List.Sublist.cons_cons _ (List.Sublist.cons_cons _ (((List.Sublist.refl _).trans (List.sublist_append_right _ _)).trans (List.sublist_append_right _ _)))))), e755, e756, e757, eN, eI, rfl, hm877⟩)
            · replace hm876 := if_f hb861 hm876
              refine PX_no 9 rfl (by kernel_rfl) rfl rfl (by decide) (congrArg Value.bool hb861) rfl (by decide) (fun _ _ h => h) hS0 ?_
              refine PX_no 10 rfl (by kernel_rfl) rfl rfl (by decide) (congrArg Value.bool hb861) rfl (by decide) (fun _ _ h => h) hS0 ?_
              refine PX_v 11 rfl (by kernel_rfl) (.inl rfl) rfl (by decide) (fun _ _ h => h) hS0 (fun _ _ _ _ => R_pickF (v := (.bool false)) (congrArg Value.bool hb861) rfl) ?_
              replace hm876 := Option.some.inj hm876; subst hm876
              refine PX_at (by kernel_rfl) (key878 _ _ ⟨false, _, (hST.sublist (List.Sublist.cons_cons _ (List.Sublist.cons_cons _ (List.Sublist.cons_cons _ (((List.Sublist.refl _).trans (List.sublist_append_right _ _)).trans (List.sublist_append_right _ _)))))), e755, e756, e757, eN, eI, rfl, hm877⟩)
        · rintro E W ⟨μ622, L752, ⟨eI, eN⟩, hle754, hST, e755, e756, e757, hm753⟩
          rw [List.drop_length] at hm753
          rw [m_law22_GraphHolds_L1] at hm753
          refine sq_n ?_
          replace hST : ST false NoF w _ _ L752 := hST.sublist (List.Sublist.cons _ (List.Sublist.cons _ (((((((((((List.Sublist.refl _).trans (List.sublist_append_right _ _)).trans (List.sublist_append_right _ _)).trans (List.sublist_append_right _ _)).trans (List.sublist_append_right _ _)).trans (List.sublist_append_right _ _)).trans (List.sublist_append_right _ _)).trans (List.sublist_append_right _ _)).trans (List.sublist_append_right _ _)).trans (List.sublist_append_right _ _)).trans (List.sublist_append_right _ _))))
          refine CW_seq ?_
          refine CW_region ?_
          refine LW_v (.inl rfl) rfl (by decide) (R_assign (v := (.bool true)) rfl) ?_
          refine LW_nil ?_
          refine sq_n ?_
          refine CW_ret ?_
          replace hm753 := Option.some.inj hm753; subst hm753
          refine retQ_1 (v := (.bool true)) rfl rfl ?_
          exact ⟨rfl, hST.ex⟩
    · rcases bool_cases ((decide (r5 > 1500))) with hb8 | hb8
      · replace hm883 := if_t hb8 hm883
        refine LW_no rfl (by decide) rfl rfl (by decide) (congrArg Value.bool hb8) ?_
        refine LW_no rfl (by decide) rfl rfl (by decide) (congrArg Value.bool hb8) ?_
        refine LW_v (.inl rfl) rfl (by decide) (R_pickT (v := (.bool true)) (congrArg Value.bool hb8) rfl) ?_
        replace hm883 := Option.some.inj hm883; subst hm883
        exact key885 _ _ ⟨true, _, (hST.sublist (List.Sublist.refl _)), rfl, rfl, rfl, hm884⟩
      · replace hm883 := if_f hb8 hm883
        refine LW_v (.inr ⟨3, false, 14, rfl, rfl, by decide, (congrArg Value.bool hb8)⟩) rfl (by decide) (R_move (v := v_a1) rfl) ?_
        obtain ⟨r886, hr887, hm883⟩ := bind_some hm883
        refine LW_e (.inr ⟨3, false, 14, rfl, rfl, by decide, (congrArg Value.bool hb8)⟩) rfl (by decide) (E_gives (args := [v_a1]) hST rfl Tryz.call17 (by exact args1 rfl) (Gives.weak (w_law22_great v_a1 a1 _ _ (h_a1.mono (Pl.mono _) hST.sub_hp) hr887)) (fun W888 hST => ?_))
        refine LW_v (.inl rfl) rfl (by decide) (R_pickF (v := (.bool r886)) (congrArg Value.bool hb8) rfl) ?_
        replace hm883 := Option.some.inj hm883; subst hm883
        exact key885 _ _ ⟨r886, _, (hST.sublist (List.Sublist.refl _)), rfl, rfl, rfl, hm884⟩
end Go.Proofs.YtfjdjbdnnoijgaaGreat
