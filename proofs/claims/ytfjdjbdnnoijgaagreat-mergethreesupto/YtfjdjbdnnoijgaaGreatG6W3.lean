/- a part of a proof of MergeThrees -/
import Derived.Test.YtfjdjbdnnoijgaaGreatG6W2
set_option linter.all false
namespace Go.Proofs.YtfjdjbdnnoijgaaGreat
open Go.RowKit
set_option maxRecDepth 10000
theorem w_merge_Three (v_a0 : Value) (a0 : List Cred) (v_a1 : Value) (a1 : List Cred) (v_a2 : Value) (a2 : List Cred) (r : List Cred) (w : World) (h_a0 : Sl (Pl encCred) 9 (hp w) v_a0 a0) (h_a1 : Sl (Pl encCred) 9 (hp w) v_a1 a1) (h_a2 : Sl (Pl encCred) 9 (hp w) v_a2 a2) (hm : m_merge_Three a0 a1 a2 = some r) :
    GivesRow true Tryz.prog 44 [v_a0, v_a1, v_a2] w 83 encCred 9 r := by
  have hST := ST.start (dd := true) w
  unfold m_merge_Three at hm
  refine calls_of_CW (n := 32) Tryz.func44 rfl rfl (Nat.le_of_ble_eq_true rfl) ?_
  refine CW_seq ?_
  refine CW_region ?_
  refine LV (R_assign (v := (.slice none 0 0)) rfl) ?_
  refine LW_nil ?_
  refine sq_n ?_
  refine CW_seq ?_
  refine CW_region ?_
  refine LV (R_move (v := v_a0) rfl) ?_
  refine LV (R_move (v := v_a1) rfl) ?_
  obtain ⟨r1, hr2, hm⟩ := bind_some hm
  have hsz := hST.size
  refine LE (E_callM (args := [v_a0, v_a1]) (caps := #[]) [] ([]) hST (List.Perm.refl _) rfl Tryz.call47 (by exact args2 rfl rfl) (fun _ _ _ _ => (w_merge_Diff v_a0 a0 v_a1 a1 _ _ (h_a0.mono (Pl.mono _) hST.sub_hp) (h_a1.mono (Pl.mono _) hST.sub_hp) hr2)) (fun W3 v6 μ4 L8 hST hle5 hlift hK7 => ?_))
  obtain ⟨y9, S10, y12, S13, hv15, rfl, hy11, hy14⟩ := hK7
  replace hv15 := hv15.symm; subst hv15
  simp only [List.append_assoc, List.cons_append, List.nil_append] at hST
  refine LV (R_move (v := v_a0) rfl) ?_
  refine LV (R_move (v := v_a2) rfl) ?_
  replace hST : ST true NoF w _ _ (S10 ++ (S13 ++ [])) := hST
  obtain ⟨r16, hr17, hm⟩ := bind_some hm
  have hsz := hST.size
  refine LE (E_callM (args := [v_a0, v_a2]) (caps := #[]) [] ((S10 ++ (S13 ++ []))) hST (List.Perm.refl _) rfl Tryz.call47 (by exact args2 rfl rfl) (fun _ _ _ _ => (w_merge_Diff v_a0 a0 v_a2 a2 _ _ (h_a0.mono (Pl.mono _) (hle5.trans hST.sub_hp)) (h_a2.mono (Pl.mono _) (hle5.trans hST.sub_hp)) hr17)) (fun W18 v21 μ19 L23 hST hle20 hlift hK22 => ?_))
  obtain ⟨y24, S25, y27, S28, hv30, rfl, hy26, hy29⟩ := hK22
  replace hv30 := hv30.symm; subst hv30
  simp only [List.append_assoc, List.cons_append, List.nil_append] at hST
  refine LE (E_alloc hST Tryz.zeroValue70 (fun W32 b31 hST => ?_))
  refine LE (E_alloc hST Tryz.zeroValue70 (fun W34 b33 hST => ?_))
  obtain ⟨A35, c36, rfl⟩ := hy11.form
  obtain ⟨A37, c38, rfl⟩ := hy14.form
  refine LW_e0 (.inl rfl) rfl (E_store [_] (.agg #[(.slice A35 r1.1.length c36), (.slice A37 r1.2.length c38)]) (#[(.slice A35 r1.1.length c36), (.slice A37 r1.2.length c38)]) hST rfl rfl Tryz.sizeOf70 (by simp [Value.cells, Value.oneCell']) (Nat.le_of_ble_eq_true rfl) rfl (fun W39 hST => ?_))
  obtain ⟨A40, c41, rfl⟩ := hy26.form
  obtain ⟨A42, c43, rfl⟩ := hy29.form
  refine LW_e0 (.inl rfl) rfl (E_store [] (.agg #[(.slice A40 r16.1.length c41), (.slice A42 r16.2.length c43)]) (#[(.slice A40 r16.1.length c41), (.slice A42 r16.2.length c43)]) hST rfl rfl Tryz.sizeOf70 (by simp [Value.cells, Value.oneCell']) (Nat.le_of_ble_eq_true rfl) rfl (fun W44 hST => ?_))
  refine LW_nil ?_
  refine sq_n ?_
  refine CW_seq ?_
  refine PX_start (fun l W => Has μ19 ((b33, Obj.cells (#[(.slice A40 r16.1.length c41), (.slice A42 r16.2.length c43)] : Array Value) 70 (0, 0)) :: ((b31, Obj.cells (#[(.slice A35 r1.1.length c36), (.slice A37 r1.2.length c38)] : Array Value) 70 (0, 0)) :: [])) W) Tryz_mixed ?_
  replace hST := hST.drew
  replace hST : ST true NoF w _ _ ((b33, Obj.cells (#[(.slice A40 r16.1.length c41), (.slice A42 r16.2.length c43)] : Array Value) 70 (0, 0)) :: ((b31, Obj.cells (#[(.slice A35 r1.1.length c36), (.slice A37 r1.2.length c38)] : Array Value) 70 (0, 0)) :: (S25 ++ (S28 ++ (S10 ++ (S13 ++ [])))))) := hST
  have hS0 : Has μ19 ((b33, Obj.cells (#[(.slice A40 r16.1.length c41), (.slice A42 r16.2.length c43)] : Array Value) 70 (0, 0)) :: ((b31, Obj.cells (#[(.slice A35 r1.1.length c36), (.slice A37 r1.2.length c38)] : Array Value) 70 (0, 0)) :: [])) _ := hST.has.sub (Sub.refl _) (fun p hq => ((List.mem_cons.1 hq).elim (fun hq => by rw [hq]; exact (.head _)) (fun hq => ((List.mem_cons.1 hq).elim (fun hq => by rw [hq]; exact (.tail _ (.head _))) (fun hq => (absurd hq List.not_mem_nil))))))
  refine PV 0 rfl hS0 (R_move (v := v_a0) rfl) ?_
  refine PV 1 rfl hS0 (R_field fa70_1 rfl) ?_
  refine PX_v 2 rfl (by kernel_rfl) (.inl rfl) rfl (by decide) (fun _ _ h => h) hS0 (fun l W hpd hs => have hS := hs; R_load (v := (.slice A37 r1.2.length c38)) rfl (load_box1 hS (.tail _ (.head _)) rfl Tryz.isAgg22)) ?_
  refine PV 3 rfl hS0 (R_field fa70_1 rfl) ?_
  refine PX_v 4 rfl (by kernel_rfl) (.inl rfl) rfl (by decide) (fun _ _ h => h) hS0 (fun l W hpd hs => have hS := hs; R_load (v := (.slice A42 r16.2.length c43)) rfl (load_box1 hS (.head _) rfl Tryz.isAgg22)) ?_
  refine PV 9 rfl hS0 (R_field fa70_0 rfl) ?_
  refine PX_v 10 rfl (by kernel_rfl) (.inl rfl) rfl (by decide) (fun _ _ h => h) hS0 (fun l W hpd hs => have hS := hs; R_load (v := (.slice A35 r1.1.length c36)) rfl (load_box1 hS (.tail _ (.head _)) rfl Tryz.isAgg22)) ?_
  refine PV 11 rfl hS0 (R_field fa70_0 rfl) ?_
  refine PX_v 12 rfl (by kernel_rfl) (.inl rfl) rfl (by decide) (fun _ _ h => h) hS0 (fun l W hpd hs => have hS := hs; R_load (v := (.slice A40 r16.1.length c41)) rfl (load_box1 hS (.head _) rfl Tryz.isAgg22)) ?_
  refine PX_two 5 13 rfl rfl (by kernel_rfl) (.inl rfl) (.inl rfl) rfl rfl (by decide) (by decide) ?_ ?_
  · refine E_buildSlice (qs := #[(0, (.slice A37 r1.2.length c38)), (1, (.slice A42 r16.2.length c43))]) (cs := #[(.slice A37 r1.2.length c38), (.slice A42 r16.2.length c43)]) hST (parts2 rfl rfl) (run_lit [(.slice A37 r1.2.length c38), (.slice A42 r16.2.length c43)] Tryz.underlying178 Tryz.sizeOf22 Tryz.zeroValue22 (by decide) rfl (by intro v hv; simp only [List.mem_cons, List.not_mem_nil, or_false] at hv; rcases hv with rfl | rfl <;> rfl) rfl rfl) (fun W232 b231 hST => ?_)
    have hS0 : Has μ19 ((b33, Obj.cells (#[(.slice A40 r16.1.length c41), (.slice A42 r16.2.length c43)] : Array Value) 70 (0, 0)) :: ((b31, Obj.cells (#[(.slice A35 r1.1.length c36), (.slice A37 r1.2.length c38)] : Array Value) 70 (0, 0)) :: [])) _ := hST.has.sub (Sub.refl _) (fun p hq => ((List.mem_cons.1 hq).elim (fun hq => by rw [hq]; exact (.tail _ (.head _))) (fun hq => ((List.mem_cons.1 hq).elim (fun hq => by rw [hq]; exact (.tail _ (.tail _ (.head _)))) (fun hq => (absurd hq List.not_mem_nil))))))
    refine ⟨hS0, ?_⟩
    refine PX_two 6 13 rfl rfl (by kernel_rfl) (.inl rfl) (.inl rfl) rfl rfl (by decide) (by decide) ?_ ?_
    · obtain ⟨r233, hr234, hm⟩ := bind_some hm
      refine E_givesRow (args := [(.slice (some ⟨b231, 0, none⟩) 2 2)]) [_, _, _] _ hST rfl Tryz.call104 (by exact args1 rfl) ((w_slices_Concat_Cred (.slice (some ⟨b231, 0, none⟩) 2 2) ([r1.2, r16.2]) _ _ (SlR.lit (l := [r1.2, r16.2]) (vs := [(.slice A37 r1.2.length c38), (.slice A42 r16.2.length c43)]) rfl (Nat.le_of_ble_eq_true rfl) (hST.at_ (.head _)) (.cons (hy14.sl lenCred (fun b o hq => hST.at_ (.tail _ (.tail _ (.tail _ (List.mem_append_right _ (List.mem_append_right _ (List.mem_append_right _ (List.mem_append_left _ hq))))))))) (.cons (hy29.sl lenCred (fun b o hq => hST.at_ (.tail _ (.tail _ (.tail _ (List.mem_append_right _ (List.mem_append_left _ hq))))))) .nil))) hr234)) (fun W235 v238 μ236 R239 hST hle237 hR240 => ?_)
      replace hST : ST true NoF w _ _ ((b231, Obj.cells (#[(.slice A37 r1.2.length c38), (.slice A42 r16.2.length c43)] : Array Value) 22 (0, 0)) :: ((b33, Obj.cells (#[(.slice A40 r16.1.length c41), (.slice A42 r16.2.length c43)] : Array Value) 70 (0, 0)) :: ((b31, Obj.cells (#[(.slice A35 r1.1.length c36), (.slice A37 r1.2.length c38)] : Array Value) 70 (0, 0)) :: (R239 ++ (S25 ++ (S28 ++ (S10 ++ (S13 ++ [])))))))) := hST
      have hS0 : Has μ19 ((b33, Obj.cells (#[(.slice A40 r16.1.length c41), (.slice A42 r16.2.length c43)] : Array Value) 70 (0, 0)) :: ((b31, Obj.cells (#[(.slice A35 r1.1.length c36), (.slice A37 r1.2.length c38)] : Array Value) 70 (0, 0)) :: [])) _ := hST.has.sub hle237 (fun p hq => ((List.mem_cons.1 hq).elim (fun hq => by rw [hq]; exact (.tail _ (.head _))) (fun hq => ((List.mem_cons.1 hq).elim (fun hq => by rw [hq]; exact (.tail _ (.tail _ (.head _)))) (fun hq => (absurd hq List.not_mem_nil))))))
      refine ⟨hS0, ?_⟩
      obtain ⟨A241, c242, rfl⟩ := hR240.form
      refine PV 7 rfl hS0 (R_build (qs := #[(1, (.slice A241 r233.length c242))]) (v := (.agg #[(.slice none 0 0), (.slice A241 r233.length c242)])) (parts1 rfl) (run_build Tryz.zeroValue70 Tryz.underlying70 (pl70 _ Tryz.underlying70) (by kernel_rfl))) ?_
      refine PX_two 8 13 rfl rfl (by kernel_rfl) (.inl rfl) (.inl rfl) rfl rfl (by decide) (by decide) ?_ ?_
      · obtain ⟨r243, hr244, hm⟩ := bind_some hm
        refine E_givesRow (args := [v_a0, (.agg #[(.slice none 0 0), (.slice A241 r233.length c242)])]) [_, _, _] _ hST rfl Tryz.call48 (by exact args2 rfl rfl) ((w_merge_Apply v_a0 a0 (.slice none 0 0) ([]) (.slice A241 r233.length c242) r233 _ _ (h_a0.mono (Pl.mono _) (((hle5.trans hle20).trans hle237).trans hST.sub_hp)) (Sl.nil _ _ _) (hR240.sl lenCred (fun b o hq => hST.at_ (.tail _ (.tail _ (.tail _ (List.mem_append_left _ hq)))))) hr244)) (fun W245 v248 μ246 R249 hST hle247 hR250 => ?_)
        replace hST : ST true NoF w _ _ ((b231, Obj.cells (#[(.slice A37 r1.2.length c38), (.slice A42 r16.2.length c43)] : Array Value) 22 (0, 0)) :: ((b33, Obj.cells (#[(.slice A40 r16.1.length c41), (.slice A42 r16.2.length c43)] : Array Value) 70 (0, 0)) :: ((b31, Obj.cells (#[(.slice A35 r1.1.length c36), (.slice A37 r1.2.length c38)] : Array Value) 70 (0, 0)) :: (R249 ++ (R239 ++ (S25 ++ (S28 ++ (S10 ++ (S13 ++ []))))))))) := hST
        have hS0 : Has μ19 ((b33, Obj.cells (#[(.slice A40 r16.1.length c41), (.slice A42 r16.2.length c43)] : Array Value) 70 (0, 0)) :: ((b31, Obj.cells (#[(.slice A35 r1.1.length c36), (.slice A37 r1.2.length c38)] : Array Value) 70 (0, 0)) :: [])) _ := hST.has.sub (hle237.trans hle247) (fun p hq => ((List.mem_cons.1 hq).elim (fun hq => by rw [hq]; exact (.tail _ (.head _))) (fun hq => ((List.mem_cons.1 hq).elim (fun hq => by rw [hq]; exact (.tail _ (.tail _ (.head _)))) (fun hq => (absurd hq List.not_mem_nil))))))
        refine ⟨hS0, ?_⟩
        refine PX_e 13 rfl (by kernel_rfl) (.inl rfl) rfl (by decide) (E_buildSlice (qs := #[(0, (.slice A35 r1.1.length c36)), (1, (.slice A40 r16.1.length c41))]) (cs := #[(.slice A35 r1.1.length c36), (.slice A40 r16.1.length c41)]) hST (parts2 rfl rfl) (run_lit [(.slice A35 r1.1.length c36), (.slice A40 r16.1.length c41)] Tryz.underlying178 Tryz.sizeOf22 Tryz.zeroValue22 (by decide) rfl (by intro v hv; simp only [List.mem_cons, List.not_mem_nil, or_false] at hv; rcases hv with rfl | rfl <;> rfl) rfl rfl) (fun W252 b251 hST => ?_))
        have hS0 : Has μ19 ((b33, Obj.cells (#[(.slice A40 r16.1.length c41), (.slice A42 r16.2.length c43)] : Array Value) 70 (0, 0)) :: ((b31, Obj.cells (#[(.slice A35 r1.1.length c36), (.slice A37 r1.2.length c38)] : Array Value) 70 (0, 0)) :: [])) _ := hST.has.sub (hle237.trans hle247) (fun p hq => ((List.mem_cons.1 hq).elim (fun hq => by rw [hq]; exact (.tail _ (.tail _ (.head _)))) (fun hq => ((List.mem_cons.1 hq).elim (fun hq => by rw [hq]; exact (.tail _ (.tail _ (.tail _ (.head _))))) (fun hq => (absurd hq List.not_mem_nil))))))
        refine ⟨hS0, ?_⟩
        obtain ⟨r253, hr254, hm⟩ := bind_some hm
        refine PX_e 14 rfl (by kernel_rfl) (.inl rfl) rfl (by decide) (E_givesRow (args := [(.slice (some ⟨b251, 0, none⟩) 2 2)]) [_, _, _, _] _ hST rfl Tryz.call104 (by exact args1 rfl) ((w_slices_Concat_Cred (.slice (some ⟨b251, 0, none⟩) 2 2) ([r1.1, r16.1]) _ _ (SlR.lit (l := [r1.1, r16.1]) (vs := [(.slice A35 r1.1.length c36), (.slice A40 r16.1.length c41)]) rfl (Nat.le_of_ble_eq_true rfl) (hST.at_ (.head _)) (.cons (hy11.sl lenCred (fun b o hq => hST.at_ (.tail _ (.tail _ (.tail _ (.tail _ (List.mem_append_right _ (List.mem_append_right _ (List.mem_append_right _ (List.mem_append_right _ (List.mem_append_left _ hq))))))))))) (.cons (hy26.sl lenCred (fun b o hq => hST.at_ (.tail _ (.tail _ (.tail _ (.tail _ (List.mem_append_right _ (List.mem_append_right _ (List.mem_append_left _ hq))))))))) .nil))) hr254)) (fun W255 v258 μ256 R259 hST hle257 hR260 => ?_))
        replace hST : ST true NoF w _ _ ((b251, Obj.cells (#[(.slice A35 r1.1.length c36), (.slice A40 r16.1.length c41)] : Array Value) 22 (0, 0)) :: ((b231, Obj.cells (#[(.slice A37 r1.2.length c38), (.slice A42 r16.2.length c43)] : Array Value) 22 (0, 0)) :: ((b33, Obj.cells (#[(.slice A40 r16.1.length c41), (.slice A42 r16.2.length c43)] : Array Value) 70 (0, 0)) :: ((b31, Obj.cells (#[(.slice A35 r1.1.length c36), (.slice A37 r1.2.length c38)] : Array Value) 70 (0, 0)) :: (R259 ++ (R249 ++ (R239 ++ (S25 ++ (S28 ++ (S10 ++ (S13 ++ []))))))))))) := hST
        have hS0 : Has μ19 ((b33, Obj.cells (#[(.slice A40 r16.1.length c41), (.slice A42 r16.2.length c43)] : Array Value) 70 (0, 0)) :: ((b31, Obj.cells (#[(.slice A35 r1.1.length c36), (.slice A37 r1.2.length c38)] : Array Value) 70 (0, 0)) :: [])) _ := hST.has.sub ((hle237.trans hle247).trans hle257) (fun p hq => ((List.mem_cons.1 hq).elim (fun hq => by rw [hq]; exact (.tail _ (.tail _ (.head _)))) (fun hq => ((List.mem_cons.1 hq).elim (fun hq => by rw [hq]; exact (.tail _ (.tail _ (.tail _ (.head _))))) (fun hq => (absurd hq List.not_mem_nil))))))
        refine ⟨hS0, ?_⟩
        obtain ⟨A261, c262, rfl⟩ := hR260.form
        refine PV 15 rfl hS0 (R_build (qs := #[(0, (.slice A261 r253.length c262))]) (v := (.agg #[(.slice A261 r253.length c262), (.slice none 0 0)])) (parts1 rfl) (run_build Tryz.zeroValue70 Tryz.underlying70 (pl70 _ Tryz.underlying70) (by kernel_rfl))) ?_
        obtain ⟨r263, hr264, hm⟩ := bind_some hm
        refine PX_e 16 rfl (by kernel_rfl) (.inl rfl) rfl (by decide) (E_givesRow (args := [v248, (.agg #[(.slice A261 r253.length c262), (.slice none 0 0)])]) [_, _, _, _] _ hST rfl Tryz.call48 (by exact args2 rfl rfl) ((w_merge_Apply v248 r243 (.slice A261 r253.length c262) r253 (.slice none 0 0) ([]) _ _ (hR250.sl lenCred (fun b o hq => hST.at_ (.tail _ (.tail _ (.tail _ (.tail _ (List.mem_append_right _ (List.mem_append_left _ hq)))))))) (hR260.sl lenCred (fun b o hq => hST.at_ (.tail _ (.tail _ (.tail _ (.tail _ (List.mem_append_left _ hq))))))) (Sl.nil _ _ _) hr264)) (fun W265 v268 μ266 R269 hST hle267 hR270 => ?_))
        replace hST : ST true NoF w _ _ ((b251, Obj.cells (#[(.slice A35 r1.1.length c36), (.slice A40 r16.1.length c41)] : Array Value) 22 (0, 0)) :: ((b231, Obj.cells (#[(.slice A37 r1.2.length c38), (.slice A42 r16.2.length c43)] : Array Value) 22 (0, 0)) :: ((b33, Obj.cells (#[(.slice A40 r16.1.length c41), (.slice A42 r16.2.length c43)] : Array Value) 70 (0, 0)) :: ((b31, Obj.cells (#[(.slice A35 r1.1.length c36), (.slice A37 r1.2.length c38)] : Array Value) 70 (0, 0)) :: (R269 ++ (R259 ++ (R249 ++ (R239 ++ (S25 ++ (S28 ++ (S10 ++ (S13 ++ [])))))))))))) := hST
        have hS0 : Has μ19 ((b33, Obj.cells (#[(.slice A40 r16.1.length c41), (.slice A42 r16.2.length c43)] : Array Value) 70 (0, 0)) :: ((b31, Obj.cells (#[(.slice A35 r1.1.length c36), (.slice A37 r1.2.length c38)] : Array Value) 70 (0, 0)) :: [])) _ := hST.has.sub (((hle237.trans hle247).trans hle257).trans hle267) (fun p hq => ((List.mem_cons.1 hq).elim (fun hq => by rw [hq]; exact (.tail _ (.tail _ (.head _)))) (fun hq => ((List.mem_cons.1 hq).elim (fun hq => by rw [hq]; exact (.tail _ (.tail _ (.tail _ (.head _))))) (fun hq => (absurd hq List.not_mem_nil))))))
        refine ⟨hS0, ?_⟩
        refine PV 17 rfl hS0 (R_assign (v := v268) rfl) ?_
        refine PX_done (by kernel_rfl) ?_
        refine sq_n ?_
        replace hST : ST true NoF w _ _ (R269 ++ []) := hST.sublist (List.Sublist.cons _ (List.Sublist.cons _ (List.Sublist.cons _ (List.Sublist.cons _ (List.Sublist.append (List.Sublist.refl _) ((((((((List.Sublist.refl _).trans (List.sublist_append_right _ _)).trans (List.sublist_append_right _ _)).trans (List.sublist_append_right _ _)).trans (List.sublist_append_right _ _)).trans (List.sublist_append_right _ _)).trans (List.sublist_append_right _ _)).trans (List.sublist_append_right _ _)))))))
        refine CW_ret ?_
        replace hm := Option.some.inj hm; subst hm
        refine retQ_1 (v := v268) rfl rfl ?_
        exact ⟨_, R269, rfl, hST.backRow (fun p hq => by simp [hq]) hR270.nd, hR270⟩
      · refine E_buildSlice (qs := #[(0, (.slice A35 r1.1.length c36)), (1, (.slice A40 r16.1.length c41))]) (cs := #[(.slice A35 r1.1.length c36), (.slice A40 r16.1.length c41)]) hST (parts2 rfl rfl) (run_lit [(.slice A35 r1.1.length c36), (.slice A40 r16.1.length c41)] Tryz.underlying178 Tryz.sizeOf22 Tryz.zeroValue22 (by decide) rfl (by intro v hv; simp only [List.mem_cons, List.not_mem_nil, or_false] at hv; rcases hv with rfl | rfl <;> rfl) rfl rfl) (fun W272 b271 hST => ?_)
        have hS0 : Has μ19 ((b33, Obj.cells (#[(.slice A40 r16.1.length c41), (.slice A42 r16.2.length c43)] : Array Value) 70 (0, 0)) :: ((b31, Obj.cells (#[(.slice A35 r1.1.length c36), (.slice A37 r1.2.length c38)] : Array Value) 70 (0, 0)) :: [])) _ := hST.has.sub hle237 (fun p hq => ((List.mem_cons.1 hq).elim (fun hq => by rw [hq]; exact (.tail _ (.tail _ (.head _)))) (fun hq => ((List.mem_cons.1 hq).elim (fun hq => by rw [hq]; exact (.tail _ (.tail _ (.tail _ (.head _))))) (fun hq => (absurd hq List.not_mem_nil))))))
        refine ⟨hS0, ?_⟩
        obtain ⟨r273, hr274, hm⟩ := bind_some hm
        refine PX_e 8 rfl (by kernel_rfl) (.inl rfl) rfl (by decide) (E_givesRow (args := [v_a0, (.agg #[(.slice none 0 0), (.slice A241 r233.length c242)])]) [_, _, _, _] _ hST rfl Tryz.call48 (by exact args2 rfl rfl) ((w_merge_Apply v_a0 a0 (.slice none 0 0) ([]) (.slice A241 r233.length c242) r233 _ _ (h_a0.mono (Pl.mono _) (((hle5.trans hle20).trans hle237).trans hST.sub_hp)) (Sl.nil _ _ _) (hR240.sl lenCred (fun b o hq => hST.at_ (.tail _ (.tail _ (.tail _ (.tail _ (List.mem_append_left _ hq))))))) hr274)) (fun W275 v278 μ276 R279 hST hle277 hR280 => ?_))
        replace hST : ST true NoF w _ _ ((b271, Obj.cells (#[(.slice A35 r1.1.length c36), (.slice A40 r16.1.length c41)] : Array Value) 22 (0, 0)) :: ((b231, Obj.cells (#[(.slice A37 r1.2.length c38), (.slice A42 r16.2.length c43)] : Array Value) 22 (0, 0)) :: ((b33, Obj.cells (#[(.slice A40 r16.1.length c41), (.slice A42 r16.2.length c43)] : Array Value) 70 (0, 0)) :: ((b31, Obj.cells (#[(.slice A35 r1.1.length c36), (.slice A37 r1.2.length c38)] : Array Value) 70 (0, 0)) :: (R279 ++ (R239 ++ (S25 ++ (S28 ++ (S10 ++ (S13 ++ [])))))))))) := hST
        have hS0 : Has μ19 ((b33, Obj.cells (#[(.slice A40 r16.1.length c41), (.slice A42 r16.2.length c43)] : Array Value) 70 (0, 0)) :: ((b31, Obj.cells (#[(.slice A35 r1.1.length c36), (.slice A37 r1.2.length c38)] : Array Value) 70 (0, 0)) :: [])) _ := hST.has.sub (hle237.trans hle277) (fun p hq => ((List.mem_cons.1 hq).elim (fun hq => by rw [hq]; exact (.tail _ (.tail _ (.head _)))) (fun hq => ((List.mem_cons.1 hq).elim (fun hq => by rw [hq]; exact (.tail _ (.tail _ (.tail _ (.head _))))) (fun hq => (absurd hq List.not_mem_nil))))))
        refine ⟨hS0, ?_⟩
        obtain ⟨r281, hr282, hm⟩ := bind_some hm
        refine PX_e 14 rfl (by kernel_rfl) (.inl rfl) rfl (by decide) (E_givesRow (args := [(.slice (some ⟨b271, 0, none⟩) 2 2)]) [_, _, _, _] _ hST rfl Tryz.call104 (by exact args1 rfl) ((w_slices_Concat_Cred (.slice (some ⟨b271, 0, none⟩) 2 2) ([r1.1, r16.1]) _ _ (SlR.lit (l := [r1.1, r16.1]) (vs := [(.slice A35 r1.1.length c36), (.slice A40 r16.1.length c41)]) rfl (Nat.le_of_ble_eq_true rfl) (hST.at_ (.head _)) (.cons (hy11.sl lenCred (fun b o hq => hST.at_ (.tail _ (.tail _ (.tail _ (.tail _ (List.mem_append_right _ (List.mem_append_right _ (List.mem_append_right _ (List.mem_append_right _ (List.mem_append_left _ hq))))))))))) (.cons (hy26.sl lenCred (fun b o hq => hST.at_ (.tail _ (.tail _ (.tail _ (.tail _ (List.mem_append_right _ (List.mem_append_right _ (List.mem_append_left _ hq))))))))) .nil))) hr282)) (fun W283 v286 μ284 R287 hST hle285 hR288 => ?_))
        replace hST : ST true NoF w _ _ ((b271, Obj.cells (#[(.slice A35 r1.1.length c36), (.slice A40 r16.1.length c41)] : Array Value) 22 (0, 0)) :: ((b231, Obj.cells (#[(.slice A37 r1.2.length c38), (.slice A42 r16.2.length c43)] : Array Value) 22 (0, 0)) :: ((b33, Obj.cells (#[(.slice A40 r16.1.length c41), (.slice A42 r16.2.length c43)] : Array Value) 70 (0, 0)) :: ((b31, Obj.cells (#[(.slice A35 r1.1.length c36), (.slice A37 r1.2.length c38)] : Array Value) 70 (0, 0)) :: (R287 ++ (R279 ++ (R239 ++ (S25 ++ (S28 ++ (S10 ++ (S13 ++ []))))))))))) := hST
        have hS0 : Has μ19 ((b33, Obj.cells (#[(.slice A40 r16.1.length c41), (.slice A42 r16.2.length c43)] : Array Value) 70 (0, 0)) :: ((b31, Obj.cells (#[(.slice A35 r1.1.length c36), (.slice A37 r1.2.length c38)] : Array Value) 70 (0, 0)) :: [])) _ := hST.has.sub ((hle237.trans hle277).trans hle285) (fun p hq => ((List.mem_cons.1 hq).elim (fun hq => by rw [hq]; exact (.tail _ (.tail _ (.head _)))) (fun hq => ((List.mem_cons.1 hq).elim (fun hq => by rw [hq]; exact (.tail _ (.tail _ (.tail _ (.head _))))) (fun hq => (absurd hq List.not_mem_nil))))))
        refine ⟨hS0, ?_⟩
        obtain ⟨A289, c290, rfl⟩ := hR288.form
        refine PV 15 rfl hS0 (R_build (qs := #[(0, (.slice A289 r281.length c290))]) (v := (.agg #[(.slice A289 r281.length c290), (.slice none 0 0)])) (parts1 rfl) (run_build Tryz.zeroValue70 Tryz.underlying70 (pl70 _ Tryz.underlying70) (by kernel_rfl))) ?_
        obtain ⟨r291, hr292, hm⟩ := bind_some hm
        refine PX_e 16 rfl (by kernel_rfl) (.inl rfl) rfl (by decide) (E_givesRow (args := [v278, (.agg #[(.slice A289 r281.length c290), (.slice none 0 0)])]) [_, _, _, _] _ hST rfl Tryz.call48 (by exact args2 rfl rfl) ((w_merge_Apply v278 r273 (.slice A289 r281.length c290) r281 (.slice none 0 0) ([]) _ _ (hR280.sl lenCred (fun b o hq => hST.at_ (.tail _ (.tail _ (.tail _ (.tail _ (List.mem_append_right _ (List.mem_append_left _ hq)))))))) (hR288.sl lenCred (fun b o hq => hST.at_ (.tail _ (.tail _ (.tail _ (.tail _ (List.mem_append_left _ hq))))))) (Sl.nil _ _ _) hr292)) (fun W293 v296 μ294 R297 hST hle295 hR298 => ?_))
        replace hST : ST true NoF w _ _ ((b271, Obj.cells (#[(.slice A35 r1.1.length c36), (.slice A40 r16.1.length c41)] : Array Value) 22 (0, 0)) :: ((b231, Obj.cells (#[(.slice A37 r1.2.length c38), (.slice A42 r16.2.length c43)] : Array Value) 22 (0, 0)) :: ((b33, Obj.cells (#[(.slice A40 r16.1.length c41), (.slice A42 r16.2.length c43)] : Array Value) 70 (0, 0)) :: ((b31, Obj.cells (#[(.slice A35 r1.1.length c36), (.slice A37 r1.2.length c38)] : Array Value) 70 (0, 0)) :: (R297 ++ (R287 ++ (R279 ++ (R239 ++ (S25 ++ (S28 ++ (S10 ++ (S13 ++ [])))))))))))) := hST
        have hS0 : Has μ19 ((b33, Obj.cells (#[(.slice A40 r16.1.length c41), (.slice A42 r16.2.length c43)] : Array Value) 70 (0, 0)) :: ((b31, Obj.cells (#[(.slice A35 r1.1.length c36), (.slice A37 r1.2.length c38)] : Array Value) 70 (0, 0)) :: [])) _ := hST.has.sub (((hle237.trans hle277).trans hle285).trans hle295) (fun p hq => ((List.mem_cons.1 hq).elim (fun hq => by rw [hq]; exact (.tail _ (.tail _ (.head _)))) (fun hq => ((List.mem_cons.1 hq).elim (fun hq => by rw [hq]; exact (.tail _ (.tail _ (.tail _ (.head _))))) (fun hq => (absurd hq List.not_mem_nil))))))
        refine ⟨hS0, ?_⟩
        refine PV 17 rfl hS0 (R_assign (v := v296) rfl) ?_
        refine PX_done (by kernel_rfl) ?_
        refine sq_n ?_
        replace hST : ST true NoF w _ _ (R297 ++ []) := hST.sublist (List.Sublist.cons _ (List.Sublist.cons _ (List.Sublist.cons _ (List.Sublist.cons _ (List.Sublist.append (List.Sublist.refl _) ((((((((List.Sublist.refl _).trans (List.sublist_append_right _ _)).trans (List.sublist_append_right _ _)).trans (List.sublist_append_right _ _)).trans (List.sublist_append_right _ _)).trans (List.sublist_append_right _ _)).trans (List.sublist_append_right _ _)).trans (List.sublist_append_right _ _)))))))
        refine CW_ret ?_
        replace hm := Option.some.inj hm; subst hm
        refine retQ_1 (v := v296) rfl rfl ?_
        exact ⟨_, R297, rfl, hST.backRow (fun p hq => by simp [hq]) hR298.nd, hR298⟩
    · refine E_buildSlice (qs := #[(0, (.slice A35 r1.1.length c36)), (1, (.slice A40 r16.1.length c41))]) (cs := #[(.slice A35 r1.1.length c36), (.slice A40 r16.1.length c41)]) hST (parts2 rfl rfl) (run_lit [(.slice A35 r1.1.length c36), (.slice A40 r16.1.length c41)] Tryz.underlying178 Tryz.sizeOf22 Tryz.zeroValue22 (by decide) rfl (by intro v hv; simp only [List.mem_cons, List.not_mem_nil, or_false] at hv; rcases hv with rfl | rfl <;> rfl) rfl rfl) (fun W300 b299 hST => ?_)
      have hS0 : Has μ19 ((b33, Obj.cells (#[(.slice A40 r16.1.length c41), (.slice A42 r16.2.length c43)] : Array Value) 70 (0, 0)) :: ((b31, Obj.cells (#[(.slice A35 r1.1.length c36), (.slice A37 r1.2.length c38)] : Array Value) 70 (0, 0)) :: [])) _ := hST.has.sub (Sub.refl _) (fun p hq => ((List.mem_cons.1 hq).elim (fun hq => by rw [hq]; exact (.tail _ (.tail _ (.head _)))) (fun hq => ((List.mem_cons.1 hq).elim (fun hq => by rw [hq]; exact (.tail _ (.tail _ (.tail _ (.head _))))) (fun hq => (absurd hq List.not_mem_nil))))))
      refine ⟨hS0, ?_⟩
      obtain ⟨r301, hr302, hm⟩ := bind_some hm
      refine PX_e 6 rfl (by kernel_rfl) (.inl rfl) rfl (by decide) (E_givesRow (args := [(.slice (some ⟨b231, 0, none⟩) 2 2)]) [_, _, _, _] _ hST rfl Tryz.call104 (by exact args1 rfl) ((w_slices_Concat_Cred (.slice (some ⟨b231, 0, none⟩) 2 2) ([r1.2, r16.2]) _ _ (SlR.lit (l := [r1.2, r16.2]) (vs := [(.slice A37 r1.2.length c38), (.slice A42 r16.2.length c43)]) rfl (Nat.le_of_ble_eq_true rfl) (hST.at_ (.tail _ (.head _))) (.cons (hy14.sl lenCred (fun b o hq => hST.at_ (.tail _ (.tail _ (.tail _ (.tail _ (List.mem_append_right _ (List.mem_append_right _ (List.mem_append_right _ (List.mem_append_left _ hq)))))))))) (.cons (hy29.sl lenCred (fun b o hq => hST.at_ (.tail _ (.tail _ (.tail _ (.tail _ (List.mem_append_right _ (List.mem_append_left _ hq)))))))) .nil))) hr302)) (fun W303 v306 μ304 R307 hST hle305 hR308 => ?_))
      replace hST : ST true NoF w _ _ ((b299, Obj.cells (#[(.slice A35 r1.1.length c36), (.slice A40 r16.1.length c41)] : Array Value) 22 (0, 0)) :: ((b231, Obj.cells (#[(.slice A37 r1.2.length c38), (.slice A42 r16.2.length c43)] : Array Value) 22 (0, 0)) :: ((b33, Obj.cells (#[(.slice A40 r16.1.length c41), (.slice A42 r16.2.length c43)] : Array Value) 70 (0, 0)) :: ((b31, Obj.cells (#[(.slice A35 r1.1.length c36), (.slice A37 r1.2.length c38)] : Array Value) 70 (0, 0)) :: (R307 ++ (S25 ++ (S28 ++ (S10 ++ (S13 ++ []))))))))) := hST
      have hS0 : Has μ19 ((b33, Obj.cells (#[(.slice A40 r16.1.length c41), (.slice A42 r16.2.length c43)] : Array Value) 70 (0, 0)) :: ((b31, Obj.cells (#[(.slice A35 r1.1.length c36), (.slice A37 r1.2.length c38)] : Array Value) 70 (0, 0)) :: [])) _ := hST.has.sub hle305 (fun p hq => ((List.mem_cons.1 hq).elim (fun hq => by rw [hq]; exact (.tail _ (.tail _ (.head _)))) (fun hq => ((List.mem_cons.1 hq).elim (fun hq => by rw [hq]; exact (.tail _ (.tail _ (.tail _ (.head _))))) (fun hq => (absurd hq List.not_mem_nil))))))
      refine ⟨hS0, ?_⟩
      obtain ⟨A309, c310, rfl⟩ := hR308.form
      refine PV 7 rfl hS0 (R_build (qs := #[(1, (.slice A309 r301.length c310))]) (v := (.agg #[(.slice none 0 0), (.slice A309 r301.length c310)])) (parts1 rfl) (run_build Tryz.zeroValue70 Tryz.underlying70 (pl70 _ Tryz.underlying70) (by kernel_rfl))) ?_
      obtain ⟨r311, hr312, hm⟩ := bind_some hm
      refine PX_e 8 rfl (by kernel_rfl) (.inl rfl) rfl (by decide) (E_givesRow (args := [v_a0, (.agg #[(.slice none 0 0), (.slice A309 r301.length c310)])]) [_, _, _, _] _ hST rfl Tryz.call48 (by exact args2 rfl rfl) ((w_merge_Apply v_a0 a0 (.slice none 0 0) ([]) (.slice A309 r301.length c310) r301 _ _ (h_a0.mono (Pl.mono _) (((hle5.trans hle20).trans hle305).trans hST.sub_hp)) (Sl.nil _ _ _) (hR308.sl lenCred (fun b o hq => hST.at_ (.tail _ (.tail _ (.tail _ (.tail _ (List.mem_append_left _ hq))))))) hr312)) (fun W313 v316 μ314 R317 hST hle315 hR318 => ?_))
      replace hST : ST true NoF w _ _ ((b299, Obj.cells (#[(.slice A35 r1.1.length c36), (.slice A40 r16.1.length c41)] : Array Value) 22 (0, 0)) :: ((b231, Obj.cells (#[(.slice A37 r1.2.length c38), (.slice A42 r16.2.length c43)] : Array Value) 22 (0, 0)) :: ((b33, Obj.cells (#[(.slice A40 r16.1.length c41), (.slice A42 r16.2.length c43)] : Array Value) 70 (0, 0)) :: ((b31, Obj.cells (#[(.slice A35 r1.1.length c36), (.slice A37 r1.2.length c38)] : Array Value) 70 (0, 0)) :: (R317 ++ (R307 ++ (S25 ++ (S28 ++ (S10 ++ (S13 ++ [])))))))))) := hST
      have hS0 : Has μ19 ((b33, Obj.cells (#[(.slice A40 r16.1.length c41), (.slice A42 r16.2.length c43)] : Array Value) 70 (0, 0)) :: ((b31, Obj.cells (#[(.slice A35 r1.1.length c36), (.slice A37 r1.2.length c38)] : Array Value) 70 (0, 0)) :: [])) _ := hST.has.sub (hle305.trans hle315) (fun p hq => ((List.mem_cons.1 hq).elim (fun hq => by rw [hq]; exact (.tail _ (.tail _ (.head _)))) (fun hq => ((List.mem_cons.1 hq).elim (fun hq => by rw [hq]; exact (.tail _ (.tail _ (.tail _ (.head _))))) (fun hq => (absurd hq List.not_mem_nil))))))
      refine ⟨hS0, ?_⟩
      obtain ⟨r319, hr320, hm⟩ := bind_some hm
      refine PX_e 14 rfl (by kernel_rfl) (.inl rfl) rfl (by decide) (E_givesRow (args := [(.slice (some ⟨b299, 0, none⟩) 2 2)]) [_, _, _, _] _ hST rfl Tryz.call104 (by exact args1 rfl) ((w_slices_Concat_Cred (.slice (some ⟨b299, 0, none⟩) 2 2) ([r1.1, r16.1]) _ _ (SlR.lit (l := [r1.1, r16.1]) (vs := [(.slice A35 r1.1.length c36), (.slice A40 r16.1.length c41)]) rfl (Nat.le_of_ble_eq_true rfl) (hST.at_ (.head _)) (.cons (hy11.sl lenCred (fun b o hq => hST.at_ (.tail _ (.tail _ (.tail _ (.tail _ (List.mem_append_right _ (List.mem_append_right _ (List.mem_append_right _ (List.mem_append_right _ (List.mem_append_left _ hq))))))))))) (.cons (hy26.sl lenCred (fun b o hq => hST.at_ (.tail _ (.tail _ (.tail _ (.tail _ (List.mem_append_right _ (List.mem_append_right _ (List.mem_append_left _ hq))))))))) .nil))) hr320)) (fun W321 v324 μ322 R325 hST hle323 hR326 => ?_))
      replace hST : ST true NoF w _ _ ((b299, Obj.cells (#[(.slice A35 r1.1.length c36), (.slice A40 r16.1.length c41)] : Array Value) 22 (0, 0)) :: ((b231, Obj.cells (#[(.slice A37 r1.2.length c38), (.slice A42 r16.2.length c43)] : Array Value) 22 (0, 0)) :: ((b33, Obj.cells (#[(.slice A40 r16.1.length c41), (.slice A42 r16.2.length c43)] : Array Value) 70 (0, 0)) :: ((b31, Obj.cells (#[(.slice A35 r1.1.length c36), (.slice A37 r1.2.length c38)] : Array Value) 70 (0, 0)) :: (R325 ++ (R317 ++ (R307 ++ (S25 ++ (S28 ++ (S10 ++ (S13 ++ []))))))))))) := hST
      have hS0 : Has μ19 ((b33, Obj.cells (#[(.slice A40 r16.1.length c41), (.slice A42 r16.2.length c43)] : Array Value) 70 (0, 0)) :: ((b31, Obj.cells (#[(.slice A35 r1.1.length c36), (.slice A37 r1.2.length c38)] : Array Value) 70 (0, 0)) :: [])) _ := hST.has.sub ((hle305.trans hle315).trans hle323) (fun p hq => ((List.mem_cons.1 hq).elim (fun hq => by rw [hq]; exact (.tail _ (.tail _ (.head _)))) (fun hq => ((List.mem_cons.1 hq).elim (fun hq => by rw [hq]; exact (.tail _ (.tail _ (.tail _ (.head _))))) (fun hq => (absurd hq List.not_mem_nil))))))
      refine ⟨hS0, ?_⟩
      obtain ⟨A327, c328, rfl⟩ := hR326.form
      refine PV 15 rfl hS0 (R_build (qs := #[(0, (.slice A327 r319.length c328))]) (v := (.agg #[(.slice A327 r319.length c328), (.slice none 0 0)])) (parts1 rfl) (run_build Tryz.zeroValue70 Tryz.underlying70 (pl70 _ Tryz.underlying70) (by kernel_rfl))) ?_
      obtain ⟨r329, hr330, hm⟩ := bind_some hm
      refine PX_e 16 rfl (by kernel_rfl) (.inl rfl) rfl (by decide) (E_givesRow (args := [v316, (.agg #[(.slice A327 r319.length c328), (.slice none 0 0)])]) [_, _, _, _] _ hST rfl Tryz.call48 (by exact args2 rfl rfl) ((w_merge_Apply v316 r311 (.slice A327 r319.length c328) r319 (.slice none 0 0) ([]) _ _ (hR318.sl lenCred (fun b o hq => hST.at_ (.tail _ (.tail _ (.tail _ (.tail _ (List.mem_append_right _ (List.mem_append_left _ hq)))))))) (hR326.sl lenCred (fun b o hq => hST.at_ (.tail _ (.tail _ (.tail _ (.tail _ (List.mem_append_left _ hq))))))) (Sl.nil _ _ _) hr330)) (fun W331 v334 μ332 R335 hST hle333 hR336 => ?_))
      replace hST : ST true NoF w _ _ ((b299, Obj.cells (#[(.slice A35 r1.1.length c36), (.slice A40 r16.1.length c41)] : Array Value) 22 (0, 0)) :: ((b231, Obj.cells (#[(.slice A37 r1.2.length c38), (.slice A42 r16.2.length c43)] : Array Value) 22 (0, 0)) :: ((b33, Obj.cells (#[(.slice A40 r16.1.length c41), (.slice A42 r16.2.length c43)] : Array Value) 70 (0, 0)) :: ((b31, Obj.cells (#[(.slice A35 r1.1.length c36), (.slice A37 r1.2.length c38)] : Array Value) 70 (0, 0)) :: (R335 ++ (R325 ++ (R317 ++ (R307 ++ (S25 ++ (S28 ++ (S10 ++ (S13 ++ [])))))))))))) := hST
      have hS0 : Has μ19 ((b33, Obj.cells (#[(.slice A40 r16.1.length c41), (.slice A42 r16.2.length c43)] : Array Value) 70 (0, 0)) :: ((b31, Obj.cells (#[(.slice A35 r1.1.length c36), (.slice A37 r1.2.length c38)] : Array Value) 70 (0, 0)) :: [])) _ := hST.has.sub (((hle305.trans hle315).trans hle323).trans hle333) (fun p hq => ((List.mem_cons.1 hq).elim (fun hq => by rw [hq]; exact (.tail _ (.tail _ (.head _)))) (fun hq => ((List.mem_cons.1 hq).elim (fun hq => by rw [hq]; exact (.tail _ (.tail _ (.tail _ (.head _))))) (fun hq => (absurd hq List.not_mem_nil))))))
      refine ⟨hS0, ?_⟩
      refine PV 17 rfl hS0 (R_assign (v := v334) rfl) ?_
      refine PX_done (by kernel_rfl) ?_
      refine sq_n ?_
      replace hST : ST true NoF w _ _ (R335 ++ []) := hST.sublist (List.Sublist.cons _ (List.Sublist.cons _ (List.Sublist.cons _ (List.Sublist.cons _ (List.Sublist.append (List.Sublist.refl _) ((((((((List.Sublist.refl _).trans (List.sublist_append_right _ _)).trans (List.sublist_append_right _ _)).trans (List.sublist_append_right _ _)).trans (List.sublist_append_right _ _)).trans (List.sublist_append_right _ _)).trans (List.sublist_append_right _ _)).trans (List.sublist_append_right _ _)))))))
      refine CW_ret ?_
      replace hm := Option.some.inj hm; subst hm
      refine retQ_1 (v := v334) rfl rfl ?_
      exact ⟨_, R335, rfl, hST.backRow (fun p hq => by simp [hq]) hR336.nd, hR336⟩
  · refine E_buildSlice (qs := #[(0, (.slice A35 r1.1.length c36)), (1, (.slice A40 r16.1.length c41))]) (cs := #[(.slice A35 r1.1.length c36), (.slice A40 r16.1.length c41)]) hST (parts2 rfl rfl) (run_lit [(.slice A35 r1.1.length c36), (.slice A40 r16.1.length c41)] Tryz.underlying178 Tryz.sizeOf22 Tryz.zeroValue22 (by decide) rfl (by intro v hv; simp only [List.mem_cons, List.not_mem_nil, or_false] at hv; rcases hv with rfl | rfl <;> rfl) rfl rfl) (fun W338 b337 hST => ?_)
    have hS0 : Has μ19 ((b33, Obj.cells (#[(.slice A40 r16.1.length c41), (.slice A42 r16.2.length c43)] : Array Value) 70 (0, 0)) :: ((b31, Obj.cells (#[(.slice A35 r1.1.length c36), (.slice A37 r1.2.length c38)] : Array Value) 70 (0, 0)) :: [])) _ := hST.has.sub (Sub.refl _) (fun p hq => ((List.mem_cons.1 hq).elim (fun hq => by rw [hq]; exact (.tail _ (.head _))) (fun hq => ((List.mem_cons.1 hq).elim (fun hq => by rw [hq]; exact (.tail _ (.tail _ (.head _)))) (fun hq => (absurd hq List.not_mem_nil))))))
    refine ⟨hS0, ?_⟩
    refine PX_e 5 rfl (by kernel_rfl) (.inl rfl) rfl (by decide) (E_buildSlice (qs := #[(0, (.slice A37 r1.2.length c38)), (1, (.slice A42 r16.2.length c43))]) (cs := #[(.slice A37 r1.2.length c38), (.slice A42 r16.2.length c43)]) hST (parts2 rfl rfl) (run_lit [(.slice A37 r1.2.length c38), (.slice A42 r16.2.length c43)] Tryz.underlying178 Tryz.sizeOf22 Tryz.zeroValue22 (by decide) rfl (by intro v hv; simp only [List.mem_cons, List.not_mem_nil, or_false] at hv; rcases hv with rfl | rfl <;> rfl) rfl rfl) (fun W340 b339 hST => ?_))
    have hS0 : Has μ19 ((b33, Obj.cells (#[(.slice A40 r16.1.length c41), (.slice A42 r16.2.length c43)] : Array Value) 70 (0, 0)) :: ((b31, Obj.cells (#[(.slice A35 r1.1.length c36), (.slice A37 r1.2.length c38)] : Array Value) 70 (0, 0)) :: [])) _ := hST.has.sub (Sub.refl _) (fun p hq => ((List.mem_cons.1 hq).elim (fun hq => by rw [hq]; exact (.tail _ (.tail _ (.head _)))) (fun hq => ((List.mem_cons.1 hq).elim (fun hq => by rw [hq]; exact (.tail _ (.tail _ (.tail _ (.head _))))) (fun hq => (absurd hq List.not_mem_nil))))))
    refine ⟨hS0, ?_⟩
    obtain ⟨r341, hr342, hm⟩ := bind_some hm
    refine PX_e 6 rfl (by kernel_rfl) (.inl rfl) rfl (by decide) (E_givesRow (args := [(.slice (some ⟨b339, 0, none⟩) 2 2)]) [_, _, _, _] _ hST rfl Tryz.call104 (by exact args1 rfl) ((w_slices_Concat_Cred (.slice (some ⟨b339, 0, none⟩) 2 2) ([r1.2, r16.2]) _ _ (SlR.lit (l := [r1.2, r16.2]) (vs := [(.slice A37 r1.2.length c38), (.slice A42 r16.2.length c43)]) rfl (Nat.le_of_ble_eq_true rfl) (hST.at_ (.head _)) (.cons (hy14.sl lenCred (fun b o hq => hST.at_ (.tail _ (.tail _ (.tail _ (.tail _ (List.mem_append_right _ (List.mem_append_right _ (List.mem_append_right _ (List.mem_append_left _ hq)))))))))) (.cons (hy29.sl lenCred (fun b o hq => hST.at_ (.tail _ (.tail _ (.tail _ (.tail _ (List.mem_append_right _ (List.mem_append_left _ hq)))))))) .nil))) hr342)) (fun W343 v346 μ344 R347 hST hle345 hR348 => ?_))
    replace hST : ST true NoF w _ _ ((b339, Obj.cells (#[(.slice A37 r1.2.length c38), (.slice A42 r16.2.length c43)] : Array Value) 22 (0, 0)) :: ((b337, Obj.cells (#[(.slice A35 r1.1.length c36), (.slice A40 r16.1.length c41)] : Array Value) 22 (0, 0)) :: ((b33, Obj.cells (#[(.slice A40 r16.1.length c41), (.slice A42 r16.2.length c43)] : Array Value) 70 (0, 0)) :: ((b31, Obj.cells (#[(.slice A35 r1.1.length c36), (.slice A37 r1.2.length c38)] : Array Value) 70 (0, 0)) :: (R347 ++ (S25 ++ (S28 ++ (S10 ++ (S13 ++ []))))))))) := hST
    have hS0 : Has μ19 ((b33, Obj.cells (#[(.slice A40 r16.1.length c41), (.slice A42 r16.2.length c43)] : Array Value) 70 (0, 0)) :: ((b31, Obj.cells (#[(.slice A35 r1.1.length c36), (.slice A37 r1.2.length c38)] : Array Value) 70 (0, 0)) :: [])) _ := hST.has.sub hle345 (fun p hq => ((List.mem_cons.1 hq).elim (fun hq => by rw [hq]; exact (.tail _ (.tail _ (.head _)))) (fun hq => ((List.mem_cons.1 hq).elim (fun hq => by rw [hq]; exact (.tail _ (.tail _ (.tail _ (.head _))))) (fun hq => (absurd hq List.not_mem_nil))))))
    refine ⟨hS0, ?_⟩
    obtain ⟨A349, c350, rfl⟩ := hR348.form
    refine PV 7 rfl hS0 (R_build (qs := #[(1, (.slice A349 r341.length c350))]) (v := (.agg #[(.slice none 0 0), (.slice A349 r341.length c350)])) (parts1 rfl) (run_build Tryz.zeroValue70 Tryz.underlying70 (pl70 _ Tryz.underlying70) (by kernel_rfl))) ?_
    obtain ⟨r351, hr352, hm⟩ := bind_some hm
    refine PX_e 8 rfl (by kernel_rfl) (.inl rfl) rfl (by decide) (E_givesRow (args := [v_a0, (.agg #[(.slice none 0 0), (.slice A349 r341.length c350)])]) [_, _, _, _] _ hST rfl Tryz.call48 (by exact args2 rfl rfl) ((w_merge_Apply v_a0 a0 (.slice none 0 0) ([]) (.slice A349 r341.length c350) r341 _ _ (h_a0.mono (Pl.mono _) (((hle5.trans hle20).trans hle345).trans hST.sub_hp)) (Sl.nil _ _ _) (hR348.sl lenCred (fun b o hq => hST.at_ (.tail _ (.tail _ (.tail _ (.tail _ (List.mem_append_left _ hq))))))) hr352)) (fun W353 v356 μ354 R357 hST hle355 hR358 => ?_))
    replace hST : ST true NoF w _ _ ((b339, Obj.cells (#[(.slice A37 r1.2.length c38), (.slice A42 r16.2.length c43)] : Array Value) 22 (0, 0)) :: ((b337, Obj.cells (#[(.slice A35 r1.1.length c36), (.slice A40 r16.1.length c41)] : Array Value) 22 (0, 0)) :: ((b33, Obj.cells (#[(.slice A40 r16.1.length c41), (.slice A42 r16.2.length c43)] : Array Value) 70 (0, 0)) :: ((b31, Obj.cells (#[(.slice A35 r1.1.length c36), (.slice A37 r1.2.length c38)] : Array Value) 70 (0, 0)) :: (R357 ++ (R347 ++ (S25 ++ (S28 ++ (S10 ++ (S13 ++ [])))))))))) := hST
    have hS0 : Has μ19 ((b33, Obj.cells (#[(.slice A40 r16.1.length c41), (.slice A42 r16.2.length c43)] : Array Value) 70 (0, 0)) :: ((b31, Obj.cells (#[(.slice A35 r1.1.length c36), (.slice A37 r1.2.length c38)] : Array Value) 70 (0, 0)) :: [])) _ := hST.has.sub (hle345.trans hle355) (fun p hq => ((List.mem_cons.1 hq).elim (fun hq => by rw [hq]; exact (.tail _ (.tail _ (.head _)))) (fun hq => ((List.mem_cons.1 hq).elim (fun hq => by rw [hq]; exact (.tail _ (.tail _ (.tail _ (.head _))))) (fun hq => (absurd hq List.not_mem_nil))))))
    refine ⟨hS0, ?_⟩
    obtain ⟨r359, hr360, hm⟩ := bind_some hm
    refine PX_e 14 rfl (by kernel_rfl) (.inl rfl) rfl (by decide) (E_givesRow (args := [(.slice (some ⟨b337, 0, none⟩) 2 2)]) [_, _, _, _] _ hST rfl Tryz.call104 (by exact args1 rfl) ((w_slices_Concat_Cred (.slice (some ⟨b337, 0, none⟩) 2 2) ([r1.1, r16.1]) _ _ (SlR.lit (l := [r1.1, r16.1]) (vs := [(.slice A35 r1.1.length c36), (.slice A40 r16.1.length c41)]) rfl (Nat.le_of_ble_eq_true rfl) (hST.at_ (.tail _ (.head _))) (.cons (hy11.sl lenCred (fun b o hq => hST.at_ (.tail _ (.tail _ (.tail _ (.tail _ (List.mem_append_right _ (List.mem_append_right _ (List.mem_append_right _ (List.mem_append_right _ (List.mem_append_left _ hq))))))))))) (.cons (hy26.sl lenCred (fun b o hq => hST.at_ (.tail _ (.tail _ (.tail _ (.tail _ (List.mem_append_right _ (List.mem_append_right _ (List.mem_append_left _ hq))))))))) .nil))) hr360)) (fun W361 v364 μ362 R365 hST hle363 hR366 => ?_))
    replace hST : ST true NoF w _ _ ((b339, Obj.cells (#[(.slice A37 r1.2.length c38), (.slice A42 r16.2.length c43)] : Array Value) 22 (0, 0)) :: ((b337, Obj.cells (#[(.slice A35 r1.1.length c36), (.slice A40 r16.1.length c41)] : Array Value) 22 (0, 0)) :: ((b33, Obj.cells (#[(.slice A40 r16.1.length c41), (.slice A42 r16.2.length c43)] : Array Value) 70 (0, 0)) :: ((b31, Obj.cells (#[(.slice A35 r1.1.length c36), (.slice A37 r1.2.length c38)] : Array Value) 70 (0, 0)) :: (R365 ++ (R357 ++ (R347 ++ (S25 ++ (S28 ++ (S10 ++ (S13 ++ []))))))))))) := hST
    have hS0 : Has μ19 ((b33, Obj.cells (#[(.slice A40 r16.1.length c41), (.slice A42 r16.2.length c43)] : Array Value) 70 (0, 0)) :: ((b31, Obj.cells (#[(.slice A35 r1.1.length c36), (.slice A37 r1.2.length c38)] : Array Value) 70 (0, 0)) :: [])) _ := hST.has.sub ((hle345.trans hle355).trans hle363) (fun p hq => ((List.mem_cons.1 hq).elim (fun hq => by rw [hq]; exact (.tail _ (.tail _ (.head _)))) (fun hq => ((List.mem_cons.1 hq).elim (fun hq => by rw [hq]; exact (.tail _ (.tail _ (.tail _ (.head _))))) (fun hq => (absurd hq List.not_mem_nil))))))
    refine ⟨hS0, ?_⟩
    obtain ⟨A367, c368, rfl⟩ := hR366.form
    refine PV 15 rfl hS0 (R_build (qs := #[(0, (.slice A367 r359.length c368))]) (v := (.agg #[(.slice A367 r359.length c368), (.slice none 0 0)])) (parts1 rfl) (run_build Tryz.zeroValue70 Tryz.underlying70 (pl70 _ Tryz.underlying70) (by kernel_rfl))) ?_
    obtain ⟨r369, hr370, hm⟩ := bind_some hm
    refine PX_e 16 rfl (by kernel_rfl) (.inl rfl) rfl (by decide) (E_givesRow (args := [v356, (.agg #[(.slice A367 r359.length c368), (.slice none 0 0)])]) [_, _, _, _] _ hST rfl Tryz.call48 (by exact args2 rfl rfl) ((w_merge_Apply v356 r351 (.slice A367 r359.length c368) r359 (.slice none 0 0) ([]) _ _ (hR358.sl lenCred (fun b o hq => hST.at_ (.tail _ (.tail _ (.tail _ (.tail _ (List.mem_append_right _ (List.mem_append_left _ hq)))))))) (hR366.sl lenCred (fun b o hq => hST.at_ (.tail _ (.tail _ (.tail _ (.tail _ (List.mem_append_left _ hq))))))) (Sl.nil _ _ _) hr370)) (fun W371 v374 μ372 R375 hST hle373 hR376 => ?_))
    replace hST : ST true NoF w _ _ ((b339, Obj.cells (#[(.slice A37 r1.2.length c38), (.slice A42 r16.2.length c43)] : Array Value) 22 (0, 0)) :: ((b337, Obj.cells (#[(.slice A35 r1.1.length c36), (.slice A40 r16.1.length c41)] : Array Value) 22 (0, 0)) :: ((b33, Obj.cells (#[(.slice A40 r16.1.length c41), (.slice A42 r16.2.length c43)] : Array Value) 70 (0, 0)) :: ((b31, Obj.cells (#[(.slice A35 r1.1.length c36), (.slice A37 r1.2.length c38)] : Array Value) 70 (0, 0)) :: (R375 ++ (R365 ++ (R357 ++ (R347 ++ (S25 ++ (S28 ++ (S10 ++ (S13 ++ [])))))))))))) := hST
    have hS0 : Has μ19 ((b33, Obj.cells (#[(.slice A40 r16.1.length c41), (.slice A42 r16.2.length c43)] : Array Value) 70 (0, 0)) :: ((b31, Obj.cells (#[(.slice A35 r1.1.length c36), (.slice A37 r1.2.length c38)] : Array Value) 70 (0, 0)) :: [])) _ := hST.has.sub (((hle345.trans hle355).trans hle363).trans hle373) (fun p hq => ((List.mem_cons.1 hq).elim (fun hq => by rw [hq]; exact (.tail _ (.tail _ (.head _)))) (fun hq => ((List.mem_cons.1 hq).elim (fun hq => by rw [hq]; exact (.tail _ (.tail _ (.tail _ (.head _))))) (fun hq => (absurd hq List.not_mem_nil))))))
    refine ⟨hS0, ?_⟩
    refine PV 17 rfl hS0 (R_assign (v := v374) rfl) ?_
    refine PX_done (by kernel_rfl) ?_
    refine sq_n ?_
    replace hST : ST true NoF w _ _ (R375 ++ []) := hST.sublist (List.Sublist.cons _ (List.Sublist.cons _ (List.Sublist.cons _ (List.Sublist.cons _ (List.Sublist.append (List.Sublist.refl _) ((((((((List.Sublist.refl _).trans (List.sublist_append_right _ _)).trans (List.sublist_append_right _ _)).trans (List.sublist_append_right _ _)).trans (List.sublist_append_right _ _)).trans (List.sublist_append_right _ _)).trans (List.sublist_append_right _ _)).trans (List.sublist_append_right _ _)))))))
    refine CW_ret ?_
    replace hm := Option.some.inj hm; subst hm
    refine retQ_1 (v := v374) rfl rfl ?_
    exact ⟨_, R375, rfl, hST.backRow (fun p hq => by simp [hq]) hR376.nd, hR376⟩
theorem w_law41_first  (r : Bool) (w : World)  (hm : m_law41_first  = some r) :
    Gives false Tryz.prog 42 [] w (.bool r) := by
  have hST := ST.start (dd := false) w
  unfold m_law41_first at hm
  refine calls_of_CW (n := 56) Tryz.func42 rfl rfl (Nat.le_of_ble_eq_true rfl) ?_
  refine CW_seq ?_
  refine CW_region ?_
  refine LV (R_assign (v := (.bool false)) rfl) ?_
  refine LW_nil ?_
  refine sq_n ?_
  refine CW_seq ?_
  refine CW_region ?_
  refine LV (R_build (qs := #[(0, (.string ((⟨#[120]⟩ : ByteArray)))), (1, (.string ((⟨#[121]⟩ : ByteArray))))]) (v := (.agg (encRole ((⟨(⟨#[120]⟩ : ByteArray), (⟨#[121]⟩ : ByteArray)⟩ : Role))).toArray)) (parts2 rfl rfl) (run_build Tryz.zeroValue47 Tryz.underlying47 (pl47 _ Tryz.underlying47) (by kernel_rfl))) ?_
  refine LV (R_build (qs := #[(0, (.int .i64 1)), (1, (.agg (encRole ((⟨(⟨#[120]⟩ : ByteArray), (⟨#[121]⟩ : ByteArray)⟩ : Role))).toArray)), (2, (.string ((⟨#[100]⟩ : ByteArray))))]) (v := (.agg (encCred ((⟨1, (⟨(⟨#[120]⟩ : ByteArray), (⟨#[121]⟩ : ByteArray)⟩ : Role), (⟨#[100]⟩ : ByteArray), (⟨zS, zS⟩ : Role), (⟨zS, zS⟩ : Role), zS⟩ : Cred))).toArray)) (parts3 rfl rfl rfl) (run_build Tryz.zeroValue83 Tryz.underlying83 (pl83 _ Tryz.underlying83) (by kernel_rfl))) ?_
  refine LE (E_alloc hST Tryz.zeroValue83 (fun W2 b1 hST => ?_))
  refine LW_e0 (.inl rfl) rfl (E_store [] (.agg (encCred ((⟨1, (⟨(⟨#[120]⟩ : ByteArray), (⟨#[121]⟩ : ByteArray)⟩ : Role), (⟨#[100]⟩ : ByteArray), (⟨zS, zS⟩ : Role), (⟨zS, zS⟩ : Role), zS⟩ : Cred))).toArray) ((encCred ((⟨1, (⟨(⟨#[120]⟩ : ByteArray), (⟨#[121]⟩ : ByteArray)⟩ : Role), (⟨#[100]⟩ : ByteArray), (⟨zS, zS⟩ : Role), (⟨zS, zS⟩ : Role), zS⟩ : Cred))).toArray) hST rfl rfl Tryz.sizeOf83 (oneCred ((⟨1, (⟨(⟨#[120]⟩ : ByteArray), (⟨#[121]⟩ : ByteArray)⟩ : Role), (⟨#[100]⟩ : ByteArray), (⟨zS, zS⟩ : Role), (⟨zS, zS⟩ : Role), zS⟩ : Cred))) (Nat.le_of_ble_eq_true rfl) rfl (fun W3 hST => ?_))
  refine LW_nil ?_
  refine sq_n ?_
  refine CW_seq ?_
  refine CW_region ?_
  refine LV (R_load (v := (.agg (encCred ((⟨1, (⟨(⟨#[120]⟩ : ByteArray), (⟨#[121]⟩ : ByteArray)⟩ : Role), (⟨#[100]⟩ : ByteArray), (⟨zS, zS⟩ : Role), (⟨zS, zS⟩ : Role), zS⟩ : Cred))).toArray)) rfl (load_boxA hST.has (.head _) (encCred ((⟨1, (⟨(⟨#[120]⟩ : ByteArray), (⟨#[121]⟩ : ByteArray)⟩ : Role), (⟨#[100]⟩ : ByteArray), (⟨zS, zS⟩ : Role), (⟨zS, zS⟩ : Role), zS⟩ : Cred))) rfl Tryz.isAgg83 Tryz.sizeOf83)) ?_
  refine LE (E_buildSlice (qs := #[(0, (.agg (encCred ((⟨1, (⟨(⟨#[120]⟩ : ByteArray), (⟨#[121]⟩ : ByteArray)⟩ : Role), (⟨#[100]⟩ : ByteArray), (⟨zS, zS⟩ : Role), (⟨zS, zS⟩ : Role), zS⟩ : Cred))).toArray))]) (cs := (encCred ((⟨1, (⟨(⟨#[120]⟩ : ByteArray), (⟨#[121]⟩ : ByteArray)⟩ : Role), (⟨#[100]⟩ : ByteArray), (⟨zS, zS⟩ : Role), (⟨zS, zS⟩ : Role), zS⟩ : Cred))).toArray) hST (parts1 rfl) (run_lit [(.agg (encCred ((⟨1, (⟨(⟨#[120]⟩ : ByteArray), (⟨#[121]⟩ : ByteArray)⟩ : Role), (⟨#[100]⟩ : ByteArray), (⟨zS, zS⟩ : Role), (⟨zS, zS⟩ : Role), zS⟩ : Cred))).toArray)] Tryz.underlying22 Tryz.sizeOf83 Tryz.zeroValue83 (by decide) rfl (by intro v hv; simp only [List.mem_cons, List.not_mem_nil, or_false] at hv; rcases hv with rfl <;> rfl) rfl rfl) (fun W5 b4 hST => ?_))
  replace hST : ST false NoF w _ _ ((b4, Obj.cells ((encCred ((⟨1, (⟨(⟨#[120]⟩ : ByteArray), (⟨#[121]⟩ : ByteArray)⟩ : Role), (⟨#[100]⟩ : ByteArray), (⟨zS, zS⟩ : Role), (⟨zS, zS⟩ : Role), zS⟩ : Cred))).toArray : Array Value) 83 (0, 0)) :: ((b1, Obj.cells ((encCred ((⟨1, (⟨(⟨#[120]⟩ : ByteArray), (⟨#[121]⟩ : ByteArray)⟩ : Role), (⟨#[100]⟩ : ByteArray), (⟨zS, zS⟩ : Role), (⟨zS, zS⟩ : Role), zS⟩ : Cred))).toArray : Array Value) 83 (0, 0)) :: [])) := hST
  obtain ⟨r6, hr7, hm⟩ := bind_some hm
  have hsz := hST.size
  refine LE (E_callM (args := [(.slice none 0 0), (.slice (some ⟨b4, 0, none⟩) 1 1)]) (caps := #[]) [] (((b4, Obj.cells ((encCred ((⟨1, (⟨(⟨#[120]⟩ : ByteArray), (⟨#[121]⟩ : ByteArray)⟩ : Role), (⟨#[100]⟩ : ByteArray), (⟨zS, zS⟩ : Role), (⟨zS, zS⟩ : Role), zS⟩ : Cred))).toArray : Array Value) 83 (0, 0)) :: ((b1, Obj.cells ((encCred ((⟨1, (⟨(⟨#[120]⟩ : ByteArray), (⟨#[121]⟩ : ByteArray)⟩ : Role), (⟨#[100]⟩ : ByteArray), (⟨zS, zS⟩ : Role), (⟨zS, zS⟩ : Role), zS⟩ : Cred))).toArray : Array Value) 83 (0, 0)) :: []))) hST (List.Perm.refl _) rfl Tryz.call47 (by exact args2 rfl rfl) (fun _ _ _ _ => GivesM.weak (w_merge_Diff (.slice none 0 0) ([]) (.slice (some ⟨b4, 0, none⟩) 1 1) ([(⟨1, (⟨(⟨#[120]⟩ : ByteArray), (⟨#[121]⟩ : ByteArray)⟩ : Role), (⟨#[100]⟩ : ByteArray), (⟨zS, zS⟩ : Role), (⟨zS, zS⟩ : Role), zS⟩ : Cred)]) _ _ (Sl.nil _ _ _) (Sl.lit (enc := encCred) (l := [(⟨1, (⟨(⟨#[120]⟩ : ByteArray), (⟨#[121]⟩ : ByteArray)⟩ : Role), (⟨#[100]⟩ : ByteArray), (⟨zS, zS⟩ : Role), (⟨zS, zS⟩ : Role), zS⟩ : Cred)]) lenCred rfl (Nat.le_of_ble_eq_true rfl) rfl (hST.at_ (.head _))) hr7)) (fun W8 v11 μ9 L13 hST hle10 hlift hK12 => ?_))
  obtain ⟨y14, S15, y17, S18, hv20, rfl, hy16, hy19⟩ := hK12
  replace hv20 := hv20.symm; subst hv20
  simp only [List.append_assoc, List.cons_append, List.nil_append] at hST
  replace hST : ST false NoF w _ _ ((b4, Obj.cells ((encCred ((⟨1, (⟨(⟨#[120]⟩ : ByteArray), (⟨#[121]⟩ : ByteArray)⟩ : Role), (⟨#[100]⟩ : ByteArray), (⟨zS, zS⟩ : Role), (⟨zS, zS⟩ : Role), zS⟩ : Cred))).toArray : Array Value) 83 (0, 0)) :: ((b1, Obj.cells ((encCred ((⟨1, (⟨(⟨#[120]⟩ : ByteArray), (⟨#[121]⟩ : ByteArray)⟩ : Role), (⟨#[100]⟩ : ByteArray), (⟨zS, zS⟩ : Role), (⟨zS, zS⟩ : Role), zS⟩ : Cred))).toArray : Array Value) 83 (0, 0)) :: (S15 ++ (S18 ++ [])))) := hST.perm (permD [S15, S18, [(b4, Obj.cells ((encCred ((⟨1, (⟨(⟨#[120]⟩ : ByteArray), (⟨#[121]⟩ : ByteArray)⟩ : Role), (⟨#[100]⟩ : ByteArray), (⟨zS, zS⟩ : Role), (⟨zS, zS⟩ : Role), zS⟩ : Cred))).toArray : Array Value) 83 (0, 0))], [(b1, Obj.cells ((encCred ((⟨1, (⟨(⟨#[120]⟩ : ByteArray), (⟨#[121]⟩ : ByteArray)⟩ : Role), (⟨#[100]⟩ : ByteArray), (⟨zS, zS⟩ : Role), (⟨zS, zS⟩ : Role), zS⟩ : Cred))).toArray : Array Value) 83 (0, 0))]] [0, 1, 2, 3] [2, 3, 0, 1] ([]) (by decide) rfl rfl)
  refine LE (E_alloc hST Tryz.zeroValue70 (fun W22 b21 hST => ?_))
  obtain ⟨A23, c24, rfl⟩ := hy16.form
  obtain ⟨A25, c26, rfl⟩ := hy19.form
  refine LW_e0 (.inl rfl) rfl (E_store [] (.agg #[(.slice A23 r6.1.length c24), (.slice A25 r6.2.length c26)]) (#[(.slice A23 r6.1.length c24), (.slice A25 r6.2.length c26)]) hST rfl rfl Tryz.sizeOf70 (by simp [Value.cells, Value.oneCell']) (Nat.le_of_ble_eq_true rfl) rfl (fun W27 hST => ?_))
  refine LW_nil ?_
  refine sq_n ?_
  replace hST : ST false NoF w _ _ ((b21, Obj.cells (#[(.slice A23 r6.1.length c24), (.slice A25 r6.2.length c26)] : Array Value) 70 (0, 0)) :: ((b4, Obj.cells ((encCred ((⟨1, (⟨(⟨#[120]⟩ : ByteArray), (⟨#[121]⟩ : ByteArray)⟩ : Role), (⟨#[100]⟩ : ByteArray), (⟨zS, zS⟩ : Role), (⟨zS, zS⟩ : Role), zS⟩ : Cred))).toArray : Array Value) 83 (0, 0)) :: ((b1, Obj.cells ((encCred ((⟨1, (⟨(⟨#[120]⟩ : ByteArray), (⟨#[121]⟩ : ByteArray)⟩ : Role), (⟨#[100]⟩ : ByteArray), (⟨zS, zS⟩ : Role), (⟨zS, zS⟩ : Role), zS⟩ : Cred))).toArray : Array Value) 83 (0, 0)) :: (S15 ++ (S18 ++ []))))) := hST
  replace hST : ST false NoF w _ _ ((b21, Obj.cells (#[(.slice A23 r6.1.length c24), (.slice A25 r6.2.length c26)] : Array Value) 70 (0, 0)) :: ((b1, Obj.cells ((encCred ((⟨1, (⟨(⟨#[120]⟩ : ByteArray), (⟨#[121]⟩ : ByteArray)⟩ : Role), (⟨#[100]⟩ : ByteArray), (⟨zS, zS⟩ : Role), (⟨zS, zS⟩ : Role), zS⟩ : Cred))).toArray : Array Value) 83 (0, 0)) :: (S15 ++ (S18 ++ [])))) := hST.sublist (List.Sublist.cons_cons _ (List.Sublist.cons _ (List.Sublist.refl _)))
  refine CW_seq ?_
  refine CW_region ?_
  refine LV (R_load (v := (.agg (encCred ((⟨1, (⟨(⟨#[120]⟩ : ByteArray), (⟨#[121]⟩ : ByteArray)⟩ : Role), (⟨#[100]⟩ : ByteArray), (⟨zS, zS⟩ : Role), (⟨zS, zS⟩ : Role), zS⟩ : Cred))).toArray)) rfl (load_boxA hST.has (.tail _ (.head _)) (encCred ((⟨1, (⟨(⟨#[120]⟩ : ByteArray), (⟨#[121]⟩ : ByteArray)⟩ : Role), (⟨#[100]⟩ : ByteArray), (⟨zS, zS⟩ : Role), (⟨zS, zS⟩ : Role), zS⟩ : Cred))) rfl Tryz.isAgg83 Tryz.sizeOf83)) ?_
  refine LE (E_buildSlice (qs := #[(0, (.agg (encCred ((⟨1, (⟨(⟨#[120]⟩ : ByteArray), (⟨#[121]⟩ : ByteArray)⟩ : Role), (⟨#[100]⟩ : ByteArray), (⟨zS, zS⟩ : Role), (⟨zS, zS⟩ : Role), zS⟩ : Cred))).toArray))]) (cs := (encCred ((⟨1, (⟨(⟨#[120]⟩ : ByteArray), (⟨#[121]⟩ : ByteArray)⟩ : Role), (⟨#[100]⟩ : ByteArray), (⟨zS, zS⟩ : Role), (⟨zS, zS⟩ : Role), zS⟩ : Cred))).toArray) hST (parts1 rfl) (run_lit [(.agg (encCred ((⟨1, (⟨(⟨#[120]⟩ : ByteArray), (⟨#[121]⟩ : ByteArray)⟩ : Role), (⟨#[100]⟩ : ByteArray), (⟨zS, zS⟩ : Role), (⟨zS, zS⟩ : Role), zS⟩ : Cred))).toArray)] Tryz.underlying22 Tryz.sizeOf83 Tryz.zeroValue83 (by decide) rfl (by intro v hv; simp only [List.mem_cons, List.not_mem_nil, or_false] at hv; rcases hv with rfl <;> rfl) rfl rfl) (fun W29 b28 hST => ?_))
  obtain ⟨r30, hr31, hm⟩ := bind_some hm
  have hsz := hST.size
  refine LE (E_callM (args := [(.slice none 0 0), (.slice (some ⟨b28, 0, none⟩) 1 1)]) (caps := #[]) [] (((b28, Obj.cells ((encCred ((⟨1, (⟨(⟨#[120]⟩ : ByteArray), (⟨#[121]⟩ : ByteArray)⟩ : Role), (⟨#[100]⟩ : ByteArray), (⟨zS, zS⟩ : Role), (⟨zS, zS⟩ : Role), zS⟩ : Cred))).toArray : Array Value) 83 (0, 0)) :: ((b21, Obj.cells (#[(.slice A23 r6.1.length c24), (.slice A25 r6.2.length c26)] : Array Value) 70 (0, 0)) :: ((b1, Obj.cells ((encCred ((⟨1, (⟨(⟨#[120]⟩ : ByteArray), (⟨#[121]⟩ : ByteArray)⟩ : Role), (⟨#[100]⟩ : ByteArray), (⟨zS, zS⟩ : Role), (⟨zS, zS⟩ : Role), zS⟩ : Cred))).toArray : Array Value) 83 (0, 0)) :: (S15 ++ (S18 ++ [])))))) hST (List.Perm.refl _) rfl Tryz.call43 (by exact args2 rfl rfl) (fun _ _ _ _ => (w_merge_Facts (.slice none 0 0) ([]) (.slice (some ⟨b28, 0, none⟩) 1 1) ([(⟨1, (⟨(⟨#[120]⟩ : ByteArray), (⟨#[121]⟩ : ByteArray)⟩ : Role), (⟨#[100]⟩ : ByteArray), (⟨zS, zS⟩ : Role), (⟨zS, zS⟩ : Role), zS⟩ : Cred)]) _ _ (Sl.nil _ _ _) (Sl.lit (enc := encCred) (l := [(⟨1, (⟨(⟨#[120]⟩ : ByteArray), (⟨#[121]⟩ : ByteArray)⟩ : Role), (⟨#[100]⟩ : ByteArray), (⟨zS, zS⟩ : Role), (⟨zS, zS⟩ : Role), zS⟩ : Cred)]) lenCred rfl (Nat.le_of_ble_eq_true rfl) rfl (hST.at_ (.head _))) hr31)) (fun W32 v35 μ33 L37 hST hle34 hlift hK36 => ?_))
  obtain ⟨y38, S39, y41, S42, hv44, rfl, hy40, hy43⟩ := hK36
  replace hv44 := hv44.symm; subst hv44
  simp only [List.append_assoc, List.cons_append, List.nil_append] at hST
  replace hST : ST false NoF w _ _ ((b28, Obj.cells ((encCred ((⟨1, (⟨(⟨#[120]⟩ : ByteArray), (⟨#[121]⟩ : ByteArray)⟩ : Role), (⟨#[100]⟩ : ByteArray), (⟨zS, zS⟩ : Role), (⟨zS, zS⟩ : Role), zS⟩ : Cred))).toArray : Array Value) 83 (0, 0)) :: ((b21, Obj.cells (#[(.slice A23 r6.1.length c24), (.slice A25 r6.2.length c26)] : Array Value) 70 (0, 0)) :: ((b1, Obj.cells ((encCred ((⟨1, (⟨(⟨#[120]⟩ : ByteArray), (⟨#[121]⟩ : ByteArray)⟩ : Role), (⟨#[100]⟩ : ByteArray), (⟨zS, zS⟩ : Role), (⟨zS, zS⟩ : Role), zS⟩ : Cred))).toArray : Array Value) 83 (0, 0)) :: (S39 ++ (S42 ++ (S15 ++ (S18 ++ []))))))) := hST.perm (permD [S39, S42, [(b28, Obj.cells ((encCred ((⟨1, (⟨(⟨#[120]⟩ : ByteArray), (⟨#[121]⟩ : ByteArray)⟩ : Role), (⟨#[100]⟩ : ByteArray), (⟨zS, zS⟩ : Role), (⟨zS, zS⟩ : Role), zS⟩ : Cred))).toArray : Array Value) 83 (0, 0))], [(b21, Obj.cells (#[(.slice A23 r6.1.length c24), (.slice A25 r6.2.length c26)] : Array Value) 70 (0, 0))], [(b1, Obj.cells ((encCred ((⟨1, (⟨(⟨#[120]⟩ : ByteArray), (⟨#[121]⟩ : ByteArray)⟩ : Role), (⟨#[100]⟩ : ByteArray), (⟨zS, zS⟩ : Role), (⟨zS, zS⟩ : Role), zS⟩ : Cred))).toArray : Array Value) 83 (0, 0))]] [0, 1, 2, 3, 4] [2, 3, 4, 0, 1] ((S15 ++ (S18 ++ []))) (by decide) rfl rfl)
  refine LV (R_move (v := (.tuple #[y38, y41])) rfl) ?_
  refine LV (R_extract (v := y38) rfl rfl) ?_
  refine LV (R_extract (v := y41) rfl rfl) ?_
  refine LV (R_assign (v := y38) rfl) ?_
  refine LV (R_assign (v := y41) rfl) ?_
  refine LW_nil ?_
  refine sq_n ?_
  replace hST : ST false NoF w _ _ ((b21, Obj.cells (#[(.slice A23 r6.1.length c24), (.slice A25 r6.2.length c26)] : Array Value) 70 (0, 0)) :: ((b1, Obj.cells ((encCred ((⟨1, (⟨(⟨#[120]⟩ : ByteArray), (⟨#[121]⟩ : ByteArray)⟩ : Role), (⟨#[100]⟩ : ByteArray), (⟨zS, zS⟩ : Role), (⟨zS, zS⟩ : Role), zS⟩ : Cred))).toArray : Array Value) 83 (0, 0)) :: (S39 ++ (S42 ++ (S15 ++ (S18 ++ [])))))) := hST.sublist (List.Sublist.cons _ (List.Sublist.refl _))
  refine CW_seq ?_
  refine CW_region ?_
  refine LV (R_field fa70_0 rfl) ?_
  refine LV (R_load (v := (.slice A23 r6.1.length c24)) rfl (load_box1 hST.has (.head _) rfl Tryz.isAgg22)) ?_
  refine LV (R_lenRow Tryz.underlying22 rfl hy16) ?_
  refine LV (R_int (k := .i64) (a := ((r6.1.length : Int))) (b := 1) (v := (.bool ((((r6.1.length : Int)) == 1)))) rfl rfl rfl) ?_
  refine LV (R_move (v := (.bool ((((r6.1.length : Int)) == 1)))) rfl) ?_
  obtain ⟨s175, hm176, hm177⟩ := bind_some hm
  refine LW_join (J := fun E W => ∃ (x46 : Bool) (L47 : List (Nat × Obj)), ST false NoF w W μ33 ((b21, Obj.cells (#[(.slice A23 r6.1.length c24), (.slice A25 r6.2.length c26)] : Array Value) 70 (0, 0)) :: ((b1, Obj.cells ((encCred ((⟨1, (⟨(⟨#[120]⟩ : ByteArray), (⟨#[121]⟩ : ByteArray)⟩ : Role), (⟨#[100]⟩ : ByteArray), (⟨zS, zS⟩ : Role), (⟨zS, zS⟩ : Role), zS⟩ : Cred))).toArray : Array Value) 83 (0, 0)) :: (S39 ++ (S42 ++ (S15 ++ (S18 ++ L47)))))) ∧ E 0 = (.bool false) ∧ E 1 = (.pointer (some ⟨b1, 0, none⟩)) ∧ E 2 = (.pointer (some ⟨b21, 0, none⟩)) ∧ E 3 = y38 ∧ E 4 = y41 ∧ E 25 = (.bool x46) ∧ (((if x46 then (((m_merge_Apply ([]) r6.1 r6.2)).bind fun r167 => some ((((r167.length : Int)) == 1))) else some false) : Option Bool).bind fun x65 => (((if x65 then (((m_merge_Back r6.1 r6.2)).bind fun r154 => some ((((r6.1.length : Int)) == 1))) else some false) : Option Bool).bind fun x86 => (((if x86 then (((m_merge_Three ([]) ([(⟨1, (⟨(⟨#[120]⟩ : ByteArray), (⟨#[121]⟩ : ByteArray)⟩ : Role), (⟨#[100]⟩ : ByteArray), (⟨zS, zS⟩ : Role), (⟨zS, zS⟩ : Role), zS⟩ : Cred)]) ([]))).bind fun r142 => some ((((r142.length : Int)) == 1))) else some false) : Option Bool).bind fun x107 => (((if x107 then some ((((r30.1.length : Int)) == 1)) else some false) : Option Bool).bind fun x116 => (((if x116 then some ((((r30.2.length : Int)) == 0)) else some false) : Option Bool).bind fun x123 => some x123))))) = some r) 5 ?_ (fun key178 => ?_)
  · rintro E W ⟨x46, L47, hST, e49, e50, e51, e52, e53, e54, hm48⟩
    refine LV (R_move (v := (.bool x46)) e54) ?_
    obtain ⟨s163, hm164, hm165⟩ := bind_some hm48
    refine LW_join (J := fun E W => ∃ (x65 : Bool) (μ64 : Mem) (L66 : List (Nat × Obj)), Sub μ33 μ64 ∧ ST false NoF w W μ64 ((b21, Obj.cells (#[(.slice A23 r6.1.length c24), (.slice A25 r6.2.length c26)] : Array Value) 70 (0, 0)) :: ((b1, Obj.cells ((encCred ((⟨1, (⟨(⟨#[120]⟩ : ByteArray), (⟨#[121]⟩ : ByteArray)⟩ : Role), (⟨#[100]⟩ : ByteArray), (⟨zS, zS⟩ : Role), (⟨zS, zS⟩ : Role), zS⟩ : Cred))).toArray : Array Value) 83 (0, 0)) :: (S39 ++ (S42 ++ (S15 ++ (S18 ++ L66)))))) ∧ E 0 = (.bool false) ∧ E 1 = (.pointer (some ⟨b1, 0, none⟩)) ∧ E 2 = (.pointer (some ⟨b21, 0, none⟩)) ∧ E 3 = y38 ∧ E 4 = y41 ∧ E 31 = (.bool x65) ∧ (((if x65 then (((m_merge_Back r6.1 r6.2)).bind fun r154 => some ((((r6.1.length : Int)) == 1))) else some false) : Option Bool).bind fun x86 => (((if x86 then (((m_merge_Three ([]) ([(⟨1, (⟨(⟨#[120]⟩ : ByteArray), (⟨#[121]⟩ : ByteArray)⟩ : Role), (⟨#[100]⟩ : ByteArray), (⟨zS, zS⟩ : Role), (⟨zS, zS⟩ : Role), zS⟩ : Cred)]) ([]))).bind fun r142 => some ((((r142.length : Int)) == 1))) else some false) : Option Bool).bind fun x107 => (((if x107 then some ((((r30.1.length : Int)) == 1)) else some false) : Option Bool).bind fun x116 => (((if x116 then some ((((r30.2.length : Int)) == 0)) else some false) : Option Bool).bind fun x123 => some x123)))) = some r) 5 ?_ (fun key166 => ?_)
    · rintro E W ⟨x65, μ64, L66, hle68, hST, e69, e70, e71, e72, e73, e74, hm67⟩
      refine LV (R_move (v := (.bool x65)) e74) ?_
      obtain ⟨s150, hm151, hm152⟩ := bind_some hm67
      refine LW_join (J := fun E W => ∃ (x86 : Bool) (μ85 : Mem) (L87 : List (Nat × Obj)), Sub μ64 μ85 ∧ ST false NoF w W μ85 ((b1, Obj.cells ((encCred ((⟨1, (⟨(⟨#[120]⟩ : ByteArray), (⟨#[121]⟩ : ByteArray)⟩ : Role), (⟨#[100]⟩ : ByteArray), (⟨zS, zS⟩ : Role), (⟨zS, zS⟩ : Role), zS⟩ : Cred))).toArray : Array Value) 83 (0, 0)) :: (S39 ++ (S42 ++ L87))) ∧ E 0 = (.bool false) ∧ E 1 = (.pointer (some ⟨b1, 0, none⟩)) ∧ E 3 = y38 ∧ E 4 = y41 ∧ E 38 = (.bool x86) ∧ (((if x86 then (((m_merge_Three ([]) ([(⟨1, (⟨(⟨#[120]⟩ : ByteArray), (⟨#[121]⟩ : ByteArray)⟩ : Role), (⟨#[100]⟩ : ByteArray), (⟨zS, zS⟩ : Role), (⟨zS, zS⟩ : Role), zS⟩ : Cred)]) ([]))).bind fun r142 => some ((((r142.length : Int)) == 1))) else some false) : Option Bool).bind fun x107 => (((if x107 then some ((((r30.1.length : Int)) == 1)) else some false) : Option Bool).bind fun x116 => (((if x116 then some ((((r30.2.length : Int)) == 0)) else some false) : Option Bool).bind fun x123 => some x123))) = some r) 6 ?_ (fun key153 => ?_)
      · rintro E W ⟨x86, μ85, L87, hle89, hST, e90, e91, e92, e93, e94, hm88⟩
        refine LV (R_move (v := (.bool x86)) e94) ?_
        obtain ⟨s136, hm137, hm138⟩ := bind_some hm88
        refine LW_join (J := fun E W => ∃ (x107 : Bool) (μ106 : Mem) (L108 : List (Nat × Obj)), Sub μ85 μ106 ∧ ST false NoF w W μ106 (S39 ++ (S42 ++ L108)) ∧ E 0 = (.bool false) ∧ E 3 = y38 ∧ E 4 = y41 ∧ E 45 = (.bool x107) ∧ (((if x107 then some ((((r30.1.length : Int)) == 1)) else some false) : Option Bool).bind fun x116 => (((if x116 then some ((((r30.2.length : Int)) == 0)) else some false) : Option Bool).bind fun x123 => some x123)) = some r) 6 ?_ (fun key139 => ?_)
        · rintro E W ⟨x107, μ106, L108, hle110, hST, e111, e112, e113, e114, hm109⟩
          refine LV (R_move (v := (.bool x107)) e114) ?_
          obtain ⟨s132, hm133, hm134⟩ := bind_some hm109
          refine LW_join (J := fun E W => ∃ (x116 : Bool) (L117 : List (Nat × Obj)), ST false NoF w W μ106 (S42 ++ L117) ∧ E 0 = (.bool false) ∧ E 4 = y41 ∧ E 50 = (.bool x116) ∧ (((if x116 then some ((((r30.2.length : Int)) == 0)) else some false) : Option Bool).bind fun x123 => some x123) = some r) 4 ?_ (fun key135 => ?_)
          · rintro E W ⟨x116, L117, hST, e119, e120, e121, hm118⟩
            refine LV (R_move (v := (.bool x116)) e121) ?_
            obtain ⟨s128, hm129, hm130⟩ := bind_some hm118
            refine LW_join (J := fun E W => ∃ (x123 : Bool) (L124 : List (Nat × Obj)), ST false NoF w W μ106 L124 ∧ E 0 = (.bool false) ∧ E 55 = (.bool x123) ∧ some x123 = some r) 4 ?_ (fun key131 => ?_)
            · rintro E W ⟨x123, L124, hST, e126, e127, hm125⟩
              refine LV (R_assign (v := (.bool x123)) e127) ?_
              refine LW_nil ?_
              refine sq_n ?_
              refine CW_ret ?_
              replace hm125 := Option.some.inj hm125; subst hm125
              refine retQ_1 (v := (.bool x123)) rfl rfl ?_
              exact ⟨rfl, hST.ex⟩
            · rcases bool_cases x116 with hb122 | hb122
              · replace hm129 := if_t hb122 hm129
                refine LW_v (.inr ⟨35, true, 51, rfl, rfl, by decide, (congrArg Value.bool hb122)⟩) rfl (by decide) (R_move (v := y41) e120) ?_
                refine LW_v (.inr ⟨35, true, 51, rfl, rfl, by decide, (congrArg Value.bool hb122)⟩) rfl (by decide) (R_lenRow Tryz.underlying53 rfl hy43) ?_
                refine LW_v (.inr ⟨35, true, 51, rfl, rfl, by decide, (congrArg Value.bool hb122)⟩) rfl (by decide) (R_int (k := .i64) (a := ((r30.2.length : Int))) (b := 0) (v := (.bool ((((r30.2.length : Int)) == 0)))) rfl rfl rfl) ?_
                refine LV (R_pickT (v := (.bool ((((r30.2.length : Int)) == 0)))) (congrArg Value.bool hb122) rfl) ?_
                replace hm129 := Option.some.inj hm129; subst hm129
                exact key131 _ _ ⟨((((r30.2.length : Int)) == 0)), _, (hST.sublist ((List.Sublist.refl _).trans (List.sublist_append_right _ _))), e119, rfl, hm130⟩
              · replace hm129 := if_f hb122 hm129
                refine LW_no rfl (by decide) rfl rfl (by decide) (congrArg Value.bool hb122) ?_
                refine LW_no rfl (by decide) rfl rfl (by decide) (congrArg Value.bool hb122) ?_
                refine LW_no rfl (by decide) rfl rfl (by decide) (congrArg Value.bool hb122) ?_
                refine LV (R_pickF (v := (.bool false)) (congrArg Value.bool hb122) rfl) ?_
                replace hm129 := Option.some.inj hm129; subst hm129
                exact key131 _ _ ⟨false, _, (hST.sublist ((List.Sublist.refl _).trans (List.sublist_append_right _ _))), e119, rfl, hm130⟩
          · rcases bool_cases x107 with hb115 | hb115
            · replace hm133 := if_t hb115 hm133
              refine LW_v (.inr ⟨30, true, 46, rfl, rfl, by decide, (congrArg Value.bool hb115)⟩) rfl (by decide) (R_move (v := y38) e112) ?_
              refine LW_v (.inr ⟨30, true, 46, rfl, rfl, by decide, (congrArg Value.bool hb115)⟩) rfl (by decide) (R_lenRow Tryz.underlying53 rfl hy40) ?_
              refine LW_v (.inr ⟨30, true, 46, rfl, rfl, by decide, (congrArg Value.bool hb115)⟩) rfl (by decide) (R_int (k := .i64) (a := ((r30.1.length : Int))) (b := 1) (v := (.bool ((((r30.1.length : Int)) == 1)))) rfl rfl rfl) ?_
              refine LV (R_pickT (v := (.bool ((((r30.1.length : Int)) == 1)))) (congrArg Value.bool hb115) rfl) ?_
              replace hm133 := Option.some.inj hm133; subst hm133
              exact key135 _ _ ⟨((((r30.1.length : Int)) == 1)), _, (hST.sublist ((List.Sublist.refl _).trans (List.sublist_append_right _ _))), e111, e113, rfl, hm134⟩
            · replace hm133 := if_f hb115 hm133
              refine LW_no rfl (by decide) rfl rfl (by decide) (congrArg Value.bool hb115) ?_
              refine LW_no rfl (by decide) rfl rfl (by decide) (congrArg Value.bool hb115) ?_
              refine LW_no rfl (by decide) rfl rfl (by decide) (congrArg Value.bool hb115) ?_
              refine LV (R_pickF (v := (.bool false)) (congrArg Value.bool hb115) rfl) ?_
              replace hm133 := Option.some.inj hm133; subst hm133
              exact key135 _ _ ⟨false, _, (hST.sublist ((List.Sublist.refl _).trans (List.sublist_append_right _ _))), e111, e113, rfl, hm134⟩
        · rcases bool_cases x86 with hb95 | hb95
          · replace hm137 := if_t hb95 hm137
            refine LW_v (.inr ⟨23, true, 39, rfl, rfl, by decide, (congrArg Value.bool hb95)⟩) rfl (by decide) (R_load (v := (.agg (encCred ((⟨1, (⟨(⟨#[120]⟩ : ByteArray), (⟨#[121]⟩ : ByteArray)⟩ : Role), (⟨#[100]⟩ : ByteArray), (⟨zS, zS⟩ : Role), (⟨zS, zS⟩ : Role), zS⟩ : Cred))).toArray)) e91 (load_boxA hST.has (.head _) (encCred ((⟨1, (⟨(⟨#[120]⟩ : ByteArray), (⟨#[121]⟩ : ByteArray)⟩ : Role), (⟨#[100]⟩ : ByteArray), (⟨zS, zS⟩ : Role), (⟨zS, zS⟩ : Role), zS⟩ : Cred))) rfl Tryz.isAgg83 Tryz.sizeOf83)) ?_
            refine LW_e (.inr ⟨23, true, 39, rfl, rfl, by decide, (congrArg Value.bool hb95)⟩) rfl (by decide) (E_buildSlice (qs := #[(0, (.agg (encCred ((⟨1, (⟨(⟨#[120]⟩ : ByteArray), (⟨#[121]⟩ : ByteArray)⟩ : Role), (⟨#[100]⟩ : ByteArray), (⟨zS, zS⟩ : Role), (⟨zS, zS⟩ : Role), zS⟩ : Cred))).toArray))]) (cs := (encCred ((⟨1, (⟨(⟨#[120]⟩ : ByteArray), (⟨#[121]⟩ : ByteArray)⟩ : Role), (⟨#[100]⟩ : ByteArray), (⟨zS, zS⟩ : Role), (⟨zS, zS⟩ : Role), zS⟩ : Cred))).toArray) hST (parts1 rfl) (run_lit [(.agg (encCred ((⟨1, (⟨(⟨#[120]⟩ : ByteArray), (⟨#[121]⟩ : ByteArray)⟩ : Role), (⟨#[100]⟩ : ByteArray), (⟨zS, zS⟩ : Role), (⟨zS, zS⟩ : Role), zS⟩ : Cred))).toArray)] Tryz.underlying22 Tryz.sizeOf83 Tryz.zeroValue83 (by decide) rfl (by intro v hv; simp only [List.mem_cons, List.not_mem_nil, or_false] at hv; rcases hv with rfl <;> rfl) rfl rfl) (fun W141 b140 hST => ?_))
            obtain ⟨r142, hr143, hm137⟩ := bind_some hm137
            refine LW_e (.inr ⟨23, true, 39, rfl, rfl, by decide, (congrArg Value.bool hb95)⟩) rfl (by decide) (E_givesRow (args := [(.slice none 0 0), (.slice (some ⟨b140, 0, none⟩) 1 1), (.slice none 0 0)]) [_, _] _ hST rfl Tryz.call44 (by exact args3 rfl rfl rfl) (GivesRow.weak (w_merge_Three (.slice none 0 0) ([]) (.slice (some ⟨b140, 0, none⟩) 1 1) ([(⟨1, (⟨(⟨#[120]⟩ : ByteArray), (⟨#[121]⟩ : ByteArray)⟩ : Role), (⟨#[100]⟩ : ByteArray), (⟨zS, zS⟩ : Role), (⟨zS, zS⟩ : Role), zS⟩ : Cred)]) (.slice none 0 0) ([]) _ _ (Sl.nil _ _ _) (Sl.lit (enc := encCred) (l := [(⟨1, (⟨(⟨#[120]⟩ : ByteArray), (⟨#[121]⟩ : ByteArray)⟩ : Role), (⟨#[100]⟩ : ByteArray), (⟨zS, zS⟩ : Role), (⟨zS, zS⟩ : Role), zS⟩ : Cred)]) lenCred rfl (Nat.le_of_ble_eq_true rfl) rfl (hST.at_ (.head _))) (Sl.nil _ _ _) hr143)) (fun W144 v147 μ145 R148 hST hle146 hR149 => ?_))
            refine LW_v (.inr ⟨23, true, 39, rfl, rfl, by decide, (congrArg Value.bool hb95)⟩) rfl (by decide) (R_lenRow Tryz.underlying22 rfl hR149) ?_
            refine LW_v (.inr ⟨23, true, 39, rfl, rfl, by decide, (congrArg Value.bool hb95)⟩) rfl (by decide) (R_int (k := .i64) (a := ((r142.length : Int))) (b := 1) (v := (.bool ((((r142.length : Int)) == 1)))) rfl rfl rfl) ?_
            refine LV (R_pickT (v := (.bool ((((r142.length : Int)) == 1)))) (congrArg Value.bool hb95) rfl) ?_
            replace hm137 := Option.some.inj hm137; subst hm137
            replace hST : ST false NoF w _ _ ((b140, Obj.cells ((encCred ((⟨1, (⟨(⟨#[120]⟩ : ByteArray), (⟨#[121]⟩ : ByteArray)⟩ : Role), (⟨#[100]⟩ : ByteArray), (⟨zS, zS⟩ : Role), (⟨zS, zS⟩ : Role), zS⟩ : Cred))).toArray : Array Value) 83 (0, 0)) :: ((b1, Obj.cells ((encCred ((⟨1, (⟨(⟨#[120]⟩ : ByteArray), (⟨#[121]⟩ : ByteArray)⟩ : Role), (⟨#[100]⟩ : ByteArray), (⟨zS, zS⟩ : Role), (⟨zS, zS⟩ : Role), zS⟩ : Cred))).toArray : Array Value) 83 (0, 0)) :: (R148 ++ (S39 ++ (S42 ++ L87))))) := hST
            exact key139 _ _ ⟨((((r142.length : Int)) == 1)), μ145, _, hle146, (hST.sublist (List.Sublist.cons _ (List.Sublist.cons _ ((List.Sublist.refl _).trans (List.sublist_append_right _ _))))), e90, e92, e93, rfl, hm138⟩
          · replace hm137 := if_f hb95 hm137
            refine LW_no rfl (by decide) rfl rfl (by decide) (congrArg Value.bool hb95) ?_
            refine LW_no rfl (by decide) rfl rfl (by decide) (congrArg Value.bool hb95) ?_
            refine LW_no rfl (by decide) rfl rfl (by decide) (congrArg Value.bool hb95) ?_
            refine LW_no rfl (by decide) rfl rfl (by decide) (congrArg Value.bool hb95) ?_
            refine LW_no rfl (by decide) rfl rfl (by decide) (congrArg Value.bool hb95) ?_
            refine LV (R_pickF (v := (.bool false)) (congrArg Value.bool hb95) rfl) ?_
            replace hm137 := Option.some.inj hm137; subst hm137
            exact key139 _ _ ⟨false, μ85, _, (Sub.refl _), (hST.sublist (List.Sublist.cons _ (List.Sublist.refl _))), e90, e92, e93, rfl, hm138⟩
      · rcases bool_cases x65 with hb75 | hb75
        · replace hm151 := if_t hb75 hm151
          refine LW_v (.inr ⟨16, true, 32, rfl, rfl, by decide, (congrArg Value.bool hb75)⟩) rfl (by decide) (R_load (v := (.agg #[(.slice A23 r6.1.length c24), (.slice A25 r6.2.length c26)])) e71 (load_boxA hST.has (.head _) [(.slice A23 r6.1.length c24), (.slice A25 r6.2.length c26)] rfl Tryz.isAgg70 Tryz.sizeOf70)) ?_
          obtain ⟨r154, hr155, hm151⟩ := bind_some hm151
          have hsz := hST.size
          refine LW_e (.inr ⟨16, true, 32, rfl, rfl, by decide, (congrArg Value.bool hb75)⟩) rfl (by decide) (E_callM (args := [(.agg #[(.slice A23 r6.1.length c24), (.slice A25 r6.2.length c26)])]) (caps := #[]) [] (((b21, Obj.cells (#[(.slice A23 r6.1.length c24), (.slice A25 r6.2.length c26)] : Array Value) 70 (0, 0)) :: ((b1, Obj.cells ((encCred ((⟨1, (⟨(⟨#[120]⟩ : ByteArray), (⟨#[121]⟩ : ByteArray)⟩ : Role), (⟨#[100]⟩ : ByteArray), (⟨zS, zS⟩ : Role), (⟨zS, zS⟩ : Role), zS⟩ : Cred))).toArray : Array Value) 83 (0, 0)) :: (S39 ++ (S42 ++ (S15 ++ (S18 ++ L66))))))) hST (List.Perm.refl _) rfl Tryz.call50 (by exact args1 rfl) (fun _ _ _ _ => GivesM.weak (w_merge_Back (.slice A23 r6.1.length c24) r6.1 (.slice A25 r6.2.length c26) r6.2 _ _ (hy16.sl lenCred (fun b o hq => hST.at_ (.tail _ (.tail _ (List.mem_append_right _ (List.mem_append_right _ (List.mem_append_left _ hq))))))) (hy19.sl lenCred (fun b o hq => hST.at_ (.tail _ (.tail _ (List.mem_append_right _ (List.mem_append_right _ (List.mem_append_right _ (List.mem_append_left _ hq)))))))) hr155)) (fun W156 v159 μ157 L161 hST hle158 hlift hK160 => ?_))
          obtain ⟨hv162, rfl⟩ := hK160
          replace hv162 := hv162.symm; subst hv162
          simp only [List.append_assoc, List.cons_append, List.nil_append] at hST
          refine LW_v (.inr ⟨16, true, 32, rfl, rfl, by decide, (congrArg Value.bool hb75)⟩) rfl (by decide) (R_fieldV1 (v := (.slice A23 r6.1.length c24)) Tryz.underlying70 rfl Tryz.isAgg22 rfl rfl) ?_
          refine LW_v (.inr ⟨16, true, 32, rfl, rfl, by decide, (congrArg Value.bool hb75)⟩) rfl (by decide) (R_lenRow Tryz.underlying22 rfl hy16) ?_
          refine LW_v (.inr ⟨16, true, 32, rfl, rfl, by decide, (congrArg Value.bool hb75)⟩) rfl (by decide) (R_int (k := .i64) (a := ((r6.1.length : Int))) (b := 1) (v := (.bool ((((r6.1.length : Int)) == 1)))) rfl rfl rfl) ?_
          refine LV (R_pickT (v := (.bool ((((r6.1.length : Int)) == 1)))) (congrArg Value.bool hb75) rfl) ?_
          replace hm151 := Option.some.inj hm151; subst hm151
          replace hST : ST false NoF w _ _ ((b21, Obj.cells (#[(.slice A23 r6.1.length c24), (.slice A25 r6.2.length c26)] : Array Value) 70 (0, 0)) :: ((b1, Obj.cells ((encCred ((⟨1, (⟨(⟨#[120]⟩ : ByteArray), (⟨#[121]⟩ : ByteArray)⟩ : Role), (⟨#[100]⟩ : ByteArray), (⟨zS, zS⟩ : Role), (⟨zS, zS⟩ : Role), zS⟩ : Cred))).toArray : Array Value) 83 (0, 0)) :: (S39 ++ (S42 ++ (S15 ++ (S18 ++ L66)))))) := hST
          exact key153 _ _ ⟨((((r6.1.length : Int)) == 1)), μ157, _, hle158, (hST.sublist (List.Sublist.cons _ (List.Sublist.cons_cons _ (List.Sublist.append (List.Sublist.refl _) (List.Sublist.append (List.Sublist.refl _) (((List.Sublist.refl _).trans (List.sublist_append_right _ _)).trans (List.sublist_append_right _ _))))))), e69, e70, e72, e73, rfl, hm152⟩
        · replace hm151 := if_f hb75 hm151
          refine LW_no rfl (by decide) rfl rfl (by decide) (congrArg Value.bool hb75) ?_
          refine LW_no rfl (by decide) rfl rfl (by decide) (congrArg Value.bool hb75) ?_
          refine LW_no rfl (by decide) rfl rfl (by decide) (congrArg Value.bool hb75) ?_
          refine LW_no rfl (by decide) rfl rfl (by decide) (congrArg Value.bool hb75) ?_
          refine LW_no rfl (by decide) rfl rfl (by decide) (congrArg Value.bool hb75) ?_
          refine LV (R_pickF (v := (.bool false)) (congrArg Value.bool hb75) rfl) ?_
          replace hm151 := Option.some.inj hm151; subst hm151
          exact key153 _ _ ⟨false, μ64, _, (Sub.refl _), (hST.sublist (List.Sublist.cons _ (List.Sublist.cons_cons _ (List.Sublist.append (List.Sublist.refl _) (List.Sublist.append (List.Sublist.refl _) (((List.Sublist.refl _).trans (List.sublist_append_right _ _)).trans (List.sublist_append_right _ _))))))), e69, e70, e72, e73, rfl, hm152⟩
    · rcases bool_cases x46 with hb55 | hb55
      · replace hm164 := if_t hb55 hm164
        refine LW_v (.inr ⟨10, true, 26, rfl, rfl, by decide, (congrArg Value.bool hb55)⟩) rfl (by decide) (R_load (v := (.agg #[(.slice A23 r6.1.length c24), (.slice A25 r6.2.length c26)])) e51 (load_boxA hST.has (.head _) [(.slice A23 r6.1.length c24), (.slice A25 r6.2.length c26)] rfl Tryz.isAgg70 Tryz.sizeOf70)) ?_
        obtain ⟨r167, hr168, hm164⟩ := bind_some hm164
        refine LW_e (.inr ⟨10, true, 26, rfl, rfl, by decide, (congrArg Value.bool hb55)⟩) rfl (by decide) (E_givesRow (args := [(.slice none 0 0), (.agg #[(.slice A23 r6.1.length c24), (.slice A25 r6.2.length c26)])]) [_, _] _ hST rfl Tryz.call48 (by exact args2 rfl rfl) (GivesRow.weak (w_merge_Apply (.slice none 0 0) ([]) (.slice A23 r6.1.length c24) r6.1 (.slice A25 r6.2.length c26) r6.2 _ _ (Sl.nil _ _ _) (hy16.sl lenCred (fun b o hq => hST.at_ (.tail _ (.tail _ (List.mem_append_right _ (List.mem_append_right _ (List.mem_append_left _ hq))))))) (hy19.sl lenCred (fun b o hq => hST.at_ (.tail _ (.tail _ (List.mem_append_right _ (List.mem_append_right _ (List.mem_append_right _ (List.mem_append_left _ hq)))))))) hr168)) (fun W169 v172 μ170 R173 hST hle171 hR174 => ?_))
        refine LW_v (.inr ⟨10, true, 26, rfl, rfl, by decide, (congrArg Value.bool hb55)⟩) rfl (by decide) (R_lenRow Tryz.underlying22 rfl hR174) ?_
        refine LW_v (.inr ⟨10, true, 26, rfl, rfl, by decide, (congrArg Value.bool hb55)⟩) rfl (by decide) (R_int (k := .i64) (a := ((r167.length : Int))) (b := 1) (v := (.bool ((((r167.length : Int)) == 1)))) rfl rfl rfl) ?_
        refine LV (R_pickT (v := (.bool ((((r167.length : Int)) == 1)))) (congrArg Value.bool hb55) rfl) ?_
        replace hm164 := Option.some.inj hm164; subst hm164
        replace hST : ST false NoF w _ _ ((b21, Obj.cells (#[(.slice A23 r6.1.length c24), (.slice A25 r6.2.length c26)] : Array Value) 70 (0, 0)) :: ((b1, Obj.cells ((encCred ((⟨1, (⟨(⟨#[120]⟩ : ByteArray), (⟨#[121]⟩ : ByteArray)⟩ : Role), (⟨#[100]⟩ : ByteArray), (⟨zS, zS⟩ : Role), (⟨zS, zS⟩ : Role), zS⟩ : Cred))).toArray : Array Value) 83 (0, 0)) :: (R173 ++ (S39 ++ (S42 ++ (S15 ++ (S18 ++ L47))))))) := hST
        exact key166 _ _ ⟨((((r167.length : Int)) == 1)), μ170, _, hle171, (hST.sublist (List.Sublist.cons_cons _ (List.Sublist.cons_cons _ ((List.Sublist.refl _).trans (List.sublist_append_right _ _))))), e49, e50, e51, e52, e53, rfl, hm165⟩
      · replace hm164 := if_f hb55 hm164
        refine LW_no rfl (by decide) rfl rfl (by decide) (congrArg Value.bool hb55) ?_
        refine LW_no rfl (by decide) rfl rfl (by decide) (congrArg Value.bool hb55) ?_
        refine LW_no rfl (by decide) rfl rfl (by decide) (congrArg Value.bool hb55) ?_
        refine LW_no rfl (by decide) rfl rfl (by decide) (congrArg Value.bool hb55) ?_
        refine LV (R_pickF (v := (.bool false)) (congrArg Value.bool hb55) rfl) ?_
        replace hm164 := Option.some.inj hm164; subst hm164
        exact key166 _ _ ⟨false, μ33, _, (Sub.refl _), (hST.sublist (List.Sublist.refl _)), e49, e50, e51, e52, e53, rfl, hm165⟩
  · rcases bool_cases ((((r6.1.length : Int)) == 1)) with hb45 | hb45
    · replace hm176 := if_t hb45 hm176
      refine LW_v (.inr ⟨4, true, 20, rfl, rfl, by decide, (congrArg Value.bool hb45)⟩) rfl (by decide) (R_field fa70_1 rfl) ?_
      refine LW_v (.inr ⟨4, true, 20, rfl, rfl, by decide, (congrArg Value.bool hb45)⟩) rfl (by decide) (R_load (v := (.slice A25 r6.2.length c26)) rfl (load_box1 hST.has (.head _) rfl Tryz.isAgg22)) ?_
      refine LW_v (.inr ⟨4, true, 20, rfl, rfl, by decide, (congrArg Value.bool hb45)⟩) rfl (by decide) (R_lenRow Tryz.underlying22 rfl hy19) ?_
      refine LW_v (.inr ⟨4, true, 20, rfl, rfl, by decide, (congrArg Value.bool hb45)⟩) rfl (by decide) (R_int (k := .i64) (a := ((r6.2.length : Int))) (b := 0) (v := (.bool ((((r6.2.length : Int)) == 0)))) rfl rfl rfl) ?_
      refine LV (R_pickT (v := (.bool ((((r6.2.length : Int)) == 0)))) (congrArg Value.bool hb45) rfl) ?_
      replace hm176 := Option.some.inj hm176; subst hm176
      exact key178 _ _ ⟨((((r6.2.length : Int)) == 0)), _, (hST.sublist (List.Sublist.refl _)), rfl, rfl, rfl, rfl, rfl, rfl, hm177⟩
    · replace hm176 := if_f hb45 hm176
      refine LW_no rfl (by decide) rfl rfl (by decide) (congrArg Value.bool hb45) ?_
      refine LW_no rfl (by decide) rfl rfl (by decide) (congrArg Value.bool hb45) ?_
      refine LW_no rfl (by decide) rfl rfl (by decide) (congrArg Value.bool hb45) ?_
      refine LW_no rfl (by decide) rfl rfl (by decide) (congrArg Value.bool hb45) ?_
      refine LV (R_pickF (v := (.bool false)) (congrArg Value.bool hb45) rfl) ?_
      replace hm176 := Option.some.inj hm176; subst hm176
      exact key178 _ _ ⟨false, _, (hST.sublist (List.Sublist.refl _)), rfl, rfl, rfl, rfl, rfl, rfl, hm177⟩
theorem w_law05_Great (v_a0 : Value) (a0 : List Cred) (r : Int) (w : World) (h_a0 : Sl (Pl encCred) 9 (hp w) v_a0 a0) (hm : m_law05_Great a0 = some r) :
    Gives true Tryz.prog 16 [v_a0] w (.int .i64 r) := by
  have hST := ST.start (dd := true) w
  unfold m_law05_Great at hm
  refine calls_of_CW (n := 54) Tryz.func16 rfl rfl (Nat.le_of_ble_eq_true rfl) ?_
  refine CW_seq ?_
  refine CW_region ?_
  refine LV (R_assign (v := (.int .i64 0)) rfl) ?_
  refine LW_nil ?_
  refine sq_n ?_
  refine CW_seq ?_
  refine CW_region ?_
  refine LV (R_assign (v := (.int .i64 0)) rfl) ?_
  refine LW_nil ?_
  refine sq_n ?_
  refine CW_seq ?_
  refine CW_seq ?_
  refine CW_region ?_
  refine LV (R_move (v := v_a0) rfl) ?_
  refine LV (R_len Tryz.underlying22 rfl h_a0) ?_
  refine LV (R_move (v := (.int .i64 0)) rfl) ?_
  refine LW_nil ?_
  refine sq_n ?_
  refine CW_range (fun i E W => ∃ (x47 : Int) (L57 : List (Nat × Obj)), (E 8 = .int .i64 (i : Nat) ∧ E 7 = .int .i64 (a0.length : Nat)) ∧ ST true NoF w W (hp w) L57 ∧ E 3 = (.int .i64 x47) ∧ E 6 = v_a0 ∧ m_law05_Great_L1 (a0.drop i) x47 = some r) a0.length h_a0.len ⟨0, _, ⟨rfl, rfl⟩, (hST.sublist (List.Sublist.refl _)), rfl, rfl, hm⟩ (by decide) (by decide) (by decide) (fun _ _ _ h => by obtain ⟨_, _, eIN, _⟩ := h; exact eIN) ?_ ?_
  · rintro i34 E W hi40 ⟨x47, L57, ⟨eI, eN⟩, hST, e59, e60, hm58⟩
    obtain ⟨x35, xs36, hx38, hx37, hx39⟩ := drop_cons hi40
    rw [hx38] at hm58
    rw [m_law05_Great_L1] at hm58
    refine CW_block ?_
    refine CW_seq ?_
    refine CW_region ?_
    refine LQ (R_indexP (enc := encCred) (i := (i34 : Int)) (x0 := x35) Tryz.underlying22 Tryz.sizeOf83 e60 eI h_a0 (Int.natCast_nonneg _) hx37) (fun p61 hp62 => ?_)
    refine LV (R_load rfl (load_atA hST.has hp62 Tryz.isAgg83 Tryz.sizeOf83)) ?_
    refine LE (E_alloc hST Tryz.zeroValue83 (fun W65 b64 hST => ?_))
    refine LW_e0 (.inl rfl) rfl (E_store [] (.agg (encCred x35).toArray) ((encCred x35).toArray) hST rfl rfl Tryz.sizeOf83 (oneCred x35) (Nat.le_of_ble_eq_true rfl) rfl (fun W66 hST => ?_))
    refine LW_nil ?_
    refine sq_n ?_
    refine CW_region ?_
    refine LV (R_move (v := (.int .i64 x47)) e59) ?_
    refine LV (R_field fa83_1 rfl) ?_
    refine LV (R_field fa47_0 rfl) ?_
    refine LV (R_load (v := (.string x35.Head.Owner)) rfl (load_box1 hST.has (.head _) rfl Tryz.isAgg9)) ?_
    refine LV (R_lenStr (s := x35.Head.Owner) Tryz.underlying9 rfl) ?_
    refine LV (R_int (k := .i64) (a := 20) (b := ((x35.Head.Owner.size : Int))) (v := (.int .i64 ((IntKind.i64.wrap (20 + ((x35.Head.Owner.size : Int))))))) rfl rfl rfl) ?_
    refine LV (R_field fa83_1 rfl) ?_
    refine LV (R_field fa47_1 rfl) ?_
    refine LV (R_load (v := (.string x35.Head.Word)) rfl (load_box1 hST.has (.head _) rfl Tryz.isAgg9)) ?_
    refine LV (R_lenStr (s := x35.Head.Word) Tryz.underlying9 rfl) ?_
    refine LV (R_int (k := .i64) (a := ((IntKind.i64.wrap (20 + ((x35.Head.Owner.size : Int)))))) (b := ((x35.Head.Word.size : Int))) (v := (.int .i64 ((IntKind.i64.wrap (((IntKind.i64.wrap (20 + ((x35.Head.Owner.size : Int))))) + ((x35.Head.Word.size : Int))))))) rfl rfl rfl) ?_
    refine LV (R_field fa83_2 rfl) ?_
    refine LV (R_load (v := (.string x35.Who)) rfl (load_box1 hST.has (.head _) rfl Tryz.isAgg9)) ?_
    refine LV (R_lenStr (s := x35.Who) Tryz.underlying9 rfl) ?_
    refine LV (R_int (k := .i64) (a := ((IntKind.i64.wrap (((IntKind.i64.wrap (20 + ((x35.Head.Owner.size : Int))))) + ((x35.Head.Word.size : Int)))))) (b := ((x35.Who.size : Int))) (v := (.int .i64 ((IntKind.i64.wrap (((IntKind.i64.wrap (((IntKind.i64.wrap (20 + ((x35.Head.Owner.size : Int))))) + ((x35.Head.Word.size : Int))))) + ((x35.Who.size : Int))))))) rfl rfl rfl) ?_
    refine LV (R_field fa83_3 rfl) ?_
    refine LV (R_field fa47_0 rfl) ?_
    refine LV (R_load (v := (.string x35.B.Owner)) rfl (load_box1 hST.has (.head _) rfl Tryz.isAgg9)) ?_
    refine LV (R_lenStr (s := x35.B.Owner) Tryz.underlying9 rfl) ?_
    refine LV (R_int (k := .i64) (a := ((IntKind.i64.wrap (((IntKind.i64.wrap (((IntKind.i64.wrap (20 + ((x35.Head.Owner.size : Int))))) + ((x35.Head.Word.size : Int))))) + ((x35.Who.size : Int)))))) (b := ((x35.B.Owner.size : Int))) (v := (.int .i64 ((IntKind.i64.wrap (((IntKind.i64.wrap (((IntKind.i64.wrap (((IntKind.i64.wrap (20 + ((x35.Head.Owner.size : Int))))) + ((x35.Head.Word.size : Int))))) + ((x35.Who.size : Int))))) + ((x35.B.Owner.size : Int))))))) rfl rfl rfl) ?_
    refine LV (R_field fa83_3 rfl) ?_
    refine LV (R_field fa47_1 rfl) ?_
    refine LV (R_load (v := (.string x35.B.Word)) rfl (load_box1 hST.has (.head _) rfl Tryz.isAgg9)) ?_
    refine LV (R_lenStr (s := x35.B.Word) Tryz.underlying9 rfl) ?_
    refine LV (R_int (k := .i64) (a := ((IntKind.i64.wrap (((IntKind.i64.wrap (((IntKind.i64.wrap (((IntKind.i64.wrap (20 + ((x35.Head.Owner.size : Int))))) + ((x35.Head.Word.size : Int))))) + ((x35.Who.size : Int))))) + ((x35.B.Owner.size : Int)))))) (b := ((x35.B.Word.size : Int))) (v := (.int .i64 ((IntKind.i64.wrap (((IntKind.i64.wrap (((IntKind.i64.wrap (((IntKind.i64.wrap (((IntKind.i64.wrap (20 + ((x35.Head.Owner.size : Int))))) + ((x35.Head.Word.size : Int))))) + ((x35.Who.size : Int))))) + ((x35.B.Owner.size : Int))))) + ((x35.B.Word.size : Int))))))) rfl rfl rfl) ?_
    refine LV (R_field fa83_4 rfl) ?_
    refine LV (R_field fa47_0 rfl) ?_
    refine LV (R_load (v := (.string x35.C.Owner)) rfl (load_box1 hST.has (.head _) rfl Tryz.isAgg9)) ?_
    refine LV (R_lenStr (s := x35.C.Owner) Tryz.underlying9 rfl) ?_
    refine LV (R_int (k := .i64) (a := ((IntKind.i64.wrap (((IntKind.i64.wrap (((IntKind.i64.wrap (((IntKind.i64.wrap (((IntKind.i64.wrap (20 + ((x35.Head.Owner.size : Int))))) + ((x35.Head.Word.size : Int))))) + ((x35.Who.size : Int))))) + ((x35.B.Owner.size : Int))))) + ((x35.B.Word.size : Int)))))) (b := ((x35.C.Owner.size : Int))) (v := (.int .i64 ((IntKind.i64.wrap (((IntKind.i64.wrap (((IntKind.i64.wrap (((IntKind.i64.wrap (((IntKind.i64.wrap (((IntKind.i64.wrap (20 + ((x35.Head.Owner.size : Int))))) + ((x35.Head.Word.size : Int))))) + ((x35.Who.size : Int))))) + ((x35.B.Owner.size : Int))))) + ((x35.B.Word.size : Int))))) + ((x35.C.Owner.size : Int))))))) rfl rfl rfl) ?_
    refine LV (R_field fa83_4 rfl) ?_
    refine LV (R_field fa47_1 rfl) ?_
    refine LV (R_load (v := (.string x35.C.Word)) rfl (load_box1 hST.has (.head _) rfl Tryz.isAgg9)) ?_
    refine LV (R_lenStr (s := x35.C.Word) Tryz.underlying9 rfl) ?_
    refine LV (R_int (k := .i64) (a := ((IntKind.i64.wrap (((IntKind.i64.wrap (((IntKind.i64.wrap (((IntKind.i64.wrap (((IntKind.i64.wrap (((IntKind.i64.wrap (20 + ((x35.Head.Owner.size : Int))))) + ((x35.Head.Word.size : Int))))) + ((x35.Who.size : Int))))) + ((x35.B.Owner.size : Int))))) + ((x35.B.Word.size : Int))))) + ((x35.C.Owner.size : Int)))))) (b := ((x35.C.Word.size : Int))) (v := (.int .i64 ((IntKind.i64.wrap (((IntKind.i64.wrap (((IntKind.i64.wrap (((IntKind.i64.wrap (((IntKind.i64.wrap (((IntKind.i64.wrap (((IntKind.i64.wrap (20 + ((x35.Head.Owner.size : Int))))) + ((x35.Head.Word.size : Int))))) + ((x35.Who.size : Int))))) + ((x35.B.Owner.size : Int))))) + ((x35.B.Word.size : Int))))) + ((x35.C.Owner.size : Int))))) + ((x35.C.Word.size : Int))))))) rfl rfl rfl) ?_
    refine LV (R_field fa83_5 rfl) ?_
    refine LV (R_load (v := (.string x35.Word2)) rfl (load_box1 hST.has (.head _) rfl Tryz.isAgg9)) ?_
    refine LV (R_lenStr (s := x35.Word2) Tryz.underlying9 rfl) ?_
    refine LV (R_int (k := .i64) (a := ((IntKind.i64.wrap (((IntKind.i64.wrap (((IntKind.i64.wrap (((IntKind.i64.wrap (((IntKind.i64.wrap (((IntKind.i64.wrap (((IntKind.i64.wrap (20 + ((x35.Head.Owner.size : Int))))) + ((x35.Head.Word.size : Int))))) + ((x35.Who.size : Int))))) + ((x35.B.Owner.size : Int))))) + ((x35.B.Word.size : Int))))) + ((x35.C.Owner.size : Int))))) + ((x35.C.Word.size : Int)))))) (b := ((x35.Word2.size : Int))) (v := (.int .i64 ((IntKind.i64.wrap (((IntKind.i64.wrap (((IntKind.i64.wrap (((IntKind.i64.wrap (((IntKind.i64.wrap (((IntKind.i64.wrap (((IntKind.i64.wrap (((IntKind.i64.wrap (20 + ((x35.Head.Owner.size : Int))))) + ((x35.Head.Word.size : Int))))) + ((x35.Who.size : Int))))) + ((x35.B.Owner.size : Int))))) + ((x35.B.Word.size : Int))))) + ((x35.C.Owner.size : Int))))) + ((x35.C.Word.size : Int))))) + ((x35.Word2.size : Int))))))) rfl rfl rfl) ?_
    refine LV (R_int (k := .i64) (a := x47) (b := ((IntKind.i64.wrap (((IntKind.i64.wrap (((IntKind.i64.wrap (((IntKind.i64.wrap (((IntKind.i64.wrap (((IntKind.i64.wrap (((IntKind.i64.wrap (((IntKind.i64.wrap (20 + ((x35.Head.Owner.size : Int))))) + ((x35.Head.Word.size : Int))))) + ((x35.Who.size : Int))))) + ((x35.B.Owner.size : Int))))) + ((x35.B.Word.size : Int))))) + ((x35.C.Owner.size : Int))))) + ((x35.C.Word.size : Int))))) + ((x35.Word2.size : Int)))))) (v := (.int .i64 ((IntKind.i64.wrap (x47 + ((IntKind.i64.wrap (((IntKind.i64.wrap (((IntKind.i64.wrap (((IntKind.i64.wrap (((IntKind.i64.wrap (((IntKind.i64.wrap (((IntKind.i64.wrap (((IntKind.i64.wrap (20 + ((x35.Head.Owner.size : Int))))) + ((x35.Head.Word.size : Int))))) + ((x35.Who.size : Int))))) + ((x35.B.Owner.size : Int))))) + ((x35.B.Word.size : Int))))) + ((x35.C.Owner.size : Int))))) + ((x35.C.Word.size : Int))))) + ((x35.Word2.size : Int)))))))))) rfl rfl rfl) ?_
    refine LV (R_assign (v := (.int .i64 ((IntKind.i64.wrap (x47 + ((IntKind.i64.wrap (((IntKind.i64.wrap (((IntKind.i64.wrap (((IntKind.i64.wrap (((IntKind.i64.wrap (((IntKind.i64.wrap (((IntKind.i64.wrap (((IntKind.i64.wrap (20 + ((x35.Head.Owner.size : Int))))) + ((x35.Head.Word.size : Int))))) + ((x35.Who.size : Int))))) + ((x35.B.Owner.size : Int))))) + ((x35.B.Word.size : Int))))) + ((x35.C.Owner.size : Int))))) + ((x35.C.Word.size : Int))))) + ((x35.Word2.size : Int)))))))))) rfl) ?_
    refine LW_nil ?_
    refine bq_n ?_
    refine sq_n ?_
    replace hST : ST true NoF w _ _ ((b64, Obj.cells ((encCred x35).toArray : Array Value) 83 (0, 0)) :: L57) := hST
    replace hST : ST true NoF w _ _ L57 := hST.sublist (List.Sublist.cons _ (List.Sublist.refl _))
    exact ⟨eI, ((IntKind.i64.wrap (x47 + ((IntKind.i64.wrap (((IntKind.i64.wrap (((IntKind.i64.wrap (((IntKind.i64.wrap (((IntKind.i64.wrap (((IntKind.i64.wrap (((IntKind.i64.wrap (((IntKind.i64.wrap (20 + ((x35.Head.Owner.size : Int))))) + ((x35.Head.Word.size : Int))))) + ((x35.Who.size : Int))))) + ((x35.B.Owner.size : Int))))) + ((x35.B.Word.size : Int))))) + ((x35.C.Owner.size : Int))))) + ((x35.C.Word.size : Int))))) + ((x35.Word2.size : Int)))))))), _, ⟨rfl, eN⟩, (hST.sublist (List.Sublist.refl _)), rfl, e60, (by rw [hx39]; exact hm58)⟩
  · rintro E W ⟨x47, L57, ⟨eI, eN⟩, hST, e59, e60, hm58⟩
    rw [List.drop_length] at hm58
    rw [m_law05_Great_L1] at hm58
    refine sq_n ?_
    refine CW_seq ?_
    refine CW_region ?_
    refine LV (R_move (v := (.int .i64 x47)) e59) ?_
    refine LV (R_assign (v := (.int .i64 x47)) rfl) ?_
    refine LW_nil ?_
    refine sq_n ?_
    refine CW_ret ?_
    replace hm58 := Option.some.inj hm58; subst hm58
    refine retQ_1 (v := (.int .i64 x47)) rfl rfl ?_
    exact ⟨rfl, hST.ex⟩
theorem w_ref03_Right (a0 : ByteArray) (r : Bool) (w : World)  (hm : m_ref03_Right a0 = some r) :
    Gives true Tryz.prog 108 [(.string a0)] w (.bool r) := by
  have hST := ST.start (dd := true) w
  unfold m_ref03_Right at hm
  refine calls_of_CW (n := 49) Tryz.func108 rfl rfl (Nat.le_of_ble_eq_true rfl) ?_
  refine CW_seq ?_
  refine CW_region ?_
  refine LV (R_assign (v := (.bool false)) rfl) ?_
  refine LW_nil ?_
  refine sq_n ?_
  refine CW_seq ?_
  refine CW_seq ?_
  refine CW_region ?_
  refine LV (R_move (v := (.string a0)) rfl) ?_
  refine LV (R_str (a := a0) (b := zS) (v := (.bool ((beqS a0 zS)))) rfl rfl rfl) ?_
  refine LV (R_move (v := (.bool ((beqS a0 zS)))) rfl) ?_
  obtain ⟨s444, hm445, hm446⟩ := bind_some hm
  refine LW_join (J := fun E W => ∃ (x2 : Bool) (L3 : List (Nat × Obj)), ST true NoF w W (hp w) L3 ∧ E 0 = (.string a0) ∧ E 11 = (.bool x2) ∧ (((if x2 then some true else (((idxS a0 0)).bind fun c442 => some ((decide (((c442.toNat : Int)) < 97))))) : Option Bool).bind fun x10 => (((if x10 then some true else (((idxS a0 0)).bind fun c436 => some ((decide (((c436.toNat : Int)) > 122))))) : Option Bool).bind fun x18 => (if x18 then some false else m_ref03_Right_L1 a0 FUEL 0))) = some r) 4 ?_ (fun key447 => ?_)
  · rintro E W ⟨x2, L3, hST, e5, e6, hm4⟩
    refine LV (R_move (v := (.bool x2)) e6) ?_
    obtain ⟨s438, hm439, hm440⟩ := bind_some hm4
    refine LW_join (J := fun E W => ∃ (x10 : Bool) (L11 : List (Nat × Obj)), ST true NoF w W (hp w) L11 ∧ E 0 = (.string a0) ∧ E 16 = (.bool x10) ∧ (((if x10 then some true else (((idxS a0 0)).bind fun c436 => some ((decide (((c436.toNat : Int)) > 122))))) : Option Bool).bind fun x18 => (if x18 then some false else m_ref03_Right_L1 a0 FUEL 0)) = some r) 4 ?_ (fun key441 => ?_)
    · rintro E W ⟨x10, L11, hST, e13, e14, hm12⟩
      refine LV (R_move (v := (.bool x10)) e14) ?_
      obtain ⟨s432, hm433, hm434⟩ := bind_some hm12
      refine LW_join (J := fun E W => ∃ (x18 : Bool) (L19 : List (Nat × Obj)), ST true NoF w W (hp w) L19 ∧ E 0 = (.string a0) ∧ E 21 = (.bool x18) ∧ (if x18 then some false else m_ref03_Right_L1 a0 FUEL 0) = some r) 4 ?_ (fun key435 => ?_)
      · rintro E W ⟨x18, L19, hST, e21, e22, hm20⟩
        refine LW_nil ?_
        refine sq_n ?_
        refine CW_if (b := x18) e22 (fun hb23 => ?_) (fun hb23 => ?_)
        · replace hm20 := if_t hb23 hm20
          refine CW_seq ?_
          refine CW_region ?_
          refine LV (R_assign (v := (.bool false)) rfl) ?_
          refine LW_nil ?_
          refine sq_n ?_
          refine CW_ret ?_
          refine sq_r ?_
          replace hm20 := Option.some.inj hm20; subst hm20
          refine retQ_1 (v := (.bool false)) rfl rfl ?_
          exact ⟨rfl, hST.ex⟩
        · replace hm20 := if_f hb23 hm20
          refine CW_skip ?_
          refine sq_n ?_
          refine CW_seq ?_
          refine CW_seq ?_
          refine CW_region ?_
          refine LV (R_assign (v := (.int .i64 0)) rfl) ?_
          refine LW_nil ?_
          refine sq_n ?_
          refine CW_block (CW_loop (fun m E W => ∃ (x293 : Int) (L362 : List (Nat × Obj)), ST true NoF w W (hp w) L362 ∧ E 0 = (.string a0) ∧ E 3 = (.int .i64 x293) ∧ m_ref03_Right_L1 a0 m x293 = some r) FUEL ⟨0, _, (hST.sublist (List.Sublist.refl _)), e21, rfl, hm20⟩ ?_)
          rintro m E W ⟨x293, L362, hST, e365, e366, hm363⟩
          cases m with
          | zero => rw [m_ref03_Right_L1] at hm363; cases hm363
          | succ n364 =>
            rw [m_ref03_Right_L1] at hm363
            refine CW_seq ?_
            refine CW_seq ?_
            refine CW_region ?_
            refine LV (R_move (v := (.int .i64 x293)) e366) ?_
            refine LV (R_move (v := (.string a0)) e365) ?_
            refine LV (R_lenStr (s := a0) Tryz.underlying9 rfl) ?_
            refine LV (R_int (k := .i64) (a := x293) (b := ((a0.size : Int))) (v := (.bool ((decide (x293 < ((a0.size : Int))))))) rfl rfl rfl) ?_
            refine LW_nil ?_
            refine sq_n ?_
            refine CW_if (b := (decide (x293 < ((a0.size : Int))))) rfl (fun hb367 => ?_) (fun hb367 => ?_)
            · replace hm363 := if_t hb367 hm363
              refine CW_skip ?_
              refine sq_n ?_
              refine CW_seq ?_
              refine CW_block ?_
              refine CW_seq ?_
              refine CW_region ?_
              refine LV (R_move (v := (.string a0)) e365) ?_
              refine LV (R_move (v := (.int .i64 x293)) e366) ?_
              obtain ⟨c368, hx369, hm363⟩ := bind_some hm363
              refine LV (R_indexStr (i := x293) Tryz.underlying9 rfl rfl (idxS_nonneg hx369) (idxS_get hx369)) ?_
              refine LV (R_assign (v := (.int .u8 ((c368.toNat : Int)))) rfl) ?_
              refine LW_nil ?_
              refine sq_n ?_
              refine CW_seq ?_
              refine CW_region ?_
              refine LV (R_move (v := (.int .u8 ((c368.toNat : Int)))) rfl) ?_
              refine LV (R_int (k := .u8) (a := ((c368.toNat : Int))) (b := 97) (v := (.bool ((decide (((c368.toNat : Int)) < 97))))) rfl rfl rfl) ?_
              refine LV (R_move (v := (.bool ((decide (((c368.toNat : Int)) < 97))))) rfl) ?_
              obtain ⟨s428, hm429, hm430⟩ := bind_some hm363
              refine LW_join (J := fun E W => ∃ (x371 : Bool) (L372 : List (Nat × Obj)), ST true NoF w W (hp w) L372 ∧ E 0 = (.string a0) ∧ E 3 = (.int .i64 x293) ∧ E 4 = (.int .u8 ((c368.toNat : Int))) ∧ E 36 = (.bool x371) ∧ (((if x371 then (((if (decide (((c368.toNat : Int)) < 48)) then some true else some ((decide (((c368.toNat : Int)) > 57)))) : Option Bool).bind fun x416 => some x416) else some false) : Option Bool).bind fun x392 => (((if x392 then some ((((c368.toNat : Int)) != 45)) else some false) : Option Bool).bind fun x400 => (if x400 then some false else (m_ref03_Right_L1 a0 n364 ((IntKind.i64.wrap (x293 + 1))))))) = some r) 3 ?_ (fun key431 => ?_)
              · rintro E W ⟨x371, L372, hST, e374, e375, e376, e377, hm373⟩
                refine LV (R_move (v := (.bool x371)) e377) ?_
                obtain ⟨s411, hm412, hm413⟩ := bind_some hm373
                refine LW_join (J := fun E W => ∃ (x392 : Bool) (L393 : List (Nat × Obj)), ST true NoF w W (hp w) L393 ∧ E 0 = (.string a0) ∧ E 3 = (.int .i64 x293) ∧ E 4 = (.int .u8 ((c368.toNat : Int))) ∧ E 44 = (.bool x392) ∧ (((if x392 then some ((((c368.toNat : Int)) != 45)) else some false) : Option Bool).bind fun x400 => (if x400 then some false else (m_ref03_Right_L1 a0 n364 ((IntKind.i64.wrap (x293 + 1)))))) = some r) 7 ?_ (fun key414 => ?_)
                · rintro E W ⟨x392, L393, hST, e395, e396, e397, e398, hm394⟩
                  refine LV (R_move (v := (.bool x392)) e398) ?_
                  obtain ⟨s407, hm408, hm409⟩ := bind_some hm394
                  refine LW_join (J := fun E W => ∃ (x400 : Bool) (L401 : List (Nat × Obj)), ST true NoF w W (hp w) L401 ∧ E 0 = (.string a0) ∧ E 3 = (.int .i64 x293) ∧ E 48 = (.bool x400) ∧ (if x400 then some false else (m_ref03_Right_L1 a0 n364 ((IntKind.i64.wrap (x293 + 1))))) = some r) 3 ?_ (fun key410 => ?_)
                  · rintro E W ⟨x400, L401, hST, e403, e404, e405, hm402⟩
                    refine LW_nil ?_
                    refine sq_n ?_
                    refine CW_if (b := x400) e405 (fun hb406 => ?_) (fun hb406 => ?_)
                    · replace hm402 := if_t hb406 hm402
                      refine CW_seq ?_
                      refine CW_region ?_
                      refine LV (R_assign (v := (.bool false)) rfl) ?_
                      refine LW_nil ?_
                      refine sq_n ?_
                      refine CW_ret ?_
                      refine bq_r (sq_r (sq_r (bq_r (sq_r ?_))))
                      replace hm402 := Option.some.inj hm402; subst hm402
                      refine retQ_1 (v := (.bool false)) rfl rfl ?_
                      exact ⟨rfl, hST.ex⟩
                    · replace hm402 := if_f hb406 hm402
                      refine CW_skip ?_
                      refine bq_n ?_
                      refine sq_n ?_
                      refine CW_region ?_
                      refine LV (R_move (v := (.int .i64 x293)) e404) ?_
                      refine LV (R_int (k := .i64) (a := x293) (b := 1) (v := (.int .i64 ((IntKind.i64.wrap (x293 + 1))))) rfl rfl rfl) ?_
                      refine LV (R_assign (v := (.int .i64 ((IntKind.i64.wrap (x293 + 1))))) rfl) ?_
                      refine LW_nil ?_
                      refine sq_n ?_
                      exact ⟨n364, Nat.lt_succ_self _, ((IntKind.i64.wrap (x293 + 1))), _, (hST.sublist (List.Sublist.refl _)), e403, rfl, hm402⟩
                  · rcases bool_cases x392 with hb399 | hb399
                    · replace hm408 := if_t hb399 hm408
                      refine LW_v (.inr ⟨14, true, 45, rfl, rfl, by decide, (congrArg Value.bool hb399)⟩) rfl (by decide) (R_move (v := (.int .u8 ((c368.toNat : Int)))) e397) ?_
                      refine LW_v (.inr ⟨14, true, 45, rfl, rfl, by decide, (congrArg Value.bool hb399)⟩) rfl (by decide) (R_int (k := .u8) (a := ((c368.toNat : Int))) (b := 45) (v := (.bool ((((c368.toNat : Int)) != 45)))) rfl rfl rfl) ?_
                      refine LV (R_pickT (v := (.bool ((((c368.toNat : Int)) != 45)))) (congrArg Value.bool hb399) rfl) ?_
                      replace hm408 := Option.some.inj hm408; subst hm408
                      exact key410 _ _ ⟨((((c368.toNat : Int)) != 45)), _, (hST.sublist (List.Sublist.refl _)), e395, e396, rfl, hm409⟩
                    · replace hm408 := if_f hb399 hm408
                      refine LW_no rfl (by decide) rfl rfl (by decide) (congrArg Value.bool hb399) ?_
                      refine LW_no rfl (by decide) rfl rfl (by decide) (congrArg Value.bool hb399) ?_
                      refine LV (R_pickF (v := (.bool false)) (congrArg Value.bool hb399) rfl) ?_
                      replace hm408 := Option.some.inj hm408; subst hm408
                      exact key410 _ _ ⟨false, _, (hST.sublist (List.Sublist.refl _)), e395, e396, rfl, hm409⟩
                · rcases bool_cases x371 with hb378 | hb378
                  · replace hm412 := if_t hb378 hm412
                    refine LW_v (.inr ⟨6, true, 37, rfl, rfl, by decide, (congrArg Value.bool hb378)⟩) rfl (by decide) (R_move (v := (.int .u8 ((c368.toNat : Int)))) e376) ?_
                    refine LW_v (.inr ⟨6, true, 37, rfl, rfl, by decide, (congrArg Value.bool hb378)⟩) rfl (by decide) (R_int (k := .u8) (a := ((c368.toNat : Int))) (b := 48) (v := (.bool ((decide (((c368.toNat : Int)) < 48))))) rfl rfl rfl) ?_
                    refine LW_v (.inr ⟨6, true, 37, rfl, rfl, by decide, (congrArg Value.bool hb378)⟩) rfl (by decide) (R_move (v := (.bool ((decide (((c368.toNat : Int)) < 48))))) rfl) ?_
                    obtain ⟨s424, hm425, hm426⟩ := bind_some hm412
                    refine LW_join (J := fun E W => ∃ (x416 : Bool) (L417 : List (Nat × Obj)), ST true NoF w W (hp w) L417 ∧ E 0 = (.string a0) ∧ E 3 = (.int .i64 x293) ∧ E 4 = (.int .u8 ((c368.toNat : Int))) ∧ E 37 = (.bool x371) ∧ E 43 = (.bool x416) ∧ some x416 = some s411) 3 ?_ (fun key427 => ?_)
                    · rintro E W ⟨x416, L417, hST, e419, e420, e421, e422, e423, hm418⟩
                      refine LV (R_pickT (v := (.bool x416)) (e422.trans (congrArg Value.bool hb378)) e423) ?_
                      replace hm418 := Option.some.inj hm418; subst hm418
                      exact key414 _ _ ⟨x416, _, (hST.sublist (List.Sublist.refl _)), e419, e420, e421, rfl, hm413⟩
                    · rcases bool_cases ((decide (((c368.toNat : Int)) < 48))) with hb415 | hb415
                      · replace hm425 := if_t hb415 hm425
                        refine LW_no rfl (by decide) rfl rfl (by decide) (congrArg Value.bool hb415) ?_
                        refine LW_no rfl (by decide) rfl rfl (by decide) (congrArg Value.bool hb415) ?_
                        refine LW_v (.inr ⟨6, true, 37, rfl, rfl, by decide, (congrArg Value.bool hb378)⟩) rfl (by decide) (R_pickT (v := (.bool true)) (congrArg Value.bool hb415) rfl) ?_
                        replace hm425 := Option.some.inj hm425; subst hm425
                        exact key427 _ _ ⟨true, _, (hST.sublist (List.Sublist.refl _)), e374, e375, e376, rfl, rfl, hm426⟩
                      · replace hm425 := if_f hb415 hm425
                        refine LW_v (.inr ⟨9, false, 40, rfl, rfl, by decide, (congrArg Value.bool hb415)⟩) rfl (by decide) (R_move (v := (.int .u8 ((c368.toNat : Int)))) e376) ?_
                        refine LW_v (.inr ⟨9, false, 40, rfl, rfl, by decide, (congrArg Value.bool hb415)⟩) rfl (by decide) (R_int (k := .u8) (a := ((c368.toNat : Int))) (b := 57) (v := (.bool ((decide (((c368.toNat : Int)) > 57))))) rfl rfl rfl) ?_
                        refine LW_v (.inr ⟨6, true, 37, rfl, rfl, by decide, (congrArg Value.bool hb378)⟩) rfl (by decide) (R_pickF (v := (.bool ((decide (((c368.toNat : Int)) > 57))))) (congrArg Value.bool hb415) rfl) ?_
                        replace hm425 := Option.some.inj hm425; subst hm425
                        exact key427 _ _ ⟨((decide (((c368.toNat : Int)) > 57))), _, (hST.sublist (List.Sublist.refl _)), e374, e375, e376, rfl, rfl, hm426⟩
                  · replace hm412 := if_f hb378 hm412
                    refine LW_no rfl (by decide) rfl rfl (by decide) (congrArg Value.bool hb378) ?_
                    refine LW_no rfl (by decide) rfl rfl (by decide) (congrArg Value.bool hb378) ?_
                    refine LW_no rfl (by decide) rfl rfl (by decide) (congrArg Value.bool hb378) ?_
                    refine LW_nou rfl (by decide) rfl rfl (by decide) rfl ?_
                    refine LW_nou rfl (by decide) rfl rfl (by decide) rfl ?_
                    refine LW_no rfl (by decide) rfl rfl (by decide) (congrArg Value.bool hb378) ?_
                    refine LV (R_pickF (v := (.bool false)) (congrArg Value.bool hb378) rfl) ?_
                    replace hm412 := Option.some.inj hm412; subst hm412
                    exact key414 _ _ ⟨false, _, (hST.sublist (List.Sublist.refl _)), e374, e375, e376, rfl, hm413⟩
              · rcases bool_cases ((decide (((c368.toNat : Int)) < 97))) with hb370 | hb370
                · replace hm429 := if_t hb370 hm429
                  refine LW_no rfl (by decide) rfl rfl (by decide) (congrArg Value.bool hb370) ?_
                  refine LW_no rfl (by decide) rfl rfl (by decide) (congrArg Value.bool hb370) ?_
                  refine LV (R_pickT (v := (.bool true)) (congrArg Value.bool hb370) rfl) ?_
                  replace hm429 := Option.some.inj hm429; subst hm429
                  exact key431 _ _ ⟨true, _, (hST.sublist (List.Sublist.refl _)), e365, e366, rfl, rfl, hm430⟩
                · replace hm429 := if_f hb370 hm429
                  refine LW_v (.inr ⟨2, false, 33, rfl, rfl, by decide, (congrArg Value.bool hb370)⟩) rfl (by decide) (R_move (v := (.int .u8 ((c368.toNat : Int)))) rfl) ?_
                  refine LW_v (.inr ⟨2, false, 33, rfl, rfl, by decide, (congrArg Value.bool hb370)⟩) rfl (by decide) (R_int (k := .u8) (a := ((c368.toNat : Int))) (b := 122) (v := (.bool ((decide (((c368.toNat : Int)) > 122))))) rfl rfl rfl) ?_
                  refine LV (R_pickF (v := (.bool ((decide (((c368.toNat : Int)) > 122))))) (congrArg Value.bool hb370) rfl) ?_
                  replace hm429 := Option.some.inj hm429; subst hm429
                  exact key431 _ _ ⟨((decide (((c368.toNat : Int)) > 122))), _, (hST.sublist (List.Sublist.refl _)), e365, e366, rfl, rfl, hm430⟩
            · replace hm363 := if_f hb367 hm363
              refine CW_exit ?_
              refine sq_e (sq_e (bq_e ?_))
              refine sq_n ?_
              refine CW_seq ?_
              refine CW_region ?_
              refine LV (R_assign (v := (.bool true)) rfl) ?_
              refine LW_nil ?_
              refine sq_n ?_
              refine CW_ret ?_
              replace hm363 := Option.some.inj hm363; subst hm363
              refine retQ_1 (v := (.bool true)) rfl rfl ?_
              exact ⟨rfl, hST.ex⟩
      · rcases bool_cases x10 with hb15 | hb15
        · replace hm433 := if_t hb15 hm433
          refine LW_no rfl (by decide) rfl rfl (by decide) (congrArg Value.bool hb15) ?_
          refine LW_no rfl (by decide) rfl rfl (by decide) (congrArg Value.bool hb15) ?_
          refine LW_no rfl (by decide) rfl rfl (by decide) (congrArg Value.bool hb15) ?_
          refine LV (R_pickT (v := (.bool true)) (congrArg Value.bool hb15) rfl) ?_
          replace hm433 := Option.some.inj hm433; subst hm433
          exact key435 _ _ ⟨true, _, (hST.sublist (List.Sublist.refl _)), e13, rfl, hm434⟩
        · replace hm433 := if_f hb15 hm433
          refine LW_v (.inr ⟨12, false, 17, rfl, rfl, by decide, (congrArg Value.bool hb15)⟩) rfl (by decide) (R_move (v := (.string a0)) e13) ?_
          obtain ⟨c436, hx437, hm433⟩ := bind_some hm433
          refine LW_v (.inr ⟨12, false, 17, rfl, rfl, by decide, (congrArg Value.bool hb15)⟩) rfl (by decide) (R_indexStr (i := 0) Tryz.underlying9 rfl rfl (idxS_nonneg hx437) (idxS_get hx437)) ?_
          refine LW_v (.inr ⟨12, false, 17, rfl, rfl, by decide, (congrArg Value.bool hb15)⟩) rfl (by decide) (R_int (k := .u8) (a := ((c436.toNat : Int))) (b := 122) (v := (.bool ((decide (((c436.toNat : Int)) > 122))))) rfl rfl rfl) ?_
          refine LV (R_pickF (v := (.bool ((decide (((c436.toNat : Int)) > 122))))) (congrArg Value.bool hb15) rfl) ?_
          replace hm433 := Option.some.inj hm433; subst hm433
          exact key435 _ _ ⟨((decide (((c436.toNat : Int)) > 122))), _, (hST.sublist (List.Sublist.refl _)), e13, rfl, hm434⟩
    · rcases bool_cases x2 with hb7 | hb7
      · replace hm439 := if_t hb7 hm439
        refine LW_no rfl (by decide) rfl rfl (by decide) (congrArg Value.bool hb7) ?_
        refine LW_no rfl (by decide) rfl rfl (by decide) (congrArg Value.bool hb7) ?_
        refine LW_no rfl (by decide) rfl rfl (by decide) (congrArg Value.bool hb7) ?_
        refine LV (R_pickT (v := (.bool true)) (congrArg Value.bool hb7) rfl) ?_
        replace hm439 := Option.some.inj hm439; subst hm439
        exact key441 _ _ ⟨true, _, (hST.sublist (List.Sublist.refl _)), e5, rfl, hm440⟩
      · replace hm439 := if_f hb7 hm439
        refine LW_v (.inr ⟨7, false, 12, rfl, rfl, by decide, (congrArg Value.bool hb7)⟩) rfl (by decide) (R_move (v := (.string a0)) e5) ?_
        obtain ⟨c442, hx443, hm439⟩ := bind_some hm439
        refine LW_v (.inr ⟨7, false, 12, rfl, rfl, by decide, (congrArg Value.bool hb7)⟩) rfl (by decide) (R_indexStr (i := 0) Tryz.underlying9 rfl rfl (idxS_nonneg hx443) (idxS_get hx443)) ?_
        refine LW_v (.inr ⟨7, false, 12, rfl, rfl, by decide, (congrArg Value.bool hb7)⟩) rfl (by decide) (R_int (k := .u8) (a := ((c442.toNat : Int))) (b := 97) (v := (.bool ((decide (((c442.toNat : Int)) < 97))))) rfl rfl rfl) ?_
        refine LV (R_pickF (v := (.bool ((decide (((c442.toNat : Int)) < 97))))) (congrArg Value.bool hb7) rfl) ?_
        replace hm439 := Option.some.inj hm439; subst hm439
        exact key441 _ _ ⟨((decide (((c442.toNat : Int)) < 97))), _, (hST.sublist (List.Sublist.refl _)), e5, rfl, hm440⟩
  · rcases bool_cases ((beqS a0 zS)) with hb1 | hb1
    · replace hm445 := if_t hb1 hm445
      refine LW_no rfl (by decide) rfl rfl (by decide) (congrArg Value.bool hb1) ?_
      refine LW_no rfl (by decide) rfl rfl (by decide) (congrArg Value.bool hb1) ?_
      refine LW_no rfl (by decide) rfl rfl (by decide) (congrArg Value.bool hb1) ?_
      refine LV (R_pickT (v := (.bool true)) (congrArg Value.bool hb1) rfl) ?_
      replace hm445 := Option.some.inj hm445; subst hm445
      exact key447 _ _ ⟨true, _, (hST.sublist (List.Sublist.refl _)), rfl, rfl, hm446⟩
    · replace hm445 := if_f hb1 hm445
      refine LW_v (.inr ⟨2, false, 7, rfl, rfl, by decide, (congrArg Value.bool hb1)⟩) rfl (by decide) (R_move (v := (.string a0)) rfl) ?_
      refine LW_v (.inr ⟨2, false, 7, rfl, rfl, by decide, (congrArg Value.bool hb1)⟩) rfl (by decide) (R_lenStr (s := a0) Tryz.underlying9 rfl) ?_
      refine LW_v (.inr ⟨2, false, 7, rfl, rfl, by decide, (congrArg Value.bool hb1)⟩) rfl (by decide) (R_int (k := .i64) (a := ((a0.size : Int))) (b := 16) (v := (.bool ((decide (((a0.size : Int)) > 16))))) rfl rfl rfl) ?_
      refine LV (R_pickF (v := (.bool ((decide (((a0.size : Int)) > 16))))) (congrArg Value.bool hb1) rfl) ?_
      replace hm445 := Option.some.inj hm445; subst hm445
      exact key447 _ _ ⟨((decide (((a0.size : Int)) > 16))), _, (hST.sublist (List.Sublist.refl _)), rfl, rfl, hm446⟩
theorem w_ref04_Right (a0 : Role) (r : Bool) (w : World)  (hm : m_ref04_Right a0 = some r) :
    Gives true Tryz.prog 51 [(.agg (encRole a0).toArray)] w (.bool r) := by
  have hST := ST.start (dd := true) w
  unfold m_ref04_Right at hm
  refine calls_of_CW (n := 11) Tryz.func51 rfl rfl (Nat.le_of_ble_eq_true rfl) ?_
  refine CW_seq ?_
  refine CW_region ?_
  refine LE (E_box (v := (.agg (encRole a0).toArray)) hST rfl (fun W2 b1 hST => ?_))
  refine LV (R_assign (v := (.bool false)) rfl) ?_
  refine LW_nil ?_
  refine sq_n ?_
  refine CW_seq ?_
  refine CW_region ?_
  refine LV (R_field fa47_0 rfl) ?_
  refine LV (R_load (v := (.string a0.Owner)) rfl (load_box1 hST.has (.head _) rfl Tryz.isAgg9)) ?_
  obtain ⟨r3, hr4, hm⟩ := bind_some hm
  refine LE (E_gives (args := [(.string a0.Owner)]) hST rfl Tryz.call108 (by exact args1 rfl) ((w_ref03_Right a0.Owner _ _  hr4)) (fun W5 hST => ?_))
  refine LV (R_move (v := (.bool r3)) rfl) ?_
  obtain ⟨s15, hm16, hm17⟩ := bind_some hm
  refine LW_join (J := fun E W => ∃ (x10 : Bool) (L11 : List (Nat × Obj)), ST true NoF w W (hp w) L11 ∧ E 2 = (.bool false) ∧ E 10 = (.bool x10) ∧ some x10 = some r) 4 ?_ (fun key18 => ?_)
  · rintro E W ⟨x10, L11, hST, e13, e14, hm12⟩
    refine LV (R_assign (v := (.bool x10)) e14) ?_
    refine LW_nil ?_
    refine sq_n ?_
    refine CW_ret ?_
    replace hm12 := Option.some.inj hm12; subst hm12
    refine retQ_1 (v := (.bool x10)) rfl rfl ?_
    exact ⟨rfl, hST.ex⟩
  · rcases bool_cases r3 with hb6 | hb6
    · replace hm16 := if_t hb6 hm16
      refine LW_v (.inr ⟨3, true, 6, rfl, rfl, by decide, (congrArg Value.bool hb6)⟩) rfl (by decide) (R_field fa47_1 rfl) ?_
      refine LW_v (.inr ⟨3, true, 6, rfl, rfl, by decide, (congrArg Value.bool hb6)⟩) rfl (by decide) (R_load (v := (.string a0.Word)) rfl (load_box1 hST.has (.head _) rfl Tryz.isAgg9)) ?_
      obtain ⟨r19, hr20, hm16⟩ := bind_some hm16
      refine LW_e (.inr ⟨3, true, 6, rfl, rfl, by decide, (congrArg Value.bool hb6)⟩) rfl (by decide) (E_gives (args := [(.string a0.Word)]) hST rfl Tryz.call108 (by exact args1 rfl) ((w_ref03_Right a0.Word _ _  hr20)) (fun W21 hST => ?_))
      refine LV (R_pickT (v := (.bool r19)) (congrArg Value.bool hb6) rfl) ?_
      replace hm16 := Option.some.inj hm16; subst hm16
      exact key18 _ _ ⟨r19, _, (hST.sublist (List.Sublist.cons _ (List.Sublist.refl _))), rfl, rfl, hm17⟩
    · replace hm16 := if_f hb6 hm16
      refine LW_no rfl (by decide) rfl rfl (by decide) (congrArg Value.bool hb6) ?_
      refine LW_no rfl (by decide) rfl rfl (by decide) (congrArg Value.bool hb6) ?_
      refine LW_no rfl (by decide) rfl rfl (by decide) (congrArg Value.bool hb6) ?_
      refine LV (R_pickF (v := (.bool false)) (congrArg Value.bool hb6) rfl) ?_
      replace hm16 := Option.some.inj hm16; subst hm16
      exact key18 _ _ ⟨false, _, (hST.sublist (List.Sublist.cons _ (List.Sublist.refl _))), rfl, rfl, hm17⟩
theorem w_ref04_Less (a0 : Role) (a1 : Role) (r : Bool) (w : World)  (hm : m_ref04_Less a0 a1 = some r) :
    Gives true Tryz.prog 123 [(.agg (encRole a0).toArray), (.agg (encRole a1).toArray)] w (.bool r) := by
  have hST := ST.start (dd := true) w
  unfold m_ref04_Less at hm
  refine calls_of_CW (n := 24) Tryz.func123 rfl rfl (Nat.le_of_ble_eq_true rfl) ?_
  refine CW_seq ?_
  refine CW_region ?_
  refine LE (E_box (v := (.agg (encRole a0).toArray)) hST rfl (fun W2 b1 hST => ?_))
  refine LE (E_box (v := (.agg (encRole a1).toArray)) hST rfl (fun W4 b3 hST => ?_))
  refine LV (R_assign (v := (.bool false)) rfl) ?_
  refine LW_nil ?_
  refine sq_n ?_
  refine CW_seq ?_
  refine CW_region ?_
  refine LV (R_field fa47_0 rfl) ?_
  refine LV (R_load (v := (.string a0.Owner)) rfl (load_box1 hST.has (.tail _ (.head _)) rfl Tryz.isAgg9)) ?_
  refine LV (R_field fa47_0 rfl) ?_
  refine LV (R_load (v := (.string a1.Owner)) rfl (load_box1 hST.has (.head _) rfl Tryz.isAgg9)) ?_
  refine LV (R_str (a := a0.Owner) (b := a1.Owner) (v := (.bool ((ltS a0.Owner a1.Owner)))) rfl rfl rfl) ?_
  refine LV (R_move (v := (.bool ((ltS a0.Owner a1.Owner)))) rfl) ?_
  obtain ⟨s22, hm23, hm24⟩ := bind_some hm
  refine LW_join (J := fun E W => ∃ (x17 : Bool) (L18 : List (Nat × Obj)), ST true NoF w W (hp w) L18 ∧ E 4 = (.bool false) ∧ E 23 = (.bool x17) ∧ some x17 = some r) 13 ?_ (fun key25 => ?_)
  · rintro E W ⟨x17, L18, hST, e20, e21, hm19⟩
    refine LV (R_assign (v := (.bool x17)) e21) ?_
    refine LW_nil ?_
    refine sq_n ?_
    refine CW_ret ?_
    replace hm19 := Option.some.inj hm19; subst hm19
    refine retQ_1 (v := (.bool x17)) rfl rfl ?_
    exact ⟨rfl, hST.ex⟩
  · rcases bool_cases ((ltS a0.Owner a1.Owner)) with hb5 | hb5
    · replace hm23 := if_t hb5 hm23
      refine LW_no rfl (by decide) rfl rfl (by decide) (congrArg Value.bool hb5) ?_
      refine LW_no rfl (by decide) rfl rfl (by decide) (congrArg Value.bool hb5) ?_
      refine LW_no rfl (by decide) rfl rfl (by decide) (congrArg Value.bool hb5) ?_
      refine LW_no rfl (by decide) rfl rfl (by decide) (congrArg Value.bool hb5) ?_
      refine LW_no rfl (by decide) rfl rfl (by decide) (congrArg Value.bool hb5) ?_
      refine LW_no rfl (by decide) rfl rfl (by decide) (congrArg Value.bool hb5) ?_
      refine LW_nou rfl (by decide) rfl rfl (by decide) rfl ?_
      refine LW_nou rfl (by decide) rfl rfl (by decide) rfl ?_
      refine LW_nou rfl (by decide) rfl rfl (by decide) rfl ?_
      refine LW_nou rfl (by decide) rfl rfl (by decide) rfl ?_
      refine LW_nou rfl (by decide) rfl rfl (by decide) rfl ?_
      refine LW_no rfl (by decide) rfl rfl (by decide) (congrArg Value.bool hb5) ?_
      refine LV (R_pickT (v := (.bool true)) (congrArg Value.bool hb5) rfl) ?_
      replace hm23 := Option.some.inj hm23; subst hm23
      exact key25 _ _ ⟨true, _, (hST.sublist (List.Sublist.cons _ (List.Sublist.cons _ (List.Sublist.refl _)))), rfl, rfl, hm24⟩
    · replace hm23 := if_f hb5 hm23
      refine LW_v (.inr ⟨5, false, 10, rfl, rfl, by decide, (congrArg Value.bool hb5)⟩) rfl (by decide) (R_field fa47_0 rfl) ?_
      refine LW_v (.inr ⟨5, false, 10, rfl, rfl, by decide, (congrArg Value.bool hb5)⟩) rfl (by decide) (R_load (v := (.string a0.Owner)) rfl (load_box1 hST.has (.tail _ (.head _)) rfl Tryz.isAgg9)) ?_
      refine LW_v (.inr ⟨5, false, 10, rfl, rfl, by decide, (congrArg Value.bool hb5)⟩) rfl (by decide) (R_field fa47_0 rfl) ?_
      refine LW_v (.inr ⟨5, false, 10, rfl, rfl, by decide, (congrArg Value.bool hb5)⟩) rfl (by decide) (R_load (v := (.string a1.Owner)) rfl (load_box1 hST.has (.head _) rfl Tryz.isAgg9)) ?_
      refine LW_v (.inr ⟨5, false, 10, rfl, rfl, by decide, (congrArg Value.bool hb5)⟩) rfl (by decide) (R_str (a := a0.Owner) (b := a1.Owner) (v := (.bool ((beqS a0.Owner a1.Owner)))) rfl rfl rfl) ?_
      refine LW_v (.inr ⟨5, false, 10, rfl, rfl, by decide, (congrArg Value.bool hb5)⟩) rfl (by decide) (R_move (v := (.bool ((beqS a0.Owner a1.Owner)))) rfl) ?_
      obtain ⟨s33, hm34, hm35⟩ := bind_some hm23
      refine LW_join (J := fun E W => ∃ (x27 : Bool) (L28 : List (Nat × Obj)), ST true NoF w W (hp w) L28 ∧ E 4 = (.bool false) ∧ E 10 = (.bool ((ltS a0.Owner a1.Owner))) ∧ E 22 = (.bool x27) ∧ some x27 = some s22) 6 ?_ (fun key36 => ?_)
      · rintro E W ⟨x27, L28, hST, e30, e31, e32, hm29⟩
        refine LV (R_pickF (v := (.bool x27)) (e31.trans (congrArg Value.bool hb5)) e32) ?_
        replace hm29 := Option.some.inj hm29; subst hm29
        exact key25 _ _ ⟨x27, _, (hST.sublist (List.Sublist.refl _)), e30, rfl, hm24⟩
      · rcases bool_cases ((beqS a0.Owner a1.Owner)) with hb26 | hb26
        · replace hm34 := if_t hb26 hm34
          refine LW_v (.inr ⟨11, true, 16, rfl, rfl, by decide, (congrArg Value.bool hb26)⟩) rfl (by decide) (R_field fa47_1 rfl) ?_
          refine LW_v (.inr ⟨11, true, 16, rfl, rfl, by decide, (congrArg Value.bool hb26)⟩) rfl (by decide) (R_load (v := (.string a0.Word)) rfl (load_box1 hST.has (.tail _ (.head _)) rfl Tryz.isAgg9)) ?_
          refine LW_v (.inr ⟨11, true, 16, rfl, rfl, by decide, (congrArg Value.bool hb26)⟩) rfl (by decide) (R_field fa47_1 rfl) ?_
          refine LW_v (.inr ⟨11, true, 16, rfl, rfl, by decide, (congrArg Value.bool hb26)⟩) rfl (by decide) (R_load (v := (.string a1.Word)) rfl (load_box1 hST.has (.head _) rfl Tryz.isAgg9)) ?_
          refine LW_v (.inr ⟨11, true, 16, rfl, rfl, by decide, (congrArg Value.bool hb26)⟩) rfl (by decide) (R_str (a := a0.Word) (b := a1.Word) (v := (.bool ((ltS a0.Word a1.Word)))) rfl rfl rfl) ?_
          refine LW_v (.inr ⟨5, false, 10, rfl, rfl, by decide, (congrArg Value.bool hb5)⟩) rfl (by decide) (R_pickT (v := (.bool ((ltS a0.Word a1.Word)))) (congrArg Value.bool hb26) rfl) ?_
          replace hm34 := Option.some.inj hm34; subst hm34
          exact key36 _ _ ⟨((ltS a0.Word a1.Word)), _, (hST.sublist (List.Sublist.cons _ (List.Sublist.cons _ (List.Sublist.refl _)))), rfl, rfl, rfl, hm35⟩
        · replace hm34 := if_f hb26 hm34
          refine LW_no rfl (by decide) rfl rfl (by decide) (congrArg Value.bool hb26) ?_
          refine LW_no rfl (by decide) rfl rfl (by decide) (congrArg Value.bool hb26) ?_
          refine LW_no rfl (by decide) rfl rfl (by decide) (congrArg Value.bool hb26) ?_
          refine LW_no rfl (by decide) rfl rfl (by decide) (congrArg Value.bool hb26) ?_
          refine LW_no rfl (by decide) rfl rfl (by decide) (congrArg Value.bool hb26) ?_
          refine LW_v (.inr ⟨5, false, 10, rfl, rfl, by decide, (congrArg Value.bool hb5)⟩) rfl (by decide) (R_pickF (v := (.bool false)) (congrArg Value.bool hb26) rfl) ?_
          replace hm34 := Option.some.inj hm34; subst hm34
          exact key36 _ _ ⟨false, _, (hST.sublist (List.Sublist.cons _ (List.Sublist.cons _ (List.Sublist.refl _)))), rfl, rfl, rfl, hm35⟩
theorem w_ref05_Right (a0 : Cred) (r : Bool) (w : World)  (hm : m_ref05_Right a0 = some r) :
    Gives true Tryz.prog 106 [(.agg (encCred a0).toArray)] w (.bool r) := by
  have hST := ST.start (dd := true) w
  unfold m_ref05_Right at hm
  refine calls_of_CW (n := 93) Tryz.func106 rfl rfl (Nat.le_of_ble_eq_true rfl) ?_
  refine CW_seq ?_
  refine CW_region ?_
  refine LE (E_box (v := (.agg (encCred a0).toArray)) hST rfl (fun W2 b1 hST => ?_))
  refine LV (R_assign (v := (.bool false)) rfl) ?_
  refine LW_nil ?_
  refine sq_n ?_
  refine CW_seq ?_
  refine CW_region ?_
  refine LE (E_alloc hST Tryz.zeroValue47 (fun W4 b3 hST => ?_))
  refine LW_nil ?_
  refine sq_n ?_
  refine CW_seq ?_
  refine CW_seq ?_
  refine CW_region ?_
  refine LV (R_field fa83_1 rfl) ?_
  refine LV (R_load (v := (.agg (encRole a0.Head).toArray)) rfl (load_boxA hST.has (.tail _ (.head _)) (encRole a0.Head) rfl Tryz.isAgg47 Tryz.sizeOf47)) ?_
  obtain ⟨r5, hr6, hm⟩ := bind_some hm
  refine LE (E_gives (args := [(.agg (encRole a0.Head).toArray)]) hST rfl Tryz.call51 (by exact args1 rfl) ((w_ref04_Right a0.Head _ _  hr6)) (fun W7 hST => ?_))
  refine LV (R_not (b := r5) rfl) ?_
  refine LW_nil ?_
  refine sq_n ?_
  refine CW_if (b := (!r5)) rfl (fun hb8 => ?_) (fun hb8 => ?_)
  · replace hm := if_t hb8 hm
    refine CW_seq ?_
    refine CW_region ?_
    refine LV (R_assign (v := (.bool false)) rfl) ?_
    refine LW_nil ?_
    refine sq_n ?_
    replace hST : ST true NoF w _ _ [] := hST.sublist (List.Sublist.cons _ (List.Sublist.cons _ (List.Sublist.refl _)))
    refine CW_ret ?_
    refine sq_r ?_
    replace hm := Option.some.inj hm; subst hm
    refine retQ_1 (v := (.bool false)) rfl rfl ?_
    exact ⟨rfl, hST.ex⟩
  · replace hm := if_f hb8 hm
    refine CW_skip ?_
    refine sq_n ?_
    refine CW_seq ?_
    refine CW_seq ?_
    refine CW_region ?_
    refine LV (R_field fa83_0 rfl) ?_
    refine LV (R_load (v := (.int .i64 a0.Kind)) rfl (load_box1 hST.has (.tail _ (.head _)) rfl Tryz.isAgg3)) ?_
    refine LV (R_int (k := .i64) (a := a0.Kind) (b := 1) (v := (.bool ((a0.Kind == 1)))) rfl rfl rfl) ?_
    refine LW_nil ?_
    refine sq_n ?_
    refine CW_if (b := (a0.Kind == 1)) rfl (fun hb9 => ?_) (fun hb9 => ?_)
    · replace hm := if_t hb9 hm
      refine CW_seq ?_
      refine CW_region ?_
      refine LV (R_field fa83_2 rfl) ?_
      refine LV (R_load (v := (.string a0.Who)) rfl (load_box1 hST.has (.tail _ (.head _)) rfl Tryz.isAgg9)) ?_
      obtain ⟨r10, hr11, hm⟩ := bind_some hm
      refine LE (E_gives (args := [(.string a0.Who)]) hST rfl Tryz.call108 (by exact args1 rfl) ((w_ref03_Right a0.Who _ _  hr11)) (fun W12 hST => ?_))
      refine LV (R_move (v := (.bool r10)) rfl) ?_
      obtain ⟨s42, hm43, hm44⟩ := bind_some hm
      refine LW_join (J := fun E W => ∃ (x14 : Bool) (L15 : List (Nat × Obj)), ST true NoF w W (hp w) ((b3, Obj.cells ((encRole ((⟨zS, zS⟩ : Role))).toArray : Array Value) 47 (0, 0)) :: ((b1, Obj.cells ((encCred a0).toArray : Array Value) 83 (0, 0)) :: L15)) ∧ E 1 = (.pointer (some ⟨b1, 0, none⟩)) ∧ E 2 = (.bool false) ∧ E 3 = (.pointer (some ⟨b3, 0, none⟩)) ∧ E 19 = (.bool x14) ∧ (((if x14 then some ((beqRole a0.C ((⟨zS, zS⟩ : Role)))) else some false) : Option Bool).bind fun x22 => (((if x22 then some ((beqS a0.Word2 zS)) else some false) : Option Bool).bind fun x29 => some x29)) = some r) 5 ?_ (fun key45 => ?_)
      · rintro E W ⟨x14, L15, hST, e17, e18, e19, e20, hm16⟩
        refine LV (R_move (v := (.bool x14)) e20) ?_
        obtain ⟨s38, hm39, hm40⟩ := bind_some hm16
        refine LW_join (J := fun E W => ∃ (x22 : Bool) (L23 : List (Nat × Obj)), ST true NoF w W (hp w) ((b1, Obj.cells ((encCred a0).toArray : Array Value) 83 (0, 0)) :: L23) ∧ E 1 = (.pointer (some ⟨b1, 0, none⟩)) ∧ E 2 = (.bool false) ∧ E 25 = (.bool x22) ∧ (((if x22 then some ((beqS a0.Word2 zS)) else some false) : Option Bool).bind fun x29 => some x29) = some r) 5 ?_ (fun key41 => ?_)
        · rintro E W ⟨x22, L23, hST, e25, e26, e27, hm24⟩
          refine LV (R_move (v := (.bool x22)) e27) ?_
          obtain ⟨s34, hm35, hm36⟩ := bind_some hm24
          refine LW_join (J := fun E W => ∃ (x29 : Bool) (L30 : List (Nat × Obj)), ST true NoF w W (hp w) L30 ∧ E 2 = (.bool false) ∧ E 30 = (.bool x29) ∧ some x29 = some r) 4 ?_ (fun key37 => ?_)
          · rintro E W ⟨x29, L30, hST, e32, e33, hm31⟩
            refine LV (R_assign (v := (.bool x29)) e33) ?_
            refine LW_nil ?_
            refine sq_n ?_
            refine CW_ret ?_
            refine sq_r ?_
            replace hm31 := Option.some.inj hm31; subst hm31
            refine retQ_1 (v := (.bool x29)) rfl rfl ?_
            exact ⟨rfl, hST.ex⟩
          · rcases bool_cases x22 with hb28 | hb28
            · replace hm35 := if_t hb28 hm35
              refine LW_v (.inr ⟨15, true, 26, rfl, rfl, by decide, (congrArg Value.bool hb28)⟩) rfl (by decide) (R_field fa83_5 e25) ?_
              refine LW_v (.inr ⟨15, true, 26, rfl, rfl, by decide, (congrArg Value.bool hb28)⟩) rfl (by decide) (R_load (v := (.string a0.Word2)) rfl (load_box1 hST.has (.head _) rfl Tryz.isAgg9)) ?_
              refine LW_v (.inr ⟨15, true, 26, rfl, rfl, by decide, (congrArg Value.bool hb28)⟩) rfl (by decide) (R_str (a := a0.Word2) (b := zS) (v := (.bool ((beqS a0.Word2 zS)))) rfl rfl rfl) ?_
              refine LV (R_pickT (v := (.bool ((beqS a0.Word2 zS)))) (congrArg Value.bool hb28) rfl) ?_
              replace hm35 := Option.some.inj hm35; subst hm35
              exact key37 _ _ ⟨((beqS a0.Word2 zS)), _, (hST.sublist (List.Sublist.cons _ (List.Sublist.refl _))), e26, rfl, hm36⟩
            · replace hm35 := if_f hb28 hm35
              refine LW_no rfl (by decide) rfl rfl (by decide) (congrArg Value.bool hb28) ?_
              refine LW_no rfl (by decide) rfl rfl (by decide) (congrArg Value.bool hb28) ?_
              refine LW_no rfl (by decide) rfl rfl (by decide) (congrArg Value.bool hb28) ?_
              refine LV (R_pickF (v := (.bool false)) (congrArg Value.bool hb28) rfl) ?_
              replace hm35 := Option.some.inj hm35; subst hm35
              exact key37 _ _ ⟨false, _, (hST.sublist (List.Sublist.cons _ (List.Sublist.refl _))), e26, rfl, hm36⟩
        · rcases bool_cases x14 with hb21 | hb21
          · replace hm39 := if_t hb21 hm39
            refine LW_v (.inr ⟨9, true, 20, rfl, rfl, by decide, (congrArg Value.bool hb21)⟩) rfl (by decide) (R_field fa83_4 e17) ?_
            refine LW_v (.inr ⟨9, true, 20, rfl, rfl, by decide, (congrArg Value.bool hb21)⟩) rfl (by decide) (R_load (v := (.agg (encRole a0.C).toArray)) rfl (load_boxA hST.has (.tail _ (.head _)) (encRole a0.C) rfl Tryz.isAgg47 Tryz.sizeOf47)) ?_
            refine LW_v (.inr ⟨9, true, 20, rfl, rfl, by decide, (congrArg Value.bool hb21)⟩) rfl (by decide) (R_load (v := (.agg (encRole ((⟨zS, zS⟩ : Role))).toArray)) e19 (load_boxA hST.has (.head _) (encRole ((⟨zS, zS⟩ : Role))) rfl Tryz.isAgg47 Tryz.sizeOf47)) ?_
            refine LW_v (.inr ⟨9, true, 20, rfl, rfl, by decide, (congrArg Value.bool hb21)⟩) rfl (by decide) (R_eql (a := (encRole a0.C).toArray) (b := (encRole ((⟨zS, zS⟩ : Role))).toArray) rfl rfl (guard_agg Tryz.eqGuardType47) (bin_eql (eqInRole _ a0.C ((⟨zS, zS⟩ : Role))))) ?_
            refine LV (R_pickT (v := (.bool ((beqRole a0.C ((⟨zS, zS⟩ : Role)))))) (congrArg Value.bool hb21) rfl) ?_
            replace hm39 := Option.some.inj hm39; subst hm39
            exact key41 _ _ ⟨((beqRole a0.C ((⟨zS, zS⟩ : Role)))), _, (hST.sublist (List.Sublist.cons _ (List.Sublist.refl _))), e17, e18, rfl, hm40⟩
          · replace hm39 := if_f hb21 hm39
            refine LW_no rfl (by decide) rfl rfl (by decide) (congrArg Value.bool hb21) ?_
            refine LW_no rfl (by decide) rfl rfl (by decide) (congrArg Value.bool hb21) ?_
            refine LW_no rfl (by decide) rfl rfl (by decide) (congrArg Value.bool hb21) ?_
            refine LW_no rfl (by decide) rfl rfl (by decide) (congrArg Value.bool hb21) ?_
            refine LV (R_pickF (v := (.bool false)) (congrArg Value.bool hb21) rfl) ?_
            replace hm39 := Option.some.inj hm39; subst hm39
            exact key41 _ _ ⟨false, _, (hST.sublist (List.Sublist.cons _ (List.Sublist.refl _))), e17, e18, rfl, hm40⟩
      · rcases bool_cases r10 with hb13 | hb13
        · replace hm43 := if_t hb13 hm43
          refine LW_v (.inr ⟨3, true, 14, rfl, rfl, by decide, (congrArg Value.bool hb13)⟩) rfl (by decide) (R_field fa83_3 rfl) ?_
          refine LW_v (.inr ⟨3, true, 14, rfl, rfl, by decide, (congrArg Value.bool hb13)⟩) rfl (by decide) (R_load (v := (.agg (encRole a0.B).toArray)) rfl (load_boxA hST.has (.tail _ (.head _)) (encRole a0.B) rfl Tryz.isAgg47 Tryz.sizeOf47)) ?_
          refine LW_v (.inr ⟨3, true, 14, rfl, rfl, by decide, (congrArg Value.bool hb13)⟩) rfl (by decide) (R_load (v := (.agg (encRole ((⟨zS, zS⟩ : Role))).toArray)) rfl (load_boxA hST.has (.head _) (encRole ((⟨zS, zS⟩ : Role))) rfl Tryz.isAgg47 Tryz.sizeOf47)) ?_
          refine LW_v (.inr ⟨3, true, 14, rfl, rfl, by decide, (congrArg Value.bool hb13)⟩) rfl (by decide) (R_eql (a := (encRole a0.B).toArray) (b := (encRole ((⟨zS, zS⟩ : Role))).toArray) rfl rfl (guard_agg Tryz.eqGuardType47) (bin_eql (eqInRole _ a0.B ((⟨zS, zS⟩ : Role))))) ?_
          refine LV (R_pickT (v := (.bool ((beqRole a0.B ((⟨zS, zS⟩ : Role)))))) (congrArg Value.bool hb13) rfl) ?_
          replace hm43 := Option.some.inj hm43; subst hm43
          exact key45 _ _ ⟨((beqRole a0.B ((⟨zS, zS⟩ : Role)))), _, (hST.sublist (List.Sublist.refl _)), rfl, rfl, rfl, rfl, hm44⟩
        · replace hm43 := if_f hb13 hm43
          refine LW_no rfl (by decide) rfl rfl (by decide) (congrArg Value.bool hb13) ?_
          refine LW_no rfl (by decide) rfl rfl (by decide) (congrArg Value.bool hb13) ?_
          refine LW_no rfl (by decide) rfl rfl (by decide) (congrArg Value.bool hb13) ?_
          refine LW_no rfl (by decide) rfl rfl (by decide) (congrArg Value.bool hb13) ?_
          refine LV (R_pickF (v := (.bool false)) (congrArg Value.bool hb13) rfl) ?_
          replace hm43 := Option.some.inj hm43; subst hm43
          exact key45 _ _ ⟨false, _, (hST.sublist (List.Sublist.refl _)), rfl, rfl, rfl, rfl, hm44⟩
    · replace hm := if_f hb9 hm
      refine CW_skip ?_
      refine sq_n ?_
      refine CW_seq ?_
      refine CW_seq ?_
      refine CW_region ?_
      refine LV (R_field fa83_2 rfl) ?_
      refine LV (R_load (v := (.string a0.Who)) rfl (load_box1 hST.has (.tail _ (.head _)) rfl Tryz.isAgg9)) ?_
      refine LV (R_str (a := a0.Who) (b := zS) (v := (.bool ((!(beqS a0.Who zS))))) rfl rfl rfl) ?_
      refine LV (R_move (v := (.bool ((!(beqS a0.Who zS))))) rfl) ?_
      obtain ⟨s134, hm135, hm136⟩ := bind_some hm
      refine LW_join (J := fun E W => ∃ (x50 : Bool) (L51 : List (Nat × Obj)), ST true NoF w W (hp w) ((b3, Obj.cells ((encRole ((⟨zS, zS⟩ : Role))).toArray : Array Value) 47 (0, 0)) :: ((b1, Obj.cells ((encCred a0).toArray : Array Value) 83 (0, 0)) :: L51)) ∧ E 1 = (.pointer (some ⟨b1, 0, none⟩)) ∧ E 3 = (.pointer (some ⟨b3, 0, none⟩)) ∧ E 39 = (.bool x50) ∧ (if x50 then some false else (if (a0.Kind == 2) then (((if (beqRole a0.C ((⟨zS, zS⟩ : Role))) then some ((beqS a0.Word2 zS)) else some false) : Option Bool).bind fun x59 => some x59) else (if (a0.Kind == 3) then (((if (beqRole a0.C ((⟨zS, zS⟩ : Role))) then some ((beqS a0.B.Owner a0.Head.Owner)) else some false) : Option Bool).bind fun x69 => (((if x69 then (((m_ref03_Right a0.Word2)).bind fun r86 => some r86) else some false) : Option Bool).bind fun x78 => some x78)) else (((if (a0.Kind == 4) then some ((beqS a0.Word2 zS)) else some false) : Option Bool).bind fun x94 => (((if x94 then (((m_ref04_Right a0.C)).bind fun r127 => some r127) else some false) : Option Bool).bind fun x103 => (((if x103 then (((m_ref04_Less a0.B a0.C)).bind fun r120 => some r120) else some false) : Option Bool).bind fun x112 => some x112)))))) = some r) 5 ?_ (fun key137 => ?_)
      · rintro E W ⟨x50, L51, hST, e53, e54, e55, hm52⟩
        refine LW_nil ?_
        refine sq_n ?_
        refine CW_if (b := x50) e55 (fun hb56 => ?_) (fun hb56 => ?_)
        · replace hm52 := if_t hb56 hm52
          refine CW_seq ?_
          refine CW_region ?_
          refine LV (R_assign (v := (.bool false)) rfl) ?_
          refine LW_nil ?_
          refine sq_n ?_
          replace hST : ST true NoF w _ _ L51 := hST.sublist (List.Sublist.cons _ (List.Sublist.cons _ (List.Sublist.refl _)))
          refine CW_ret ?_
          refine sq_r ?_
          replace hm52 := Option.some.inj hm52; subst hm52
          refine retQ_1 (v := (.bool false)) rfl rfl ?_
          exact ⟨rfl, hST.ex⟩
        · replace hm52 := if_f hb56 hm52
          refine CW_skip ?_
          refine sq_n ?_
          refine CW_seq ?_
          refine CW_seq ?_
          refine CW_region ?_
          refine LV (R_field fa83_0 e53) ?_
          refine LV (R_load (v := (.int .i64 a0.Kind)) rfl (load_box1 hST.has (.tail _ (.head _)) rfl Tryz.isAgg3)) ?_
          refine LV (R_int (k := .i64) (a := a0.Kind) (b := 2) (v := (.bool ((a0.Kind == 2)))) rfl rfl rfl) ?_
          refine LW_nil ?_
          refine sq_n ?_
          refine CW_if (b := (a0.Kind == 2)) rfl (fun hb57 => ?_) (fun hb57 => ?_)
          · replace hm52 := if_t hb57 hm52
            refine CW_seq ?_
            refine CW_region ?_
            refine LV (R_field fa83_4 e53) ?_
            refine LV (R_load (v := (.agg (encRole a0.C).toArray)) rfl (load_boxA hST.has (.tail _ (.head _)) (encRole a0.C) rfl Tryz.isAgg47 Tryz.sizeOf47)) ?_
            refine LV (R_load (v := (.agg (encRole ((⟨zS, zS⟩ : Role))).toArray)) e54 (load_boxA hST.has (.head _) (encRole ((⟨zS, zS⟩ : Role))) rfl Tryz.isAgg47 Tryz.sizeOf47)) ?_
            refine LV (R_eql (a := (encRole a0.C).toArray) (b := (encRole ((⟨zS, zS⟩ : Role))).toArray) rfl rfl (guard_agg Tryz.eqGuardType47) (bin_eql (eqInRole _ a0.C ((⟨zS, zS⟩ : Role))))) ?_
            refine LV (R_move (v := (.bool ((beqRole a0.C ((⟨zS, zS⟩ : Role)))))) rfl) ?_
            obtain ⟨s63, hm64, hm65⟩ := bind_some hm52
            refine LW_join (J := fun E W => ∃ (x59 : Bool) (L60 : List (Nat × Obj)), ST true NoF w W (hp w) L60 ∧ E 51 = (.bool x59) ∧ some x59 = some r) 4 ?_ (fun key66 => ?_)
            · rintro E W ⟨x59, L60, hST, e62, hm61⟩
              refine LV (R_assign (v := (.bool x59)) e62) ?_
              refine LW_nil ?_
              refine sq_n ?_
              refine CW_ret ?_
              refine sq_r ?_
              replace hm61 := Option.some.inj hm61; subst hm61
              refine retQ_1 (v := (.bool x59)) rfl rfl ?_
              exact ⟨rfl, hST.ex⟩
            · rcases bool_cases ((beqRole a0.C ((⟨zS, zS⟩ : Role)))) with hb58 | hb58
              · replace hm64 := if_t hb58 hm64
                refine LW_v (.inr ⟨4, true, 47, rfl, rfl, by decide, (congrArg Value.bool hb58)⟩) rfl (by decide) (R_field fa83_5 e53) ?_
                refine LW_v (.inr ⟨4, true, 47, rfl, rfl, by decide, (congrArg Value.bool hb58)⟩) rfl (by decide) (R_load (v := (.string a0.Word2)) rfl (load_box1 hST.has (.tail _ (.head _)) rfl Tryz.isAgg9)) ?_
                refine LW_v (.inr ⟨4, true, 47, rfl, rfl, by decide, (congrArg Value.bool hb58)⟩) rfl (by decide) (R_str (a := a0.Word2) (b := zS) (v := (.bool ((beqS a0.Word2 zS)))) rfl rfl rfl) ?_
                refine LV (R_pickT (v := (.bool ((beqS a0.Word2 zS)))) (congrArg Value.bool hb58) rfl) ?_
                replace hm64 := Option.some.inj hm64; subst hm64
                exact key66 _ _ ⟨((beqS a0.Word2 zS)), _, (hST.sublist (List.Sublist.cons _ (List.Sublist.cons _ (List.Sublist.refl _)))), rfl, hm65⟩
              · replace hm64 := if_f hb58 hm64
                refine LW_no rfl (by decide) rfl rfl (by decide) (congrArg Value.bool hb58) ?_
                refine LW_no rfl (by decide) rfl rfl (by decide) (congrArg Value.bool hb58) ?_
                refine LW_no rfl (by decide) rfl rfl (by decide) (congrArg Value.bool hb58) ?_
                refine LV (R_pickF (v := (.bool false)) (congrArg Value.bool hb58) rfl) ?_
                replace hm64 := Option.some.inj hm64; subst hm64
                exact key66 _ _ ⟨false, _, (hST.sublist (List.Sublist.cons _ (List.Sublist.cons _ (List.Sublist.refl _)))), rfl, hm65⟩
          · replace hm52 := if_f hb57 hm52
            refine CW_skip ?_
            refine sq_n ?_
            refine CW_seq ?_
            refine CW_seq ?_
            refine CW_region ?_
            refine LV (R_field fa83_0 e53) ?_
            refine LV (R_load (v := (.int .i64 a0.Kind)) rfl (load_box1 hST.has (.tail _ (.head _)) rfl Tryz.isAgg3)) ?_
            refine LV (R_int (k := .i64) (a := a0.Kind) (b := 3) (v := (.bool ((a0.Kind == 3)))) rfl rfl rfl) ?_
            refine LW_nil ?_
            refine sq_n ?_
            refine CW_if (b := (a0.Kind == 3)) rfl (fun hb67 => ?_) (fun hb67 => ?_)
            · replace hm52 := if_t hb67 hm52
              refine CW_seq ?_
              refine CW_region ?_
              refine LV (R_field fa83_4 e53) ?_
              refine LV (R_load (v := (.agg (encRole a0.C).toArray)) rfl (load_boxA hST.has (.tail _ (.head _)) (encRole a0.C) rfl Tryz.isAgg47 Tryz.sizeOf47)) ?_
              refine LV (R_load (v := (.agg (encRole ((⟨zS, zS⟩ : Role))).toArray)) e54 (load_boxA hST.has (.head _) (encRole ((⟨zS, zS⟩ : Role))) rfl Tryz.isAgg47 Tryz.sizeOf47)) ?_
              refine LV (R_eql (a := (encRole a0.C).toArray) (b := (encRole ((⟨zS, zS⟩ : Role))).toArray) rfl rfl (guard_agg Tryz.eqGuardType47) (bin_eql (eqInRole _ a0.C ((⟨zS, zS⟩ : Role))))) ?_
              refine LV (R_move (v := (.bool ((beqRole a0.C ((⟨zS, zS⟩ : Role)))))) rfl) ?_
              obtain ⟨s89, hm90, hm91⟩ := bind_some hm52
              refine LW_join (J := fun E W => ∃ (x69 : Bool) (L70 : List (Nat × Obj)), ST true NoF w W (hp w) ((b1, Obj.cells ((encCred a0).toArray : Array Value) 83 (0, 0)) :: L70) ∧ E 1 = (.pointer (some ⟨b1, 0, none⟩)) ∧ E 67 = (.bool x69) ∧ (((if x69 then (((m_ref03_Right a0.Word2)).bind fun r86 => some r86) else some false) : Option Bool).bind fun x78 => some x78) = some r) 8 ?_ (fun key92 => ?_)
              · rintro E W ⟨x69, L70, hST, e72, e73, hm71⟩
                refine LV (R_move (v := (.bool x69)) e73) ?_
                obtain ⟨s82, hm83, hm84⟩ := bind_some hm71
                refine LW_join (J := fun E W => ∃ (x78 : Bool) (L79 : List (Nat × Obj)), ST true NoF w W (hp w) L79 ∧ E 72 = (.bool x78) ∧ some x78 = some r) 4 ?_ (fun key85 => ?_)
                · rintro E W ⟨x78, L79, hST, e81, hm80⟩
                  refine LV (R_assign (v := (.bool x78)) e81) ?_
                  refine LW_nil ?_
                  refine sq_n ?_
                  refine CW_ret ?_
                  refine sq_r ?_
                  replace hm80 := Option.some.inj hm80; subst hm80
                  refine retQ_1 (v := (.bool x78)) rfl rfl ?_
                  exact ⟨rfl, hST.ex⟩
                · rcases bool_cases x69 with hb74 | hb74
                  · replace hm83 := if_t hb74 hm83
                    refine LW_v (.inr ⟨13, true, 68, rfl, rfl, by decide, (congrArg Value.bool hb74)⟩) rfl (by decide) (R_field fa83_5 e72) ?_
                    refine LW_v (.inr ⟨13, true, 68, rfl, rfl, by decide, (congrArg Value.bool hb74)⟩) rfl (by decide) (R_load (v := (.string a0.Word2)) rfl (load_box1 hST.has (.head _) rfl Tryz.isAgg9)) ?_
                    obtain ⟨r86, hr87, hm83⟩ := bind_some hm83
                    refine LW_e (.inr ⟨13, true, 68, rfl, rfl, by decide, (congrArg Value.bool hb74)⟩) rfl (by decide) (E_gives (args := [(.string a0.Word2)]) hST rfl Tryz.call108 (by exact args1 rfl) ((w_ref03_Right a0.Word2 _ _  hr87)) (fun W88 hST => ?_))
                    refine LV (R_pickT (v := (.bool r86)) (congrArg Value.bool hb74) rfl) ?_
                    replace hm83 := Option.some.inj hm83; subst hm83
                    exact key85 _ _ ⟨r86, _, (hST.sublist (List.Sublist.cons _ (List.Sublist.refl _))), rfl, hm84⟩
                  · replace hm83 := if_f hb74 hm83
                    refine LW_no rfl (by decide) rfl rfl (by decide) (congrArg Value.bool hb74) ?_
                    refine LW_no rfl (by decide) rfl rfl (by decide) (congrArg Value.bool hb74) ?_
                    refine LW_no rfl (by decide) rfl rfl (by decide) (congrArg Value.bool hb74) ?_
                    refine LV (R_pickF (v := (.bool false)) (congrArg Value.bool hb74) rfl) ?_
                    replace hm83 := Option.some.inj hm83; subst hm83
                    exact key85 _ _ ⟨false, _, (hST.sublist (List.Sublist.cons _ (List.Sublist.refl _))), rfl, hm84⟩
              · rcases bool_cases ((beqRole a0.C ((⟨zS, zS⟩ : Role)))) with hb68 | hb68
                · replace hm90 := if_t hb68 hm90
                  refine LW_v (.inr ⟨4, true, 59, rfl, rfl, by decide, (congrArg Value.bool hb68)⟩) rfl (by decide) (R_field fa83_3 e53) ?_
                  refine LW_v (.inr ⟨4, true, 59, rfl, rfl, by decide, (congrArg Value.bool hb68)⟩) rfl (by decide) (R_field fa47_0 rfl) ?_
                  refine LW_v (.inr ⟨4, true, 59, rfl, rfl, by decide, (congrArg Value.bool hb68)⟩) rfl (by decide) (R_load (v := (.string a0.B.Owner)) rfl (load_box1 hST.has (.tail _ (.head _)) rfl Tryz.isAgg9)) ?_
                  refine LW_v (.inr ⟨4, true, 59, rfl, rfl, by decide, (congrArg Value.bool hb68)⟩) rfl (by decide) (R_field fa83_1 e53) ?_
                  refine LW_v (.inr ⟨4, true, 59, rfl, rfl, by decide, (congrArg Value.bool hb68)⟩) rfl (by decide) (R_field fa47_0 rfl) ?_
                  refine LW_v (.inr ⟨4, true, 59, rfl, rfl, by decide, (congrArg Value.bool hb68)⟩) rfl (by decide) (R_load (v := (.string a0.Head.Owner)) rfl (load_box1 hST.has (.tail _ (.head _)) rfl Tryz.isAgg9)) ?_
                  refine LW_v (.inr ⟨4, true, 59, rfl, rfl, by decide, (congrArg Value.bool hb68)⟩) rfl (by decide) (R_str (a := a0.B.Owner) (b := a0.Head.Owner) (v := (.bool ((beqS a0.B.Owner a0.Head.Owner)))) rfl rfl rfl) ?_
                  refine LV (R_pickT (v := (.bool ((beqS a0.B.Owner a0.Head.Owner)))) (congrArg Value.bool hb68) rfl) ?_
                  replace hm90 := Option.some.inj hm90; subst hm90
                  exact key92 _ _ ⟨((beqS a0.B.Owner a0.Head.Owner)), _, (hST.sublist (List.Sublist.cons _ (List.Sublist.refl _))), e53, rfl, hm91⟩
                · replace hm90 := if_f hb68 hm90
                  refine LW_no rfl (by decide) rfl rfl (by decide) (congrArg Value.bool hb68) ?_
                  refine LW_no rfl (by decide) rfl rfl (by decide) (congrArg Value.bool hb68) ?_
                  refine LW_no rfl (by decide) rfl rfl (by decide) (congrArg Value.bool hb68) ?_
                  refine LW_no rfl (by decide) rfl rfl (by decide) (congrArg Value.bool hb68) ?_
                  refine LW_no rfl (by decide) rfl rfl (by decide) (congrArg Value.bool hb68) ?_
                  refine LW_no rfl (by decide) rfl rfl (by decide) (congrArg Value.bool hb68) ?_
                  refine LW_no rfl (by decide) rfl rfl (by decide) (congrArg Value.bool hb68) ?_
                  refine LV (R_pickF (v := (.bool false)) (congrArg Value.bool hb68) rfl) ?_
                  replace hm90 := Option.some.inj hm90; subst hm90
                  exact key92 _ _ ⟨false, _, (hST.sublist (List.Sublist.cons _ (List.Sublist.refl _))), e53, rfl, hm91⟩
            · replace hm52 := if_f hb67 hm52
              refine CW_skip ?_
              refine sq_n ?_
              replace hST : ST true NoF w _ _ ((b1, Obj.cells ((encCred a0).toArray : Array Value) 83 (0, 0)) :: L51) := hST.sublist (List.Sublist.cons _ (List.Sublist.refl _))
              refine CW_seq ?_
              refine CW_region ?_
              refine LV (R_field fa83_0 e53) ?_
              refine LV (R_load (v := (.int .i64 a0.Kind)) rfl (load_box1 hST.has (.head _) rfl Tryz.isAgg3)) ?_
              refine LV (R_int (k := .i64) (a := a0.Kind) (b := 4) (v := (.bool ((a0.Kind == 4)))) rfl rfl rfl) ?_
              refine LV (R_move (v := (.bool ((a0.Kind == 4)))) rfl) ?_
              obtain ⟨s130, hm131, hm132⟩ := bind_some hm52
              refine LW_join (J := fun E W => ∃ (x94 : Bool) (L95 : List (Nat × Obj)), ST true NoF w W (hp w) ((b1, Obj.cells ((encCred a0).toArray : Array Value) 83 (0, 0)) :: L95) ∧ E 1 = (.pointer (some ⟨b1, 0, none⟩)) ∧ E 80 = (.bool x94) ∧ (((if x94 then (((m_ref04_Right a0.C)).bind fun r127 => some r127) else some false) : Option Bool).bind fun x103 => (((if x103 then (((m_ref04_Less a0.B a0.C)).bind fun r120 => some r120) else some false) : Option Bool).bind fun x112 => some x112)) = some r) 4 ?_ (fun key133 => ?_)
              · rintro E W ⟨x94, L95, hST, e97, e98, hm96⟩
                refine LV (R_move (v := (.bool x94)) e98) ?_
                obtain ⟨s123, hm124, hm125⟩ := bind_some hm96
                refine LW_join (J := fun E W => ∃ (x103 : Bool) (L104 : List (Nat × Obj)), ST true NoF w W (hp w) ((b1, Obj.cells ((encCred a0).toArray : Array Value) 83 (0, 0)) :: L104) ∧ E 1 = (.pointer (some ⟨b1, 0, none⟩)) ∧ E 85 = (.bool x103) ∧ (((if x103 then (((m_ref04_Less a0.B a0.C)).bind fun r120 => some r120) else some false) : Option Bool).bind fun x112 => some x112) = some r) 4 ?_ (fun key126 => ?_)
                · rintro E W ⟨x103, L104, hST, e106, e107, hm105⟩
                  refine LV (R_move (v := (.bool x103)) e107) ?_
                  obtain ⟨s116, hm117, hm118⟩ := bind_some hm105
                  refine LW_join (J := fun E W => ∃ (x112 : Bool) (L113 : List (Nat × Obj)), ST true NoF w W (hp w) L113 ∧ E 92 = (.bool x112) ∧ some x112 = some r) 6 ?_ (fun key119 => ?_)
                  · rintro E W ⟨x112, L113, hST, e115, hm114⟩
                    refine LV (R_assign (v := (.bool x112)) e115) ?_
                    refine LW_nil ?_
                    refine sq_n ?_
                    refine CW_ret ?_
                    replace hm114 := Option.some.inj hm114; subst hm114
                    refine retQ_1 (v := (.bool x112)) rfl rfl ?_
                    exact ⟨rfl, hST.ex⟩
                  · rcases bool_cases x103 with hb108 | hb108
                    · replace hm117 := if_t hb108 hm117
                      refine LW_v (.inr ⟨13, true, 86, rfl, rfl, by decide, (congrArg Value.bool hb108)⟩) rfl (by decide) (R_field fa83_3 e106) ?_
                      refine LW_v (.inr ⟨13, true, 86, rfl, rfl, by decide, (congrArg Value.bool hb108)⟩) rfl (by decide) (R_load (v := (.agg (encRole a0.B).toArray)) rfl (load_boxA hST.has (.head _) (encRole a0.B) rfl Tryz.isAgg47 Tryz.sizeOf47)) ?_
                      refine LW_v (.inr ⟨13, true, 86, rfl, rfl, by decide, (congrArg Value.bool hb108)⟩) rfl (by decide) (R_field fa83_4 e106) ?_
                      refine LW_v (.inr ⟨13, true, 86, rfl, rfl, by decide, (congrArg Value.bool hb108)⟩) rfl (by decide) (R_load (v := (.agg (encRole a0.C).toArray)) rfl (load_boxA hST.has (.head _) (encRole a0.C) rfl Tryz.isAgg47 Tryz.sizeOf47)) ?_
                      obtain ⟨r120, hr121, hm117⟩ := bind_some hm117
                      refine LW_e (.inr ⟨13, true, 86, rfl, rfl, by decide, (congrArg Value.bool hb108)⟩) rfl (by decide) (E_gives (args := [(.agg (encRole a0.B).toArray), (.agg (encRole a0.C).toArray)]) hST rfl Tryz.call123 (by exact args2 rfl rfl) ((w_ref04_Less a0.B a0.C _ _  hr121)) (fun W122 hST => ?_))
                      refine LV (R_pickT (v := (.bool r120)) (congrArg Value.bool hb108) rfl) ?_
                      replace hm117 := Option.some.inj hm117; subst hm117
                      exact key119 _ _ ⟨r120, _, (hST.sublist (List.Sublist.cons _ (List.Sublist.refl _))), rfl, hm118⟩
                    · replace hm117 := if_f hb108 hm117
                      refine LW_no rfl (by decide) rfl rfl (by decide) (congrArg Value.bool hb108) ?_
                      refine LW_no rfl (by decide) rfl rfl (by decide) (congrArg Value.bool hb108) ?_
                      refine LW_no rfl (by decide) rfl rfl (by decide) (congrArg Value.bool hb108) ?_
                      refine LW_no rfl (by decide) rfl rfl (by decide) (congrArg Value.bool hb108) ?_
                      refine LW_no rfl (by decide) rfl rfl (by decide) (congrArg Value.bool hb108) ?_
                      refine LV (R_pickF (v := (.bool false)) (congrArg Value.bool hb108) rfl) ?_
                      replace hm117 := Option.some.inj hm117; subst hm117
                      exact key119 _ _ ⟨false, _, (hST.sublist (List.Sublist.cons _ (List.Sublist.refl _))), rfl, hm118⟩
                · rcases bool_cases x94 with hb99 | hb99
                  · replace hm124 := if_t hb99 hm124
                    refine LW_v (.inr ⟨8, true, 81, rfl, rfl, by decide, (congrArg Value.bool hb99)⟩) rfl (by decide) (R_field fa83_4 e97) ?_
                    refine LW_v (.inr ⟨8, true, 81, rfl, rfl, by decide, (congrArg Value.bool hb99)⟩) rfl (by decide) (R_load (v := (.agg (encRole a0.C).toArray)) rfl (load_boxA hST.has (.head _) (encRole a0.C) rfl Tryz.isAgg47 Tryz.sizeOf47)) ?_
                    obtain ⟨r127, hr128, hm124⟩ := bind_some hm124
                    refine LW_e (.inr ⟨8, true, 81, rfl, rfl, by decide, (congrArg Value.bool hb99)⟩) rfl (by decide) (E_gives (args := [(.agg (encRole a0.C).toArray)]) hST rfl Tryz.call51 (by exact args1 rfl) ((w_ref04_Right a0.C _ _  hr128)) (fun W129 hST => ?_))
                    refine LV (R_pickT (v := (.bool r127)) (congrArg Value.bool hb99) rfl) ?_
                    replace hm124 := Option.some.inj hm124; subst hm124
                    exact key126 _ _ ⟨r127, _, (hST.sublist (List.Sublist.refl _)), e97, rfl, hm125⟩
                  · replace hm124 := if_f hb99 hm124
                    refine LW_no rfl (by decide) rfl rfl (by decide) (congrArg Value.bool hb99) ?_
                    refine LW_no rfl (by decide) rfl rfl (by decide) (congrArg Value.bool hb99) ?_
                    refine LW_no rfl (by decide) rfl rfl (by decide) (congrArg Value.bool hb99) ?_
                    refine LV (R_pickF (v := (.bool false)) (congrArg Value.bool hb99) rfl) ?_
                    replace hm124 := Option.some.inj hm124; subst hm124
                    exact key126 _ _ ⟨false, _, (hST.sublist (List.Sublist.refl _)), e97, rfl, hm125⟩
              · rcases bool_cases ((a0.Kind == 4)) with hb93 | hb93
                · replace hm131 := if_t hb93 hm131
                  refine LW_v (.inr ⟨3, true, 76, rfl, rfl, by decide, (congrArg Value.bool hb93)⟩) rfl (by decide) (R_field fa83_5 e53) ?_
                  refine LW_v (.inr ⟨3, true, 76, rfl, rfl, by decide, (congrArg Value.bool hb93)⟩) rfl (by decide) (R_load (v := (.string a0.Word2)) rfl (load_box1 hST.has (.head _) rfl Tryz.isAgg9)) ?_
                  refine LW_v (.inr ⟨3, true, 76, rfl, rfl, by decide, (congrArg Value.bool hb93)⟩) rfl (by decide) (R_str (a := a0.Word2) (b := zS) (v := (.bool ((beqS a0.Word2 zS)))) rfl rfl rfl) ?_
                  refine LV (R_pickT (v := (.bool ((beqS a0.Word2 zS)))) (congrArg Value.bool hb93) rfl) ?_
                  replace hm131 := Option.some.inj hm131; subst hm131
                  exact key133 _ _ ⟨((beqS a0.Word2 zS)), _, (hST.sublist (List.Sublist.refl _)), e53, rfl, hm132⟩
                · replace hm131 := if_f hb93 hm131
                  refine LW_no rfl (by decide) rfl rfl (by decide) (congrArg Value.bool hb93) ?_
                  refine LW_no rfl (by decide) rfl rfl (by decide) (congrArg Value.bool hb93) ?_
                  refine LW_no rfl (by decide) rfl rfl (by decide) (congrArg Value.bool hb93) ?_
                  refine LV (R_pickF (v := (.bool false)) (congrArg Value.bool hb93) rfl) ?_
                  replace hm131 := Option.some.inj hm131; subst hm131
                  exact key133 _ _ ⟨false, _, (hST.sublist (List.Sublist.refl _)), e53, rfl, hm132⟩
      · rcases bool_cases ((!(beqS a0.Who zS))) with hb46 | hb46
        · replace hm135 := if_t hb46 hm135
          refine LW_no rfl (by decide) rfl rfl (by decide) (congrArg Value.bool hb46) ?_
          refine LW_no rfl (by decide) rfl rfl (by decide) (congrArg Value.bool hb46) ?_
          refine LW_no rfl (by decide) rfl rfl (by decide) (congrArg Value.bool hb46) ?_
          refine LW_no rfl (by decide) rfl rfl (by decide) (congrArg Value.bool hb46) ?_
          refine LV (R_pickT (v := (.bool true)) (congrArg Value.bool hb46) rfl) ?_
          replace hm135 := Option.some.inj hm135; subst hm135
          exact key137 _ _ ⟨true, _, (hST.sublist (List.Sublist.refl _)), rfl, rfl, rfl, hm136⟩
        · replace hm135 := if_f hb46 hm135
          refine LW_v (.inr ⟨3, false, 34, rfl, rfl, by decide, (congrArg Value.bool hb46)⟩) rfl (by decide) (R_field fa83_3 rfl) ?_
          refine LW_v (.inr ⟨3, false, 34, rfl, rfl, by decide, (congrArg Value.bool hb46)⟩) rfl (by decide) (R_load (v := (.agg (encRole a0.B).toArray)) rfl (load_boxA hST.has (.tail _ (.head _)) (encRole a0.B) rfl Tryz.isAgg47 Tryz.sizeOf47)) ?_
          obtain ⟨r138, hr139, hm135⟩ := bind_some hm135
          refine LW_e (.inr ⟨3, false, 34, rfl, rfl, by decide, (congrArg Value.bool hb46)⟩) rfl (by decide) (E_gives (args := [(.agg (encRole a0.B).toArray)]) hST rfl Tryz.call51 (by exact args1 rfl) ((w_ref04_Right a0.B _ _  hr139)) (fun W140 hST => ?_))
          refine LW_v (.inr ⟨3, false, 34, rfl, rfl, by decide, (congrArg Value.bool hb46)⟩) rfl (by decide) (R_not (b := r138) rfl) ?_
          refine LV (R_pickF (v := (.bool ((!r138)))) (congrArg Value.bool hb46) rfl) ?_
          replace hm135 := Option.some.inj hm135; subst hm135
          exact key137 _ _ ⟨((!r138)), _, (hST.sublist (List.Sublist.refl _)), rfl, rfl, rfl, hm136⟩
theorem w_ref01_Number (a0 : Int) (r : ByteArray) (w : World)  (hm : m_ref01_Number a0 = some r) :
    Gives true Tryz.prog 231 [(.int .i64 a0)] w (.string r) := by
  have hST := ST.start (dd := true) w
  unfold m_ref01_Number at hm
  refine calls_of_CW (n := 22) Tryz.func231 rfl rfl (Nat.le_of_ble_eq_true rfl) ?_
  refine CW_seq ?_
  refine CW_region ?_
  refine LV (R_assign (v := (.string zS)) rfl) ?_
  refine LW_nil ?_
  refine sq_n ?_
  refine CW_seq ?_
  refine CW_region ?_
  refine LV (R_assign (v := (.string zS)) rfl) ?_
  refine LW_nil ?_
  refine sq_n ?_
  refine CW_seq ?_
  refine CW_block (CW_loop (fun m E W => ∃ (x32 : Int) (x33 : ByteArray) (L43 : List (Nat × Obj)), ST true NoF w W (hp w) L43 ∧ E 0 = (.int .i64 x32) ∧ E 3 = (.string x33) ∧ m_ref01_Number_L1 m x32 x33 = some r) FUEL ⟨a0, zS, _, (hST.sublist (List.Sublist.refl _)), rfl, rfl, hm⟩ ?_)
  rintro m E W ⟨x32, x33, L43, hST, e46, e47, hm44⟩
  cases m with
  | zero => rw [m_ref01_Number_L1] at hm44; cases hm44
  | succ n45 =>
    rw [m_ref01_Number_L1] at hm44
    refine CW_seq ?_
    refine CW_seq ?_
    refine CW_region ?_
    refine LV (R_move (v := (.int .i64 x32)) e46) ?_
    refine LV (R_int (k := .i64) (a := x32) (b := 128) (v := (.bool ((decide (x32 ≥ 128))))) rfl rfl rfl) ?_
    refine LW_nil ?_
    refine sq_n ?_
    refine CW_if (b := (decide (x32 ≥ 128))) rfl (fun hb48 => ?_) (fun hb48 => ?_)
    · replace hm44 := if_t hb48 hm44
      refine CW_skip ?_
      refine sq_n ?_
      refine CW_block ?_
      refine CW_seq ?_
      refine CW_region ?_
      refine LV (R_move (v := (.string x33)) e47) ?_
      refine LV (R_move (v := (.int .i64 x32)) e46) ?_
      refine LV (R_div (k := .i64) (a := x32) (b := 128) (v := (.int .i64 ((Int.tmod x32 128)))) rfl rfl (by decide) rfl) ?_
      refine LV (R_int (k := .i64) (a := 128) (b := ((Int.tmod x32 128))) (v := (.int .i64 ((IntKind.i64.wrap (128 + ((Int.tmod x32 128))))))) rfl rfl rfl) ?_
      refine LV (R_convInt (k' := .i64) (a := (IntKind.i64.wrap (128 + ((Int.tmod x32 128))))) Tryz.underlying3 Tryz.underlying5 rfl) ?_
      refine LE (E_buildSlice (qs := #[(0, (.int .u8 ((IntKind.u8.wrap ((IntKind.i64.wrap (128 + ((Int.tmod x32 128)))))))))]) (cs := [(.int .u8 ((IntKind.u8.wrap ((IntKind.i64.wrap (128 + ((Int.tmod x32 128))))))))].toArray) hST (parts1 rfl) (run_lit [(.int .u8 ((IntKind.u8.wrap ((IntKind.i64.wrap (128 + ((Int.tmod x32 128))))))))] Tryz.underlying189 Tryz.sizeOf5 Tryz.zeroValue5 (by decide) rfl (by intro v hv; simp only [List.mem_cons, List.not_mem_nil, or_false] at hv; rcases hv with rfl <;> rfl) rfl rfl) (fun W50 b49 hST => ?_))
      refine LV (R_strOf Tryz.underlying189 Tryz.underlying5 Tryz.underlying9 rfl (Sl.lit (enc := (encIk .u8)) (l := [(IntKind.u8.wrap ((IntKind.i64.wrap (128 + ((Int.tmod x32 128))))))]) (fun _ => rfl) rfl (Nat.le_of_ble_eq_true rfl) rfl (hST.at_ (.head _)))) ?_
      obtain ⟨s51, hs52, hm44⟩ := bind_some hm44
      refine LV (R_cat rfl rfl hs52) ?_
      refine LV (R_assign (v := (.string s51)) rfl) ?_
      refine LW_nil ?_
      refine sq_n ?_
      replace hST : ST true NoF w _ _ L43 := hST.sublist (List.Sublist.cons _ (List.Sublist.refl _))
      refine CW_region ?_
      refine LV (R_move (v := (.int .i64 x32)) e46) ?_
      refine LV (R_div (k := .i64) (a := x32) (b := 128) (v := (.int .i64 ((IntKind.i64.wrap (Int.tdiv x32 128))))) rfl rfl (by decide) rfl) ?_
      refine LV (R_assign (v := (.int .i64 ((IntKind.i64.wrap (Int.tdiv x32 128))))) rfl) ?_
      refine LW_nil ?_
      refine bq_n ?_
      refine sq_n ?_
      exact ⟨n45, Nat.lt_succ_self _, ((IntKind.i64.wrap (Int.tdiv x32 128))), s51, _, (hST.sublist (List.Sublist.refl _)), rfl, rfl, hm44⟩
    · replace hm44 := if_f hb48 hm44
      refine CW_exit ?_
      refine sq_e (sq_e (bq_e ?_))
      refine sq_n ?_
      refine CW_seq ?_
      refine CW_region ?_
      refine LV (R_move (v := (.string x33)) e47) ?_
      refine LV (R_move (v := (.int .i64 x32)) e46) ?_
      refine LV (R_convInt (k' := .i64) (a := x32) Tryz.underlying3 Tryz.underlying5 rfl) ?_
      refine LE (E_buildSlice (qs := #[(0, (.int .u8 ((IntKind.u8.wrap x32))))]) (cs := [(.int .u8 ((IntKind.u8.wrap x32)))].toArray) hST (parts1 rfl) (run_lit [(.int .u8 ((IntKind.u8.wrap x32)))] Tryz.underlying189 Tryz.sizeOf5 Tryz.zeroValue5 (by decide) rfl (by intro v hv; simp only [List.mem_cons, List.not_mem_nil, or_false] at hv; rcases hv with rfl <;> rfl) rfl rfl) (fun W54 b53 hST => ?_))
      refine LV (R_strOf Tryz.underlying189 Tryz.underlying5 Tryz.underlying9 rfl (Sl.lit (enc := (encIk .u8)) (l := [(IntKind.u8.wrap x32)]) (fun _ => rfl) rfl (Nat.le_of_ble_eq_true rfl) rfl (hST.at_ (.head _)))) ?_
      obtain ⟨s55, hs56, hm44⟩ := bind_some hm44
      refine LV (R_cat rfl rfl hs56) ?_
      refine LV (R_assign (v := (.string s55)) rfl) ?_
      refine LW_nil ?_
      refine sq_n ?_
      replace hST : ST true NoF w _ _ L43 := hST.sublist (List.Sublist.cons _ (List.Sublist.refl _))
      refine CW_ret ?_
      replace hm44 := Option.some.inj hm44; subst hm44
      refine retQ_1 (v := (.string s55)) rfl rfl ?_
      exact ⟨rfl, hST.ex⟩
theorem w_ref01_Text (a0 : ByteArray) (r : ByteArray) (w : World)  (hm : m_ref01_Text a0 = some r) :
    Gives true Tryz.prog 233 [(.string a0)] w (.string r) := by
  have hST := ST.start (dd := true) w
  unfold m_ref01_Text at hm
  refine calls_of_CW (n := 8) Tryz.func233 rfl rfl (Nat.le_of_ble_eq_true rfl) ?_
  refine CW_seq ?_
  refine CW_region ?_
  refine LV (R_assign (v := (.string zS)) rfl) ?_
  refine LW_nil ?_
  refine sq_n ?_
  refine CW_seq ?_
  refine CW_region ?_
  refine LV (R_move (v := (.string a0)) rfl) ?_
  refine LV (R_lenStr (s := a0) Tryz.underlying9 rfl) ?_
  obtain ⟨r1, hr2, hm⟩ := bind_some hm
  refine LE (E_gives (args := [(.int .i64 ((a0.size : Int)))]) hST rfl Tryz.call231 (by exact args1 rfl) ((w_ref01_Number ((a0.size : Int)) _ _  hr2)) (fun W3 hST => ?_))
  refine LV (R_move (v := (.string a0)) rfl) ?_
  obtain ⟨s4, hs5, hm⟩ := bind_some hm
  refine LV (R_cat rfl rfl hs5) ?_
  refine LV (R_assign (v := (.string s4)) rfl) ?_
  refine LW_nil ?_
  refine sq_n ?_
  refine CW_ret ?_
  replace hm := Option.some.inj hm; subst hm
  refine retQ_1 (v := (.string s4)) rfl rfl ?_
  exact ⟨rfl, hST.ex⟩
theorem w_ref04_Bytes (a0 : Role) (r : ByteArray) (w : World)  (hm : m_ref04_Bytes a0 = some r) :
    Gives true Tryz.prog 232 [(.agg (encRole a0).toArray)] w (.string r) := by
  have hST := ST.start (dd := true) w
  unfold m_ref04_Bytes at hm
  refine calls_of_CW (n := 10) Tryz.func232 rfl rfl (Nat.le_of_ble_eq_true rfl) ?_
  refine CW_seq ?_
  refine CW_region ?_
  refine LE (E_box (v := (.agg (encRole a0).toArray)) hST rfl (fun W2 b1 hST => ?_))
  refine LV (R_assign (v := (.string zS)) rfl) ?_
  refine LW_nil ?_
  refine sq_n ?_
  refine CW_seq ?_
  refine PX_start (fun l W => Has (hp w) ((b1, Obj.cells ((encRole a0).toArray : Array Value) 47 (0, 0)) :: []) W) Tryz_mixed ?_
  replace hST := hST.drew
  have hS0 : Has (hp w) ((b1, Obj.cells ((encRole a0).toArray : Array Value) 47 (0, 0)) :: []) _ := hST.has.sub (Sub.refl _) (fun p hq => ((List.mem_cons.1 hq).elim (fun hq => by rw [hq]; exact (.head _)) (fun hq => (absurd hq List.not_mem_nil))))
  refine PV 0 rfl hS0 (R_field fa47_0 rfl) ?_
  refine PX_v 1 rfl (by kernel_rfl) (.inl rfl) rfl (by decide) (fun _ _ h => h) hS0 (fun l W hpd hs => have hS := hs; R_load (v := (.string a0.Owner)) rfl (load_box1 hS (.head _) rfl Tryz.isAgg9)) ?_
  refine PV 3 rfl hS0 (R_field fa47_1 rfl) ?_
  refine PX_v 4 rfl (by kernel_rfl) (.inl rfl) rfl (by decide) (fun _ _ h => h) hS0 (fun l W hpd hs => have hS := hs; R_load (v := (.string a0.Word)) rfl (load_box1 hS (.head _) rfl Tryz.isAgg9)) ?_
  obtain ⟨r19, hr20, hm⟩ := bind_some hm
  refine PX_e 2 rfl (by kernel_rfl) (.inl rfl) rfl (by decide) (E_gives (args := [(.string a0.Owner)]) hST rfl Tryz.call233 (by exact args1 rfl) ((w_ref01_Text a0.Owner _ _  hr20)) (fun W21 hST => ?_))
  have hS0 : Has (hp w) ((b1, Obj.cells ((encRole a0).toArray : Array Value) 47 (0, 0)) :: []) _ := hST.has.sub (Sub.refl _) (fun p hq => ((List.mem_cons.1 hq).elim (fun hq => by rw [hq]; exact (.head _)) (fun hq => (absurd hq List.not_mem_nil))))
  refine ⟨hS0, ?_⟩
  obtain ⟨r22, hr23, hm⟩ := bind_some hm
  refine PX_e 5 rfl (by kernel_rfl) (.inl rfl) rfl (by decide) (E_gives (args := [(.string a0.Word)]) hST rfl Tryz.call233 (by exact args1 rfl) ((w_ref01_Text a0.Word _ _  hr23)) (fun W24 hST => ?_))
  have hS0 : Has (hp w) ((b1, Obj.cells ((encRole a0).toArray : Array Value) 47 (0, 0)) :: []) _ := hST.has.sub (Sub.refl _) (fun p hq => ((List.mem_cons.1 hq).elim (fun hq => by rw [hq]; exact (.head _)) (fun hq => (absurd hq List.not_mem_nil))))
  refine ⟨hS0, ?_⟩
  obtain ⟨s25, hs26, hm⟩ := bind_some hm
  refine PV 6 rfl hS0 (R_cat rfl rfl hs26) ?_
  refine PV 7 rfl hS0 (R_assign (v := (.string s25)) rfl) ?_
  refine PX_done (by kernel_rfl) ?_
  refine sq_n ?_
  replace hST : ST true NoF w _ _ [] := hST.sublist (List.Sublist.cons _ (List.Sublist.refl _))
  refine CW_ret ?_
  replace hm := Option.some.inj hm; subst hm
  refine retQ_1 (v := (.string s25)) rfl rfl ?_
  exact ⟨rfl, hST.ex⟩
theorem w_ref05_Bytes (a0 : Cred) (r : ByteArray) (w : World)  (hm : m_ref05_Bytes a0 = some r) :
    Gives true Tryz.prog 189 [(.agg (encCred a0).toArray)] w (.string r) := by
  have hST := ST.start (dd := true) w
  unfold m_ref05_Bytes at hm
  refine calls_of_CW (n := 41) Tryz.func189 rfl rfl (Nat.le_of_ble_eq_true rfl) ?_
  refine CW_seq ?_
  refine CW_region ?_
  refine LE (E_box (v := (.agg (encCred a0).toArray)) hST rfl (fun W2 b1 hST => ?_))
  refine LV (R_assign (v := (.string zS)) rfl) ?_
  refine LW_nil ?_
  refine sq_n ?_
  refine CW_seq ?_
  refine PX_start (fun l W => Has (hp w) ((b1, Obj.cells ((encCred a0).toArray : Array Value) 83 (0, 0)) :: []) W) Tryz_mixed ?_
  replace hST := hST.drew
  have hS0 : Has (hp w) ((b1, Obj.cells ((encCred a0).toArray : Array Value) 83 (0, 0)) :: []) _ := hST.has.sub (Sub.refl _) (fun p hq => ((List.mem_cons.1 hq).elim (fun hq => by rw [hq]; exact (.head _)) (fun hq => (absurd hq List.not_mem_nil))))
  refine PV 0 rfl hS0 (R_field fa83_0 rfl) ?_
  refine PX_v 1 rfl (by kernel_rfl) (.inl rfl) rfl (by decide) (fun _ _ h => h) hS0 (fun l W hpd hs => have hS := hs; R_load (v := (.int .i64 a0.Kind)) rfl (load_box1 hS (.head _) rfl Tryz.isAgg3)) ?_
  refine PV 3 rfl hS0 (R_field fa83_1 rfl) ?_
  refine PX_v 4 rfl (by kernel_rfl) (.inl rfl) rfl (by decide) (fun _ _ h => h) hS0 (fun l W hpd hs => have hS := hs; R_load (v := (.agg (encRole a0.Head).toArray)) rfl (load_boxA hS (.head _) (encRole a0.Head) rfl Tryz.isAgg47 Tryz.sizeOf47)) ?_
  obtain ⟨r19, hr20, hm⟩ := bind_some hm
  refine PX_e 2 rfl (by kernel_rfl) (.inl rfl) rfl (by decide) (E_gives (args := [(.int .i64 a0.Kind)]) hST rfl Tryz.call231 (by exact args1 rfl) ((w_ref01_Number a0.Kind _ _  hr20)) (fun W21 hST => ?_))
  have hS0 : Has (hp w) ((b1, Obj.cells ((encCred a0).toArray : Array Value) 83 (0, 0)) :: []) _ := hST.has.sub (Sub.refl _) (fun p hq => ((List.mem_cons.1 hq).elim (fun hq => by rw [hq]; exact (.head _)) (fun hq => (absurd hq List.not_mem_nil))))
  refine ⟨hS0, ?_⟩
  obtain ⟨r22, hr23, hm⟩ := bind_some hm
  refine PX_e 5 rfl (by kernel_rfl) (.inl rfl) rfl (by decide) (E_gives (args := [(.agg (encRole a0.Head).toArray)]) hST rfl Tryz.call232 (by exact args1 rfl) ((w_ref04_Bytes a0.Head _ _  hr23)) (fun W24 hST => ?_))
  have hS0 : Has (hp w) ((b1, Obj.cells ((encCred a0).toArray : Array Value) 83 (0, 0)) :: []) _ := hST.has.sub (Sub.refl _) (fun p hq => ((List.mem_cons.1 hq).elim (fun hq => by rw [hq]; exact (.head _)) (fun hq => (absurd hq List.not_mem_nil))))
  refine ⟨hS0, ?_⟩
  obtain ⟨s25, hs26, hm⟩ := bind_some hm
  refine PV 6 rfl hS0 (R_cat rfl rfl hs26) ?_
  refine PV 7 rfl hS0 (R_assign (v := (.string s25)) rfl) ?_
  refine PX_done (by kernel_rfl) ?_
  refine sq_n ?_
  refine CW_seq ?_
  refine CW_seq ?_
  refine CW_region ?_
  refine LV (R_field fa83_0 rfl) ?_
  refine LV (R_load (v := (.int .i64 a0.Kind)) rfl (load_box1 hST.has (.head _) rfl Tryz.isAgg3)) ?_
  refine LV (R_int (k := .i64) (a := a0.Kind) (b := 1) (v := (.bool ((a0.Kind == 1)))) rfl rfl rfl) ?_
  refine LW_nil ?_
  refine sq_n ?_
  refine CW_if (b := (a0.Kind == 1)) rfl (fun hb27 => ?_) (fun hb27 => ?_)
  · replace hm := if_t hb27 hm
    refine CW_seq ?_
    refine CW_region ?_
    refine LV (R_move (v := (.string s25)) rfl) ?_
    refine LV (R_field fa83_2 rfl) ?_
    refine LV (R_load (v := (.string a0.Who)) rfl (load_box1 hST.has (.head _) rfl Tryz.isAgg9)) ?_
    obtain ⟨r28, hr29, hm⟩ := bind_some hm
    refine LE (E_gives (args := [(.string a0.Who)]) hST rfl Tryz.call233 (by exact args1 rfl) ((w_ref01_Text a0.Who _ _  hr29)) (fun W30 hST => ?_))
    obtain ⟨s31, hs32, hm⟩ := bind_some hm
    refine LV (R_cat rfl rfl hs32) ?_
    refine LV (R_assign (v := (.string s31)) rfl) ?_
    refine LW_nil ?_
    refine sq_n ?_
    replace hST : ST true NoF w _ _ [] := hST.sublist (List.Sublist.cons _ (List.Sublist.refl _))
    refine CW_ret ?_
    refine sq_r ?_
    replace hm := Option.some.inj hm; subst hm
    refine retQ_1 (v := (.string s31)) rfl rfl ?_
    exact ⟨rfl, hST.ex⟩
  · replace hm := if_f hb27 hm
    refine CW_skip ?_
    refine sq_n ?_
    refine CW_seq ?_
    refine CW_region ?_
    refine LV (R_move (v := (.string s25)) rfl) ?_
    refine LV (R_field fa83_3 rfl) ?_
    refine LV (R_load (v := (.agg (encRole a0.B).toArray)) rfl (load_boxA hST.has (.head _) (encRole a0.B) rfl Tryz.isAgg47 Tryz.sizeOf47)) ?_
    obtain ⟨r33, hr34, hm⟩ := bind_some hm
    refine LE (E_gives (args := [(.agg (encRole a0.B).toArray)]) hST rfl Tryz.call232 (by exact args1 rfl) ((w_ref04_Bytes a0.B _ _  hr34)) (fun W35 hST => ?_))
    obtain ⟨s36, hs37, hm⟩ := bind_some hm
    refine LV (R_cat rfl rfl hs37) ?_
    refine LV (R_assign (v := (.string s36)) rfl) ?_
    refine LW_nil ?_
    refine sq_n ?_
    refine CW_seq ?_
    obtain ⟨s68, hm69, hm70⟩ := bind_some hm
    refine CW_cut (fun E W => ∃ (x44 : ByteArray) (L45 : List (Nat × Obj)), ST true NoF w W (hp w) ((b1, Obj.cells ((encCred a0).toArray : Array Value) 83 (0, 0)) :: L45) ∧ E 1 = (.pointer (some ⟨b1, 0, none⟩)) ∧ E 3 = (.string x44) ∧ (((if (a0.Kind == 4) then (((m_ref04_Bytes a0.C)).bind fun r63 => (((catS x44 r63)).bind fun s66 => some s66)) else some x44) : Option ByteArray).bind fun x55 => some x55) = some r) ?_ ?_
    · refine CW_seq ?_
      refine CW_region ?_
      refine LV (R_field fa83_0 rfl) ?_
      refine LV (R_load (v := (.int .i64 a0.Kind)) rfl (load_box1 hST.has (.head _) rfl Tryz.isAgg3)) ?_
      refine LV (R_int (k := .i64) (a := a0.Kind) (b := 3) (v := (.bool ((a0.Kind == 3)))) rfl rfl rfl) ?_
      refine LW_nil ?_
      refine sq_n ?_
      refine CW_if (b := (a0.Kind == 3)) rfl (fun hb71 => ?_) (fun hb71 => ?_)
      · replace hm69 := if_t hb71 hm69
        refine CW_region ?_
        refine LV (R_move (v := (.string s36)) rfl) ?_
        refine LV (R_field fa83_5 rfl) ?_
        refine LV (R_load (v := (.string a0.Word2)) rfl (load_box1 hST.has (.head _) rfl Tryz.isAgg9)) ?_
        obtain ⟨r72, hr73, hm69⟩ := bind_some hm69
        refine LE (E_gives (args := [(.string a0.Word2)]) hST rfl Tryz.call233 (by exact args1 rfl) ((w_ref01_Text a0.Word2 _ _  hr73)) (fun W74 hST => ?_))
        obtain ⟨s75, hs76, hm69⟩ := bind_some hm69
        refine LV (R_cat rfl rfl hs76) ?_
        refine LV (R_assign (v := (.string s75)) rfl) ?_
        refine LW_nil ?_
        refine sq_n ?_
        replace hm69 := Option.some.inj hm69; subst hm69
        exact ⟨s75, _, (hST.sublist (List.Sublist.refl _)), rfl, rfl, hm70⟩
      · replace hm69 := if_f hb71 hm69
        refine CW_skip ?_
        refine sq_n ?_
        replace hm69 := Option.some.inj hm69; subst hm69
        exact ⟨s36, _, (hST.sublist (List.Sublist.refl _)), rfl, rfl, hm70⟩
    · rintro E W ⟨x44, L45, hST, e47, e48, hm46⟩
      refine CW_seq ?_
      obtain ⟨s59, hm60, hm61⟩ := bind_some hm46
      refine CW_cut (fun E W => ∃ (x55 : ByteArray) (L56 : List (Nat × Obj)), ST true NoF w W (hp w) L56 ∧ E 3 = (.string x55) ∧ some x55 = some r) ?_ ?_
      · refine CW_seq ?_
        refine CW_region ?_
        refine LV (R_field fa83_0 e47) ?_
        refine LV (R_load (v := (.int .i64 a0.Kind)) rfl (load_box1 hST.has (.head _) rfl Tryz.isAgg3)) ?_
        refine LV (R_int (k := .i64) (a := a0.Kind) (b := 4) (v := (.bool ((a0.Kind == 4)))) rfl rfl rfl) ?_
        refine LW_nil ?_
        refine sq_n ?_
        refine CW_if (b := (a0.Kind == 4)) rfl (fun hb62 => ?_) (fun hb62 => ?_)
        · replace hm60 := if_t hb62 hm60
          refine CW_region ?_
          refine LV (R_move (v := (.string x44)) e48) ?_
          refine LV (R_field fa83_4 e47) ?_
          refine LV (R_load (v := (.agg (encRole a0.C).toArray)) rfl (load_boxA hST.has (.head _) (encRole a0.C) rfl Tryz.isAgg47 Tryz.sizeOf47)) ?_
          obtain ⟨r63, hr64, hm60⟩ := bind_some hm60
          refine LE (E_gives (args := [(.agg (encRole a0.C).toArray)]) hST rfl Tryz.call232 (by exact args1 rfl) ((w_ref04_Bytes a0.C _ _  hr64)) (fun W65 hST => ?_))
          obtain ⟨s66, hs67, hm60⟩ := bind_some hm60
          refine LV (R_cat rfl rfl hs67) ?_
          refine LV (R_assign (v := (.string s66)) rfl) ?_
          refine LW_nil ?_
          refine sq_n ?_
          replace hm60 := Option.some.inj hm60; subst hm60
          exact ⟨s66, _, (hST.sublist (List.Sublist.cons _ (List.Sublist.refl _))), rfl, hm61⟩
        · replace hm60 := if_f hb62 hm60
          refine CW_skip ?_
          refine sq_n ?_
          replace hm60 := Option.some.inj hm60; subst hm60
          exact ⟨x44, _, (hST.sublist (List.Sublist.cons _ (List.Sublist.refl _))), e48, hm61⟩
      · rintro E W ⟨x55, L56, hST, e58, hm57⟩
        refine CW_seq ?_
        refine CW_region ?_
        refine LV (R_move (v := (.string x55)) e58) ?_
        refine LV (R_assign (v := (.string x55)) rfl) ?_
        refine LW_nil ?_
        refine sq_n ?_
        refine CW_ret ?_
        replace hm57 := Option.some.inj hm57; subst hm57
        refine retQ_1 (v := (.string x55)) rfl rfl ?_
        exact ⟨rfl, hST.ex⟩
theorem w_ref05_bytes (a0 : Cred) (r : ByteArray) (w : World)  (hm : m_ref05_bytes a0 = some r) :
    Gives true Tryz.prog 152 [(.agg (encCred a0).toArray)] w (.string r) := by
  have hST := ST.start (dd := true) w
  unfold m_ref05_bytes at hm
  refine calls_of_CW (n := 8) Tryz.func152 rfl rfl (Nat.le_of_ble_eq_true rfl) ?_
  refine CW_seq ?_
  refine CW_region ?_
  refine LE (E_box (v := (.agg (encCred a0).toArray)) hST rfl (fun W2 b1 hST => ?_))
  refine LV (R_assign (v := (.string zS)) rfl) ?_
  refine LW_nil ?_
  refine sq_n ?_
  refine CW_seq ?_
  refine CW_seq ?_
  refine CW_region ?_
  refine LV (R_load (v := (.agg (encCred a0).toArray)) rfl (load_boxA hST.has (.head _) (encCred a0) rfl Tryz.isAgg83 Tryz.sizeOf83)) ?_
  obtain ⟨r3, hr4, hm⟩ := bind_some hm
  refine LE (E_gives (args := [(.agg (encCred a0).toArray)]) hST rfl Tryz.call106 (by exact args1 rfl) ((w_ref05_Right a0 _ _  hr4)) (fun W5 hST => ?_))
  refine LV (R_not (b := r3) rfl) ?_
  refine LW_nil ?_
  refine sq_n ?_
  refine CW_if (b := (!r3)) rfl (fun hb6 => ?_) (fun hb6 => ?_)
  · replace hm := if_t hb6 hm
    refine CW_seq ?_
    refine CW_region ?_
    refine LV (R_assign (v := (.string zS)) rfl) ?_
    refine LW_nil ?_
    refine sq_n ?_
    replace hST : ST true NoF w _ _ [] := hST.sublist (List.Sublist.cons _ (List.Sublist.refl _))
    refine CW_ret ?_
    refine sq_r ?_
    replace hm := Option.some.inj hm; subst hm
    refine retQ_1 (v := (.string zS)) rfl rfl ?_
    exact ⟨rfl, hST.ex⟩
  · replace hm := if_f hb6 hm
    refine CW_skip ?_
    refine sq_n ?_
    refine CW_seq ?_
    refine CW_region ?_
    refine LV (R_load (v := (.agg (encCred a0).toArray)) rfl (load_boxA hST.has (.head _) (encCred a0) rfl Tryz.isAgg83 Tryz.sizeOf83)) ?_
    obtain ⟨r7, hr8, hm⟩ := bind_some hm
    refine LE (E_gives (args := [(.agg (encCred a0).toArray)]) hST rfl Tryz.call189 (by exact args1 rfl) ((w_ref05_Bytes a0 _ _  hr8)) (fun W9 hST => ?_))
    refine LV (R_assign (v := (.string r7)) rfl) ?_
    refine LW_nil ?_
    refine sq_n ?_
    replace hST : ST true NoF w _ _ [] := hST.sublist (List.Sublist.cons _ (List.Sublist.refl _))
    refine CW_ret ?_
    replace hm := Option.some.inj hm; subst hm
    refine retQ_1 (v := (.string r7)) rfl rfl ?_
    exact ⟨rfl, hST.ex⟩
theorem w_ref05_Compare (a0 : Cred) (a1 : Cred) (r : Int) (w : World)  (hm : m_ref05_Compare a0 a1 = some r) :
    Gives true Tryz.prog 107 [(.agg (encCred a0).toArray), (.agg (encCred a1).toArray)] w (.int .i64 r) := by
  have hST := ST.start (dd := true) w
  unfold m_ref05_Compare at hm
  refine calls_of_CW (n := 17) Tryz.func107 rfl rfl (Nat.le_of_ble_eq_true rfl) ?_
  refine CW_seq ?_
  refine CW_region ?_
  refine LE (E_box (v := (.agg (encCred a0).toArray)) hST rfl (fun W2 b1 hST => ?_))
  refine LE (E_box (v := (.agg (encCred a1).toArray)) hST rfl (fun W4 b3 hST => ?_))
  refine LV (R_assign (v := (.int .i64 0)) rfl) ?_
  refine LW_nil ?_
  refine sq_n ?_
  refine CW_seq ?_
  refine CW_region ?_
  refine LV (R_load (v := (.agg (encCred a0).toArray)) rfl (load_boxA hST.has (.tail _ (.head _)) (encCred a0) rfl Tryz.isAgg83 Tryz.sizeOf83)) ?_
  obtain ⟨r5, hr6, hm⟩ := bind_some hm
  refine LE (E_gives (args := [(.agg (encCred a0).toArray)]) hST rfl Tryz.call152 (by exact args1 rfl) ((w_ref05_bytes a0 _ _  hr6)) (fun W7 hST => ?_))
  refine LV (R_assign (v := (.string r5)) rfl) ?_
  refine LW_nil ?_
  refine sq_n ?_
  replace hST : ST true NoF w _ _ ((b3, Obj.cells ((encCred a1).toArray : Array Value) 83 (0, 0)) :: []) := hST.sublist (List.Sublist.cons_cons _ (List.Sublist.cons _ (List.Sublist.refl _)))
  refine CW_seq ?_
  refine CW_region ?_
  refine LV (R_load (v := (.agg (encCred a1).toArray)) rfl (load_boxA hST.has (.head _) (encCred a1) rfl Tryz.isAgg83 Tryz.sizeOf83)) ?_
  obtain ⟨r8, hr9, hm⟩ := bind_some hm
  refine LE (E_gives (args := [(.agg (encCred a1).toArray)]) hST rfl Tryz.call152 (by exact args1 rfl) ((w_ref05_bytes a1 _ _  hr9)) (fun W10 hST => ?_))
  refine LV (R_assign (v := (.string r8)) rfl) ?_
  refine LW_nil ?_
  refine sq_n ?_
  replace hST : ST true NoF w _ _ [] := hST.sublist (List.Sublist.cons _ (List.Sublist.refl _))
  refine CW_seq ?_
  refine CW_seq ?_
  refine CW_region ?_
  refine LV (R_move (v := (.string r5)) rfl) ?_
  refine LV (R_move (v := (.string r8)) rfl) ?_
  refine LV (R_str (a := r5) (b := r8) (v := (.bool ((ltS r5 r8)))) rfl rfl rfl) ?_
  refine LW_nil ?_
  refine sq_n ?_
  refine CW_if (b := (ltS r5 r8)) rfl (fun hb11 => ?_) (fun hb11 => ?_)
  · replace hm := if_t hb11 hm
    refine CW_seq ?_
    refine CW_region ?_
    refine LV (R_assign (v := (.int .i64 ((-1)))) rfl) ?_
    refine LW_nil ?_
    refine sq_n ?_
    refine CW_ret ?_
    refine sq_r ?_
    replace hm := Option.some.inj hm; subst hm
    refine retQ_1 (v := (.int .i64 ((-1)))) rfl rfl ?_
    exact ⟨rfl, hST.ex⟩
  · replace hm := if_f hb11 hm
    refine CW_skip ?_
    refine sq_n ?_
    refine CW_seq ?_
    refine CW_seq ?_
    refine CW_region ?_
    refine LV (R_move (v := (.string r5)) rfl) ?_
    refine LV (R_move (v := (.string r8)) rfl) ?_
    refine LV (R_str (a := r5) (b := r8) (v := (.bool ((!(ltS r5 r8 || beqS r5 r8))))) rfl rfl rfl) ?_
    refine LW_nil ?_
    refine sq_n ?_
    refine CW_if (b := (!(ltS r5 r8 || beqS r5 r8))) rfl (fun hb12 => ?_) (fun hb12 => ?_)
    · replace hm := if_t hb12 hm
      refine CW_seq ?_
      refine CW_region ?_
      refine LV (R_assign (v := (.int .i64 1)) rfl) ?_
      refine LW_nil ?_
      refine sq_n ?_
      refine CW_ret ?_
      refine sq_r ?_
      replace hm := Option.some.inj hm; subst hm
      refine retQ_1 (v := (.int .i64 1)) rfl rfl ?_
      exact ⟨rfl, hST.ex⟩
    · replace hm := if_f hb12 hm
      refine CW_skip ?_
      refine sq_n ?_
      refine CW_seq ?_
      refine CW_region ?_
      refine LV (R_assign (v := (.int .i64 0)) rfl) ?_
      refine LW_nil ?_
      refine sq_n ?_
      refine CW_ret ?_
      replace hm := Option.some.inj hm; subst hm
      refine retQ_1 (v := (.int .i64 0)) rfl rfl ?_
      exact ⟨rfl, hST.ex⟩
theorem w_ref05_Set (v_a0 : Value) (a0 : List Cred) (r : List Cred) (w : World) (h_a0 : Sl (Pl encCred) 9 (hp w) v_a0 a0) (hm : m_ref05_Set a0 = some r) :
    GivesRow true Tryz.prog 49 [v_a0] w 83 encCred 9 r := by
  have hST := ST.start (dd := true) w
  unfold m_ref05_Set at hm
  refine calls_of_CW (n := 51) Tryz.func49 rfl rfl (Nat.le_of_ble_eq_true rfl) ?_
  refine CW_seq ?_
  refine CW_region ?_
  refine LV (R_assign (v := (.slice none 0 0)) rfl) ?_
  refine LW_nil ?_
  refine sq_n ?_
  refine CW_seq ?_
  refine CW_region ?_
  refine LV (R_assign (v := (.slice none 0 0)) rfl) ?_
  refine LW_nil ?_
  refine sq_n ?_
  refine CW_tail ?_
  refine CW_block (CW_loop (fun m E W => ∃ (v11496 : Value) (l11497 : List Cred) (R11499 : List (Nat × Obj)) (L14376 : List (Nat × Obj)), ST true NoF w W (hp w) (R11499 ++ L14376) ∧ E 0 = v_a0 ∧ E 3 = v11496 ∧ Row 83 encCred 9 v11496 l11497 R11499 ∧ m_ref05_Set_L1 a0 m l11497 = some r) FUEL ⟨(.slice none 0 0), ([]), [], _, (hST.sublist (List.Sublist.refl _)), rfl, rfl, (Row.nil _ _ _), hm⟩ ?_)
  rintro m E W ⟨v11496, l11497, R11499, L14376, hST, e14379, e14380, hs11498, hm14377⟩
  cases m with
  | zero => rw [m_ref05_Set_L1] at hm14377; cases hm14377
  | succ n14378 =>
    rw [m_ref05_Set_L1] at hm14377
    refine CW_block ?_
    refine CW_seq ?_
    refine CW_region ?_
    refine LE (E_alloc hST Tryz.zeroValue83 (fun W14382 b14381 hST => ?_))
    refine LW_nil ?_
    refine sq_n ?_
    refine CW_seq ?_
    refine CW_region ?_
    refine LV (R_assign (v := (.bool false)) rfl) ?_
    refine LW_nil ?_
    refine sq_n ?_
    refine CW_seq ?_
    refine CW_seq ?_
    refine CW_region ?_
    refine LV (R_move (v := v_a0) e14379) ?_
    refine LV (R_len Tryz.underlying22 rfl h_a0) ?_
    refine LV (R_move (v := (.int .i64 0)) rfl) ?_
    refine LW_nil ?_
    refine sq_n ?_
    obtain ⟨s15824, hm15825, hm15826⟩ := bind_some hm14377
    refine CW_cut (fun E W => ∃ (x15807 : Bool) (x15808 : Cred) (L15809 : List (Nat × Obj)), ST true NoF w W (hp w) ((b14381, Obj.cells ((encCred x15808).toArray : Array Value) 83 (0, 0)) :: (R11499 ++ L15809)) ∧ E 0 = v_a0 ∧ E 3 = v11496 ∧ E 4 = (.pointer (some ⟨b14381, 0, none⟩)) ∧ E 5 = (.bool x15807) ∧ (if (!x15807) then some l11497 else (((appB 136 l11497 ([x15808]))).bind fun l15818 => (m_ref05_Set_L1 a0 n14378 l15818))) = some r) ?_ ?_
    · refine CW_range (fun i E W => ∃ (x16301 : Bool) (x16302 : Cred) (L16777 : List (Nat × Obj)), (E 10 = .int .i64 (i : Nat) ∧ E 9 = .int .i64 (a0.length : Nat)) ∧ ST true NoF w W (hp w) ((b14381, Obj.cells ((encCred x16302).toArray : Array Value) 83 (0, 0)) :: (R11499 ++ L16777)) ∧ E 0 = v_a0 ∧ E 3 = v11496 ∧ E 4 = (.pointer (some ⟨b14381, 0, none⟩)) ∧ E 5 = (.bool x16301) ∧ E 8 = v_a0 ∧ m_ref05_Set_L2 l11497 (a0.drop i) x16301 x16302 = some s15824) a0.length h_a0.len ⟨false, ((⟨0, (⟨zS, zS⟩ : Role), zS, (⟨zS, zS⟩ : Role), (⟨zS, zS⟩ : Role), zS⟩ : Cred)), _, ⟨rfl, rfl⟩, (hST.sublist (List.Sublist.refl _)), e14379, e14380, rfl, rfl, rfl, hm15825⟩ (by decide) (by decide) (by decide) (fun _ _ _ h => by obtain ⟨_, _, _, eIN, _⟩ := h; exact eIN) ?_ ?_
      · rintro i15827 E W hi15833 ⟨x16301, x16302, L16777, ⟨eI, eN⟩, hST, e16779, e16780, e16781, e16782, e16783, hm16778⟩
        obtain ⟨x15828, xs15829, hx15831, hx15830, hx15832⟩ := drop_cons hi15833
        rw [hx15831] at hm16778
        rw [m_ref05_Set_L2] at hm16778
        refine CW_block ?_
        refine CW_seq ?_
        refine CW_region ?_
        refine LQ (R_indexP (enc := encCred) (i := (i15827 : Int)) (x0 := x15828) Tryz.underlying22 Tryz.sizeOf83 e16783 eI h_a0 (Int.natCast_nonneg _) hx15830) (fun p16784 hp16785 => ?_)
        refine LV (R_load rfl (load_atA hST.has hp16785 Tryz.isAgg83 Tryz.sizeOf83)) ?_
        refine LE (E_alloc hST Tryz.zeroValue83 (fun W16788 b16787 hST => ?_))
        refine LW_e0 (.inl rfl) rfl (E_store [] (.agg (encCred x15828).toArray) ((encCred x15828).toArray) hST rfl rfl Tryz.sizeOf83 (oneCred x15828) (Nat.le_of_ble_eq_true rfl) rfl (fun W16789 hST => ?_))
        refine LW_nil ?_
        refine sq_n ?_
        refine CW_seq ?_
        refine PX_start (fun l W => Has (hp w) ((b16787, Obj.cells ((encCred x15828).toArray : Array Value) 83 (0, 0)) :: ((b14381, Obj.cells ((encCred x16302).toArray : Array Value) 83 (0, 0)) :: (R11499 ++ []))) W) Tryz_mixed ?_
        replace hST := hST.drew
        replace hST : ST true NoF w _ _ ((b16787, Obj.cells ((encCred x15828).toArray : Array Value) 83 (0, 0)) :: ((b14381, Obj.cells ((encCred x16302).toArray : Array Value) 83 (0, 0)) :: (R11499 ++ L16777))) := hST
        have hS0 : Has (hp w) ((b16787, Obj.cells ((encCred x15828).toArray : Array Value) 83 (0, 0)) :: ((b14381, Obj.cells ((encCred x16302).toArray : Array Value) 83 (0, 0)) :: (R11499 ++ []))) _ := hST.has.sub (Sub.refl _) (fun p hq => ((List.mem_cons.1 hq).elim (fun hq => by rw [hq]; exact (.head _)) (fun hq => ((List.mem_cons.1 hq).elim (fun hq => by rw [hq]; exact (.tail _ (.head _))) (fun hq => ((List.mem_append.1 hq).elim (fun hq => (.tail _ (.tail _ (List.mem_append_left _ hq)))) (fun hq => (absurd hq List.not_mem_nil))))))))
        refine PX_v 0 rfl (by kernel_rfl) (.inl rfl) rfl (by decide) (fun _ _ h => h) hS0 (fun l W hpd hs => have hS := hs; R_load (v := (.agg (encCred x15828).toArray)) rfl (load_boxA hS (.head _) (encCred x15828) rfl Tryz.isAgg83 Tryz.sizeOf83)) ?_
        obtain ⟨r17096, hr17097, hm16778⟩ := bind_some hm16778
        refine PX_e 1 rfl (by kernel_rfl) (.inl rfl) rfl (by decide) (E_gives (args := [(.agg (encCred x15828).toArray)]) hST rfl Tryz.call106 (by exact args1 rfl) ((w_ref05_Right x15828 _ _  hr17097)) (fun W17098 hST => ?_))
        have hS0 : Has (hp w) ((b16787, Obj.cells ((encCred x15828).toArray : Array Value) 83 (0, 0)) :: ((b14381, Obj.cells ((encCred x16302).toArray : Array Value) 83 (0, 0)) :: (R11499 ++ []))) _ := hST.has.sub (Sub.refl _) (fun p hq => ((List.mem_cons.1 hq).elim (fun hq => by rw [hq]; exact (.head _)) (fun hq => ((List.mem_cons.1 hq).elim (fun hq => by rw [hq]; exact (.tail _ (.head _))) (fun hq => ((List.mem_append.1 hq).elim (fun hq => (.tail _ (.tail _ (List.mem_append_left _ hq)))) (fun hq => (absurd hq List.not_mem_nil))))))))
        refine ⟨hS0, ?_⟩
        refine PV 2 rfl hS0 (R_move (v := (.bool r17096)) rfl) ?_
        obtain ⟨s17213, hm17214, hm17215⟩ := bind_some hm16778
        refine PX_join (J := fun E W => ∃ (x17134 : Bool) (L17135 : List (Nat × Obj)), ST true NoF w W (hp w) ((b16787, Obj.cells ((encCred x15828).toArray : Array Value) 83 (0, 0)) :: ((b14381, Obj.cells ((encCred x16302).toArray : Array Value) 83 (0, 0)) :: (R11499 ++ L17135))) ∧ E 0 = v_a0 ∧ E 3 = v11496 ∧ E 4 = (.pointer (some ⟨b14381, 0, none⟩)) ∧ E 5 = (.bool x16301) ∧ E 7 = (.pointer (some ⟨b16787, 0, none⟩)) ∧ E 8 = v_a0 ∧ E 9 = (.int .i64 ((a0.length : Int))) ∧ E 10 = (.int .i64 ((i15827 : Int))) ∧ E 31 = (.bool x17134) ∧ (((if x17134 then (((if (!x16301) then some true else (((m_ref05_Compare x15828 x16302)).bind fun r17210 => some ((decide (r17210 < 0))))) : Option Bool).bind fun x17193 => some x17193) else some false) : Option Bool).bind fun x17171 => (if x17171 then (m_ref05_Set_L2 l11497 xs15829 true x15828) else (m_ref05_Set_L2 l11497 xs15829 x16301 x16302))) = some s15824) #[true, true, true, true, true, true, true, true, true, true, true, true, true, true, true, true, true, true, false, false, false, false, false, false, false, false, false, false] 10 ?_ (fun key17216 => ?_)
        · rintro E W ⟨x17134, L17135, hST, e17137, e17138, e17139, e17140, e17141, e17142, e17143, e17144, e17145, hm17136⟩
          have hS0 : Has (hp w) ((b16787, Obj.cells ((encCred x15828).toArray : Array Value) 83 (0, 0)) :: ((b14381, Obj.cells ((encCred x16302).toArray : Array Value) 83 (0, 0)) :: (R11499 ++ []))) _ := hST.has.sub (Sub.refl _) (fun p hq => ((List.mem_cons.1 hq).elim (fun hq => by rw [hq]; exact (.head _)) (fun hq => ((List.mem_cons.1 hq).elim (fun hq => by rw [hq]; exact (.tail _ (.head _))) (fun hq => ((List.mem_append.1 hq).elim (fun hq => (.tail _ (.tail _ (List.mem_append_left _ hq)))) (fun hq => (absurd hq List.not_mem_nil))))))))
          refine PV 18 rfl hS0 (R_move (v := (.bool x17134)) e17145) ?_
          obtain ⟨s17185, hm17186, hm17187⟩ := bind_some hm17136
          refine PX_join (J := fun E W => ∃ (x17171 : Bool) (L17172 : List (Nat × Obj)), ST true NoF w W (hp w) ((b16787, Obj.cells ((encCred x15828).toArray : Array Value) 83 (0, 0)) :: ((b14381, Obj.cells ((encCred x16302).toArray : Array Value) 83 (0, 0)) :: (R11499 ++ L17172))) ∧ E 0 = v_a0 ∧ E 3 = v11496 ∧ E 4 = (.pointer (some ⟨b14381, 0, none⟩)) ∧ E 5 = (.bool x16301) ∧ E 7 = (.pointer (some ⟨b16787, 0, none⟩)) ∧ E 8 = v_a0 ∧ E 9 = (.int .i64 ((a0.length : Int))) ∧ E 10 = (.int .i64 ((i15827 : Int))) ∧ E 41 = (.bool x17171) ∧ (if x17171 then (m_ref05_Set_L2 l11497 xs15829 true x15828) else (m_ref05_Set_L2 l11497 xs15829 x16301 x16302)) = some s15824) #[true, true, true, true, true, true, true, true, true, true, true, true, true, true, true, true, true, true, true, true, true, true, true, true, true, true, true, true] 0 ?_ (fun key17188 => ?_)
          · rintro E W ⟨x17171, L17172, hST, e17174, e17175, e17176, e17177, e17178, e17179, e17180, e17181, e17182, hm17173⟩
            have hS0 : Has (hp w) ((b16787, Obj.cells ((encCred x15828).toArray : Array Value) 83 (0, 0)) :: ((b14381, Obj.cells ((encCred x16302).toArray : Array Value) 83 (0, 0)) :: (R11499 ++ []))) _ := hST.has.sub (Sub.refl _) (fun p hq => ((List.mem_cons.1 hq).elim (fun hq => by rw [hq]; exact (.head _)) (fun hq => ((List.mem_cons.1 hq).elim (fun hq => by rw [hq]; exact (.tail _ (.head _))) (fun hq => ((List.mem_append.1 hq).elim (fun hq => (.tail _ (.tail _ (List.mem_append_left _ hq)))) (fun hq => (absurd hq List.not_mem_nil))))))))
            refine PX_done (by kernel_rfl) ?_
            refine sq_n ?_
            refine CW_if (b := x17171) e17182 (fun hb17183 => ?_) (fun hb17183 => ?_)
            · replace hm17173 := if_t hb17183 hm17173
              refine CW_seq ?_
              refine CW_region ?_
              refine LV (R_load (v := (.agg (encCred x15828).toArray)) e17178 (load_boxA hST.has (.head _) (encCred x15828) rfl Tryz.isAgg83 Tryz.sizeOf83)) ?_
              refine LW_e0 (.inl rfl) rfl (E_store [_] (.agg (encCred x15828).toArray) ((encCred x15828).toArray) hST e17176 rfl Tryz.sizeOf83 (oneCred x15828) (Nat.le_of_ble_eq_true rfl) rfl (fun W17184 hST => ?_))
              refine LW_nil ?_
              refine sq_n ?_
              replace hST : ST true NoF w _ _ ((b16787, Obj.cells ((encCred x15828).toArray : Array Value) 83 (0, 0)) :: ((b14381, Obj.cells ((encCred x15828).toArray : Array Value) 83 (0, 0)) :: (R11499 ++ L17172))) := hST
              replace hST : ST true NoF w _ _ ((b14381, Obj.cells ((encCred x15828).toArray : Array Value) 83 (0, 0)) :: (R11499 ++ L17172)) := hST.sublist (List.Sublist.cons _ (List.Sublist.refl _))
              refine CW_region ?_
              refine LV (R_assign (v := (.bool true)) rfl) ?_
              refine LW_nil ?_
              refine bq_n ?_
              refine sq_n ?_
              exact ⟨e17181, true, x15828, _, ⟨rfl, e17180⟩, (hST.sublist (List.Sublist.refl _)), e17174, e17175, e17176, rfl, e17179, (by rw [hx15832]; exact hm17173)⟩
            · replace hm17173 := if_f hb17183 hm17173
              refine CW_skip ?_
              refine bq_n ?_
              refine sq_n ?_
              replace hST : ST true NoF w _ _ ((b14381, Obj.cells ((encCred x16302).toArray : Array Value) 83 (0, 0)) :: (R11499 ++ L17172)) := hST.sublist (List.Sublist.cons _ (List.Sublist.refl _))
              exact ⟨e17181, x16301, x16302, _, ⟨rfl, e17180⟩, (hST.sublist (List.Sublist.refl _)), e17174, e17175, e17176, e17177, e17179, (by rw [hx15832]; exact hm17173)⟩
          · rcases bool_cases x17134 with hb17146 | hb17146
            · replace hm17186 := if_t hb17146 hm17186
              refine PX_v 19 rfl (by kernel_rfl) (.inr ⟨18, true, 32, rfl, rfl, by decide, (congrArg Value.bool hb17146)⟩) rfl (by decide) (fun _ _ h => h) hS0 (fun _ _ _ _ => R_move (v := (.bool x16301)) e17140) ?_
              refine PX_v 20 rfl (by kernel_rfl) (.inr ⟨18, true, 32, rfl, rfl, by decide, (congrArg Value.bool hb17146)⟩) rfl (by decide) (fun _ _ h => h) hS0 (fun _ _ _ _ => R_not (b := x16301) rfl) ?_
              refine PX_v 21 rfl (by kernel_rfl) (.inr ⟨18, true, 32, rfl, rfl, by decide, (congrArg Value.bool hb17146)⟩) rfl (by decide) (fun _ _ h => h) hS0 (fun _ _ _ _ => R_move (v := (.bool ((!x16301)))) rfl) ?_
              obtain ⟨s17206, hm17207, hm17208⟩ := bind_some hm17186
              refine PX_join (J := fun E W => ∃ (x17193 : Bool) (L17194 : List (Nat × Obj)), ST true NoF w W (hp w) ((b16787, Obj.cells ((encCred x15828).toArray : Array Value) 83 (0, 0)) :: ((b14381, Obj.cells ((encCred x16302).toArray : Array Value) 83 (0, 0)) :: (R11499 ++ L17194))) ∧ E 0 = v_a0 ∧ E 3 = v11496 ∧ E 4 = (.pointer (some ⟨b14381, 0, none⟩)) ∧ E 5 = (.bool x16301) ∧ E 7 = (.pointer (some ⟨b16787, 0, none⟩)) ∧ E 8 = v_a0 ∧ E 9 = (.int .i64 ((a0.length : Int))) ∧ E 10 = (.int .i64 ((i15827 : Int))) ∧ E 32 = (.bool x17134) ∧ E 40 = (.bool x17193) ∧ some x17193 = some s17185) #[true, true, true, true, true, true, true, true, true, true, true, true, true, true, true, true, true, true, true, true, true, true, true, true, true, true, true, false] 1 ?_ (fun key17209 => ?_)
              · rintro E W ⟨x17193, L17194, hST, e17196, e17197, e17198, e17199, e17200, e17201, e17202, e17203, e17204, e17205, hm17195⟩
                have hS0 : Has (hp w) ((b16787, Obj.cells ((encCred x15828).toArray : Array Value) 83 (0, 0)) :: ((b14381, Obj.cells ((encCred x16302).toArray : Array Value) 83 (0, 0)) :: (R11499 ++ []))) _ := hST.has.sub (Sub.refl _) (fun p hq => ((List.mem_cons.1 hq).elim (fun hq => by rw [hq]; exact (.head _)) (fun hq => ((List.mem_cons.1 hq).elim (fun hq => by rw [hq]; exact (.tail _ (.head _))) (fun hq => ((List.mem_append.1 hq).elim (fun hq => (.tail _ (.tail _ (List.mem_append_left _ hq)))) (fun hq => (absurd hq List.not_mem_nil))))))))
                refine PV 27 rfl hS0 (R_pickT (v := (.bool x17193)) (e17204.trans (congrArg Value.bool hb17146)) e17205) ?_
                replace hm17195 := Option.some.inj hm17195; subst hm17195
                refine PX_at (by kernel_rfl) (key17188 _ _ ⟨x17193, _, (hST.sublist (List.Sublist.refl _)), e17196, e17197, e17198, e17199, e17200, e17201, e17202, e17203, rfl, hm17187⟩)
              · rcases bool_cases ((!x16301)) with hb17189 | hb17189
                · replace hm17207 := if_t hb17189 hm17207
                  refine PX_no 22 rfl (by kernel_rfl) rfl rfl (by decide) (congrArg Value.bool hb17189) rfl (by decide) (fun _ _ h => h) hS0 ?_
                  refine PX_no 23 rfl (by kernel_rfl) rfl rfl (by decide) (congrArg Value.bool hb17189) rfl (by decide) (fun _ _ h => h) hS0 ?_
                  refine PX_no 24 rfl (by kernel_rfl) rfl rfl (by decide) (congrArg Value.bool hb17189) rfl (by decide) (fun _ _ h => h) hS0 ?_
                  refine PX_no 25 rfl (by kernel_rfl) rfl rfl (by decide) (congrArg Value.bool hb17189) rfl (by decide) (fun _ _ h => h) hS0 ?_
                  refine PX_v 26 rfl (by kernel_rfl) (.inr ⟨18, true, 32, rfl, rfl, by decide, (congrArg Value.bool hb17146)⟩) rfl (by decide) (fun _ _ h => h) hS0 (fun _ _ _ _ => R_pickT (v := (.bool true)) (congrArg Value.bool hb17189) rfl) ?_
                  replace hm17207 := Option.some.inj hm17207; subst hm17207
                  refine PX_at (by kernel_rfl) (key17209 _ _ ⟨true, _, (hST.sublist (List.Sublist.refl _)), e17137, e17138, e17139, e17140, e17141, e17142, e17143, e17144, rfl, rfl, hm17208⟩)
                · replace hm17207 := if_f hb17189 hm17207
                  refine PX_v 22 rfl (by kernel_rfl) (.inr ⟨21, false, 35, rfl, rfl, by decide, (congrArg Value.bool hb17189)⟩) rfl (by decide) (fun _ _ h => h) hS0 (fun l W hpd hs => have hS := hs; R_load (v := (.agg (encCred x15828).toArray)) e17141 (load_boxA hS (.head _) (encCred x15828) rfl Tryz.isAgg83 Tryz.sizeOf83)) ?_
                  refine PX_v 23 rfl (by kernel_rfl) (.inr ⟨21, false, 35, rfl, rfl, by decide, (congrArg Value.bool hb17189)⟩) rfl (by decide) (fun _ _ h => h) hS0 (fun l W hpd hs => have hS := hs; R_load (v := (.agg (encCred x16302).toArray)) e17139 (load_boxA hS (.tail _ (.head _)) (encCred x16302) rfl Tryz.isAgg83 Tryz.sizeOf83)) ?_
                  obtain ⟨r17210, hr17211, hm17207⟩ := bind_some hm17207
                  refine PX_e 24 rfl (by kernel_rfl) (.inr ⟨21, false, 35, rfl, rfl, by decide, (congrArg Value.bool hb17189)⟩) rfl (by decide) (E_gives (args := [(.agg (encCred x15828).toArray), (.agg (encCred x16302).toArray)]) hST rfl Tryz.call107 (by exact args2 rfl rfl) ((w_ref05_Compare x15828 x16302 _ _  hr17211)) (fun W17212 hST => ?_))
                  have hS0 : Has (hp w) ((b16787, Obj.cells ((encCred x15828).toArray : Array Value) 83 (0, 0)) :: ((b14381, Obj.cells ((encCred x16302).toArray : Array Value) 83 (0, 0)) :: (R11499 ++ []))) _ := hST.has.sub (Sub.refl _) (fun p hq => ((List.mem_cons.1 hq).elim (fun hq => by rw [hq]; exact (.head _)) (fun hq => ((List.mem_cons.1 hq).elim (fun hq => by rw [hq]; exact (.tail _ (.head _))) (fun hq => ((List.mem_append.1 hq).elim (fun hq => (.tail _ (.tail _ (List.mem_append_left _ hq)))) (fun hq => (absurd hq List.not_mem_nil))))))))
                  refine ⟨hS0, ?_⟩
                  refine PX_v 25 rfl (by kernel_rfl) (.inr ⟨21, false, 35, rfl, rfl, by decide, (congrArg Value.bool hb17189)⟩) rfl (by decide) (fun _ _ h => h) hS0 (fun _ _ _ _ => R_int (k := .i64) (a := r17210) (b := 0) (v := (.bool ((decide (r17210 < 0))))) rfl rfl rfl) ?_
                  refine PX_v 26 rfl (by kernel_rfl) (.inr ⟨18, true, 32, rfl, rfl, by decide, (congrArg Value.bool hb17146)⟩) rfl (by decide) (fun _ _ h => h) hS0 (fun _ _ _ _ => R_pickF (v := (.bool ((decide (r17210 < 0))))) (congrArg Value.bool hb17189) rfl) ?_
                  replace hm17207 := Option.some.inj hm17207; subst hm17207
                  refine PX_at (by kernel_rfl) (key17209 _ _ ⟨((decide (r17210 < 0))), _, (hST.sublist (List.Sublist.refl _)), e17137, e17138, e17139, e17140, e17141, e17142, e17143, e17144, rfl, rfl, hm17208⟩)
            · replace hm17186 := if_f hb17146 hm17186
              refine PX_no 19 rfl (by kernel_rfl) rfl rfl (by decide) (congrArg Value.bool hb17146) rfl (by decide) (fun _ _ h => h) hS0 ?_
              refine PX_no 20 rfl (by kernel_rfl) rfl rfl (by decide) (congrArg Value.bool hb17146) rfl (by decide) (fun _ _ h => h) hS0 ?_
              refine PX_no 21 rfl (by kernel_rfl) rfl rfl (by decide) (congrArg Value.bool hb17146) rfl (by decide) (fun _ _ h => h) hS0 ?_
              refine PX_nou 22 rfl (by kernel_rfl) rfl rfl (by decide) rfl rfl (by decide) (fun _ _ h => h) hS0 ?_
              refine PX_nou 23 rfl (by kernel_rfl) rfl rfl (by decide) rfl rfl (by decide) (fun _ _ h => h) hS0 ?_
              refine PX_nou 24 rfl (by kernel_rfl) rfl rfl (by decide) rfl rfl (by decide) (fun _ _ h => h) hS0 ?_
              refine PX_nou 25 rfl (by kernel_rfl) rfl rfl (by decide) rfl rfl (by decide) (fun _ _ h => h) hS0 ?_
              refine PX_no 26 rfl (by kernel_rfl) rfl rfl (by decide) (congrArg Value.bool hb17146) rfl (by decide) (fun _ _ h => h) hS0 ?_
              refine PV 27 rfl hS0 (R_pickF (v := (.bool false)) (congrArg Value.bool hb17146) rfl) ?_
              replace hm17186 := Option.some.inj hm17186; subst hm17186
              refine PX_at (by kernel_rfl) (key17188 _ _ ⟨false, _, (hST.sublist (List.Sublist.refl _)), e17137, e17138, e17139, e17140, e17141, e17142, e17143, e17144, rfl, hm17187⟩)
        · rcases bool_cases r17096 with hb17099 | hb17099
          · replace hm17214 := if_t hb17099 hm17214
            refine PX_v 3 rfl (by kernel_rfl) (.inr ⟨2, true, 16, rfl, rfl, by decide, (congrArg Value.bool hb17099)⟩) rfl (by decide) (fun _ _ h => h) hS0 (fun _ _ _ _ => R_move (v := v11496) e16780) ?_
            refine PX_v 4 rfl (by kernel_rfl) (.inr ⟨2, true, 16, rfl, rfl, by decide, (congrArg Value.bool hb17099)⟩) rfl (by decide) (fun _ _ h => h) hS0 (fun _ _ _ _ => R_lenRow Tryz.underlying22 rfl hs11498) ?_
            refine PX_v 5 rfl (by kernel_rfl) (.inr ⟨2, true, 16, rfl, rfl, by decide, (congrArg Value.bool hb17099)⟩) rfl (by decide) (fun _ _ h => h) hS0 (fun _ _ _ _ => R_int (k := .i64) (a := ((l11497.length : Int))) (b := 0) (v := (.bool ((((l11497.length : Int)) == 0)))) rfl rfl rfl) ?_
            refine PX_v 6 rfl (by kernel_rfl) (.inr ⟨2, true, 16, rfl, rfl, by decide, (congrArg Value.bool hb17099)⟩) rfl (by decide) (fun _ _ h => h) hS0 (fun _ _ _ _ => R_move (v := (.bool ((((l11497.length : Int)) == 0)))) rfl) ?_
            obtain ⟨s17239, hm17240, hm17241⟩ := bind_some hm17214
            refine PX_join (J := fun E W => ∃ (x17226 : Bool) (L17227 : List (Nat × Obj)), ST true NoF w W (hp w) ((b16787, Obj.cells ((encCred x15828).toArray : Array Value) 83 (0, 0)) :: ((b14381, Obj.cells ((encCred x16302).toArray : Array Value) 83 (0, 0)) :: (R11499 ++ L17227))) ∧ E 0 = v_a0 ∧ E 3 = v11496 ∧ E 4 = (.pointer (some ⟨b14381, 0, none⟩)) ∧ E 5 = (.bool x16301) ∧ E 7 = (.pointer (some ⟨b16787, 0, none⟩)) ∧ E 8 = v_a0 ∧ E 9 = (.int .i64 ((a0.length : Int))) ∧ E 10 = (.int .i64 ((i15827 : Int))) ∧ E 16 = (.bool r17096) ∧ E 30 = (.bool x17226) ∧ some x17226 = some s17213) #[true, true, true, true, true, true, true, true, true, true, true, true, true, true, true, true, true, false, false, false, false, false, false, false, false, false, false, false] 11 ?_ (fun key17242 => ?_)
            · rintro E W ⟨x17226, L17227, hST, e17229, e17230, e17231, e17232, e17233, e17234, e17235, e17236, e17237, e17238, hm17228⟩
              have hS0 : Has (hp w) ((b16787, Obj.cells ((encCred x15828).toArray : Array Value) 83 (0, 0)) :: ((b14381, Obj.cells ((encCred x16302).toArray : Array Value) 83 (0, 0)) :: (R11499 ++ []))) _ := hST.has.sub (Sub.refl _) (fun p hq => ((List.mem_cons.1 hq).elim (fun hq => by rw [hq]; exact (.head _)) (fun hq => ((List.mem_cons.1 hq).elim (fun hq => by rw [hq]; exact (.tail _ (.head _))) (fun hq => ((List.mem_append.1 hq).elim (fun hq => (.tail _ (.tail _ (List.mem_append_left _ hq)))) (fun hq => (absurd hq List.not_mem_nil))))))))
              refine PV 17 rfl hS0 (R_pickT (v := (.bool x17226)) (e17237.trans (congrArg Value.bool hb17099)) e17238) ?_
              replace hm17228 := Option.some.inj hm17228; subst hm17228
              refine PX_at (by kernel_rfl) (key17216 _ _ ⟨x17226, _, (hST.sublist (List.Sublist.refl _)), e17229, e17230, e17231, e17232, e17233, e17234, e17235, e17236, rfl, hm17215⟩)
            · rcases bool_cases ((((l11497.length : Int)) == 0)) with hb17217 | hb17217
              · replace hm17240 := if_t hb17217 hm17240
                refine PX_no 7 rfl (by kernel_rfl) rfl rfl (by decide) (congrArg Value.bool hb17217) rfl (by decide) (fun _ _ h => h) hS0 ?_
                refine PX_no 8 rfl (by kernel_rfl) rfl rfl (by decide) (congrArg Value.bool hb17217) rfl (by decide) (fun _ _ h => h) hS0 ?_
                refine PX_no 9 rfl (by kernel_rfl) rfl rfl (by decide) (congrArg Value.bool hb17217) rfl (by decide) (fun _ _ h => h) hS0 ?_
                refine PX_no 10 rfl (by kernel_rfl) rfl rfl (by decide) (congrArg Value.bool hb17217) rfl (by decide) (fun _ _ h => h) hS0 ?_
                refine PX_no 11 rfl (by kernel_rfl) rfl rfl (by decide) (congrArg Value.bool hb17217) rfl (by decide) (fun _ _ h => h) hS0 ?_
                refine PX_no 12 rfl (by kernel_rfl) rfl rfl (by decide) (congrArg Value.bool hb17217) rfl (by decide) (fun _ _ h => h) hS0 ?_
                refine PX_no 13 rfl (by kernel_rfl) rfl rfl (by decide) (congrArg Value.bool hb17217) rfl (by decide) (fun _ _ h => h) hS0 ?_
                refine PX_no 14 rfl (by kernel_rfl) rfl rfl (by decide) (congrArg Value.bool hb17217) rfl (by decide) (fun _ _ h => h) hS0 ?_
                refine PX_no 15 rfl (by kernel_rfl) rfl rfl (by decide) (congrArg Value.bool hb17217) rfl (by decide) (fun _ _ h => h) hS0 ?_
                refine PX_v 16 rfl (by kernel_rfl) (.inr ⟨2, true, 16, rfl, rfl, by decide, (congrArg Value.bool hb17099)⟩) rfl (by decide) (fun _ _ h => h) hS0 (fun _ _ _ _ => R_pickT (v := (.bool true)) (congrArg Value.bool hb17217) rfl) ?_
                replace hm17240 := Option.some.inj hm17240; subst hm17240
                refine PX_at (by kernel_rfl) (key17242 _ _ ⟨true, _, (hST.sublist (List.Sublist.refl _)), e16779, e16780, e16781, e16782, rfl, e16783, eN, eI, rfl, rfl, hm17241⟩)
              · replace hm17240 := if_f hb17217 hm17240
                refine PX_v 7 rfl (by kernel_rfl) (.inr ⟨6, false, 20, rfl, rfl, by decide, (congrArg Value.bool hb17217)⟩) rfl (by decide) (fun _ _ h => h) hS0 (fun _ _ _ _ => R_move (v := v11496) e16780) ?_
                refine PX_v 8 rfl (by kernel_rfl) (.inr ⟨6, false, 20, rfl, rfl, by decide, (congrArg Value.bool hb17217)⟩) rfl (by decide) (fun _ _ h => h) hS0 (fun _ _ _ _ => R_move (v := v11496) e16780) ?_
                refine PX_v 9 rfl (by kernel_rfl) (.inr ⟨6, false, 20, rfl, rfl, by decide, (congrArg Value.bool hb17217)⟩) rfl (by decide) (fun _ _ h => h) hS0 (fun _ _ _ _ => R_lenRow Tryz.underlying22 rfl hs11498) ?_
                refine PX_v 10 rfl (by kernel_rfl) (.inr ⟨6, false, 20, rfl, rfl, by decide, (congrArg Value.bool hb17217)⟩) rfl (by decide) (fun _ _ h => h) hS0 (fun _ _ _ _ => R_int (k := .i64) (a := ((l11497.length : Int))) (b := 1) (v := (.int .i64 ((IntKind.i64.wrap (((l11497.length : Int)) - 1))))) rfl rfl rfl) ?_
                obtain ⟨x17246, hx17247, hm17240⟩ := bind_some hm17240
                refine PX_q 11 rfl (by kernel_rfl) (.inr ⟨6, false, 20, rfl, rfl, by decide, (congrArg Value.bool hb17217)⟩) rfl (by decide) (fun _ _ h => h) hS0 (R_indexRow (i := (IntKind.i64.wrap (((l11497.length : Int)) - 1))) (x0 := x17246) Tryz.underlying22 Tryz.sizeOf83 rfl rfl hs11498 (idx_nonneg hx17247) (idx_get hx17247)) (fun p17243 hp17244 => ?_)
                refine PX_v 12 rfl (by kernel_rfl) (.inr ⟨6, false, 20, rfl, rfl, by decide, (congrArg Value.bool hb17217)⟩) rfl (by decide) (fun _ _ h => h) hS0 (fun l W hpd hs => have hS := hs; R_load (v := (.agg (encCred x17246).toArray)) rfl (load_ixA hS (fun p hq => by simp [hq]) hs11498 lenCred hp17244 (idx_get hx17247) Tryz.isAgg83 Tryz.sizeOf83)) ?_
                refine PX_v 13 rfl (by kernel_rfl) (.inr ⟨6, false, 20, rfl, rfl, by decide, (congrArg Value.bool hb17217)⟩) rfl (by decide) (fun _ _ h => h) hS0 (fun l W hpd hs => have hS := hs; R_load (v := (.agg (encCred x15828).toArray)) rfl (load_boxA hS (.head _) (encCred x15828) rfl Tryz.isAgg83 Tryz.sizeOf83)) ?_
                obtain ⟨r17248, hr17249, hm17240⟩ := bind_some hm17240
                refine PX_e 14 rfl (by kernel_rfl) (.inr ⟨6, false, 20, rfl, rfl, by decide, (congrArg Value.bool hb17217)⟩) rfl (by decide) (E_gives (args := [(.agg (encCred x17246).toArray), (.agg (encCred x15828).toArray)]) hST rfl Tryz.call107 (by exact args2 rfl rfl) ((w_ref05_Compare x17246 x15828 _ _  hr17249)) (fun W17250 hST => ?_))
                have hS0 : Has (hp w) ((b16787, Obj.cells ((encCred x15828).toArray : Array Value) 83 (0, 0)) :: ((b14381, Obj.cells ((encCred x16302).toArray : Array Value) 83 (0, 0)) :: (R11499 ++ []))) _ := hST.has.sub (Sub.refl _) (fun p hq => ((List.mem_cons.1 hq).elim (fun hq => by rw [hq]; exact (.head _)) (fun hq => ((List.mem_cons.1 hq).elim (fun hq => by rw [hq]; exact (.tail _ (.head _))) (fun hq => ((List.mem_append.1 hq).elim (fun hq => (.tail _ (.tail _ (List.mem_append_left _ hq)))) (fun hq => (absurd hq List.not_mem_nil))))))))
                refine ⟨hS0, ?_⟩
                refine PX_v 15 rfl (by kernel_rfl) (.inr ⟨6, false, 20, rfl, rfl, by decide, (congrArg Value.bool hb17217)⟩) rfl (by decide) (fun _ _ h => h) hS0 (fun _ _ _ _ => R_int (k := .i64) (a := r17248) (b := 0) (v := (.bool ((decide (r17248 < 0))))) rfl rfl rfl) ?_
                refine PX_v 16 rfl (by kernel_rfl) (.inr ⟨2, true, 16, rfl, rfl, by decide, (congrArg Value.bool hb17099)⟩) rfl (by decide) (fun _ _ h => h) hS0 (fun _ _ _ _ => R_pickF (v := (.bool ((decide (r17248 < 0))))) (congrArg Value.bool hb17217) rfl) ?_
                replace hm17240 := Option.some.inj hm17240; subst hm17240
                refine PX_at (by kernel_rfl) (key17242 _ _ ⟨((decide (r17248 < 0))), _, (hST.sublist (List.Sublist.refl _)), e16779, e16780, e16781, e16782, rfl, e16783, eN, eI, rfl, rfl, hm17241⟩)
          · replace hm17214 := if_f hb17099 hm17214
            refine PX_no 3 rfl (by kernel_rfl) rfl rfl (by decide) (congrArg Value.bool hb17099) rfl (by decide) (fun _ _ h => h) hS0 ?_
            refine PX_no 4 rfl (by kernel_rfl) rfl rfl (by decide) (congrArg Value.bool hb17099) rfl (by decide) (fun _ _ h => h) hS0 ?_
            refine PX_no 5 rfl (by kernel_rfl) rfl rfl (by decide) (congrArg Value.bool hb17099) rfl (by decide) (fun _ _ h => h) hS0 ?_
            refine PX_no 6 rfl (by kernel_rfl) rfl rfl (by decide) (congrArg Value.bool hb17099) rfl (by decide) (fun _ _ h => h) hS0 ?_
            refine PX_nou 7 rfl (by kernel_rfl) rfl rfl (by decide) rfl rfl (by decide) (fun _ _ h => h) hS0 ?_
            refine PX_nou 8 rfl (by kernel_rfl) rfl rfl (by decide) rfl rfl (by decide) (fun _ _ h => h) hS0 ?_
            refine PX_nou 9 rfl (by kernel_rfl) rfl rfl (by decide) rfl rfl (by decide) (fun _ _ h => h) hS0 ?_
            refine PX_nou 10 rfl (by kernel_rfl) rfl rfl (by decide) rfl rfl (by decide) (fun _ _ h => h) hS0 ?_
            refine PX_nou 11 rfl (by kernel_rfl) rfl rfl (by decide) rfl rfl (by decide) (fun _ _ h => h) hS0 ?_
            refine PX_nou 12 rfl (by kernel_rfl) rfl rfl (by decide) rfl rfl (by decide) (fun _ _ h => h) hS0 ?_
            refine PX_nou 13 rfl (by kernel_rfl) rfl rfl (by decide) rfl rfl (by decide) (fun _ _ h => h) hS0 ?_
            refine PX_nou 14 rfl (by kernel_rfl) rfl rfl (by decide) rfl rfl (by decide) (fun _ _ h => h) hS0 ?_
            refine PX_nou 15 rfl (by kernel_rfl) rfl rfl (by decide) rfl rfl (by decide) (fun _ _ h => h) hS0 ?_
            refine PX_no 16 rfl (by kernel_rfl) rfl rfl (by decide) (congrArg Value.bool hb17099) rfl (by decide) (fun _ _ h => h) hS0 ?_
            refine PV 17 rfl hS0 (R_pickF (v := (.bool false)) (congrArg Value.bool hb17099) rfl) ?_
            replace hm17214 := Option.some.inj hm17214; subst hm17214
            refine PX_at (by kernel_rfl) (key17216 _ _ ⟨false, _, (hST.sublist (List.Sublist.refl _)), e16779, e16780, e16781, e16782, rfl, e16783, eN, eI, rfl, hm17215⟩)
      · rintro E W ⟨x16301, x16302, L16777, ⟨eI, eN⟩, hST, e16779, e16780, e16781, e16782, e16783, hm16778⟩
        rw [List.drop_length] at hm16778
        rw [m_ref05_Set_L2] at hm16778
        refine sq_n ?_
        replace hm16778 := Option.some.inj hm16778; subst hm16778
        exact ⟨x16301, x16302, _, (hST.sublist (List.Sublist.refl _)), e16779, e16780, e16781, e16782, hm15826⟩
    · rintro E W ⟨x15807, x15808, L15809, hST, e15811, e15812, e15813, e15814, hm15810⟩
      refine CW_seq ?_
      refine CW_seq ?_
      refine CW_region ?_
      refine LV (R_move (v := (.bool x15807)) e15814) ?_
      refine LV (R_not (b := x15807) rfl) ?_
      refine LW_nil ?_
      refine sq_n ?_
      refine CW_if (b := (!x15807)) rfl (fun hb15815 => ?_) (fun hb15815 => ?_)
      · replace hm15810 := if_t hb15815 hm15810
        refine CW_seq ?_
        refine CW_region ?_
        refine LV (R_move (v := v11496) e15812) ?_
        refine LV (R_assign (v := v11496) rfl) ?_
        refine LW_nil ?_
        refine sq_n ?_
        replace hST : ST true NoF w _ _ (R11499 ++ L15809) := hST.sublist (List.Sublist.cons _ (List.Sublist.refl _))
        refine CW_ret ?_
        refine sq_r (bq_r (sq_r (bq_r (sq_r ?_))))
        replace hm15810 := Option.some.inj hm15810; subst hm15810
        refine retQ_1 (v := v11496) rfl rfl ?_
        exact ⟨_, R11499, rfl, hST.backRow (fun p hq => by simp [hq]) hs11498.nd, hs11498⟩
      · replace hm15810 := if_f hb15815 hm15810
        refine CW_skip ?_
        refine sq_n ?_
        refine CW_region ?_
        refine LV (R_move (v := v11496) e15812) ?_
        refine LV (R_load (v := (.agg (encCred x15808).toArray)) e15813 (load_boxA hST.has (.head _) (encCred x15808) rfl Tryz.isAgg83 Tryz.sizeOf83)) ?_
        refine LE (E_buildSlice (qs := #[(0, (.agg (encCred x15808).toArray))]) (cs := (encCred x15808).toArray) hST (parts1 rfl) (run_lit [(.agg (encCred x15808).toArray)] Tryz.underlying22 Tryz.sizeOf83 Tryz.zeroValue83 (by decide) rfl (by intro v hv; simp only [List.mem_cons, List.not_mem_nil, or_false] at hv; rcases hv with rfl <;> rfl) rfl rfl) (fun W15817 b15816 hST => ?_))
        obtain ⟨l15818, hb15819, hm15810⟩ := bind_some hm15810
        refine LE (E_append (enc := encCred) (v := v11496) (vs := (.slice (some ⟨b15816, 0, none⟩) 1 1)) (R := R11499) [_, _] hST lenCred (by decide) oneCred Tryz.underlying22 info83.1 info83.2.1 rfl info83.2.2.1 info83.2.2.2 rfl rfl hs11498 (Sl.lit (enc := encCred) (l := [x15808]) lenCred rfl (Nat.le_of_ble_eq_true rfl) rfl (hST.at_ (.head _))) hb15819 (fun W15820 v15823 R15821 hST hR15822 => ?_))
        refine LV (R_assign (v := v15823) rfl) ?_
        refine LW_nil ?_
        refine bq_n ?_
        refine sq_n ?_
        replace hST : ST true NoF w _ _ ((b15816, Obj.cells ((encCred x15808).toArray : Array Value) 83 (0, 0)) :: ((b14381, Obj.cells ((encCred x15808).toArray : Array Value) 83 (0, 0)) :: (R15821 ++ L15809))) := hST
        replace hST : ST true NoF w _ _ (R15821 ++ L15809) := hST.sublist (List.Sublist.cons _ (List.Sublist.cons _ (List.Sublist.refl _)))
        exact ⟨n14378, Nat.lt_succ_self _, v15823, l15818, R15821, _, (hST.sublist (List.Sublist.refl _)), e15811, rfl, hR15822, hm15810⟩
theorem w_ref05_Has (v_a0 : Value) (a0 : List Cred) (a1 : Cred) (r : Bool) (w : World) (h_a0 : Sl (Pl encCred) 9 (hp w) v_a0 a0) (hm : m_ref05_Has a0 a1 = some r) :
    Gives true Tryz.prog 73 [v_a0, (.agg (encCred a1).toArray)] w (.bool r) := by
  have hST := ST.start (dd := true) w
  unfold m_ref05_Has at hm
  refine calls_of_CW (n := 17) Tryz.func73 rfl rfl (Nat.le_of_ble_eq_true rfl) ?_
  refine CW_seq ?_
  refine CW_region ?_
  refine LE (E_box (v := (.agg (encCred a1).toArray)) hST rfl (fun W2 b1 hST => ?_))
  refine LV (R_assign (v := (.bool false)) rfl) ?_
  refine LW_nil ?_
  refine sq_n ?_
  refine CW_seq ?_
  refine CW_seq ?_
  refine CW_region ?_
  refine LV (R_move (v := v_a0) rfl) ?_
  refine LV (R_len Tryz.underlying22 rfl h_a0) ?_
  refine LV (R_move (v := (.int .i64 0)) rfl) ?_
  refine LW_nil ?_
  refine sq_n ?_
  refine CW_range (fun i E W => ∃  (L60 : List (Nat × Obj)), (E 9 = .int .i64 (i : Nat) ∧ E 8 = .int .i64 (a0.length : Nat)) ∧ ST true NoF w W (hp w) ((b1, Obj.cells ((encCred a1).toArray : Array Value) 83 (0, 0)) :: L60) ∧ E 3 = (.pointer (some ⟨b1, 0, none⟩)) ∧ E 7 = v_a0 ∧ m_ref05_Has_L1 a1 (a0.drop i) = some r) a0.length h_a0.len ⟨_, ⟨rfl, rfl⟩, (hST.sublist (List.Sublist.refl _)), rfl, rfl, hm⟩ (by decide) (by decide) (by decide) (fun _ _ _ h => by obtain ⟨_, eIN, _⟩ := h; exact eIN) ?_ ?_
  · rintro i37 E W hi43 ⟨L60, ⟨eI, eN⟩, hST, e62, e63, hm61⟩
    obtain ⟨x38, xs39, hx41, hx40, hx42⟩ := drop_cons hi43
    rw [hx41] at hm61
    rw [m_ref05_Has_L1] at hm61
    refine CW_block ?_
    refine CW_seq ?_
    refine CW_region ?_
    refine LQ (R_indexP (enc := encCred) (i := (i37 : Int)) (x0 := x38) Tryz.underlying22 Tryz.sizeOf83 e63 eI h_a0 (Int.natCast_nonneg _) hx40) (fun p64 hp65 => ?_)
    refine LV (R_load rfl (load_atA hST.has hp65 Tryz.isAgg83 Tryz.sizeOf83)) ?_
    refine LE (E_alloc hST Tryz.zeroValue83 (fun W68 b67 hST => ?_))
    refine LW_e0 (.inl rfl) rfl (E_store [] (.agg (encCred x38).toArray) ((encCred x38).toArray) hST rfl rfl Tryz.sizeOf83 (oneCred x38) (Nat.le_of_ble_eq_true rfl) rfl (fun W69 hST => ?_))
    refine LW_nil ?_
    refine sq_n ?_
    refine CW_seq ?_
    refine CW_region ?_
    refine LV (R_load (v := (.agg (encCred x38).toArray)) rfl (load_boxA hST.has (.head _) (encCred x38) rfl Tryz.isAgg83 Tryz.sizeOf83)) ?_
    refine LV (R_load (v := (.agg (encCred a1).toArray)) e62 (load_boxA hST.has (.tail _ (.head _)) (encCred a1) rfl Tryz.isAgg83 Tryz.sizeOf83)) ?_
    refine LV (R_eql (a := (encCred x38).toArray) (b := (encCred a1).toArray) rfl rfl (guard_agg Tryz.eqGuardType83) (bin_eql (eqInCred _ x38 a1))) ?_
    refine LW_nil ?_
    refine sq_n ?_
    replace hST : ST true NoF w _ _ ((b67, Obj.cells ((encCred x38).toArray : Array Value) 83 (0, 0)) :: ((b1, Obj.cells ((encCred a1).toArray : Array Value) 83 (0, 0)) :: L60)) := hST
    replace hST : ST true NoF w _ _ ((b1, Obj.cells ((encCred a1).toArray : Array Value) 83 (0, 0)) :: L60) := hST.sublist (List.Sublist.cons _ (List.Sublist.refl _))
    refine CW_if (b := (beqCred x38 a1)) rfl (fun hb70 => ?_) (fun hb70 => ?_)
    · replace hm61 := if_t hb70 hm61
      refine CW_seq ?_
      refine CW_region ?_
      refine LV (R_assign (v := (.bool true)) rfl) ?_
      refine LW_nil ?_
      refine sq_n ?_
      replace hST : ST true NoF w _ _ L60 := hST.sublist (List.Sublist.cons _ (List.Sublist.refl _))
      refine CW_ret ?_
      refine bq_r (sq_r (bq_r (sq_r ?_)))
      replace hm61 := Option.some.inj hm61; subst hm61
      refine retQ_1 (v := (.bool true)) rfl rfl ?_
      exact ⟨rfl, hST.ex⟩
    · replace hm61 := if_f hb70 hm61
      refine CW_skip ?_
      refine bq_n ?_
      refine sq_n ?_
      exact ⟨eI, _, ⟨rfl, eN⟩, (hST.sublist (List.Sublist.refl _)), e62, e63, (by rw [hx42]; exact hm61)⟩
  · rintro E W ⟨L60, ⟨eI, eN⟩, hST, e62, e63, hm61⟩
    rw [List.drop_length] at hm61
    rw [m_ref05_Has_L1] at hm61
    refine sq_n ?_
    replace hST : ST true NoF w _ _ L60 := hST.sublist (List.Sublist.cons _ (List.Sublist.refl _))
    refine CW_seq ?_
    refine CW_region ?_
    refine LV (R_assign (v := (.bool false)) rfl) ?_
    refine LW_nil ?_
    refine sq_n ?_
    refine CW_ret ?_
    replace hm61 := Option.some.inj hm61; subst hm61
    refine retQ_1 (v := (.bool false)) rfl rfl ?_
    exact ⟨rfl, hST.ex⟩
theorem w_ref41_Three (v_a0 : Value) (a0 : List Cred) (v_a1 : Value) (a1 : List Cred) (v_a2 : Value) (a2 : List Cred) (r : List Cred) (w : World) (h_a0 : Sl (Pl encCred) 9 (hp w) v_a0 a0) (h_a1 : Sl (Pl encCred) 9 (hp w) v_a1 a1) (h_a2 : Sl (Pl encCred) 9 (hp w) v_a2 a2) (hm : m_ref41_Three a0 a1 a2 = some r) :
    GivesRow true Tryz.prog 45 [v_a0, v_a1, v_a2] w 83 encCred 9 r := by
  have hST := ST.start (dd := true) w
  unfold m_ref41_Three at hm
  refine calls_of_CW (n := 60) Tryz.func45 rfl rfl (Nat.le_of_ble_eq_true rfl) ?_
  refine CW_seq ?_
  refine CW_region ?_
  refine LV (R_assign (v := (.slice none 0 0)) rfl) ?_
  refine LW_nil ?_
  refine sq_n ?_
  refine CW_seq ?_
  refine CW_region ?_
  refine LV (R_assign (v := (.slice none 0 0)) rfl) ?_
  refine LW_nil ?_
  refine sq_n ?_
  refine CW_seq ?_
  refine CW_region ?_
  refine LE (E_buildSlice (qs := #[]) (cs := #[]) hST parts0 (run_lit [] Tryz.underlying22 Tryz.sizeOf83 Tryz.zeroValue83 (by decide) rfl (by simp) rfl rfl) (fun W2 b1 hST => ?_))
  refine LV (R_move (v := v_a0) rfl) ?_
  obtain ⟨l3, hb4, hm⟩ := bind_some hm
  replace hST := hST.perm (List.Perm.append_left [] (List.perm_middle (l₁ := [])).symm)
  refine LE (E_append (enc := encCred) (v := (.slice (some ⟨b1, 0, none⟩) 0 0)) (vs := v_a0) (R := [(b1, Obj.cells (#[] : Array Value) 83 (0, 0))]) [] hST lenCred (by decide) oneCred Tryz.underlying22 info83.1 info83.2.1 rfl info83.2.2.1 info83.2.2.2 rfl rfl (Row.lit (l := []) (enc := encCred) rfl (by decide) rfl rfl) (h_a0.mono (Pl.mono _) hST.sub_hp) hb4 (fun W5 v8 R6 hST hR7 => ?_))
  refine LV (R_move (v := v_a1) rfl) ?_
  replace hST : ST true NoF w _ _ (R6 ++ []) := hST
  obtain ⟨l9, hb10, hm⟩ := bind_some hm
  refine LE (E_append (enc := encCred) (v := v8) (vs := v_a1) (R := R6) [] hST lenCred (by decide) oneCred Tryz.underlying22 info83.1 info83.2.1 rfl info83.2.2.1 info83.2.2.2 rfl rfl hR7 (h_a1.mono (Pl.mono _) hST.sub_hp) hb10 (fun W11 v14 R12 hST hR13 => ?_))
  refine LV (R_move (v := v_a2) rfl) ?_
  replace hST : ST true NoF w _ _ (R12 ++ []) := hST
  obtain ⟨l15, hb16, hm⟩ := bind_some hm
  refine LE (E_append (enc := encCred) (v := v14) (vs := v_a2) (R := R12) [] hST lenCred (by decide) oneCred Tryz.underlying22 info83.1 info83.2.1 rfl info83.2.2.1 info83.2.2.2 rfl rfl hR13 (h_a2.mono (Pl.mono _) hST.sub_hp) hb16 (fun W17 v20 R18 hST hR19 => ?_))
  refine LV (R_assign (v := v20) rfl) ?_
  refine LW_nil ?_
  refine sq_n ?_
  refine CW_seq ?_
  refine CW_seq ?_
  refine CW_region ?_
  refine LV (R_move (v := v20) rfl) ?_
  replace hST : ST true NoF w _ _ (R18 ++ []) := hST
  obtain ⟨r21, hr22, hm⟩ := bind_some hm
  refine LE (E_givesRow (args := [v20]) [] _ hST rfl Tryz.call49 (by exact args1 rfl) ((w_ref05_Set v20 l15 _ _ (hR19.sl lenCred (fun b o hq => hST.at_ (List.mem_append_left _ hq))) hr22)) (fun W23 v26 μ24 R27 hST hle25 hR28 => ?_))
  refine LV (R_lenRow Tryz.underlying22 rfl hR28) ?_
  refine LV (R_move (v := (.int .i64 0)) rfl) ?_
  refine LW_nil ?_
  refine sq_n ?_
  replace hST : ST true NoF w _ _ (R27 ++ (R18 ++ [])) := hST
  replace hST : ST true NoF w _ _ (R27 ++ []) := hST.sublist (List.Sublist.append (List.Sublist.refl _) ((List.Sublist.refl _).trans (List.sublist_append_right _ _)))
  refine CW_range (fun i E W => ∃ (v907 : Value) (l908 : List Cred) (R910 : List (Nat × Obj)) (L1131 : List (Nat × Obj)), (E 24 = .int .i64 (i : Nat) ∧ E 23 = .int .i64 (r21.length : Nat)) ∧ ST true NoF w W μ24 (R910 ++ (R27 ++ L1131)) ∧ E 0 = v_a0 ∧ E 1 = v_a1 ∧ E 2 = v_a2 ∧ E 7 = v907 ∧ E 22 = v26 ∧ Row 83 encCred 9 v907 l908 R910 ∧ m_ref41_Three_L1 a0 a1 a2 (r21.drop i) l908 = some r) r21.length hR28.len ⟨(.slice none 0 0), ([]), [], _, ⟨rfl, rfl⟩, (hST.sublist (List.Sublist.refl _)), rfl, rfl, rfl, rfl, rfl, (Row.nil _ _ _), hm⟩ (by decide) (by decide) (by decide) (fun _ _ _ h => by obtain ⟨_, _, _, _, eIN, _⟩ := h; exact eIN) ?_ ?_
  · rintro i689 E W hi695 ⟨v907, l908, R910, L1131, ⟨eI, eN⟩, hST, e1133, e1134, e1135, e1136, e1137, hs909, hm1132⟩
    obtain ⟨x690, xs691, hx693, hx692, hx694⟩ := drop_cons hi695
    rw [hx693] at hm1132
    rw [m_ref41_Three_L1] at hm1132
    refine CW_block ?_
    refine CW_seq ?_
    refine CW_region ?_
    refine LQ (R_indexRow (i := (i689 : Int)) (x0 := x690) Tryz.underlying22 Tryz.sizeOf83 e1137 eI hR28 (Int.natCast_nonneg _) hx692) (fun p1138 hp1139 => ?_)
    refine LV (R_load (v := (.agg (encCred x690).toArray)) rfl (load_ixA hST.has (fun p hq => by simp [hq]) hR28 lenCred hp1139 hx692 Tryz.isAgg83 Tryz.sizeOf83)) ?_
    refine LE (E_alloc hST Tryz.zeroValue83 (fun W1142 b1141 hST => ?_))
    refine LW_e0 (.inl rfl) rfl (E_store [] (.agg (encCred x690).toArray) ((encCred x690).toArray) hST rfl rfl Tryz.sizeOf83 (oneCred x690) (Nat.le_of_ble_eq_true rfl) rfl (fun W1143 hST => ?_))
    refine LW_nil ?_
    refine sq_n ?_
    refine CW_seq ?_
    refine PX_start (fun l W => Has μ24 ((b1141, Obj.cells ((encCred x690).toArray : Array Value) 83 (0, 0)) :: []) W) Tryz_mixed ?_
    replace hST := hST.drew
    replace hST : ST true NoF w _ _ ((b1141, Obj.cells ((encCred x690).toArray : Array Value) 83 (0, 0)) :: (R910 ++ (R27 ++ L1131))) := hST
    have hS0 : Has μ24 ((b1141, Obj.cells ((encCred x690).toArray : Array Value) 83 (0, 0)) :: []) _ := hST.has.sub (Sub.refl _) (fun p hq => ((List.mem_cons.1 hq).elim (fun hq => by rw [hq]; exact (.head _)) (fun hq => (absurd hq List.not_mem_nil))))
    refine PV 0 rfl hS0 (R_move (v := v_a0) e1133) ?_
    refine PX_v 1 rfl (by kernel_rfl) (.inl rfl) rfl (by decide) (fun _ _ h => h) hS0 (fun l W hpd hs => have hS := hs; R_load (v := (.agg (encCred x690).toArray)) rfl (load_boxA hS (.head _) (encCred x690) rfl Tryz.isAgg83 Tryz.sizeOf83)) ?_
    refine PV 3 rfl hS0 (R_move (v := v_a1) e1134) ?_
    refine PX_v 4 rfl (by kernel_rfl) (.inl rfl) rfl (by decide) (fun _ _ h => h) hS0 (fun l W hpd hs => have hS := hs; R_load (v := (.agg (encCred x690).toArray)) rfl (load_boxA hS (.head _) (encCred x690) rfl Tryz.isAgg83 Tryz.sizeOf83)) ?_
    refine PV 6 rfl hS0 (R_move (v := v_a2) e1135) ?_
    refine PX_v 7 rfl (by kernel_rfl) (.inl rfl) rfl (by decide) (fun _ _ h => h) hS0 (fun l W hpd hs => have hS := hs; R_load (v := (.agg (encCred x690).toArray)) rfl (load_boxA hS (.head _) (encCred x690) rfl Tryz.isAgg83 Tryz.sizeOf83)) ?_
    obtain ⟨r1162, hr1163, hm1132⟩ := bind_some hm1132
    refine PX_e 2 rfl (by kernel_rfl) (.inl rfl) rfl (by decide) (E_gives (args := [v_a0, (.agg (encCred x690).toArray)]) hST rfl Tryz.call73 (by exact args2 rfl rfl) ((w_ref05_Has v_a0 a0 x690 _ _ (h_a0.mono (Pl.mono _) (hle25.trans hST.sub_hp)) hr1163)) (fun W1164 hST => ?_))
    have hS0 : Has μ24 ((b1141, Obj.cells ((encCred x690).toArray : Array Value) 83 (0, 0)) :: []) _ := hST.has.sub (Sub.refl _) (fun p hq => ((List.mem_cons.1 hq).elim (fun hq => by rw [hq]; exact (.head _)) (fun hq => (absurd hq List.not_mem_nil))))
    refine ⟨hS0, ?_⟩
    obtain ⟨r1165, hr1166, hm1132⟩ := bind_some hm1132
    refine PX_e 5 rfl (by kernel_rfl) (.inl rfl) rfl (by decide) (E_gives (args := [v_a1, (.agg (encCred x690).toArray)]) hST rfl Tryz.call73 (by exact args2 rfl rfl) ((w_ref05_Has v_a1 a1 x690 _ _ (h_a1.mono (Pl.mono _) (hle25.trans hST.sub_hp)) hr1166)) (fun W1167 hST => ?_))
    have hS0 : Has μ24 ((b1141, Obj.cells ((encCred x690).toArray : Array Value) 83 (0, 0)) :: []) _ := hST.has.sub (Sub.refl _) (fun p hq => ((List.mem_cons.1 hq).elim (fun hq => by rw [hq]; exact (.head _)) (fun hq => (absurd hq List.not_mem_nil))))
    refine ⟨hS0, ?_⟩
    obtain ⟨r1168, hr1169, hm1132⟩ := bind_some hm1132
    refine PX_e 8 rfl (by kernel_rfl) (.inl rfl) rfl (by decide) (E_gives (args := [v_a2, (.agg (encCred x690).toArray)]) hST rfl Tryz.call73 (by exact args2 rfl rfl) ((w_ref05_Has v_a2 a2 x690 _ _ (h_a2.mono (Pl.mono _) (hle25.trans hST.sub_hp)) hr1169)) (fun W1170 hST => ?_))
    have hS0 : Has μ24 ((b1141, Obj.cells ((encCred x690).toArray : Array Value) 83 (0, 0)) :: []) _ := hST.has.sub (Sub.refl _) (fun p hq => ((List.mem_cons.1 hq).elim (fun hq => by rw [hq]; exact (.head _)) (fun hq => (absurd hq List.not_mem_nil))))
    refine ⟨hS0, ?_⟩
    refine PV 9 rfl hS0 (R_assign (v := (.bool r1162)) rfl) ?_
    refine PV 10 rfl hS0 (R_assign (v := (.bool r1165)) rfl) ?_
    refine PV 11 rfl hS0 (R_assign (v := (.bool r1168)) rfl) ?_
    refine PX_done (by kernel_rfl) ?_
    refine sq_n ?_
    refine CW_seq ?_
    refine CW_region ?_
    refine LV (R_move (v := (.bool r1162)) rfl) ?_
    refine LV (R_move (v := (.bool r1162)) rfl) ?_
    obtain ⟨s1345, hm1346, hm1347⟩ := bind_some hm1132
    refine LW_join (J := fun E W => ∃ (x1172 : Bool) (L1173 : List (Nat × Obj)), ST true NoF w W μ24 ((b1141, Obj.cells ((encCred x690).toArray : Array Value) 83 (0, 0)) :: (R910 ++ (R27 ++ L1173))) ∧ E 0 = v_a0 ∧ E 1 = v_a1 ∧ E 2 = v_a2 ∧ E 7 = v907 ∧ E 10 = (.pointer (some ⟨b1141, 0, none⟩)) ∧ E 11 = (.bool r1162) ∧ E 12 = (.bool r1165) ∧ E 13 = (.bool r1168) ∧ E 22 = v26 ∧ E 23 = (.int .i64 ((r21.length : Int))) ∧ E 24 = (.int .i64 ((i689 : Int))) ∧ E 40 = (.bool x1172) ∧ (((if x1172 then some r1168 else some false) : Option Bool).bind fun x1188 => (((if x1188 then some true else (((if (!r1162) then (((if r1165 then some true else some r1168) : Option Bool).bind fun x1323 => some x1323) else some false) : Option Bool).bind fun x1305 => some x1305)) : Option Bool).bind fun x1260 => (if x1260 then (((appB 136 l908 ([x690]))).bind fun l1275 => (m_ref41_Three_L1 a0 a1 a2 xs691 l1275)) else (m_ref41_Three_L1 a0 a1 a2 xs691 l908)))) = some r) 2 ?_ (fun key1348 => ?_)
    · rintro E W ⟨x1172, L1173, hST, e1175, e1176, e1177, e1178, e1179, e1180, e1181, e1182, e1183, e1184, e1185, e1186, hm1174⟩
      refine LV (R_move (v := (.bool x1172)) e1186) ?_
      obtain ⟨s1341, hm1342, hm1343⟩ := bind_some hm1174
      refine LW_join (J := fun E W => ∃ (x1188 : Bool) (L1189 : List (Nat × Obj)), ST true NoF w W μ24 ((b1141, Obj.cells ((encCred x690).toArray : Array Value) 83 (0, 0)) :: (R910 ++ (R27 ++ L1189))) ∧ E 0 = v_a0 ∧ E 1 = v_a1 ∧ E 2 = v_a2 ∧ E 7 = v907 ∧ E 10 = (.pointer (some ⟨b1141, 0, none⟩)) ∧ E 11 = (.bool r1162) ∧ E 12 = (.bool r1165) ∧ E 13 = (.bool r1168) ∧ E 22 = v26 ∧ E 23 = (.int .i64 ((r21.length : Int))) ∧ E 24 = (.int .i64 ((i689 : Int))) ∧ E 43 = (.bool x1188) ∧ (((if x1188 then some true else (((if (!r1162) then (((if r1165 then some true else some r1168) : Option Bool).bind fun x1323 => some x1323) else some false) : Option Bool).bind fun x1305 => some x1305)) : Option Bool).bind fun x1260 => (if x1260 then (((appB 136 l908 ([x690]))).bind fun l1275 => (m_ref41_Three_L1 a0 a1 a2 xs691 l1275)) else (m_ref41_Three_L1 a0 a1 a2 xs691 l908))) = some r) 2 ?_ (fun key1344 => ?_)
      · rintro E W ⟨x1188, L1189, hST, e1191, e1192, e1193, e1194, e1195, e1196, e1197, e1198, e1199, e1200, e1201, e1202, hm1190⟩
        refine LV (R_move (v := (.bool x1188)) e1202) ?_
        obtain ⟨s1281, hm1282, hm1283⟩ := bind_some hm1190
        refine LW_join (J := fun E W => ∃ (x1260 : Bool) (L1261 : List (Nat × Obj)), ST true NoF w W μ24 ((b1141, Obj.cells ((encCred x690).toArray : Array Value) 83 (0, 0)) :: (R910 ++ (R27 ++ L1261))) ∧ E 0 = v_a0 ∧ E 1 = v_a1 ∧ E 2 = v_a2 ∧ E 7 = v907 ∧ E 10 = (.pointer (some ⟨b1141, 0, none⟩)) ∧ E 22 = v26 ∧ E 23 = (.int .i64 ((r21.length : Int))) ∧ E 24 = (.int .i64 ((i689 : Int))) ∧ E 53 = (.bool x1260) ∧ (if x1260 then (((appB 136 l908 ([x690]))).bind fun l1275 => (m_ref41_Three_L1 a0 a1 a2 xs691 l1275)) else (m_ref41_Three_L1 a0 a1 a2 xs691 l908)) = some r) 9 ?_ (fun key1284 => ?_)
        · rintro E W ⟨x1260, L1261, hST, e1263, e1264, e1265, e1266, e1267, e1268, e1269, e1270, e1271, hm1262⟩
          refine LW_nil ?_
          refine sq_n ?_
          refine CW_if (b := x1260) e1271 (fun hb1272 => ?_) (fun hb1272 => ?_)
          · replace hm1262 := if_t hb1272 hm1262
            refine CW_region ?_
            refine LV (R_move (v := v907) e1266) ?_
            refine LV (R_load (v := (.agg (encCred x690).toArray)) e1267 (load_boxA hST.has (.head _) (encCred x690) rfl Tryz.isAgg83 Tryz.sizeOf83)) ?_
            refine LE (E_buildSlice (qs := #[(0, (.agg (encCred x690).toArray))]) (cs := (encCred x690).toArray) hST (parts1 rfl) (run_lit [(.agg (encCred x690).toArray)] Tryz.underlying22 Tryz.sizeOf83 Tryz.zeroValue83 (by decide) rfl (by intro v hv; simp only [List.mem_cons, List.not_mem_nil, or_false] at hv; rcases hv with rfl <;> rfl) rfl rfl) (fun W1274 b1273 hST => ?_))
            obtain ⟨l1275, hb1276, hm1262⟩ := bind_some hm1262
            refine LE (E_append (enc := encCred) (v := v907) (vs := (.slice (some ⟨b1273, 0, none⟩) 1 1)) (R := R910) [_, _] hST lenCred (by decide) oneCred Tryz.underlying22 info83.1 info83.2.1 rfl info83.2.2.1 info83.2.2.2 rfl rfl hs909 (Sl.lit (enc := encCred) (l := [x690]) lenCred rfl (Nat.le_of_ble_eq_true rfl) rfl (hST.at_ (.head _))) hb1276 (fun W1277 v1280 R1278 hST hR1279 => ?_))
            refine LV (R_assign (v := v1280) rfl) ?_
            refine LW_nil ?_
            refine bq_n ?_
            refine sq_n ?_
            replace hST : ST true NoF w _ _ ((b1273, Obj.cells ((encCred x690).toArray : Array Value) 83 (0, 0)) :: ((b1141, Obj.cells ((encCred x690).toArray : Array Value) 83 (0, 0)) :: (R1278 ++ (R27 ++ L1261)))) := hST
            replace hST : ST true NoF w _ _ (R1278 ++ (R27 ++ L1261)) := hST.sublist (List.Sublist.cons _ (List.Sublist.cons _ (List.Sublist.refl _)))
            exact ⟨e1270, v1280, l1275, R1278, _, ⟨rfl, e1269⟩, (hST.sublist (List.Sublist.refl _)), e1263, e1264, e1265, rfl, e1268, hR1279, (by rw [hx694]; exact hm1262)⟩
          · replace hm1262 := if_f hb1272 hm1262
            refine CW_skip ?_
            refine bq_n ?_
            refine sq_n ?_
            replace hST : ST true NoF w _ _ (R910 ++ (R27 ++ L1261)) := hST.sublist (List.Sublist.cons _ (List.Sublist.refl _))
            exact ⟨e1270, v907, l908, R910, _, ⟨rfl, e1269⟩, (hST.sublist (List.Sublist.refl _)), e1263, e1264, e1265, e1266, e1268, hs909, (by rw [hx694]; exact hm1262)⟩
        · rcases bool_cases x1188 with hb1203 | hb1203
          · replace hm1282 := if_t hb1203 hm1282
            refine LW_no rfl (by decide) rfl rfl (by decide) (congrArg Value.bool hb1203) ?_
            refine LW_no rfl (by decide) rfl rfl (by decide) (congrArg Value.bool hb1203) ?_
            refine LW_no rfl (by decide) rfl rfl (by decide) (congrArg Value.bool hb1203) ?_
            refine LW_nou rfl (by decide) rfl rfl (by decide) rfl ?_
            refine LW_nou rfl (by decide) rfl rfl (by decide) rfl ?_
            refine LW_nou rfl (by decide) rfl rfl (by decide) rfl ?_
            refine LW_nou rfl (by decide) rfl rfl (by decide) rfl ?_
            refine LW_no rfl (by decide) rfl rfl (by decide) (congrArg Value.bool hb1203) ?_
            refine LV (R_pickT (v := (.bool true)) (congrArg Value.bool hb1203) rfl) ?_
            replace hm1282 := Option.some.inj hm1282; subst hm1282
            exact key1284 _ _ ⟨true, _, (hST.sublist (List.Sublist.refl _)), e1191, e1192, e1193, e1194, e1195, e1199, e1200, e1201, rfl, hm1283⟩
          · replace hm1282 := if_f hb1203 hm1282
            refine LW_v (.inr ⟨7, false, 44, rfl, rfl, by decide, (congrArg Value.bool hb1203)⟩) rfl (by decide) (R_move (v := (.bool r1162)) e1196) ?_
            refine LW_v (.inr ⟨7, false, 44, rfl, rfl, by decide, (congrArg Value.bool hb1203)⟩) rfl (by decide) (R_not (b := r1162) rfl) ?_
            refine LW_v (.inr ⟨7, false, 44, rfl, rfl, by decide, (congrArg Value.bool hb1203)⟩) rfl (by decide) (R_move (v := (.bool ((!r1162)))) rfl) ?_
            obtain ⟨s1318, hm1319, hm1320⟩ := bind_some hm1282
            refine LW_join (J := fun E W => ∃ (x1305 : Bool) (L1306 : List (Nat × Obj)), ST true NoF w W μ24 ((b1141, Obj.cells ((encCred x690).toArray : Array Value) 83 (0, 0)) :: (R910 ++ (R27 ++ L1306))) ∧ E 0 = v_a0 ∧ E 1 = v_a1 ∧ E 2 = v_a2 ∧ E 7 = v907 ∧ E 10 = (.pointer (some ⟨b1141, 0, none⟩)) ∧ E 22 = v26 ∧ E 23 = (.int .i64 ((r21.length : Int))) ∧ E 24 = (.int .i64 ((i689 : Int))) ∧ E 44 = (.bool x1188) ∧ E 52 = (.bool x1305) ∧ some x1305 = some s1281) 5 ?_ (fun key1321 => ?_)
            · rintro E W ⟨x1305, L1306, hST, e1308, e1309, e1310, e1311, e1312, e1313, e1314, e1315, e1316, e1317, hm1307⟩
              refine LV (R_pickF (v := (.bool x1305)) (e1316.trans (congrArg Value.bool hb1203)) e1317) ?_
              replace hm1307 := Option.some.inj hm1307; subst hm1307
              exact key1284 _ _ ⟨x1305, _, (hST.sublist (List.Sublist.refl _)), e1308, e1309, e1310, e1311, e1312, e1313, e1314, e1315, rfl, hm1283⟩
            · rcases bool_cases ((!r1162)) with hb1285 | hb1285
              · replace hm1319 := if_t hb1285 hm1319
                refine LW_v (.inr ⟨10, true, 47, rfl, rfl, by decide, (congrArg Value.bool hb1285)⟩) rfl (by decide) (R_move (v := (.bool r1165)) e1197) ?_
                refine LW_v (.inr ⟨10, true, 47, rfl, rfl, by decide, (congrArg Value.bool hb1285)⟩) rfl (by decide) (R_move (v := (.bool r1165)) rfl) ?_
                obtain ⟨s1337, hm1338, hm1339⟩ := bind_some hm1319
                refine LW_join (J := fun E W => ∃ (x1323 : Bool) (L1324 : List (Nat × Obj)), ST true NoF w W μ24 ((b1141, Obj.cells ((encCred x690).toArray : Array Value) 83 (0, 0)) :: (R910 ++ (R27 ++ L1324))) ∧ E 0 = v_a0 ∧ E 1 = v_a1 ∧ E 2 = v_a2 ∧ E 7 = v907 ∧ E 10 = (.pointer (some ⟨b1141, 0, none⟩)) ∧ E 22 = v26 ∧ E 23 = (.int .i64 ((r21.length : Int))) ∧ E 24 = (.int .i64 ((i689 : Int))) ∧ E 44 = (.bool x1188) ∧ E 47 = (.bool ((!r1162))) ∧ E 51 = (.bool x1323) ∧ some x1323 = some s1318) 2 ?_ (fun key1340 => ?_)
                · rintro E W ⟨x1323, L1324, hST, e1326, e1327, e1328, e1329, e1330, e1331, e1332, e1333, e1334, e1335, e1336, hm1325⟩
                  refine LW_v (.inr ⟨7, false, 44, rfl, rfl, by decide, (e1334.trans (congrArg Value.bool hb1203))⟩) rfl (by decide) (R_pickT (v := (.bool x1323)) (e1335.trans (congrArg Value.bool hb1285)) e1336) ?_
                  replace hm1325 := Option.some.inj hm1325; subst hm1325
                  exact key1321 _ _ ⟨x1323, _, (hST.sublist (List.Sublist.refl _)), e1326, e1327, e1328, e1329, e1330, e1331, e1332, e1333, e1334, rfl, hm1320⟩
                · rcases bool_cases r1165 with hb1322 | hb1322
                  · replace hm1338 := if_t hb1322 hm1338
                    refine LW_no rfl (by decide) rfl rfl (by decide) (congrArg Value.bool hb1322) ?_
                    refine LW_v (.inr ⟨10, true, 47, rfl, rfl, by decide, (congrArg Value.bool hb1285)⟩) rfl (by decide) (R_pickT (v := (.bool true)) (congrArg Value.bool hb1322) rfl) ?_
                    replace hm1338 := Option.some.inj hm1338; subst hm1338
                    exact key1340 _ _ ⟨true, _, (hST.sublist (List.Sublist.refl _)), e1191, e1192, e1193, e1194, e1195, e1199, e1200, e1201, rfl, rfl, rfl, hm1339⟩
                  · replace hm1338 := if_f hb1322 hm1338
                    refine LW_v (.inr ⟨12, false, 49, rfl, rfl, by decide, (congrArg Value.bool hb1322)⟩) rfl (by decide) (R_move (v := (.bool r1168)) e1198) ?_
                    refine LW_v (.inr ⟨10, true, 47, rfl, rfl, by decide, (congrArg Value.bool hb1285)⟩) rfl (by decide) (R_pickF (v := (.bool r1168)) (congrArg Value.bool hb1322) rfl) ?_
                    replace hm1338 := Option.some.inj hm1338; subst hm1338
                    exact key1340 _ _ ⟨r1168, _, (hST.sublist (List.Sublist.refl _)), e1191, e1192, e1193, e1194, e1195, e1199, e1200, e1201, rfl, rfl, rfl, hm1339⟩
              · replace hm1319 := if_f hb1285 hm1319
                refine LW_no rfl (by decide) rfl rfl (by decide) (congrArg Value.bool hb1285) ?_
                refine LW_no rfl (by decide) rfl rfl (by decide) (congrArg Value.bool hb1285) ?_
                refine LW_nou rfl (by decide) rfl rfl (by decide) rfl ?_
                refine LW_no rfl (by decide) rfl rfl (by decide) (congrArg Value.bool hb1285) ?_
                refine LW_v (.inr ⟨7, false, 44, rfl, rfl, by decide, (congrArg Value.bool hb1203)⟩) rfl (by decide) (R_pickF (v := (.bool false)) (congrArg Value.bool hb1285) rfl) ?_
                replace hm1319 := Option.some.inj hm1319; subst hm1319
                exact key1321 _ _ ⟨false, _, (hST.sublist (List.Sublist.refl _)), e1191, e1192, e1193, e1194, e1195, e1199, e1200, e1201, rfl, rfl, hm1320⟩
      · rcases bool_cases x1172 with hb1187 | hb1187
        · replace hm1342 := if_t hb1187 hm1342
          refine LW_v (.inr ⟨4, true, 41, rfl, rfl, by decide, (congrArg Value.bool hb1187)⟩) rfl (by decide) (R_move (v := (.bool r1168)) e1182) ?_
          refine LV (R_pickT (v := (.bool r1168)) (congrArg Value.bool hb1187) rfl) ?_
          replace hm1342 := Option.some.inj hm1342; subst hm1342
          exact key1344 _ _ ⟨r1168, _, (hST.sublist (List.Sublist.refl _)), e1175, e1176, e1177, e1178, e1179, e1180, e1181, e1182, e1183, e1184, e1185, rfl, hm1343⟩
        · replace hm1342 := if_f hb1187 hm1342
          refine LW_no rfl (by decide) rfl rfl (by decide) (congrArg Value.bool hb1187) ?_
          refine LV (R_pickF (v := (.bool false)) (congrArg Value.bool hb1187) rfl) ?_
          replace hm1342 := Option.some.inj hm1342; subst hm1342
          exact key1344 _ _ ⟨false, _, (hST.sublist (List.Sublist.refl _)), e1175, e1176, e1177, e1178, e1179, e1180, e1181, e1182, e1183, e1184, e1185, rfl, hm1343⟩
    · rcases bool_cases r1162 with hb1171 | hb1171
      · replace hm1346 := if_t hb1171 hm1346
        refine LW_v (.inr ⟨1, true, 38, rfl, rfl, by decide, (congrArg Value.bool hb1171)⟩) rfl (by decide) (R_move (v := (.bool r1165)) rfl) ?_
        refine LV (R_pickT (v := (.bool r1165)) (congrArg Value.bool hb1171) rfl) ?_
        replace hm1346 := Option.some.inj hm1346; subst hm1346
        exact key1348 _ _ ⟨r1165, _, (hST.sublist (List.Sublist.refl _)), e1133, e1134, e1135, e1136, rfl, rfl, rfl, rfl, e1137, eN, eI, rfl, hm1347⟩
      · replace hm1346 := if_f hb1171 hm1346
        refine LW_no rfl (by decide) rfl rfl (by decide) (congrArg Value.bool hb1171) ?_
        refine LV (R_pickF (v := (.bool false)) (congrArg Value.bool hb1171) rfl) ?_
        replace hm1346 := Option.some.inj hm1346; subst hm1346
        exact key1348 _ _ ⟨false, _, (hST.sublist (List.Sublist.refl _)), e1133, e1134, e1135, e1136, rfl, rfl, rfl, rfl, e1137, eN, eI, rfl, hm1347⟩
  · rintro E W ⟨v907, l908, R910, L1131, ⟨eI, eN⟩, hST, e1133, e1134, e1135, e1136, e1137, hs909, hm1132⟩
    rw [List.drop_length] at hm1132
    rw [m_ref41_Three_L1] at hm1132
    refine sq_n ?_
    replace hST : ST true NoF w _ _ (R910 ++ L1131) := hST.sublist (List.Sublist.append (List.Sublist.refl _) ((List.Sublist.refl _).trans (List.sublist_append_right _ _)))
    refine CW_seq ?_
    refine CW_region ?_
    refine LV (R_move (v := v907) e1136) ?_
    refine LV (R_assign (v := v907) rfl) ?_
    refine LW_nil ?_
    refine sq_n ?_
    refine CW_ret ?_
    replace hm1132 := Option.some.inj hm1132; subst hm1132
    refine retQ_1 (v := v907) rfl rfl ?_
    exact ⟨_, R910, rfl, hST.backRow (fun p hq => by simp [hq]) hs909.nd, hs909⟩
theorem w_ref05_Same (v_a0 : Value) (a0 : List Cred) (v_a1 : Value) (a1 : List Cred) (r : Bool) (w : World) (h_a0 : Sl (Pl encCred) 9 (hp w) v_a0 a0) (h_a1 : Sl (Pl encCred) 9 (hp w) v_a1 a1) (hm : m_ref05_Same a0 a1 = some r) :
    Gives true Tryz.prog 24 [v_a0, v_a1] w (.bool r) := by
  have hST := ST.start (dd := true) w
  unfold m_ref05_Same at hm
  refine calls_of_CW (n := 26) Tryz.func24 rfl rfl (Nat.le_of_ble_eq_true rfl) ?_
  refine CW_seq ?_
  refine CW_region ?_
  refine LV (R_assign (v := (.bool false)) rfl) ?_
  refine LW_nil ?_
  refine sq_n ?_
  refine CW_seq ?_
  refine CW_seq ?_
  refine CW_region ?_
  refine LV (R_move (v := v_a0) rfl) ?_
  refine LV (R_len Tryz.underlying22 rfl h_a0) ?_
  refine LV (R_move (v := v_a1) rfl) ?_
  refine LV (R_len Tryz.underlying22 rfl h_a1) ?_
  refine LV (R_int (k := .i64) (a := ((a0.length : Int))) (b := ((a1.length : Int))) (v := (.bool ((((a0.length : Int)) != ((a1.length : Int)))))) rfl rfl rfl) ?_
  refine LW_nil ?_
  refine sq_n ?_
  refine CW_if (b := (((a0.length : Int)) != ((a1.length : Int)))) rfl (fun hb1 => ?_) (fun hb1 => ?_)
  · replace hm := if_t hb1 hm
    refine CW_seq ?_
    refine CW_region ?_
    refine LV (R_assign (v := (.bool false)) rfl) ?_
    refine LW_nil ?_
    refine sq_n ?_
    refine CW_ret ?_
    refine sq_r ?_
    replace hm := Option.some.inj hm; subst hm
    refine retQ_1 (v := (.bool false)) rfl rfl ?_
    exact ⟨rfl, hST.ex⟩
  · replace hm := if_f hb1 hm
    refine CW_skip ?_
    refine sq_n ?_
    refine CW_seq ?_
    refine CW_seq ?_
    refine CW_region ?_
    refine LV (R_move (v := v_a0) rfl) ?_
    refine LV (R_len Tryz.underlying22 rfl h_a0) ?_
    refine LV (R_move (v := (.int .i64 0)) rfl) ?_
    refine LW_nil ?_
    refine sq_n ?_
    refine CW_range (fun i E W => ∃  (L149 : List (Nat × Obj)), (E 13 = .int .i64 (i : Nat) ∧ E 12 = .int .i64 (a0.length : Nat)) ∧ ST true NoF w W (hp w) L149 ∧ E 0 = v_a0 ∧ E 1 = v_a1 ∧ m_ref05_Same_L1 a1 (a0.drop i) i = some r) a0.length h_a0.len ⟨_, ⟨rfl, rfl⟩, (hST.sublist (List.Sublist.refl _)), rfl, rfl, hm⟩ (by decide) (by decide) (by decide) (fun _ _ _ h => by obtain ⟨_, eIN, _⟩ := h; exact eIN) ?_ ?_
    · rintro i90 E W hi96 ⟨L149, ⟨eI, eN⟩, hST, e151, e152, hm150⟩
      obtain ⟨x91, xs92, hx94, hx93, hx95⟩ := drop_cons hi96
      rw [hx94] at hm150
      rw [m_ref05_Same_L1] at hm150
      refine CW_block ?_
      refine CW_seq ?_
      refine CW_region ?_
      refine LV (R_move (v := (.int .i64 ((i90 : Int)))) eI) ?_
      refine LV (R_assign (v := (.int .i64 ((i90 : Int)))) rfl) ?_
      refine LW_nil ?_
      refine sq_n ?_
      refine CW_seq ?_
      refine PX_start (fun l W => Has (hp w) [] W) Tryz_mixed ?_
      replace hST := hST.drew
      have hS0 : Has (hp w) [] _ := hST.has.sub (Sub.refl _) (fun p hq => (absurd hq List.not_mem_nil))
      refine PV 0 rfl hS0 (R_move (v := v_a0) e151) ?_
      refine PV 1 rfl hS0 (R_move (v := (.int .i64 ((i90 : Int)))) rfl) ?_
      refine PX_q 2 rfl (by kernel_rfl) (.inl rfl) rfl (by decide) (fun _ _ h => h) hS0 (R_indexP (enc := encCred) (i := (i90 : Int)) (x0 := x91) Tryz.underlying22 Tryz.sizeOf83 rfl rfl h_a0 (Int.natCast_nonneg _) hx93) (fun p169 hp170 => ?_)
      refine PX_v 3 rfl (by kernel_rfl) (.inl rfl) rfl (by decide) (fun _ _ h => h) hS0 (fun l W hpd hs => have hS := hs; R_load rfl (load_atA hS hp170 Tryz.isAgg83 Tryz.sizeOf83)) ?_
      refine PV 4 rfl hS0 (R_move (v := v_a1) e152) ?_
      refine PV 5 rfl hS0 (R_move (v := (.int .i64 ((i90 : Int)))) rfl) ?_
      obtain ⟨x175, hx176, hm150⟩ := bind_some hm150
      refine PX_q 6 rfl (by kernel_rfl) (.inl rfl) rfl (by decide) (fun _ _ h => h) hS0 (R_indexP (enc := encCred) (i := (i90 : Int)) (x0 := x175) Tryz.underlying22 Tryz.sizeOf83 rfl rfl h_a1 (idx_nonneg hx176) (idx_get hx176)) (fun p172 hp173 => ?_)
      refine PX_v 7 rfl (by kernel_rfl) (.inl rfl) rfl (by decide) (fun _ _ h => h) hS0 (fun l W hpd hs => have hS := hs; R_load rfl (load_atA hS hp173 Tryz.isAgg83 Tryz.sizeOf83)) ?_
      refine PV 8 rfl hS0 (R_neq (a := (encCred x91).toArray) (b := (encCred x175).toArray) rfl rfl (guard_agg Tryz.eqGuardType83) (bin_neq (eqInCred _ x91 x175))) ?_
      refine PX_done (by kernel_rfl) ?_
      refine sq_n ?_
      refine CW_if (b := (!(beqCred x91 x175))) rfl (fun hb177 => ?_) (fun hb177 => ?_)
      · replace hm150 := if_t hb177 hm150
        refine CW_seq ?_
        refine CW_region ?_
        refine LV (R_assign (v := (.bool false)) rfl) ?_
        refine LW_nil ?_
        refine sq_n ?_
        refine CW_ret ?_
        refine bq_r (sq_r (bq_r (sq_r ?_)))
        replace hm150 := Option.some.inj hm150; subst hm150
        refine retQ_1 (v := (.bool false)) rfl rfl ?_
        exact ⟨rfl, hST.ex⟩
      · replace hm150 := if_f hb177 hm150
        refine CW_skip ?_
        refine bq_n ?_
        refine sq_n ?_
        exact ⟨eI, _, ⟨rfl, eN⟩, (hST.sublist (List.Sublist.refl _)), e151, e152, (by rw [hx95]; exact hm150)⟩
    · rintro E W ⟨L149, ⟨eI, eN⟩, hST, e151, e152, hm150⟩
      rw [List.drop_length] at hm150
      rw [m_ref05_Same_L1] at hm150
      refine sq_n ?_
      refine CW_seq ?_
      refine CW_region ?_
      refine LV (R_assign (v := (.bool true)) rfl) ?_
      refine LW_nil ?_
      refine sq_n ?_
      refine CW_ret ?_
      replace hm150 := Option.some.inj hm150; subst hm150
      refine retQ_1 (v := (.bool true)) rfl rfl ?_
      exact ⟨rfl, hST.ex⟩
theorem w_ref03_Set (v_a0 : Value) (a0 : List ByteArray) (r : List ByteArray) (w : World) (h_a0 : Sl (Pl encSk) 1 (hp w) v_a0 a0) (hm : m_ref03_Set a0 = some r) :
    GivesRow true Tryz.prog 76 [v_a0] w 9 encSk 1 r := by
  have hST := ST.start (dd := true) w
  unfold m_ref03_Set at hm
  refine calls_of_CW (n := 48) Tryz.func76 rfl rfl (Nat.le_of_ble_eq_true rfl) ?_
  refine CW_seq ?_
  refine CW_region ?_
  refine LV (R_assign (v := (.slice none 0 0)) rfl) ?_
  refine LW_nil ?_
  refine sq_n ?_
  refine CW_seq ?_
  refine CW_region ?_
  refine LV (R_assign (v := (.slice none 0 0)) rfl) ?_
  refine LW_nil ?_
  refine sq_n ?_
  refine CW_tail ?_
  refine CW_block (CW_loop (fun m E W => ∃ (v3288 : Value) (l3289 : List ByteArray) (R3291 : List (Nat × Obj)) (L4116 : List (Nat × Obj)), ST true NoF w W (hp w) (R3291 ++ L4116) ∧ E 0 = v_a0 ∧ E 3 = v3288 ∧ Row 9 encSk 1 v3288 l3289 R3291 ∧ m_ref03_Set_L1 a0 m l3289 = some r) FUEL ⟨(.slice none 0 0), ([]), [], _, (hST.sublist (List.Sublist.refl _)), rfl, rfl, (Row.nil _ _ _), hm⟩ ?_)
  rintro m E W ⟨v3288, l3289, R3291, L4116, hST, e4119, e4120, hs3290, hm4117⟩
  cases m with
  | zero => rw [m_ref03_Set_L1] at hm4117; cases hm4117
  | succ n4118 =>
    rw [m_ref03_Set_L1] at hm4117
    refine CW_block ?_
    refine CW_seq ?_
    refine CW_region ?_
    refine LV (R_assign (v := (.string zS)) rfl) ?_
    refine LW_nil ?_
    refine sq_n ?_
    refine CW_seq ?_
    refine CW_seq ?_
    refine CW_region ?_
    refine LV (R_move (v := v_a0) e4119) ?_
    refine LV (R_len Tryz.underlying27 rfl h_a0) ?_
    refine LV (R_move (v := (.int .i64 0)) rfl) ?_
    refine LW_nil ?_
    refine sq_n ?_
    obtain ⟨s4536, hm4537, hm4538⟩ := bind_some hm4117
    refine CW_cut (fun E W => ∃ (x4521 : ByteArray) (L4522 : List (Nat × Obj)), ST true NoF w W (hp w) (R3291 ++ L4522) ∧ E 0 = v_a0 ∧ E 3 = v3288 ∧ E 4 = (.string x4521) ∧ (if (beqS x4521 zS) then some l3289 else (((appB 16 l3289 ([x4521]))).bind fun l4530 => (m_ref03_Set_L1 a0 n4118 l4530))) = some r) ?_ ?_
    · refine CW_range (fun i E W => ∃ (x4673 : ByteArray) (L4806 : List (Nat × Obj)), (E 9 = .int .i64 (i : Nat) ∧ E 8 = .int .i64 (a0.length : Nat)) ∧ ST true NoF w W (hp w) (R3291 ++ L4806) ∧ E 0 = v_a0 ∧ E 3 = v3288 ∧ E 4 = (.string x4673) ∧ E 7 = v_a0 ∧ m_ref03_Set_L2 l3289 (a0.drop i) x4673 = some s4536) a0.length h_a0.len ⟨zS, _, ⟨rfl, rfl⟩, (hST.sublist (List.Sublist.refl _)), e4119, e4120, rfl, rfl, hm4537⟩ (by decide) (by decide) (by decide) (fun _ _ _ h => by obtain ⟨_, _, eIN, _⟩ := h; exact eIN) ?_ ?_
      · rintro i4539 E W hi4545 ⟨x4673, L4806, ⟨eI, eN⟩, hST, e4808, e4809, e4810, e4811, hm4807⟩
        obtain ⟨x4540, xs4541, hx4543, hx4542, hx4544⟩ := drop_cons hi4545
        rw [hx4543] at hm4807
        rw [m_ref03_Set_L2] at hm4807
        refine CW_block ?_
        refine CW_seq ?_
        refine CW_region ?_
        refine LQ (R_indexP (enc := encSk) (i := (i4539 : Int)) (x0 := x4540) Tryz.underlying27 Tryz.sizeOf9 e4811 eI h_a0 (Int.natCast_nonneg _) hx4542) (fun p4812 hp4813 => ?_)
        refine LV (R_load rfl (load_at1 hST.has (y := (.string x4540)) hp4813 Tryz.isAgg9)) ?_
        refine LV (R_assign (v := (.string x4540)) rfl) ?_
        refine LW_nil ?_
        refine sq_n ?_
        refine CW_seq ?_
        refine CW_region ?_
        refine LV (R_move (v := (.string x4540)) rfl) ?_
        obtain ⟨r4815, hr4816, hm4807⟩ := bind_some hm4807
        refine LE (E_gives (args := [(.string x4540)]) hST rfl Tryz.call108 (by exact args1 rfl) ((w_ref03_Right x4540 _ _  hr4816)) (fun W4817 hST => ?_))
        refine LV (R_move (v := (.bool r4815)) rfl) ?_
        obtain ⟨s4908, hm4909, hm4910⟩ := bind_some hm4807
        refine LW_join (J := fun E W => ∃ (x4846 : Bool) (L4847 : List (Nat × Obj)), ST true NoF w W (hp w) (R3291 ++ L4847) ∧ E 0 = v_a0 ∧ E 3 = v3288 ∧ E 4 = (.string x4673) ∧ E 6 = (.string x4540) ∧ E 7 = v_a0 ∧ E 8 = (.int .i64 ((a0.length : Int))) ∧ E 9 = (.int .i64 ((i4539 : Int))) ∧ E 29 = (.bool x4846) ∧ (((if x4846 then (((if (beqS x4673 zS) then some true else some ((ltS x4540 x4673))) : Option Bool).bind fun x4892 => some x4892) else some false) : Option Bool).bind fun x4875 => (if x4875 then (m_ref03_Set_L2 l3289 xs4541 x4540) else (m_ref03_Set_L2 l3289 xs4541 x4673))) = some s4536) 14 ?_ (fun key4911 => ?_)
        · rintro E W ⟨x4846, L4847, hST, e4849, e4850, e4851, e4852, e4853, e4854, e4855, e4856, hm4848⟩
          refine LV (R_move (v := (.bool x4846)) e4856) ?_
          obtain ⟨s4887, hm4888, hm4889⟩ := bind_some hm4848
          refine LW_join (J := fun E W => ∃ (x4875 : Bool) (L4876 : List (Nat × Obj)), ST true NoF w W (hp w) (R3291 ++ L4876) ∧ E 0 = v_a0 ∧ E 3 = v3288 ∧ E 4 = (.string x4673) ∧ E 6 = (.string x4540) ∧ E 7 = v_a0 ∧ E 8 = (.int .i64 ((a0.length : Int))) ∧ E 9 = (.int .i64 ((i4539 : Int))) ∧ E 38 = (.bool x4875) ∧ (if x4875 then (m_ref03_Set_L2 l3289 xs4541 x4540) else (m_ref03_Set_L2 l3289 xs4541 x4673)) = some s4536) 8 ?_ (fun key4890 => ?_)
          · rintro E W ⟨x4875, L4876, hST, e4878, e4879, e4880, e4881, e4882, e4883, e4884, e4885, hm4877⟩
            refine LW_nil ?_
            refine sq_n ?_
            refine CW_if (b := x4875) e4885 (fun hb4886 => ?_) (fun hb4886 => ?_)
            · replace hm4877 := if_t hb4886 hm4877
              refine CW_region ?_
              refine LV (R_move (v := (.string x4540)) e4881) ?_
              refine LV (R_assign (v := (.string x4540)) rfl) ?_
              refine LW_nil ?_
              refine bq_n ?_
              refine sq_n ?_
              exact ⟨e4884, x4540, _, ⟨rfl, e4883⟩, (hST.sublist (List.Sublist.refl _)), e4878, e4879, rfl, e4882, (by rw [hx4544]; exact hm4877)⟩
            · replace hm4877 := if_f hb4886 hm4877
              refine CW_skip ?_
              refine bq_n ?_
              refine sq_n ?_
              exact ⟨e4884, x4673, _, ⟨rfl, e4883⟩, (hST.sublist (List.Sublist.refl _)), e4878, e4879, e4880, e4882, (by rw [hx4544]; exact hm4877)⟩
          · rcases bool_cases x4846 with hb4857 | hb4857
            · replace hm4888 := if_t hb4857 hm4888
              refine LW_v (.inr ⟨17, true, 30, rfl, rfl, by decide, (congrArg Value.bool hb4857)⟩) rfl (by decide) (R_move (v := (.string x4673)) e4851) ?_
              refine LW_v (.inr ⟨17, true, 30, rfl, rfl, by decide, (congrArg Value.bool hb4857)⟩) rfl (by decide) (R_str (a := x4673) (b := zS) (v := (.bool ((beqS x4673 zS)))) rfl rfl rfl) ?_
              refine LW_v (.inr ⟨17, true, 30, rfl, rfl, by decide, (congrArg Value.bool hb4857)⟩) rfl (by decide) (R_move (v := (.bool ((beqS x4673 zS)))) rfl) ?_
              obtain ⟨s4904, hm4905, hm4906⟩ := bind_some hm4888
              refine LW_join (J := fun E W => ∃ (x4892 : Bool) (L4893 : List (Nat × Obj)), ST true NoF w W (hp w) (R3291 ++ L4893) ∧ E 0 = v_a0 ∧ E 3 = v3288 ∧ E 4 = (.string x4673) ∧ E 6 = (.string x4540) ∧ E 7 = v_a0 ∧ E 8 = (.int .i64 ((a0.length : Int))) ∧ E 9 = (.int .i64 ((i4539 : Int))) ∧ E 30 = (.bool x4846) ∧ E 37 = (.bool x4892) ∧ some x4892 = some s4887) 4 ?_ (fun key4907 => ?_)
              · rintro E W ⟨x4892, L4893, hST, e4895, e4896, e4897, e4898, e4899, e4900, e4901, e4902, e4903, hm4894⟩
                refine LV (R_pickT (v := (.bool x4892)) (e4902.trans (congrArg Value.bool hb4857)) e4903) ?_
                replace hm4894 := Option.some.inj hm4894; subst hm4894
                exact key4890 _ _ ⟨x4892, _, (hST.sublist (List.Sublist.refl _)), e4895, e4896, e4897, e4898, e4899, e4900, e4901, rfl, hm4889⟩
              · rcases bool_cases ((beqS x4673 zS)) with hb4891 | hb4891
                · replace hm4905 := if_t hb4891 hm4905
                  refine LW_no rfl (by decide) rfl rfl (by decide) (congrArg Value.bool hb4891) ?_
                  refine LW_no rfl (by decide) rfl rfl (by decide) (congrArg Value.bool hb4891) ?_
                  refine LW_no rfl (by decide) rfl rfl (by decide) (congrArg Value.bool hb4891) ?_
                  refine LW_v (.inr ⟨17, true, 30, rfl, rfl, by decide, (congrArg Value.bool hb4857)⟩) rfl (by decide) (R_pickT (v := (.bool true)) (congrArg Value.bool hb4891) rfl) ?_
                  replace hm4905 := Option.some.inj hm4905; subst hm4905
                  exact key4907 _ _ ⟨true, _, (hST.sublist (List.Sublist.refl _)), e4849, e4850, e4851, e4852, e4853, e4854, e4855, rfl, rfl, hm4906⟩
                · replace hm4905 := if_f hb4891 hm4905
                  refine LW_v (.inr ⟨20, false, 33, rfl, rfl, by decide, (congrArg Value.bool hb4891)⟩) rfl (by decide) (R_move (v := (.string x4540)) e4852) ?_
                  refine LW_v (.inr ⟨20, false, 33, rfl, rfl, by decide, (congrArg Value.bool hb4891)⟩) rfl (by decide) (R_move (v := (.string x4673)) e4851) ?_
                  refine LW_v (.inr ⟨20, false, 33, rfl, rfl, by decide, (congrArg Value.bool hb4891)⟩) rfl (by decide) (R_str (a := x4540) (b := x4673) (v := (.bool ((ltS x4540 x4673)))) rfl rfl rfl) ?_
                  refine LW_v (.inr ⟨17, true, 30, rfl, rfl, by decide, (congrArg Value.bool hb4857)⟩) rfl (by decide) (R_pickF (v := (.bool ((ltS x4540 x4673)))) (congrArg Value.bool hb4891) rfl) ?_
                  replace hm4905 := Option.some.inj hm4905; subst hm4905
                  exact key4907 _ _ ⟨((ltS x4540 x4673)), _, (hST.sublist (List.Sublist.refl _)), e4849, e4850, e4851, e4852, e4853, e4854, e4855, rfl, rfl, hm4906⟩
            · replace hm4888 := if_f hb4857 hm4888
              refine LW_no rfl (by decide) rfl rfl (by decide) (congrArg Value.bool hb4857) ?_
              refine LW_no rfl (by decide) rfl rfl (by decide) (congrArg Value.bool hb4857) ?_
              refine LW_no rfl (by decide) rfl rfl (by decide) (congrArg Value.bool hb4857) ?_
              refine LW_nou rfl (by decide) rfl rfl (by decide) rfl ?_
              refine LW_nou rfl (by decide) rfl rfl (by decide) rfl ?_
              refine LW_nou rfl (by decide) rfl rfl (by decide) rfl ?_
              refine LW_no rfl (by decide) rfl rfl (by decide) (congrArg Value.bool hb4857) ?_
              refine LV (R_pickF (v := (.bool false)) (congrArg Value.bool hb4857) rfl) ?_
              replace hm4888 := Option.some.inj hm4888; subst hm4888
              exact key4890 _ _ ⟨false, _, (hST.sublist (List.Sublist.refl _)), e4849, e4850, e4851, e4852, e4853, e4854, e4855, rfl, hm4889⟩
        · rcases bool_cases r4815 with hb4818 | hb4818
          · replace hm4909 := if_t hb4818 hm4909
            refine LW_v (.inr ⟨2, true, 15, rfl, rfl, by decide, (congrArg Value.bool hb4818)⟩) rfl (by decide) (R_move (v := v3288) e4809) ?_
            refine LW_v (.inr ⟨2, true, 15, rfl, rfl, by decide, (congrArg Value.bool hb4818)⟩) rfl (by decide) (R_lenRow Tryz.underlying27 rfl hs3290) ?_
            refine LW_v (.inr ⟨2, true, 15, rfl, rfl, by decide, (congrArg Value.bool hb4818)⟩) rfl (by decide) (R_int (k := .i64) (a := ((l3289.length : Int))) (b := 0) (v := (.bool ((((l3289.length : Int)) == 0)))) rfl rfl rfl) ?_
            refine LW_v (.inr ⟨2, true, 15, rfl, rfl, by decide, (congrArg Value.bool hb4818)⟩) rfl (by decide) (R_move (v := (.bool ((((l3289.length : Int)) == 0)))) rfl) ?_
            obtain ⟨s4930, hm4931, hm4932⟩ := bind_some hm4909
            refine LW_join (J := fun E W => ∃ (x4918 : Bool) (L4919 : List (Nat × Obj)), ST true NoF w W (hp w) (R3291 ++ L4919) ∧ E 0 = v_a0 ∧ E 3 = v3288 ∧ E 4 = (.string x4673) ∧ E 6 = (.string x4540) ∧ E 7 = v_a0 ∧ E 8 = (.int .i64 ((a0.length : Int))) ∧ E 9 = (.int .i64 ((i4539 : Int))) ∧ E 15 = (.bool r4815) ∧ E 28 = (.bool x4918) ∧ some x4918 = some s4908) 9 ?_ (fun key4933 => ?_)
            · rintro E W ⟨x4918, L4919, hST, e4921, e4922, e4923, e4924, e4925, e4926, e4927, e4928, e4929, hm4920⟩
              refine LV (R_pickT (v := (.bool x4918)) (e4928.trans (congrArg Value.bool hb4818)) e4929) ?_
              replace hm4920 := Option.some.inj hm4920; subst hm4920
              exact key4911 _ _ ⟨x4918, _, (hST.sublist (List.Sublist.refl _)), e4921, e4922, e4923, e4924, e4925, e4926, e4927, rfl, hm4910⟩
            · rcases bool_cases ((((l3289.length : Int)) == 0)) with hb4912 | hb4912
              · replace hm4931 := if_t hb4912 hm4931
                refine LW_no rfl (by decide) rfl rfl (by decide) (congrArg Value.bool hb4912) ?_
                refine LW_no rfl (by decide) rfl rfl (by decide) (congrArg Value.bool hb4912) ?_
                refine LW_no rfl (by decide) rfl rfl (by decide) (congrArg Value.bool hb4912) ?_
                refine LW_no rfl (by decide) rfl rfl (by decide) (congrArg Value.bool hb4912) ?_
                refine LW_no rfl (by decide) rfl rfl (by decide) (congrArg Value.bool hb4912) ?_
                refine LW_no rfl (by decide) rfl rfl (by decide) (congrArg Value.bool hb4912) ?_
                refine LW_no rfl (by decide) rfl rfl (by decide) (congrArg Value.bool hb4912) ?_
                refine LW_no rfl (by decide) rfl rfl (by decide) (congrArg Value.bool hb4912) ?_
                refine LW_v (.inr ⟨2, true, 15, rfl, rfl, by decide, (congrArg Value.bool hb4818)⟩) rfl (by decide) (R_pickT (v := (.bool true)) (congrArg Value.bool hb4912) rfl) ?_
                replace hm4931 := Option.some.inj hm4931; subst hm4931
                exact key4933 _ _ ⟨true, _, (hST.sublist (List.Sublist.refl _)), e4808, e4809, e4810, rfl, e4811, eN, eI, rfl, rfl, hm4932⟩
              · replace hm4931 := if_f hb4912 hm4931
                refine LW_v (.inr ⟨6, false, 19, rfl, rfl, by decide, (congrArg Value.bool hb4912)⟩) rfl (by decide) (R_move (v := (.string x4540)) rfl) ?_
                refine LW_v (.inr ⟨6, false, 19, rfl, rfl, by decide, (congrArg Value.bool hb4912)⟩) rfl (by decide) (R_move (v := v3288) e4809) ?_
                refine LW_v (.inr ⟨6, false, 19, rfl, rfl, by decide, (congrArg Value.bool hb4912)⟩) rfl (by decide) (R_move (v := v3288) e4809) ?_
                refine LW_v (.inr ⟨6, false, 19, rfl, rfl, by decide, (congrArg Value.bool hb4912)⟩) rfl (by decide) (R_lenRow Tryz.underlying27 rfl hs3290) ?_
                refine LW_v (.inr ⟨6, false, 19, rfl, rfl, by decide, (congrArg Value.bool hb4912)⟩) rfl (by decide) (R_int (k := .i64) (a := ((l3289.length : Int))) (b := 1) (v := (.int .i64 ((IntKind.i64.wrap (((l3289.length : Int)) - 1))))) rfl rfl rfl) ?_
                obtain ⟨x4937, hx4938, hm4931⟩ := bind_some hm4931
                refine LW_q (.inr ⟨6, false, 19, rfl, rfl, by decide, (congrArg Value.bool hb4912)⟩) rfl (by decide) (R_indexRow (i := (IntKind.i64.wrap (((l3289.length : Int)) - 1))) (x0 := x4937) Tryz.underlying27 Tryz.sizeOf9 rfl rfl hs3290 (idx_nonneg hx4938) (idx_get hx4938)) (fun p4934 hp4935 => ?_)
                refine LW_v (.inr ⟨6, false, 19, rfl, rfl, by decide, (congrArg Value.bool hb4912)⟩) rfl (by decide) (R_load (v := (.string x4937)) rfl (load_ix1 hST.has (fun p hq => by simp [hq]) hs3290 (fun _ => rfl) hp4935 (idx_get hx4938) (y := (.string x4937)) rfl Tryz.isAgg9)) ?_
                refine LW_v (.inr ⟨6, false, 19, rfl, rfl, by decide, (congrArg Value.bool hb4912)⟩) rfl (by decide) (R_str (a := x4540) (b := x4937) (v := (.bool ((!(ltS x4540 x4937 || beqS x4540 x4937))))) rfl rfl rfl) ?_
                refine LW_v (.inr ⟨2, true, 15, rfl, rfl, by decide, (congrArg Value.bool hb4818)⟩) rfl (by decide) (R_pickF (v := (.bool ((!(ltS x4540 x4937 || beqS x4540 x4937))))) (congrArg Value.bool hb4912) rfl) ?_
                replace hm4931 := Option.some.inj hm4931; subst hm4931
                exact key4933 _ _ ⟨((!(ltS x4540 x4937 || beqS x4540 x4937))), _, (hST.sublist (List.Sublist.refl _)), e4808, e4809, e4810, rfl, e4811, eN, eI, rfl, rfl, hm4932⟩
          · replace hm4909 := if_f hb4818 hm4909
            refine LW_no rfl (by decide) rfl rfl (by decide) (congrArg Value.bool hb4818) ?_
            refine LW_no rfl (by decide) rfl rfl (by decide) (congrArg Value.bool hb4818) ?_
            refine LW_no rfl (by decide) rfl rfl (by decide) (congrArg Value.bool hb4818) ?_
            refine LW_no rfl (by decide) rfl rfl (by decide) (congrArg Value.bool hb4818) ?_
            refine LW_nou rfl (by decide) rfl rfl (by decide) rfl ?_
            refine LW_nou rfl (by decide) rfl rfl (by decide) rfl ?_
            refine LW_nou rfl (by decide) rfl rfl (by decide) rfl ?_
            refine LW_nou rfl (by decide) rfl rfl (by decide) rfl ?_
            refine LW_nou rfl (by decide) rfl rfl (by decide) rfl ?_
            refine LW_nou rfl (by decide) rfl rfl (by decide) rfl ?_
            refine LW_nou rfl (by decide) rfl rfl (by decide) rfl ?_
            refine LW_nou rfl (by decide) rfl rfl (by decide) rfl ?_
            refine LW_no rfl (by decide) rfl rfl (by decide) (congrArg Value.bool hb4818) ?_
            refine LV (R_pickF (v := (.bool false)) (congrArg Value.bool hb4818) rfl) ?_
            replace hm4909 := Option.some.inj hm4909; subst hm4909
            exact key4911 _ _ ⟨false, _, (hST.sublist (List.Sublist.refl _)), e4808, e4809, e4810, rfl, e4811, eN, eI, rfl, hm4910⟩
      · rintro E W ⟨x4673, L4806, ⟨eI, eN⟩, hST, e4808, e4809, e4810, e4811, hm4807⟩
        rw [List.drop_length] at hm4807
        rw [m_ref03_Set_L2] at hm4807
        refine sq_n ?_
        replace hm4807 := Option.some.inj hm4807; subst hm4807
        exact ⟨x4673, _, (hST.sublist (List.Sublist.refl _)), e4808, e4809, e4810, hm4538⟩
    · rintro E W ⟨x4521, L4522, hST, e4524, e4525, e4526, hm4523⟩
      refine CW_seq ?_
      refine CW_seq ?_
      refine CW_region ?_
      refine LV (R_move (v := (.string x4521)) e4526) ?_
      refine LV (R_str (a := x4521) (b := zS) (v := (.bool ((beqS x4521 zS)))) rfl rfl rfl) ?_
      refine LW_nil ?_
      refine sq_n ?_
      refine CW_if (b := (beqS x4521 zS)) rfl (fun hb4527 => ?_) (fun hb4527 => ?_)
      · replace hm4523 := if_t hb4527 hm4523
        refine CW_seq ?_
        refine CW_region ?_
        refine LV (R_move (v := v3288) e4525) ?_
        refine LV (R_assign (v := v3288) rfl) ?_
        refine LW_nil ?_
        refine sq_n ?_
        refine CW_ret ?_
        refine sq_r (bq_r (sq_r (bq_r (sq_r ?_))))
        replace hm4523 := Option.some.inj hm4523; subst hm4523
        refine retQ_1 (v := v3288) rfl rfl ?_
        exact ⟨_, R3291, rfl, hST.backRow (fun p hq => by simp [hq]) hs3290.nd, hs3290⟩
      · replace hm4523 := if_f hb4527 hm4523
        refine CW_skip ?_
        refine sq_n ?_
        refine CW_region ?_
        refine LV (R_move (v := v3288) e4525) ?_
        refine LV (R_move (v := (.string x4521)) e4526) ?_
        refine LE (E_buildSlice (qs := #[(0, (.string x4521))]) (cs := [(.string x4521)].toArray) hST (parts1 rfl) (run_lit [(.string x4521)] Tryz.underlying27 Tryz.sizeOf9 Tryz.zeroValue9 (by decide) rfl (by intro v hv; simp only [List.mem_cons, List.not_mem_nil, or_false] at hv; rcases hv with rfl <;> rfl) rfl rfl) (fun W4529 b4528 hST => ?_))
        obtain ⟨l4530, hb4531, hm4523⟩ := bind_some hm4523
        refine LE (E_append (enc := encSk) (v := v3288) (vs := (.slice (some ⟨b4528, 0, none⟩) 1 1)) (R := R3291) [_] hST (fun _ => rfl) (by decide) oneS Tryz.underlying27 info9.1 info9.2.1 rfl info9.2.2.1 info9.2.2.2 rfl rfl hs3290 (Sl.lit (enc := encSk) (l := [x4521]) (fun _ => rfl) rfl (Nat.le_of_ble_eq_true rfl) rfl (hST.at_ (.head _))) hb4531 (fun W4532 v4535 R4533 hST hR4534 => ?_))
        refine LV (R_assign (v := v4535) rfl) ?_
        refine LW_nil ?_
        refine bq_n ?_
        refine sq_n ?_
        replace hST : ST true NoF w _ _ ((b4528, Obj.cells ([(.string x4521)].toArray : Array Value) 9 (0, 0)) :: (R4533 ++ L4522)) := hST
        replace hST : ST true NoF w _ _ (R4533 ++ L4522) := hST.sublist (List.Sublist.cons _ (List.Sublist.refl _))
        exact ⟨n4118, Nat.lt_succ_self _, v4535, l4530, R4533, _, (hST.sublist (List.Sublist.refl _)), e4524, rfl, hR4534, hm4523⟩
theorem w_ref08_Names (v_a0 : Value) (a0 : List Cred) (r : List ByteArray) (w : World) (h_a0 : Sl (Pl encCred) 9 (hp w) v_a0 a0) (hm : m_ref08_Names a0 = some r) :
    GivesRow true Tryz.prog 88 [v_a0] w 9 encSk 1 r := by
  have hST := ST.start (dd := true) w
  unfold m_ref08_Names at hm
  refine calls_of_CW (n := 29) Tryz.func88 rfl rfl (Nat.le_of_ble_eq_true rfl) ?_
  refine CW_seq ?_
  refine CW_region ?_
  refine LV (R_assign (v := (.slice none 0 0)) rfl) ?_
  refine LW_nil ?_
  refine sq_n ?_
  refine CW_seq ?_
  refine CW_region ?_
  refine LV (R_assign (v := (.slice none 0 0)) rfl) ?_
  refine LW_nil ?_
  refine sq_n ?_
  refine CW_seq ?_
  refine CW_seq ?_
  refine CW_region ?_
  refine LV (R_move (v := v_a0) rfl) ?_
  refine LV (R_len Tryz.underlying22 rfl h_a0) ?_
  refine LV (R_move (v := (.int .i64 0)) rfl) ?_
  refine LW_nil ?_
  refine sq_n ?_
  refine CW_range (fun i E W => ∃ (v85 : Value) (l86 : List ByteArray) (R88 : List (Nat × Obj)) (L109 : List (Nat × Obj)), (E 8 = .int .i64 (i : Nat) ∧ E 7 = .int .i64 (a0.length : Nat)) ∧ ST true NoF w W (hp w) (R88 ++ L109) ∧ E 3 = v85 ∧ E 6 = v_a0 ∧ Row 9 encSk 1 v85 l86 R88 ∧ m_ref08_Names_L1 (a0.drop i) l86 = some r) a0.length h_a0.len ⟨(.slice none 0 0), ([]), [], _, ⟨rfl, rfl⟩, (hST.sublist (List.Sublist.refl _)), rfl, rfl, (Row.nil _ _ _), hm⟩ (by decide) (by decide) (by decide) (fun _ _ _ h => by obtain ⟨_, _, _, _, eIN, _⟩ := h; exact eIN) ?_ ?_
  · rintro i64 E W hi70 ⟨v85, l86, R88, L109, ⟨eI, eN⟩, hST, e111, e112, hs87, hm110⟩
    obtain ⟨x65, xs66, hx68, hx67, hx69⟩ := drop_cons hi70
    rw [hx68] at hm110
    rw [m_ref08_Names_L1] at hm110
    refine CW_block ?_
    refine CW_seq ?_
    refine CW_region ?_
    refine LQ (R_indexP (enc := encCred) (i := (i64 : Int)) (x0 := x65) Tryz.underlying22 Tryz.sizeOf83 e112 eI h_a0 (Int.natCast_nonneg _) hx67) (fun p113 hp114 => ?_)
    refine LV (R_load rfl (load_atA hST.has hp114 Tryz.isAgg83 Tryz.sizeOf83)) ?_
    refine LE (E_alloc hST Tryz.zeroValue83 (fun W117 b116 hST => ?_))
    refine LW_e0 (.inl rfl) rfl (E_store [] (.agg (encCred x65).toArray) ((encCred x65).toArray) hST rfl rfl Tryz.sizeOf83 (oneCred x65) (Nat.le_of_ble_eq_true rfl) rfl (fun W118 hST => ?_))
    refine LW_nil ?_
    refine sq_n ?_
    refine CW_region ?_
    refine LV (R_move (v := v85) e111) ?_
    refine LV (R_field fa83_2 rfl) ?_
    refine LV (R_load (v := (.string x65.Who)) rfl (load_box1 hST.has (.head _) rfl Tryz.isAgg9)) ?_
    refine LV (R_field fa83_1 rfl) ?_
    refine LV (R_field fa47_0 rfl) ?_
    refine LV (R_load (v := (.string x65.Head.Owner)) rfl (load_box1 hST.has (.head _) rfl Tryz.isAgg9)) ?_
    refine LV (R_field fa83_3 rfl) ?_
    refine LV (R_field fa47_0 rfl) ?_
    refine LV (R_load (v := (.string x65.B.Owner)) rfl (load_box1 hST.has (.head _) rfl Tryz.isAgg9)) ?_
    refine LV (R_field fa83_4 rfl) ?_
    refine LV (R_field fa47_0 rfl) ?_
    refine LV (R_load (v := (.string x65.C.Owner)) rfl (load_box1 hST.has (.head _) rfl Tryz.isAgg9)) ?_
    refine LE (E_buildSlice (qs := #[(0, (.string x65.Who)), (1, (.string x65.Head.Owner)), (2, (.string x65.B.Owner)), (3, (.string x65.C.Owner))]) (cs := #[(.string x65.Who), (.string x65.Head.Owner), (.string x65.B.Owner), (.string x65.C.Owner)]) hST (parts4 rfl rfl rfl rfl) (run_lit [(.string x65.Who), (.string x65.Head.Owner), (.string x65.B.Owner), (.string x65.C.Owner)] Tryz.underlying27 Tryz.sizeOf9 Tryz.zeroValue9 (by decide) rfl (by intro v hv; simp only [List.mem_cons, List.not_mem_nil, or_false] at hv; rcases hv with rfl | rfl | rfl | rfl <;> rfl) rfl rfl) (fun W120 b119 hST => ?_))
    replace hST : ST true NoF w _ _ ((b119, Obj.cells (#[(.string x65.Who), (.string x65.Head.Owner), (.string x65.B.Owner), (.string x65.C.Owner)] : Array Value) 9 (0, 0)) :: ((b116, Obj.cells ((encCred x65).toArray : Array Value) 83 (0, 0)) :: (R88 ++ L109))) := hST
    obtain ⟨l121, hb122, hm110⟩ := bind_some hm110
    refine LE (E_append (enc := encSk) (v := v85) (vs := (.slice (some ⟨b119, 0, none⟩) 4 4)) (R := R88) [_, _] hST (fun _ => rfl) (by decide) oneS Tryz.underlying27 info9.1 info9.2.1 rfl info9.2.2.1 info9.2.2.2 rfl rfl hs87 (Sl.lit (enc := encSk) (l := [x65.Who, x65.Head.Owner, x65.B.Owner, x65.C.Owner]) (fun _ => rfl) rfl (Nat.le_of_ble_eq_true rfl) rfl (hST.at_ (.head _))) hb122 (fun W123 v126 R124 hST hR125 => ?_))
    refine LV (R_assign (v := v126) rfl) ?_
    refine LW_nil ?_
    refine bq_n ?_
    refine sq_n ?_
    replace hST : ST true NoF w _ _ ((b119, Obj.cells (#[(.string x65.Who), (.string x65.Head.Owner), (.string x65.B.Owner), (.string x65.C.Owner)] : Array Value) 9 (0, 0)) :: ((b116, Obj.cells ((encCred x65).toArray : Array Value) 83 (0, 0)) :: (R124 ++ L109))) := hST
    replace hST : ST true NoF w _ _ (R124 ++ L109) := hST.sublist (List.Sublist.cons _ (List.Sublist.cons _ (List.Sublist.refl _)))
    exact ⟨eI, v126, l121, R124, _, ⟨rfl, eN⟩, (hST.sublist (List.Sublist.refl _)), rfl, e112, hR125, (by rw [hx69]; exact hm110)⟩
  · rintro E W ⟨v85, l86, R88, L109, ⟨eI, eN⟩, hST, e111, e112, hs87, hm110⟩
    rw [List.drop_length] at hm110
    rw [m_ref08_Names_L1] at hm110
    refine sq_n ?_
    refine CW_seq ?_
    refine CW_region ?_
    refine LV (R_move (v := v85) e111) ?_
    obtain ⟨r127, hr128, hm110⟩ := bind_some hm110
    refine LE (E_givesRow (args := [v85]) [] _ hST rfl Tryz.call76 (by exact args1 rfl) ((w_ref03_Set v85 l86 _ _ (hs87.sl (fun _ => rfl) (fun b o hq => hST.at_ (List.mem_append_left _ hq))) hr128)) (fun W129 v132 μ130 R133 hST hle131 hR134 => ?_))
    refine LV (R_assign (v := v132) rfl) ?_
    refine LW_nil ?_
    refine sq_n ?_
    replace hST : ST true NoF w _ _ (R133 ++ (R88 ++ L109)) := hST
    replace hST : ST true NoF w _ _ (R133 ++ L109) := hST.sublist (List.Sublist.append (List.Sublist.refl _) ((List.Sublist.refl _).trans (List.sublist_append_right _ _)))
    refine CW_ret ?_
    replace hm110 := Option.some.inj hm110; subst hm110
    refine retQ_1 (v := v132) rfl rfl ?_
    exact ⟨_, R133, rfl, hST.backRow (fun p hq => by simp [hq]) hR134.nd, hR134⟩
theorem w_ref08_In (v_a0 : Value) (a0 : List Fact) (a1 : Role) (a2 : ByteArray) (r : Bool) (w : World) (h_a0 : Sl (Pl encFact) 3 (hp w) v_a0 a0) (hm : m_ref08_In a0 a1 a2 = some r) :
    Gives true Tryz.prog 36 [v_a0, (.agg (encRole a1).toArray), (.string a2)] w (.bool r) := by
  have hST := ST.start (dd := true) w
  unfold m_ref08_In at hm
  refine calls_of_CW (n := 26) Tryz.func36 rfl rfl (Nat.le_of_ble_eq_true rfl) ?_
  refine CW_seq ?_
  refine CW_region ?_
  refine LE (E_box (v := (.agg (encRole a1).toArray)) hST rfl (fun W2 b1 hST => ?_))
  refine LV (R_assign (v := (.bool false)) rfl) ?_
  refine LW_nil ?_
  refine sq_n ?_
  refine CW_seq ?_
  refine CW_seq ?_
  refine CW_region ?_
  refine LV (R_move (v := v_a0) rfl) ?_
  refine LV (R_len Tryz.underlying53 rfl h_a0) ?_
  refine LV (R_move (v := (.int .i64 0)) rfl) ?_
  refine LW_nil ?_
  refine sq_n ?_
  refine CW_range (fun i E W => ∃  (L133 : List (Nat × Obj)), (E 11 = .int .i64 (i : Nat) ∧ E 10 = .int .i64 (a0.length : Nat)) ∧ ST true NoF w W (hp w) ((b1, Obj.cells ((encRole a1).toArray : Array Value) 47 (0, 0)) :: L133) ∧ E 2 = (.string a2) ∧ E 4 = (.pointer (some ⟨b1, 0, none⟩)) ∧ E 9 = v_a0 ∧ m_ref08_In_L1 a1 a2 (a0.drop i) = some r) a0.length h_a0.len ⟨_, ⟨rfl, rfl⟩, (hST.sublist (List.Sublist.refl _)), rfl, rfl, rfl, hm⟩ (by decide) (by decide) (by decide) (fun _ _ _ h => by obtain ⟨_, eIN, _⟩ := h; exact eIN) ?_ ?_
  · rintro i81 E W hi87 ⟨L133, ⟨eI, eN⟩, hST, e135, e136, e137, hm134⟩
    obtain ⟨x82, xs83, hx85, hx84, hx86⟩ := drop_cons hi87
    rw [hx85] at hm134
    rw [m_ref08_In_L1] at hm134
    refine CW_block ?_
    refine CW_seq ?_
    refine CW_region ?_
    refine LQ (R_indexP (enc := encFact) (i := (i81 : Int)) (x0 := x82) Tryz.underlying53 Tryz.sizeOf78 e137 eI h_a0 (Int.natCast_nonneg _) hx84) (fun p138 hp139 => ?_)
    refine LV (R_load rfl (load_atA hST.has hp139 Tryz.isAgg78 Tryz.sizeOf78)) ?_
    refine LE (E_alloc hST Tryz.zeroValue78 (fun W142 b141 hST => ?_))
    refine LW_e0 (.inl rfl) rfl (E_store [] (.agg (encFact x82).toArray) ((encFact x82).toArray) hST rfl rfl Tryz.sizeOf78 (oneFact x82) (Nat.le_of_ble_eq_true rfl) rfl (fun W143 hST => ?_))
    refine LW_nil ?_
    refine sq_n ?_
    refine CW_seq ?_
    refine CW_region ?_
    refine LV (R_field fa78_0 rfl) ?_
    refine LV (R_load (v := (.agg (encRole x82.Role).toArray)) rfl (load_boxA hST.has (.head _) (encRole x82.Role) rfl Tryz.isAgg47 Tryz.sizeOf47)) ?_
    refine LV (R_load (v := (.agg (encRole a1).toArray)) e136 (load_boxA hST.has (.tail _ (.head _)) (encRole a1) rfl Tryz.isAgg47 Tryz.sizeOf47)) ?_
    refine LV (R_eql (a := (encRole x82.Role).toArray) (b := (encRole a1).toArray) rfl rfl (guard_agg Tryz.eqGuardType47) (bin_eql (eqInRole _ x82.Role a1))) ?_
    refine LV (R_move (v := (.bool ((beqRole x82.Role a1)))) rfl) ?_
    obtain ⟨s155, hm156, hm157⟩ := bind_some hm134
    refine LW_join (J := fun E W => ∃ (x145 : Bool) (L146 : List (Nat × Obj)), ST true NoF w W (hp w) ((b1, Obj.cells ((encRole a1).toArray : Array Value) 47 (0, 0)) :: L146) ∧ E 2 = (.string a2) ∧ E 4 = (.pointer (some ⟨b1, 0, none⟩)) ∧ E 9 = v_a0 ∧ E 10 = (.int .i64 ((a0.length : Int))) ∧ E 11 = (.int .i64 ((i81 : Int))) ∧ E 24 = (.bool x145) ∧ (if x145 then some true else (m_ref08_In_L1 a1 a2 xs83)) = some r) 5 ?_ (fun key158 => ?_)
    · rintro E W ⟨x145, L146, hST, e148, e149, e150, e151, e152, e153, hm147⟩
      refine LW_nil ?_
      refine sq_n ?_
      refine CW_if (b := x145) e153 (fun hb154 => ?_) (fun hb154 => ?_)
      · replace hm147 := if_t hb154 hm147
        refine CW_seq ?_
        refine CW_region ?_
        refine LV (R_assign (v := (.bool true)) rfl) ?_
        refine LW_nil ?_
        refine sq_n ?_
        replace hST : ST true NoF w _ _ L146 := hST.sublist (List.Sublist.cons _ (List.Sublist.refl _))
        refine CW_ret ?_
        refine bq_r (sq_r (bq_r (sq_r ?_)))
        replace hm147 := Option.some.inj hm147; subst hm147
        refine retQ_1 (v := (.bool true)) rfl rfl ?_
        exact ⟨rfl, hST.ex⟩
      · replace hm147 := if_f hb154 hm147
        refine CW_skip ?_
        refine bq_n ?_
        refine sq_n ?_
        exact ⟨e152, _, ⟨rfl, e151⟩, (hST.sublist (List.Sublist.refl _)), e148, e149, e150, (by rw [hx86]; exact hm147)⟩
    · rcases bool_cases ((beqRole x82.Role a1)) with hb144 | hb144
      · replace hm156 := if_t hb144 hm156
        refine LW_v (.inr ⟨4, true, 19, rfl, rfl, by decide, (congrArg Value.bool hb144)⟩) rfl (by decide) (R_field fa78_1 rfl) ?_
        refine LW_v (.inr ⟨4, true, 19, rfl, rfl, by decide, (congrArg Value.bool hb144)⟩) rfl (by decide) (R_load (v := (.string x82.Who)) rfl (load_box1 hST.has (.head _) rfl Tryz.isAgg9)) ?_
        refine LW_v (.inr ⟨4, true, 19, rfl, rfl, by decide, (congrArg Value.bool hb144)⟩) rfl (by decide) (R_move (v := (.string a2)) e135) ?_
        refine LW_v (.inr ⟨4, true, 19, rfl, rfl, by decide, (congrArg Value.bool hb144)⟩) rfl (by decide) (R_str (a := x82.Who) (b := a2) (v := (.bool ((beqS x82.Who a2)))) rfl rfl rfl) ?_
        refine LV (R_pickT (v := (.bool ((beqS x82.Who a2)))) (congrArg Value.bool hb144) rfl) ?_
        replace hm156 := Option.some.inj hm156; subst hm156
        replace hST : ST true NoF w _ _ ((b141, Obj.cells ((encFact x82).toArray : Array Value) 78 (0, 0)) :: ((b1, Obj.cells ((encRole a1).toArray : Array Value) 47 (0, 0)) :: L133)) := hST
        exact key158 _ _ ⟨((beqS x82.Who a2)), _, (hST.sublist (List.Sublist.cons _ (List.Sublist.refl _))), e135, e136, e137, eN, eI, rfl, hm157⟩
      · replace hm156 := if_f hb144 hm156
        refine LW_no rfl (by decide) rfl rfl (by decide) (congrArg Value.bool hb144) ?_
        refine LW_no rfl (by decide) rfl rfl (by decide) (congrArg Value.bool hb144) ?_
        refine LW_no rfl (by decide) rfl rfl (by decide) (congrArg Value.bool hb144) ?_
        refine LW_no rfl (by decide) rfl rfl (by decide) (congrArg Value.bool hb144) ?_
        refine LV (R_pickF (v := (.bool false)) (congrArg Value.bool hb144) rfl) ?_
        replace hm156 := Option.some.inj hm156; subst hm156
        replace hST : ST true NoF w _ _ ((b141, Obj.cells ((encFact x82).toArray : Array Value) 78 (0, 0)) :: ((b1, Obj.cells ((encRole a1).toArray : Array Value) 47 (0, 0)) :: L133)) := hST
        exact key158 _ _ ⟨false, _, (hST.sublist (List.Sublist.cons _ (List.Sublist.refl _))), e135, e136, e137, eN, eI, rfl, hm157⟩
  · rintro E W ⟨L133, ⟨eI, eN⟩, hST, e135, e136, e137, hm134⟩
    rw [List.drop_length] at hm134
    rw [m_ref08_In_L1] at hm134
    refine sq_n ?_
    replace hST : ST true NoF w _ _ L133 := hST.sublist (List.Sublist.cons _ (List.Sublist.refl _))
    refine CW_seq ?_
    refine CW_region ?_
    refine LV (R_assign (v := (.bool false)) rfl) ?_
    refine LW_nil ?_
    refine sq_n ?_
    refine CW_ret ?_
    replace hm134 := Option.some.inj hm134; subst hm134
    refine retQ_1 (v := (.bool false)) rfl rfl ?_
    exact ⟨rfl, hST.ex⟩
end Go.Proofs.YtfjdjbdnnoijgaaGreat
