/- A part of the proof that the law GraphEdges answers true for every input of bulk at most 1048576. -/
import Derived.Test.YtfjdjbdnnoijgaaGreatG2W3
set_option linter.all false
set_option linter.unusedSimpArgs false
set_option linter.unusedVariables false
namespace Go.Proofs.YtfjdjbdnnoijgaaGreat
open Go.RowKit
set_option linter.unusedVariables false
set_option linter.unusedSimpArgs false
set_option maxRecDepth 10000
theorem w_ref22_Edges (v_a0_Roles : Value) (a0_Roles : List Role) (v_a0_Words : Value) (a0_Words : List ByteArray) (v_a0_Relevant : Value) (a0_Relevant : List Cred) (r : List Arr2Role) (w : World) (h_a0_Roles : Sl (Pl encRole) 2 (hp w) v_a0_Roles a0_Roles) (h_a0_Words : Sl (Pl encS) 1 (hp w) v_a0_Words a0_Words) (h_a0_Relevant : Sl (Pl encCred) 9 (hp w) v_a0_Relevant a0_Relevant) (hm : m_ref22_Edges a0_Roles a0_Words a0_Relevant = some r) :
    GivesRow Tryz.prog 27 [(.agg #[v_a0_Roles, v_a0_Words, v_a0_Relevant])] w 48 encArr2Role 4 r := by
  have hST := ST.start w
  unfold m_ref22_Edges at hm
  refine calls_of_CW (n := 37) Tryz.func27 rfl rfl (Nat.le_of_ble_eq_true rfl) ?_
  refine CW_seq ?_
  refine CW_region ?_
  obtain ⟨A1, c2, rfl⟩ := h_a0_Roles.form
  obtain ⟨A3, c4, rfl⟩ := h_a0_Words.form
  obtain ⟨A5, c6, rfl⟩ := h_a0_Relevant.form
  refine LW_e (.inl rfl) rfl (by decide) (E_box (v := (.agg #[(.slice A1 a0_Roles.length c2), (.slice A3 a0_Words.length c4), (.slice A5 a0_Relevant.length c6)])) hST rfl (fun W8 b7 hST => ?_))
  refine LW_v (.inl rfl) rfl (by decide) (R_assign (v := (.slice none 0 0)) rfl) ?_
  refine LW_nil ?_
  refine sq_n ?_
  refine CW_seq ?_
  refine CW_region ?_
  refine LW_v (.inl rfl) rfl (by decide) (R_assign (v := (.slice none 0 0)) rfl) ?_
  refine LW_nil ?_
  refine sq_n ?_
  refine CW_seq ?_
  refine CW_seq ?_
  refine CW_region ?_
  refine LW_v (.inl rfl) rfl (by decide) (R_field fa29_2 rfl) ?_
  refine LW_v (.inl rfl) rfl (by decide) (R_load (v := (.slice A5 a0_Relevant.length c6)) rfl (load_box1 hST.has (.head _) rfl Tryz.isAgg22)) ?_
  refine LW_v (.inl rfl) rfl (by decide) (R_len Tryz.underlying22 rfl h_a0_Relevant) ?_
  refine LW_v (.inl rfl) rfl (by decide) (R_move (v := (.int .i64 0)) rfl) ?_
  refine LW_nil ?_
  refine sq_n ?_
  replace hST : ST NoF w _ _ [] := hST.sublist (List.Sublist.cons _ (List.Sublist.refl _))
  refine CW_range (fun i E W => ∃ (v225 : Value) (l226 : List Arr2Role) (R228 : List (Nat × Obj)) (L282 : List (Nat × Obj)), (E 9 = .int .i64 (i : Nat) ∧ E 8 = .int .i64 (a0_Relevant.length : Nat)) ∧ ST NoF w W (hp w) (R228 ++ L282) ∧ E 3 = v225 ∧ E 7 = (.slice A5 a0_Relevant.length c6) ∧ Row 48 encArr2Role 4 v225 l226 R228 ∧ m_ref22_Edges_L1 (a0_Relevant.drop i) l226 = some r) a0_Relevant.length h_a0_Relevant.len ⟨(.slice none 0 0), ([]), [], _, ⟨rfl, rfl⟩, (hST.sublist (List.Sublist.refl _)), rfl, rfl, (Row.nil _ _ _), hm⟩ (by decide) (by decide) (by decide) (fun _ _ _ h => by obtain ⟨_, _, _, _, eIN, _⟩ := h; exact eIN) ?_ ?_
  · rintro i171 E W hi177 ⟨v225, l226, R228, L282, ⟨eI, eN⟩, hST, e284, e285, hs227, hm283⟩
    obtain ⟨x172, xs173, hx175, hx174, hx176⟩ := drop_cons hi177
    rw [hx175] at hm283
    rw [m_ref22_Edges_L1] at hm283
    refine CW_block ?_
    refine CW_seq ?_
    refine CW_region ?_
    refine LW_q (.inl rfl) rfl (by decide) (R_indexP (enc := encCred) (i := (i171 : Int)) (x0 := x172) Tryz.underlying22 Tryz.sizeOf83 e285 eI h_a0_Relevant (Int.natCast_nonneg _) hx174) (fun p286 hp287 => ?_)
    refine LW_v (.inl rfl) rfl (by decide) (R_load rfl (load_atA hST.has hp287 Tryz.isAgg83 Tryz.sizeOf83)) ?_
    refine LW_e (.inl rfl) rfl (by decide) (E_alloc hST Tryz.zeroValue83 (fun W290 b289 hST => ?_))
    refine LW_e0 (.inl rfl) rfl (E_store [] (.agg (encCred x172).toArray) ((encCred x172).toArray) hST rfl rfl Tryz.sizeOf83 (oneCred x172) (Nat.le_of_ble_eq_true rfl) rfl (fun W291 hST => ?_))
    refine LW_nil ?_
    refine sq_n ?_
    refine CW_seq ?_
    obtain ⟨s321, hm322, hm323⟩ := bind_some hm283
    refine CW_cut (fun E W => ∃ (v301 : Value) (l302 : List Arr2Role) (R304 : List (Nat × Obj)) (L305 : List (Nat × Obj)), ST NoF w W (hp w) ((b289, Obj.cells ((encCred x172).toArray : Array Value) 83 (0, 0)) :: (R304 ++ L305)) ∧ E 3 = v301 ∧ E 5 = (.pointer (some ⟨b289, 0, none⟩)) ∧ E 7 = (.slice A5 a0_Relevant.length c6) ∧ E 8 = (.int .i64 ((a0_Relevant.length : Int))) ∧ E 9 = (.int .i64 ((i171 : Int))) ∧ Row 48 encArr2Role 4 v301 l302 R304 ∧ (if (x172.Kind == 4) then (((appB 64 l302 ([(⟨x172.Head, x172.C⟩ : Arr2Role)]))).bind fun l315 => (m_ref22_Edges_L1 xs173 l315)) else (m_ref22_Edges_L1 xs173 l302)) = some r) ?_ ?_
    · refine CW_seq ?_
      refine CW_region ?_
      refine LW_v (.inl rfl) rfl (by decide) (R_field fa83_0 rfl) ?_
      refine LW_v (.inl rfl) rfl (by decide) (R_load (v := (.int .i64 x172.Kind)) rfl (load_box1 hST.has (.head _) rfl Tryz.isAgg3)) ?_
      refine LW_v (.inl rfl) rfl (by decide) (R_int (k := .i64) (a := x172.Kind) (b := 1) (v := (.bool ((decide (x172.Kind > 1))))) rfl rfl rfl) ?_
      refine LW_nil ?_
      refine sq_n ?_
      refine CW_if (b := (decide (x172.Kind > 1))) rfl (fun hb324 => ?_) (fun hb324 => ?_)
      · replace hm322 := if_t hb324 hm322
        refine CW_region ?_
        refine LW_v (.inl rfl) rfl (by decide) (R_move (v := v225) e284) ?_
        refine LW_v (.inl rfl) rfl (by decide) (R_field fa83_1 rfl) ?_
        refine LW_v (.inl rfl) rfl (by decide) (R_load (v := (.agg (encRole x172.Head).toArray)) rfl (load_boxA hST.has (.head _) (encRole x172.Head) rfl Tryz.isAgg47 Tryz.sizeOf47)) ?_
        refine LW_v (.inl rfl) rfl (by decide) (R_field fa83_3 rfl) ?_
        refine LW_v (.inl rfl) rfl (by decide) (R_load (v := (.agg (encRole x172.B).toArray)) rfl (load_boxA hST.has (.head _) (encRole x172.B) rfl Tryz.isAgg47 Tryz.sizeOf47)) ?_
        refine LW_v (.inl rfl) rfl (by decide) (R_build (qs := #[(0, (.agg (encRole x172.Head).toArray)), (1, (.agg (encRole x172.B).toArray))]) (v := (.agg (encArr2Role ((⟨x172.Head, x172.B⟩ : Arr2Role))).toArray)) (parts2 rfl rfl) (run_buildA Tryz.zeroValue48 Tryz.underlying48 Tryz.sizeOf47 (by kernel_rfl))) ?_
        refine LW_e (.inl rfl) rfl (by decide) (E_buildSlice (qs := #[(0, (.agg (encArr2Role ((⟨x172.Head, x172.B⟩ : Arr2Role))).toArray))]) (cs := (encArr2Role ((⟨x172.Head, x172.B⟩ : Arr2Role))).toArray) hST (parts1 rfl) (run_lit [(.agg (encArr2Role ((⟨x172.Head, x172.B⟩ : Arr2Role))).toArray)] Tryz.underlying41 Tryz.sizeOf48 Tryz.zeroValue48 (by decide) rfl (by intro v hv; simp only [List.mem_cons, List.not_mem_nil, or_false] at hv; rcases hv with rfl <;> rfl) rfl rfl) (fun W326 b325 hST => ?_))
        obtain ⟨l327, hb328, hm322⟩ := bind_some hm322
        refine LW_e (.inl rfl) rfl (by decide) (E_append (enc := encArr2Role) (v := v225) (vs := (.slice (some ⟨b325, 0, none⟩) 1 1)) (R := R228) [_, _] hST lenArr2Role (by decide) oneArr2Role Tryz.underlying41 info48.1 info48.2.1 rfl info48.2.2.1 info48.2.2.2 rfl rfl hs227 (Sl.lit (enc := encArr2Role) (l := [(⟨x172.Head, x172.B⟩ : Arr2Role)]) lenArr2Role rfl (Nat.le_of_ble_eq_true rfl) rfl (hST.at_ (.head _))) hb328 (fun W329 v332 R330 hST hR331 => ?_))
        refine LW_v (.inl rfl) rfl (by decide) (R_assign (v := v332) rfl) ?_
        refine LW_nil ?_
        refine sq_n ?_
        replace hm322 := Option.some.inj hm322; subst hm322
        exact ⟨v332, l327, R330, _, (hST.sublist (List.Sublist.cons _ (List.Sublist.refl _))), rfl, rfl, e285, eN, eI, hR331, hm323⟩
      · replace hm322 := if_f hb324 hm322
        refine CW_skip ?_
        refine sq_n ?_
        replace hm322 := Option.some.inj hm322; subst hm322
        exact ⟨v225, l226, R228, _, (hST.sublist (List.Sublist.refl _)), e284, rfl, e285, eN, eI, hs227, hm323⟩
    · rintro E W ⟨v301, l302, R304, L305, hST, e307, e308, e309, e310, e311, hs303, hm306⟩
      refine CW_seq ?_
      refine CW_region ?_
      refine LW_v (.inl rfl) rfl (by decide) (R_field fa83_0 e308) ?_
      refine LW_v (.inl rfl) rfl (by decide) (R_load (v := (.int .i64 x172.Kind)) rfl (load_box1 hST.has (.head _) rfl Tryz.isAgg3)) ?_
      refine LW_v (.inl rfl) rfl (by decide) (R_int (k := .i64) (a := x172.Kind) (b := 4) (v := (.bool ((x172.Kind == 4)))) rfl rfl rfl) ?_
      refine LW_nil ?_
      refine sq_n ?_
      refine CW_if (b := (x172.Kind == 4)) rfl (fun hb312 => ?_) (fun hb312 => ?_)
      · replace hm306 := if_t hb312 hm306
        refine CW_region ?_
        refine LW_v (.inl rfl) rfl (by decide) (R_move (v := v301) e307) ?_
        refine LW_v (.inl rfl) rfl (by decide) (R_field fa83_1 e308) ?_
        refine LW_v (.inl rfl) rfl (by decide) (R_load (v := (.agg (encRole x172.Head).toArray)) rfl (load_boxA hST.has (.head _) (encRole x172.Head) rfl Tryz.isAgg47 Tryz.sizeOf47)) ?_
        refine LW_v (.inl rfl) rfl (by decide) (R_field fa83_4 e308) ?_
        refine LW_v (.inl rfl) rfl (by decide) (R_load (v := (.agg (encRole x172.C).toArray)) rfl (load_boxA hST.has (.head _) (encRole x172.C) rfl Tryz.isAgg47 Tryz.sizeOf47)) ?_
        refine LW_v (.inl rfl) rfl (by decide) (R_build (qs := #[(0, (.agg (encRole x172.Head).toArray)), (1, (.agg (encRole x172.C).toArray))]) (v := (.agg (encArr2Role ((⟨x172.Head, x172.C⟩ : Arr2Role))).toArray)) (parts2 rfl rfl) (run_buildA Tryz.zeroValue48 Tryz.underlying48 Tryz.sizeOf47 (by kernel_rfl))) ?_
        refine LW_e (.inl rfl) rfl (by decide) (E_buildSlice (qs := #[(0, (.agg (encArr2Role ((⟨x172.Head, x172.C⟩ : Arr2Role))).toArray))]) (cs := (encArr2Role ((⟨x172.Head, x172.C⟩ : Arr2Role))).toArray) hST (parts1 rfl) (run_lit [(.agg (encArr2Role ((⟨x172.Head, x172.C⟩ : Arr2Role))).toArray)] Tryz.underlying41 Tryz.sizeOf48 Tryz.zeroValue48 (by decide) rfl (by intro v hv; simp only [List.mem_cons, List.not_mem_nil, or_false] at hv; rcases hv with rfl <;> rfl) rfl rfl) (fun W314 b313 hST => ?_))
        obtain ⟨l315, hb316, hm306⟩ := bind_some hm306
        refine LW_e (.inl rfl) rfl (by decide) (E_append (enc := encArr2Role) (v := v301) (vs := (.slice (some ⟨b313, 0, none⟩) 1 1)) (R := R304) [_, _] hST lenArr2Role (by decide) oneArr2Role Tryz.underlying41 info48.1 info48.2.1 rfl info48.2.2.1 info48.2.2.2 rfl rfl hs303 (Sl.lit (enc := encArr2Role) (l := [(⟨x172.Head, x172.C⟩ : Arr2Role)]) lenArr2Role rfl (Nat.le_of_ble_eq_true rfl) rfl (hST.at_ (.head _))) hb316 (fun W317 v320 R318 hST hR319 => ?_))
        refine LW_v (.inl rfl) rfl (by decide) (R_assign (v := v320) rfl) ?_
        refine LW_nil ?_
        refine bq_n ?_
        refine sq_n ?_
        replace hST : ST NoF w _ _ ((b313, Obj.cells ((encArr2Role ((⟨x172.Head, x172.C⟩ : Arr2Role))).toArray : Array Value) 48 (0, 0)) :: ((b289, Obj.cells ((encCred x172).toArray : Array Value) 83 (0, 0)) :: (R318 ++ L305))) := hST
        replace hST : ST NoF w _ _ (R318 ++ L305) := hST.sublist (List.Sublist.cons _ (List.Sublist.cons _ (List.Sublist.refl _)))
        exact ⟨e311, v320, l315, R318, _, ⟨rfl, e310⟩, (hST.sublist (List.Sublist.refl _)), rfl, e309, hR319, (by rw [hx176]; exact hm306)⟩
      · replace hm306 := if_f hb312 hm306
        refine CW_skip ?_
        refine bq_n ?_
        refine sq_n ?_
        replace hST : ST NoF w _ _ ((b289, Obj.cells ((encCred x172).toArray : Array Value) 83 (0, 0)) :: (R304 ++ L305)) := hST
        replace hST : ST NoF w _ _ (R304 ++ L305) := hST.sublist (List.Sublist.cons _ (List.Sublist.refl _))
        exact ⟨e311, v301, l302, R304, _, ⟨rfl, e310⟩, (hST.sublist (List.Sublist.refl _)), e307, e309, hs303, (by rw [hx176]; exact hm306)⟩
  · rintro E W ⟨v225, l226, R228, L282, ⟨eI, eN⟩, hST, e284, e285, hs227, hm283⟩
    rw [List.drop_length] at hm283
    rw [m_ref22_Edges_L1] at hm283
    refine sq_n ?_
    refine CW_seq ?_
    refine CW_region ?_
    refine LW_v (.inl rfl) rfl (by decide) (R_move (v := v225) e284) ?_
    refine LW_v (.inl rfl) rfl (by decide) (R_assign (v := v225) rfl) ?_
    refine LW_nil ?_
    refine sq_n ?_
    refine CW_ret ?_
    replace hm283 := Option.some.inj hm283; subst hm283
    refine retQ_1 (v := v225) rfl rfl ?_
    exact ⟨_, R228, rfl, hST.backRow (fun p hq => by simp [hq]) hs227.nd, hs227⟩

theorem w_law22_GraphEdges_c1_w (a0 : Role) (a1 : Role) (b_c0 : Nat) (c0 : Bool) (b_c1 : Nat) (c1 : Int) (b_c2 : Nat) (v_c2 : Value) (c2 : List Arr2Role) (R_c2 : List (Nat × Obj)) (b_c3 : Nat) (c3 : Int) (r : (Bool × Bool × Int)) (w : World) {μ0 : Mem} (hH : Held ((b_c0, Obj.cells (#[(.bool c0)] : Array Value) 4 (0, 0)) :: ((b_c1, Obj.cells (#[(.int .i64 c1)] : Array Value) 3 (0, 0)) :: ((b_c2, Obj.cells (#[v_c2] : Array Value) 41 (0, 0)) :: ((b_c3, Obj.cells (#[(.int .u8 c3)] : Array Value) 5 (0, 0)) :: (R_c2 ++ []))))) w) (hN : ((((b_c0, Obj.cells (#[(.bool c0)] : Array Value) 4 (0, 0)) :: ((b_c1, Obj.cells (#[(.int .i64 c1)] : Array Value) 3 (0, 0)) :: ((b_c2, Obj.cells (#[v_c2] : Array Value) 41 (0, 0)) :: ((b_c3, Obj.cells (#[(.int .u8 c3)] : Array Value) 5 (0, 0)) :: (R_c2 ++ []))))) : List (Nat × Obj)).map (·.1)).Nodup) (hS0 : Sub μ0 (hpx w ((b_c0, Obj.cells (#[(.bool c0)] : Array Value) 4 (0, 0)) :: ((b_c1, Obj.cells (#[(.int .i64 c1)] : Array Value) 3 (0, 0)) :: ((b_c2, Obj.cells (#[v_c2] : Array Value) 41 (0, 0)) :: ((b_c3, Obj.cells (#[(.int .u8 c3)] : Array Value) 5 (0, 0)) :: (R_c2 ++ []))))))) (h_c2 : Row 48 encArr2Role 4 v_c2 c2 R_c2) (hm : m_law22_GraphEdges_c1_w a0 a1 c0 c1 c2 c3 = some r) :
    GivesM Tryz.prog 29 [(.agg (encRole a0).toArray), (.agg (encRole a1).toArray), (.pointer (some ⟨b_c0, 0, none⟩)), (.pointer (some ⟨b_c1, 0, none⟩)), (.pointer (some ⟨b_c2, 0, none⟩)), (.pointer (some ⟨b_c3, 0, none⟩))] w ((b_c0, Obj.cells (#[(.bool c0)] : Array Value) 4 (0, 0)) :: ((b_c1, Obj.cells (#[(.int .i64 c1)] : Array Value) 3 (0, 0)) :: ((b_c2, Obj.cells (#[v_c2] : Array Value) 41 (0, 0)) :: ((b_c3, Obj.cells (#[(.int .u8 c3)] : Array Value) 5 (0, 0)) :: (R_c2 ++ []))))) (fun v L1 W' => v = (.bool (r.1)) ∧ L1 = ((b_c0, Obj.cells (#[(.bool (r.2.1))] : Array Value) 4 (0, 0)) :: ((b_c1, Obj.cells (#[(.int .i64 (r.2.2))] : Array Value) 3 (0, 0)) :: ((b_c2, Obj.cells (#[v_c2] : Array Value) 41 (0, 0)) :: ((b_c3, Obj.cells (#[(.int .u8 c3)] : Array Value) 5 (0, 0)) :: (R_c2 ++ [])))))) := by
  have hST := (ST.startM hH hN).weak hS0
  unfold m_law22_GraphEdges_c1_w at hm
  refine calls_of_CW (n := 32) Tryz.func29 rfl rfl (Nat.le_of_ble_eq_true rfl) ?_
  refine CW_seq ?_
  refine CW_region ?_
  refine LW_e (.inl rfl) rfl (by decide) (E_box (v := (.agg (encRole a0).toArray)) hST rfl (fun W2 b1 hST => ?_))
  refine LW_e (.inl rfl) rfl (by decide) (E_box (v := (.agg (encRole a1).toArray)) hST rfl (fun W4 b3 hST => ?_))
  refine LW_v (.inl rfl) rfl (by decide) (R_assign (v := (.bool false)) rfl) ?_
  refine LW_nil ?_
  refine sq_n ?_
  refine CW_seq ?_
  obtain ⟨s31, hm32, hm33⟩ := bind_some hm
  refine CW_cut (fun E W => ∃ (x25 : Bool) (L26 : List (Nat × Obj)), ST (keys ((b_c0, Obj.cells (#[(.bool c0)] : Array Value) 4 (0, 0)) :: ((b_c1, Obj.cells (#[(.int .i64 c1)] : Array Value) 3 (0, 0)) :: ((b_c2, Obj.cells (#[v_c2] : Array Value) 41 (0, 0)) :: ((b_c3, Obj.cells (#[(.int .u8 c3)] : Array Value) 5 (0, 0)) :: (R_c2 ++ [])))))) w W μ0 ((b_c0, Obj.cells (#[(.bool x25)] : Array Value) 4 (0, 0)) :: ((b_c1, Obj.cells (#[(.int .i64 c1)] : Array Value) 3 (0, 0)) :: ((b_c2, Obj.cells (#[v_c2] : Array Value) 41 (0, 0)) :: ((b_c3, Obj.cells (#[(.int .u8 c3)] : Array Value) 5 (0, 0)) :: (R_c2 ++ L26))))) ∧ E 3 = (.pointer (some ⟨b_c1, 0, none⟩)) ∧ E 5 = (.pointer (some ⟨b_c3, 0, none⟩)) ∧ some ((decide (((IntKind.i64.wrap (c1 + 1))) ≤ ((IntKind.i64.wrap c3)))), x25, (IntKind.i64.wrap (c1 + 1))) = some r) ?_ ?_
  · refine PW_start (Has μ0 ((b3, Obj.cells ((encRole a1).toArray : Array Value) 47 (0, 0)) :: ((b1, Obj.cells ((encRole a0).toArray : Array Value) 47 (0, 0)) :: ((b_c1, Obj.cells (#[(.int .i64 c1)] : Array Value) 3 (0, 0)) :: ((b_c2, Obj.cells (#[v_c2] : Array Value) 41 (0, 0)) :: ((b_c3, Obj.cells (#[(.int .u8 c3)] : Array Value) 5 (0, 0)) :: (R_c2 ++ []))))))) Tryz_mixed ?_
    replace hST := hST.drew
    have hSS : (Has μ0 ((b3, Obj.cells ((encRole a1).toArray : Array Value) 47 (0, 0)) :: ((b1, Obj.cells ((encRole a0).toArray : Array Value) 47 (0, 0)) :: ((b_c1, Obj.cells (#[(.int .i64 c1)] : Array Value) 3 (0, 0)) :: ((b_c2, Obj.cells (#[v_c2] : Array Value) 41 (0, 0)) :: ((b_c3, Obj.cells (#[(.int .u8 c3)] : Array Value) 5 (0, 0)) :: (R_c2 ++ [])))))) _) := ((show ST (keys ((b_c0, Obj.cells (#[(.bool c0)] : Array Value) 4 (0, 0)) :: ((b_c1, Obj.cells (#[(.int .i64 c1)] : Array Value) 3 (0, 0)) :: ((b_c2, Obj.cells (#[v_c2] : Array Value) 41 (0, 0)) :: ((b_c3, Obj.cells (#[(.int .u8 c3)] : Array Value) 5 (0, 0)) :: (R_c2 ++ [])))))) w _ _ ((b3, Obj.cells ((encRole a1).toArray : Array Value) 47 (0, 0)) :: ((b1, Obj.cells ((encRole a0).toArray : Array Value) 47 (0, 0)) :: ((b_c0, Obj.cells (#[(.bool c0)] : Array Value) 4 (0, 0)) :: ((b_c1, Obj.cells (#[(.int .i64 c1)] : Array Value) 3 (0, 0)) :: ((b_c2, Obj.cells (#[v_c2] : Array Value) 41 (0, 0)) :: ((b_c3, Obj.cells (#[(.int .u8 c3)] : Array Value) 5 (0, 0)) :: (R_c2 ++ []))))))) from hST).has.sub (Sub.refl _) (fun p hq => ((List.mem_cons.1 hq).elim (fun hq => by rw [hq]; exact (.head _)) (fun hq => ((List.mem_cons.1 hq).elim (fun hq => by rw [hq]; exact (.tail _ (.head _))) (fun hq => ((List.mem_cons.1 hq).elim (fun hq => by rw [hq]; exact (.tail _ (.tail _ (.tail _ (.head _))))) (fun hq => ((List.mem_cons.1 hq).elim (fun hq => by rw [hq]; exact (.tail _ (.tail _ (.tail _ (.tail _ (.head _)))))) (fun hq => ((List.mem_cons.1 hq).elim (fun hq => by rw [hq]; exact (.tail _ (.tail _ (.tail _ (.tail _ (.tail _ (.head _))))))) (fun hq => ((List.mem_append.1 hq).elim (fun hq => (.tail _ (.tail _ (.tail _ (.tail _ (.tail _ (.tail _ (List.mem_append_left _ hq)))))))) (fun hq => (absurd hq List.not_mem_nil)))))))))))))))
    refine PW_e 0 rfl (by kernel_rfl) (.inl rfl) rfl (by decide) (.inl ⟨_, _, R_load (v := (.bool c0)) rfl (load_box1 hST.has (.tail _ (.tail _ (.head _))) rfl Tryz.isAgg4), ?_⟩)
    refine ⟨hSS, ?_⟩
    refine PW_v 1 rfl (by kernel_rfl) (by kernel_rfl) (by kernel_rfl) (.inl rfl) rfl (by decide) hSS (fun W hS => R_move (v := (.bool c0)) rfl) ?_
    rcases bool_cases c0 with hb44 | hb44
    · replace hm32 := if_t hb44 hm32
      refine PW_v 2 rfl (by kernel_rfl) (by kernel_rfl) (by kernel_rfl) (.inr ⟨1, true, 10, rfl, rfl, by decide, (congrArg Value.bool hb44)⟩) rfl (by decide) hSS (fun W hS => R_load (v := (.int .i64 c1)) rfl (load_box1 hS (.tail _ (.tail _ (.head _))) rfl Tryz.isAgg3)) ?_
      refine PW_v 3 rfl (by kernel_rfl) (by kernel_rfl) (by kernel_rfl) (.inr ⟨1, true, 10, rfl, rfl, by decide, (congrArg Value.bool hb44)⟩) rfl (by decide) hSS (fun W hS => R_load (v := v_c2) rfl (load_box1 hS (.tail _ (.tail _ (.tail _ (.head _)))) rfl Tryz.isAgg41)) ?_
      refine PW_v 4 rfl (by kernel_rfl) (by kernel_rfl) (by kernel_rfl) (.inr ⟨1, true, 10, rfl, rfl, by decide, (congrArg Value.bool hb44)⟩) rfl (by decide) hSS (fun W hS => R_lenRow Tryz.underlying41 rfl h_c2) ?_
      refine PW_v 5 rfl (by kernel_rfl) (by kernel_rfl) (by kernel_rfl) (.inr ⟨1, true, 10, rfl, rfl, by decide, (congrArg Value.bool hb44)⟩) rfl (by decide) hSS (fun W hS => R_int (k := .i64) (a := c1) (b := ((c2.length : Int))) (v := (.bool ((decide (c1 < ((c2.length : Int))))))) rfl rfl rfl) ?_
      refine PW_v 6 rfl (by kernel_rfl) (by kernel_rfl) (by kernel_rfl) (.inl rfl) rfl (by decide) hSS (fun W hS => R_pickT (v := (.bool ((decide (c1 < ((c2.length : Int))))))) (congrArg Value.bool hb44) rfl) ?_
      refine PW_v 7 rfl (by kernel_rfl) (by kernel_rfl) (by kernel_rfl) (.inl rfl) rfl (by decide) hSS (fun W hS => R_move (v := (.bool ((decide (c1 < ((c2.length : Int))))))) rfl) ?_
      rcases bool_cases ((decide (c1 < ((c2.length : Int))))) with hb45 | hb45
      · replace hm32 := if_t hb45 hm32
        refine PW_v 8 rfl (by kernel_rfl) (by kernel_rfl) (by kernel_rfl) (.inr ⟨7, true, 16, rfl, rfl, by decide, (congrArg Value.bool hb45)⟩) rfl (by decide) hSS (fun W hS => R_load (v := v_c2) rfl (load_box1 hS (.tail _ (.tail _ (.tail _ (.head _)))) rfl Tryz.isAgg41)) ?_
        refine PW_v 9 rfl (by kernel_rfl) (by kernel_rfl) (by kernel_rfl) (.inr ⟨7, true, 16, rfl, rfl, by decide, (congrArg Value.bool hb45)⟩) rfl (by decide) hSS (fun W hS => R_load (v := (.int .i64 c1)) rfl (load_box1 hS (.tail _ (.tail _ (.head _))) rfl Tryz.isAgg3)) ?_
        obtain ⟨x49, hx50, hm32⟩ := bind_some hm32
        refine PW_q 10 rfl (by kernel_rfl) (by kernel_rfl) (by kernel_rfl) (.inr ⟨7, true, 16, rfl, rfl, by decide, (congrArg Value.bool hb45)⟩) rfl (by decide) hSS (R_indexRow (i := c1) (x0 := x49) Tryz.underlying41 Tryz.sizeOf48 rfl rfl h_c2 (idx_nonneg hx50) (idx_get hx50)) (fun p46 hp47 => ?_)
        refine PW_v 11 rfl (by kernel_rfl) (by kernel_rfl) (by kernel_rfl) (.inr ⟨7, true, 16, rfl, rfl, by decide, (congrArg Value.bool hb45)⟩) rfl (by decide) hSS (fun W hS => R_load (v := (.agg (encArr2Role x49).toArray)) rfl (load_ixA hS (fun p hq => by simp [hq]) h_c2 lenArr2Role hp47 (idx_get hx50) Tryz.isAgg48 Tryz.sizeOf48)) ?_
        refine PW_v 12 rfl (by kernel_rfl) (by kernel_rfl) (by kernel_rfl) (.inr ⟨7, true, 16, rfl, rfl, by decide, (congrArg Value.bool hb45)⟩) rfl (by decide) hSS (fun W hS => R_load (v := (.agg (encRole a0).toArray)) rfl (load_boxA hS (.tail _ (.head _)) (encRole a0) rfl Tryz.isAgg47 Tryz.sizeOf47)) ?_
        refine PW_v 13 rfl (by kernel_rfl) (by kernel_rfl) (by kernel_rfl) (.inr ⟨7, true, 16, rfl, rfl, by decide, (congrArg Value.bool hb45)⟩) rfl (by decide) hSS (fun W hS => R_load (v := (.agg (encRole a1).toArray)) rfl (load_boxA hS (.head _) (encRole a1) rfl Tryz.isAgg47 Tryz.sizeOf47)) ?_
        refine PW_v 14 rfl (by kernel_rfl) (by kernel_rfl) (by kernel_rfl) (.inr ⟨7, true, 16, rfl, rfl, by decide, (congrArg Value.bool hb45)⟩) rfl (by decide) hSS (fun W hS => R_build (qs := #[(0, (.agg (encRole a0).toArray)), (1, (.agg (encRole a1).toArray))]) (v := (.agg (encArr2Role ((⟨a0, a1⟩ : Arr2Role))).toArray)) (parts2 rfl rfl) (run_buildA Tryz.zeroValue48 Tryz.underlying48 Tryz.sizeOf47 (by kernel_rfl))) ?_
        refine PW_v 15 rfl (by kernel_rfl) (by kernel_rfl) (by kernel_rfl) (.inr ⟨7, true, 16, rfl, rfl, by decide, (congrArg Value.bool hb45)⟩) rfl (by decide) hSS (fun W hS => R_eql (a := (encArr2Role x49).toArray) (b := (encArr2Role ((⟨a0, a1⟩ : Arr2Role))).toArray) rfl rfl (guard_agg Tryz.eqGuardType48) (bin_eql (eqInArr2Role _ x49 ((⟨a0, a1⟩ : Arr2Role))))) ?_
        refine PW_v 16 rfl (by kernel_rfl) (by kernel_rfl) (by kernel_rfl) (.inl rfl) rfl (by decide) hSS (fun W hS => R_pickT (v := (.bool ((beqArr2Role x49 ((⟨a0, a1⟩ : Arr2Role)))))) (congrArg Value.bool hb45) rfl) ?_
        refine PW_e0 17 rfl (by kernel_rfl) (.inl rfl) rfl (E_store [_, _] (.bool ((beqArr2Role x49 ((⟨a0, a1⟩ : Arr2Role))))) (#[(.bool ((beqArr2Role x49 ((⟨a0, a1⟩ : Arr2Role)))))]) hST rfl rfl Tryz.sizeOf4 (oneB ((beqArr2Role x49 ((⟨a0, a1⟩ : Arr2Role))))) (Nat.le_of_ble_eq_true rfl) rfl (fun W51 hST => ?_))
        have hSS : (Has μ0 ((b3, Obj.cells ((encRole a1).toArray : Array Value) 47 (0, 0)) :: ((b1, Obj.cells ((encRole a0).toArray : Array Value) 47 (0, 0)) :: ((b_c1, Obj.cells (#[(.int .i64 c1)] : Array Value) 3 (0, 0)) :: ((b_c2, Obj.cells (#[v_c2] : Array Value) 41 (0, 0)) :: ((b_c3, Obj.cells (#[(.int .u8 c3)] : Array Value) 5 (0, 0)) :: (R_c2 ++ [])))))) _) := ((show ST (keys ((b_c0, Obj.cells (#[(.bool c0)] : Array Value) 4 (0, 0)) :: ((b_c1, Obj.cells (#[(.int .i64 c1)] : Array Value) 3 (0, 0)) :: ((b_c2, Obj.cells (#[v_c2] : Array Value) 41 (0, 0)) :: ((b_c3, Obj.cells (#[(.int .u8 c3)] : Array Value) 5 (0, 0)) :: (R_c2 ++ [])))))) w _ _ ((b3, Obj.cells ((encRole a1).toArray : Array Value) 47 (0, 0)) :: ((b1, Obj.cells ((encRole a0).toArray : Array Value) 47 (0, 0)) :: ((b_c0, Obj.cells (#[(.bool ((beqArr2Role x49 ((⟨a0, a1⟩ : Arr2Role)))))] : Array Value) 4 (0, 0)) :: ((b_c1, Obj.cells (#[(.int .i64 c1)] : Array Value) 3 (0, 0)) :: ((b_c2, Obj.cells (#[v_c2] : Array Value) 41 (0, 0)) :: ((b_c3, Obj.cells (#[(.int .u8 c3)] : Array Value) 5 (0, 0)) :: (R_c2 ++ []))))))) from hST).has.sub (Sub.refl _) (fun p hq => ((List.mem_cons.1 hq).elim (fun hq => by rw [hq]; exact (.head _)) (fun hq => ((List.mem_cons.1 hq).elim (fun hq => by rw [hq]; exact (.tail _ (.head _))) (fun hq => ((List.mem_cons.1 hq).elim (fun hq => by rw [hq]; exact (.tail _ (.tail _ (.tail _ (.head _))))) (fun hq => ((List.mem_cons.1 hq).elim (fun hq => by rw [hq]; exact (.tail _ (.tail _ (.tail _ (.tail _ (.head _)))))) (fun hq => ((List.mem_cons.1 hq).elim (fun hq => by rw [hq]; exact (.tail _ (.tail _ (.tail _ (.tail _ (.tail _ (.head _))))))) (fun hq => ((List.mem_append.1 hq).elim (fun hq => (.tail _ (.tail _ (.tail _ (.tail _ (.tail _ (.tail _ (List.mem_append_left _ hq)))))))) (fun hq => (absurd hq List.not_mem_nil)))))))))))))))
        refine ⟨hSS, ?_⟩
        refine PW_done (by kernel_rfl) ?_
        refine sq_n ?_
        replace hm32 := Option.some.inj hm32; subst hm32
        exact ⟨((beqArr2Role x49 ((⟨a0, a1⟩ : Arr2Role)))), _, (hST.sublist (List.Sublist.cons _ (List.Sublist.cons _ (List.Sublist.refl _)))), rfl, rfl, hm33⟩
      · replace hm32 := if_f hb45 hm32
        refine PW_no 8 rfl (by kernel_rfl) (by kernel_rfl) (by kernel_rfl) rfl rfl (by decide) (congrArg Value.bool hb45) rfl (by decide) hSS ?_
        refine PW_no 9 rfl (by kernel_rfl) (by kernel_rfl) (by kernel_rfl) rfl rfl (by decide) (congrArg Value.bool hb45) rfl (by decide) hSS ?_
        refine PW_no 10 rfl (by kernel_rfl) (by kernel_rfl) (by kernel_rfl) rfl rfl (by decide) (congrArg Value.bool hb45) rfl (by decide) hSS ?_
        refine PW_no 11 rfl (by kernel_rfl) (by kernel_rfl) (by kernel_rfl) rfl rfl (by decide) (congrArg Value.bool hb45) rfl (by decide) hSS ?_
        refine PW_no 12 rfl (by kernel_rfl) (by kernel_rfl) (by kernel_rfl) rfl rfl (by decide) (congrArg Value.bool hb45) rfl (by decide) hSS ?_
        refine PW_no 13 rfl (by kernel_rfl) (by kernel_rfl) (by kernel_rfl) rfl rfl (by decide) (congrArg Value.bool hb45) rfl (by decide) hSS ?_
        refine PW_no 14 rfl (by kernel_rfl) (by kernel_rfl) (by kernel_rfl) rfl rfl (by decide) (congrArg Value.bool hb45) rfl (by decide) hSS ?_
        refine PW_no 15 rfl (by kernel_rfl) (by kernel_rfl) (by kernel_rfl) rfl rfl (by decide) (congrArg Value.bool hb45) rfl (by decide) hSS ?_
        refine PW_v 16 rfl (by kernel_rfl) (by kernel_rfl) (by kernel_rfl) (.inl rfl) rfl (by decide) hSS (fun W hS => R_pickF (v := (.bool false)) (congrArg Value.bool hb45) rfl) ?_
        refine PW_e0 17 rfl (by kernel_rfl) (.inl rfl) rfl (E_store [_, _] (.bool false) (#[(.bool false)]) hST rfl rfl Tryz.sizeOf4 (oneB false) (Nat.le_of_ble_eq_true rfl) rfl (fun W52 hST => ?_))
        have hSS : (Has μ0 ((b3, Obj.cells ((encRole a1).toArray : Array Value) 47 (0, 0)) :: ((b1, Obj.cells ((encRole a0).toArray : Array Value) 47 (0, 0)) :: ((b_c1, Obj.cells (#[(.int .i64 c1)] : Array Value) 3 (0, 0)) :: ((b_c2, Obj.cells (#[v_c2] : Array Value) 41 (0, 0)) :: ((b_c3, Obj.cells (#[(.int .u8 c3)] : Array Value) 5 (0, 0)) :: (R_c2 ++ [])))))) _) := ((show ST (keys ((b_c0, Obj.cells (#[(.bool c0)] : Array Value) 4 (0, 0)) :: ((b_c1, Obj.cells (#[(.int .i64 c1)] : Array Value) 3 (0, 0)) :: ((b_c2, Obj.cells (#[v_c2] : Array Value) 41 (0, 0)) :: ((b_c3, Obj.cells (#[(.int .u8 c3)] : Array Value) 5 (0, 0)) :: (R_c2 ++ [])))))) w _ _ ((b3, Obj.cells ((encRole a1).toArray : Array Value) 47 (0, 0)) :: ((b1, Obj.cells ((encRole a0).toArray : Array Value) 47 (0, 0)) :: ((b_c0, Obj.cells (#[(.bool false)] : Array Value) 4 (0, 0)) :: ((b_c1, Obj.cells (#[(.int .i64 c1)] : Array Value) 3 (0, 0)) :: ((b_c2, Obj.cells (#[v_c2] : Array Value) 41 (0, 0)) :: ((b_c3, Obj.cells (#[(.int .u8 c3)] : Array Value) 5 (0, 0)) :: (R_c2 ++ []))))))) from hST).has.sub (Sub.refl _) (fun p hq => ((List.mem_cons.1 hq).elim (fun hq => by rw [hq]; exact (.head _)) (fun hq => ((List.mem_cons.1 hq).elim (fun hq => by rw [hq]; exact (.tail _ (.head _))) (fun hq => ((List.mem_cons.1 hq).elim (fun hq => by rw [hq]; exact (.tail _ (.tail _ (.tail _ (.head _))))) (fun hq => ((List.mem_cons.1 hq).elim (fun hq => by rw [hq]; exact (.tail _ (.tail _ (.tail _ (.tail _ (.head _)))))) (fun hq => ((List.mem_cons.1 hq).elim (fun hq => by rw [hq]; exact (.tail _ (.tail _ (.tail _ (.tail _ (.tail _ (.head _))))))) (fun hq => ((List.mem_append.1 hq).elim (fun hq => (.tail _ (.tail _ (.tail _ (.tail _ (.tail _ (.tail _ (List.mem_append_left _ hq)))))))) (fun hq => (absurd hq List.not_mem_nil)))))))))))))))
        refine ⟨hSS, ?_⟩
        refine PW_done (by kernel_rfl) ?_
        refine sq_n ?_
        replace hm32 := Option.some.inj hm32; subst hm32
        exact ⟨false, _, (hST.sublist (List.Sublist.cons _ (List.Sublist.cons _ (List.Sublist.refl _)))), rfl, rfl, hm33⟩
    · replace hm32 := if_f hb44 hm32
      refine PW_no 2 rfl (by kernel_rfl) (by kernel_rfl) (by kernel_rfl) rfl rfl (by decide) (congrArg Value.bool hb44) rfl (by decide) hSS ?_
      refine PW_no 3 rfl (by kernel_rfl) (by kernel_rfl) (by kernel_rfl) rfl rfl (by decide) (congrArg Value.bool hb44) rfl (by decide) hSS ?_
      refine PW_no 4 rfl (by kernel_rfl) (by kernel_rfl) (by kernel_rfl) rfl rfl (by decide) (congrArg Value.bool hb44) rfl (by decide) hSS ?_
      refine PW_no 5 rfl (by kernel_rfl) (by kernel_rfl) (by kernel_rfl) rfl rfl (by decide) (congrArg Value.bool hb44) rfl (by decide) hSS ?_
      refine PW_v 6 rfl (by kernel_rfl) (by kernel_rfl) (by kernel_rfl) (.inl rfl) rfl (by decide) hSS (fun W hS => R_pickF (v := (.bool false)) (congrArg Value.bool hb44) rfl) ?_
      refine PW_v 7 rfl (by kernel_rfl) (by kernel_rfl) (by kernel_rfl) (.inl rfl) rfl (by decide) hSS (fun W hS => R_move (v := (.bool false)) rfl) ?_
      refine PW_no 8 rfl (by kernel_rfl) (by kernel_rfl) (by kernel_rfl) rfl rfl (by decide) rfl rfl (by decide) hSS ?_
      refine PW_no 9 rfl (by kernel_rfl) (by kernel_rfl) (by kernel_rfl) rfl rfl (by decide) rfl rfl (by decide) hSS ?_
      refine PW_no 10 rfl (by kernel_rfl) (by kernel_rfl) (by kernel_rfl) rfl rfl (by decide) rfl rfl (by decide) hSS ?_
      refine PW_no 11 rfl (by kernel_rfl) (by kernel_rfl) (by kernel_rfl) rfl rfl (by decide) rfl rfl (by decide) hSS ?_
      refine PW_no 12 rfl (by kernel_rfl) (by kernel_rfl) (by kernel_rfl) rfl rfl (by decide) rfl rfl (by decide) hSS ?_
      refine PW_no 13 rfl (by kernel_rfl) (by kernel_rfl) (by kernel_rfl) rfl rfl (by decide) rfl rfl (by decide) hSS ?_
      refine PW_no 14 rfl (by kernel_rfl) (by kernel_rfl) (by kernel_rfl) rfl rfl (by decide) rfl rfl (by decide) hSS ?_
      refine PW_no 15 rfl (by kernel_rfl) (by kernel_rfl) (by kernel_rfl) rfl rfl (by decide) rfl rfl (by decide) hSS ?_
      refine PW_v 16 rfl (by kernel_rfl) (by kernel_rfl) (by kernel_rfl) (.inl rfl) rfl (by decide) hSS (fun W hS => R_pickF (v := (.bool false)) rfl rfl) ?_
      refine PW_e0 17 rfl (by kernel_rfl) (.inl rfl) rfl (E_store [_, _] (.bool false) (#[(.bool false)]) hST rfl rfl Tryz.sizeOf4 (oneB false) (Nat.le_of_ble_eq_true rfl) rfl (fun W53 hST => ?_))
      have hSS : (Has μ0 ((b3, Obj.cells ((encRole a1).toArray : Array Value) 47 (0, 0)) :: ((b1, Obj.cells ((encRole a0).toArray : Array Value) 47 (0, 0)) :: ((b_c1, Obj.cells (#[(.int .i64 c1)] : Array Value) 3 (0, 0)) :: ((b_c2, Obj.cells (#[v_c2] : Array Value) 41 (0, 0)) :: ((b_c3, Obj.cells (#[(.int .u8 c3)] : Array Value) 5 (0, 0)) :: (R_c2 ++ [])))))) _) := ((show ST (keys ((b_c0, Obj.cells (#[(.bool c0)] : Array Value) 4 (0, 0)) :: ((b_c1, Obj.cells (#[(.int .i64 c1)] : Array Value) 3 (0, 0)) :: ((b_c2, Obj.cells (#[v_c2] : Array Value) 41 (0, 0)) :: ((b_c3, Obj.cells (#[(.int .u8 c3)] : Array Value) 5 (0, 0)) :: (R_c2 ++ [])))))) w _ _ ((b3, Obj.cells ((encRole a1).toArray : Array Value) 47 (0, 0)) :: ((b1, Obj.cells ((encRole a0).toArray : Array Value) 47 (0, 0)) :: ((b_c0, Obj.cells (#[(.bool false)] : Array Value) 4 (0, 0)) :: ((b_c1, Obj.cells (#[(.int .i64 c1)] : Array Value) 3 (0, 0)) :: ((b_c2, Obj.cells (#[v_c2] : Array Value) 41 (0, 0)) :: ((b_c3, Obj.cells (#[(.int .u8 c3)] : Array Value) 5 (0, 0)) :: (R_c2 ++ []))))))) from hST).has.sub (Sub.refl _) (fun p hq => ((List.mem_cons.1 hq).elim (fun hq => by rw [hq]; exact (.head _)) (fun hq => ((List.mem_cons.1 hq).elim (fun hq => by rw [hq]; exact (.tail _ (.head _))) (fun hq => ((List.mem_cons.1 hq).elim (fun hq => by rw [hq]; exact (.tail _ (.tail _ (.tail _ (.head _))))) (fun hq => ((List.mem_cons.1 hq).elim (fun hq => by rw [hq]; exact (.tail _ (.tail _ (.tail _ (.tail _ (.head _)))))) (fun hq => ((List.mem_cons.1 hq).elim (fun hq => by rw [hq]; exact (.tail _ (.tail _ (.tail _ (.tail _ (.tail _ (.head _))))))) (fun hq => ((List.mem_append.1 hq).elim (fun hq => (.tail _ (.tail _ (.tail _ (.tail _ (.tail _ (.tail _ (List.mem_append_left _ hq)))))))) (fun hq => (absurd hq List.not_mem_nil)))))))))))))))
      refine ⟨hSS, ?_⟩
      refine PW_done (by kernel_rfl) ?_
      refine sq_n ?_
      replace hm32 := Option.some.inj hm32; subst hm32
      exact ⟨false, _, (hST.sublist (List.Sublist.cons _ (List.Sublist.cons _ (List.Sublist.refl _)))), rfl, rfl, hm33⟩
  · rintro E W ⟨x25, L26, hST, e28, e29, hm27⟩
    refine CW_seq ?_
    refine CW_region ?_
    refine LW_v (.inl rfl) rfl (by decide) (R_load (v := (.int .i64 c1)) e28 (load_box1 hST.has (.tail _ (.head _)) rfl Tryz.isAgg3)) ?_
    refine LW_v (.inl rfl) rfl (by decide) (R_int (k := .i64) (a := c1) (b := 1) (v := (.int .i64 ((IntKind.i64.wrap (c1 + 1))))) rfl rfl rfl) ?_
    refine LW_e0 (.inl rfl) rfl (E_store [_] (.int .i64 ((IntKind.i64.wrap (c1 + 1)))) (#[(.int .i64 ((IntKind.i64.wrap (c1 + 1))))]) hST e28 rfl Tryz.sizeOf3 (oneI _ ((IntKind.i64.wrap (c1 + 1)))) (Nat.le_of_ble_eq_true rfl) rfl (fun W30 hST => ?_))
    refine LW_nil ?_
    refine sq_n ?_
    refine CW_seq ?_
    refine CW_region ?_
    refine LW_v (.inl rfl) rfl (by decide) (R_load (v := (.int .i64 ((IntKind.i64.wrap (c1 + 1))))) e28 (load_box1 hST.has (.tail _ (.head _)) rfl Tryz.isAgg3)) ?_
    refine LW_v (.inl rfl) rfl (by decide) (R_load (v := (.int .u8 c3)) e29 (load_box1 hST.has (.tail _ (.tail _ (.tail _ (.head _)))) rfl Tryz.isAgg5)) ?_
    refine LW_v (.inl rfl) rfl (by decide) (R_convInt (k' := .u8) (a := c3) Tryz.underlying5 Tryz.underlying3 rfl) ?_
    refine LW_v (.inl rfl) rfl (by decide) (R_int (k := .i64) (a := ((IntKind.i64.wrap (c1 + 1)))) (b := ((IntKind.i64.wrap c3))) (v := (.bool ((decide (((IntKind.i64.wrap (c1 + 1))) ≤ ((IntKind.i64.wrap c3))))))) rfl rfl rfl) ?_
    refine LW_v (.inl rfl) rfl (by decide) (R_assign (v := (.bool ((decide (((IntKind.i64.wrap (c1 + 1))) ≤ ((IntKind.i64.wrap c3))))))) rfl) ?_
    refine LW_nil ?_
    refine sq_n ?_
    refine CW_ret ?_
    replace hm27 := Option.some.inj hm27; subst hm27
    refine retQ_1 (v := (.bool ((decide (((IntKind.i64.wrap (c1 + 1))) ≤ ((IntKind.i64.wrap c3))))))) rfl rfl ?_
    replace hST : ST (keys ((b_c0, Obj.cells (#[(.bool c0)] : Array Value) 4 (0, 0)) :: ((b_c1, Obj.cells (#[(.int .i64 c1)] : Array Value) 3 (0, 0)) :: ((b_c2, Obj.cells (#[v_c2] : Array Value) 41 (0, 0)) :: ((b_c3, Obj.cells (#[(.int .u8 c3)] : Array Value) 5 (0, 0)) :: (R_c2 ++ [])))))) w _ _ ((b_c0, Obj.cells (#[(.bool x25)] : Array Value) 4 (0, 0)) :: ((b_c1, Obj.cells (#[(.int .i64 ((IntKind.i64.wrap (c1 + 1))))] : Array Value) 3 (0, 0)) :: ((b_c2, Obj.cells (#[v_c2] : Array Value) 41 (0, 0)) :: ((b_c3, Obj.cells (#[(.int .u8 c3)] : Array Value) 5 (0, 0)) :: (R_c2 ++ L26))))) := hST
    exact ⟨_, ((b_c0, Obj.cells (#[(.bool x25)] : Array Value) 4 (0, 0)) :: ((b_c1, Obj.cells (#[(.int .i64 ((IntKind.i64.wrap (c1 + 1))))] : Array Value) 3 (0, 0)) :: ((b_c2, Obj.cells (#[v_c2] : Array Value) 41 (0, 0)) :: ((b_c3, Obj.cells (#[(.int .u8 c3)] : Array Value) 5 (0, 0)) :: (R_c2 ++ []))))), rfl, (ST.backM (L1 := ((b_c0, Obj.cells (#[(.bool x25)] : Array Value) 4 (0, 0)) :: ((b_c1, Obj.cells (#[(.int .i64 ((IntKind.i64.wrap (c1 + 1))))] : Array Value) 3 (0, 0)) :: ((b_c2, Obj.cells (#[v_c2] : Array Value) 41 (0, 0)) :: ((b_c3, Obj.cells (#[(.int .u8 c3)] : Array Value) 5 (0, 0)) :: (R_c2 ++ [])))))) (by have hh : ST (keys ((b_c0, Obj.cells (#[(.bool c0)] : Array Value) 4 (0, 0)) :: ((b_c1, Obj.cells (#[(.int .i64 c1)] : Array Value) 3 (0, 0)) :: ((b_c2, Obj.cells (#[v_c2] : Array Value) 41 (0, 0)) :: ((b_c3, Obj.cells (#[(.int .u8 c3)] : Array Value) 5 (0, 0)) :: (R_c2 ++ [])))))) w _ _ ((b_c0, Obj.cells (#[(.bool x25)] : Array Value) 4 (0, 0)) :: ((b_c1, Obj.cells (#[(.int .i64 ((IntKind.i64.wrap (c1 + 1))))] : Array Value) 3 (0, 0)) :: ((b_c2, Obj.cells (#[v_c2] : Array Value) 41 (0, 0)) :: ((b_c3, Obj.cells (#[(.int .u8 c3)] : Array Value) 5 (0, 0)) :: (R_c2 ++ L26))))) := hST.perm (List.Perm.refl _); simpa only [List.append_assoc, List.cons_append, List.nil_append] using hh)), rfl, rfl⟩

theorem w_law22_GraphEdges (v_a0 : Value) (a0 : List Cred) (v_a1 : Value) (a1 : List Role) (a2 : Int) (r : Bool) (w : World) (h_a0 : Sl (Pl encCred) 9 (hp w) v_a0 a0) (h_a1 : Sl (Pl encRole) 2 (hp w) v_a1 a1) (hm : m_law22_GraphEdges a0 a1 a2 = some r) :
    Gives Tryz.prog 4 [v_a0, v_a1, (.int .u8 a2)] w (.bool r) := by
  have hST := ST.start w
  unfold m_law22_GraphEdges at hm
  refine calls_of_CW (n := 40) Tryz.func4 rfl rfl (Nat.le_of_ble_eq_true rfl) ?_
  refine CW_seq ?_
  refine CW_region ?_
  refine LW_e (.inl rfl) rfl (by decide) (E_box (v := (.int .u8 a2)) hST rfl (fun W2 b1 hST => ?_))
  refine LW_v (.inl rfl) rfl (by decide) (R_assign (v := (.bool false)) rfl) ?_
  refine LW_nil ?_
  refine sq_n ?_
  refine CW_seq ?_
  refine CW_seq ?_
  refine CW_region ?_
  obtain ⟨r3, hr4, hm⟩ := bind_some hm
  replace hST : ST NoF w _ _ ((b1, Obj.cells (#[(.int .u8 a2)] : Array Value) 5 (0, 0)) :: []) := hST
  have hsz := hST.size
  refine LW_e (.inl rfl) rfl (by decide) (E_gives (args := []) hST rfl Tryz.call15 (by exact args0 ) (w_law22_first  _ _  hr4) (fun W5 hST => ?_))
  refine LW_v (.inl rfl) rfl (by decide) (R_not (b := r3) rfl) ?_
  refine LW_nil ?_
  refine sq_n ?_
  refine CW_if (b := (!r3)) rfl (fun hb6 => ?_) (fun hb6 => ?_)
  · replace hm := if_t hb6 hm
    refine CW_seq ?_
    refine CW_region ?_
    refine LW_v (.inl rfl) rfl (by decide) (R_assign (v := (.bool false)) rfl) ?_
    refine LW_nil ?_
    refine sq_n ?_
    replace hST : ST NoF w _ _ [] := hST.sublist (List.Sublist.cons _ (List.Sublist.refl _))
    refine CW_ret ?_
    refine sq_r ?_
    replace hm := Option.some.inj hm; subst hm
    refine retQ_1 (v := (.bool false)) rfl rfl ?_
    exact ⟨rfl, hST.ex⟩
  · replace hm := if_f hb6 hm
    refine CW_skip ?_
    refine sq_n ?_
    refine CW_seq ?_
    refine CW_seq ?_
    obtain ⟨s137, hm138, hm139⟩ := bind_some hm
    refine CW_cut (fun E W => ∃ (x39 : Bool) (L40 : List (Nat × Obj)), ST NoF w W (hp w) ((b1, Obj.cells (#[(.int .u8 a2)] : Array Value) 5 (0, 0)) :: L40) ∧ E 0 = v_a0 ∧ E 1 = v_a1 ∧ E 5 = (.pointer (some ⟨b1, 0, none⟩)) ∧ E 18 = (.bool x39) ∧ (if x39 then some true else (((m_ref22_Of a0 a1)).bind fun r47 => (((m_ref22_Edges r47.1 r47.2.1 r47.2.2)).bind fun r65 => (((m_graph_New a0 a1)).bind fun r84 => (((m_graph_Graph_Edges_w r84.1 r84.2.1 r84.2.2.1 r84.2.2.2)).bind fun r107 => (((m_graph_Graph_Edges_c1_s (fun (s : (Bool × Int)) (x : (Role × Role)) => m_law22_GraphEdges_c1_w x.1 x.2 s.1 s.2 r65 a2) ((true, 0)) r84.1 r84.2.1 r84.2.2.1 r84.2.2.2)).bind fun r117 => (((if r117.1 then some ((r117.2 == ((if (IntKind.i64.wrap (((IntKind.i64.wrap a2)) + 1)) < (r65.length : Int) then (IntKind.i64.wrap (((IntKind.i64.wrap a2)) + 1)) else (r65.length : Int))))) else some false) : Option Bool).bind fun x129 => some x129))))))) = some r) ?_ ?_
    · refine CW_region ?_
      refine LW_v (.inl rfl) rfl (by decide) (R_move (v := v_a0) rfl) ?_
      obtain ⟨r140, hr141, hm138⟩ := bind_some hm138
      replace hST : ST NoF w _ _ ((b1, Obj.cells (#[(.int .u8 a2)] : Array Value) 5 (0, 0)) :: []) := hST
      have hsz := hST.size
      refine LW_e (.inl rfl) rfl (by decide) (E_gives (args := [v_a0]) hST rfl Tryz.call16 (by exact args1 rfl) (w_law05_Great v_a0 a0 _ _ (h_a0.mono (Pl.mono _) hST.sub_hp) hr141) (fun W142 hST => ?_))
      refine LW_v (.inl rfl) rfl (by decide) (R_int (k := .i64) (a := r140) (b := 1500) (v := (.bool ((decide (r140 > 1500))))) rfl rfl rfl) ?_
      refine LW_v (.inl rfl) rfl (by decide) (R_move (v := (.bool ((decide (r140 > 1500))))) rfl) ?_
      rcases bool_cases ((decide (r140 > 1500))) with hb143 | hb143
      · replace hm138 := if_t hb143 hm138
        refine LW_no rfl (by decide) rfl rfl (by decide) (congrArg Value.bool hb143) ?_
        refine LW_no rfl (by decide) rfl rfl (by decide) (congrArg Value.bool hb143) ?_
        refine LW_v (.inl rfl) rfl (by decide) (R_pickT (v := (.bool true)) (congrArg Value.bool hb143) rfl) ?_
        refine LW_nil ?_
        refine sq_n ?_
        replace hm138 := Option.some.inj hm138; subst hm138
        exact ⟨true, _, (hST.sublist (List.Sublist.refl _)), rfl, rfl, rfl, rfl, hm139⟩
      · replace hm138 := if_f hb143 hm138
        refine LW_v (.inr ⟨3, false, 15, rfl, rfl, by decide, (congrArg Value.bool hb143)⟩) rfl (by decide) (R_move (v := v_a1) rfl) ?_
        obtain ⟨r144, hr145, hm138⟩ := bind_some hm138
        replace hST : ST NoF w _ _ ((b1, Obj.cells (#[(.int .u8 a2)] : Array Value) 5 (0, 0)) :: []) := hST
        have hsz := hST.size
        refine LW_e (.inr ⟨3, false, 15, rfl, rfl, by decide, (congrArg Value.bool hb143)⟩) rfl (by decide) (E_gives (args := [v_a1]) hST rfl Tryz.call17 (by exact args1 rfl) (w_law22_great v_a1 a1 _ _ (h_a1.mono (Pl.mono _) hST.sub_hp) hr145) (fun W146 hST => ?_))
        refine LW_v (.inl rfl) rfl (by decide) (R_pickF (v := (.bool r144)) (congrArg Value.bool hb143) rfl) ?_
        refine LW_nil ?_
        refine sq_n ?_
        replace hm138 := Option.some.inj hm138; subst hm138
        exact ⟨r144, _, (hST.sublist (List.Sublist.refl _)), rfl, rfl, rfl, rfl, hm139⟩
    · rintro E W ⟨x39, L40, hST, e42, e43, e44, e45, hm41⟩
      refine CW_if (b := x39) e45 (fun hb46 => ?_) (fun hb46 => ?_)
      · replace hm41 := if_t hb46 hm41
        refine CW_seq ?_
        refine CW_region ?_
        refine LW_v (.inl rfl) rfl (by decide) (R_assign (v := (.bool true)) rfl) ?_
        refine LW_nil ?_
        refine sq_n ?_
        replace hST : ST NoF w _ _ L40 := hST.sublist (List.Sublist.cons _ (List.Sublist.refl _))
        refine CW_ret ?_
        refine sq_r ?_
        replace hm41 := Option.some.inj hm41; subst hm41
        refine retQ_1 (v := (.bool true)) rfl rfl ?_
        exact ⟨rfl, hST.ex⟩
      · replace hm41 := if_f hb46 hm41
        refine CW_skip ?_
        refine sq_n ?_
        refine CW_seq ?_
        refine CW_region ?_
        refine LW_v (.inl rfl) rfl (by decide) (R_move (v := v_a0) e42) ?_
        refine LW_v (.inl rfl) rfl (by decide) (R_move (v := v_a1) e43) ?_
        obtain ⟨r47, hr48, hm41⟩ := bind_some hm41
        replace hST : ST NoF w _ _ ((b1, Obj.cells (#[(.int .u8 a2)] : Array Value) 5 (0, 0)) :: L40) := hST
        have hsz := hST.size
        refine LW_e (.inl rfl) rfl (by decide) (E_callM (args := [v_a0, v_a1]) (caps := #[]) [] (((b1, Obj.cells (#[(.int .u8 a2)] : Array Value) 5 (0, 0)) :: L40)) hST (List.Perm.refl _) rfl Tryz.call18 (by exact args2 rfl rfl) (fun _ _ _ _ => w_ref22_Of v_a0 a0 v_a1 a1 _ _ (h_a0.mono (Pl.mono _) hST.sub_hp) (h_a1.mono (Pl.mono _) hST.sub_hp) hr48) (fun W49 v52 μ50 L54 hST hle51 hlift hK53 => ?_))
        obtain ⟨y55, S56, y58, S59, y61, S62, hv64, rfl, hy57, hy60, hy63⟩ := hK53
        replace hv64 := hv64.symm; subst hv64
        simp only [List.append_assoc, List.cons_append, List.nil_append] at hST
        replace hST : ST NoF w _ _ ((b1, Obj.cells (#[(.int .u8 a2)] : Array Value) 5 (0, 0)) :: (S56 ++ (S59 ++ (S62 ++ L40)))) := hST.perm (permD [S56, S59, S62, [(b1, Obj.cells (#[(.int .u8 a2)] : Array Value) 5 (0, 0))]] [0, 1, 2, 3] [3, 0, 1, 2] L40 (by decide) rfl rfl)
        obtain ⟨r65, hr66, hm41⟩ := bind_some hm41
        replace hST : ST NoF w _ _ ((b1, Obj.cells (#[(.int .u8 a2)] : Array Value) 5 (0, 0)) :: (S56 ++ (S59 ++ (S62 ++ L40)))) := hST
        have hsz := hST.size
        refine LW_e (.inl rfl) rfl (by decide) (E_givesRow (args := [(.agg #[y55, y58, y61])]) [_] _ hST rfl Tryz.call27 (by exact args1 rfl) (w_ref22_Edges y55 r47.1 y58 r47.2.1 y61 r47.2.2 _ _ (hy57.sl lenRole (fun b o hq => hST.at_ (.tail _ (List.mem_append_left _ hq)))) (hy60.sl (fun _ => rfl) (fun b o hq => hST.at_ (.tail _ (List.mem_append_right _ (List.mem_append_left _ hq))))) (hy63.sl lenCred (fun b o hq => hST.at_ (.tail _ (List.mem_append_right _ (List.mem_append_right _ (List.mem_append_left _ hq)))))) hr66) (fun W67 v70 μ68 R71 hST hle69 hR72 => ?_))
        refine LW_e (.inl rfl) rfl (by decide) (E_alloc hST Tryz.zeroValue41 (fun W74 b73 hST => ?_))
        obtain ⟨A75, c76, rfl⟩ := hR72.form
        refine LW_e0 (.inl rfl) rfl (E_store [] (.slice A75 r65.length c76) (#[(.slice A75 r65.length c76)]) hST rfl rfl Tryz.sizeOf41 (by simp [Value.cells, Value.oneCell']) (Nat.le_of_ble_eq_true rfl) rfl (fun W77 hST => ?_))
        refine LW_nil ?_
        refine sq_n ?_
        replace hST : ST NoF w _ _ ((b73, Obj.cells (#[(.slice A75 r65.length c76)] : Array Value) 41 (0, 0)) :: ((b1, Obj.cells (#[(.int .u8 a2)] : Array Value) 5 (0, 0)) :: (R71 ++ (S56 ++ (S59 ++ (S62 ++ L40)))))) := hST
        replace hST : ST NoF w _ _ ((b73, Obj.cells (#[(.slice A75 r65.length c76)] : Array Value) 41 (0, 0)) :: ((b1, Obj.cells (#[(.int .u8 a2)] : Array Value) 5 (0, 0)) :: (R71 ++ L40))) := hST.sublist (List.Sublist.cons_cons _ (List.Sublist.cons_cons _ (List.Sublist.append (List.Sublist.refl _) ((((List.Sublist.refl _).trans (List.sublist_append_right _ _)).trans (List.sublist_append_right _ _)).trans (List.sublist_append_right _ _)))))
        refine CW_seq ?_
        refine CW_region ?_
        refine LW_e (.inl rfl) rfl (by decide) (E_alloc hST Tryz.zeroValue3 (fun W79 b78 hST => ?_))
        refine LW_e (.inl rfl) rfl (by decide) (E_alloc hST Tryz.zeroValue4 (fun W81 b80 hST => ?_))
        refine LW_e0 (.inl rfl) rfl (E_store [_] (.int .i64 0) (#[(.int .i64 0)]) hST rfl rfl Tryz.sizeOf3 (oneI _ 0) (Nat.le_of_ble_eq_true rfl) rfl (fun W82 hST => ?_))
        refine LW_e0 (.inl rfl) rfl (E_store [] (.bool true) (#[(.bool true)]) hST rfl rfl Tryz.sizeOf4 (oneB true) (Nat.le_of_ble_eq_true rfl) rfl (fun W83 hST => ?_))
        refine LW_nil ?_
        refine sq_n ?_
        refine CW_seq ?_
        refine CW_region ?_
        refine LW_v (.inl rfl) rfl (by decide) (R_move (v := v_a0) e42) ?_
        refine LW_v (.inl rfl) rfl (by decide) (R_move (v := v_a1) e43) ?_
        obtain ⟨r84, hr85, hm41⟩ := bind_some hm41
        replace hST : ST NoF w _ _ ((b80, Obj.cells (#[(.bool true)] : Array Value) 4 (0, 0)) :: ((b78, Obj.cells (#[(.int .i64 0)] : Array Value) 3 (0, 0)) :: ((b73, Obj.cells (#[(.slice A75 r65.length c76)] : Array Value) 41 (0, 0)) :: ((b1, Obj.cells (#[(.int .u8 a2)] : Array Value) 5 (0, 0)) :: (R71 ++ L40))))) := hST
        have hsz := hST.size
        refine LW_e (.inl rfl) rfl (by decide) (E_callM (args := [v_a0, v_a1]) (caps := #[]) [] (((b80, Obj.cells (#[(.bool true)] : Array Value) 4 (0, 0)) :: ((b78, Obj.cells (#[(.int .i64 0)] : Array Value) 3 (0, 0)) :: ((b73, Obj.cells (#[(.slice A75 r65.length c76)] : Array Value) 41 (0, 0)) :: ((b1, Obj.cells (#[(.int .u8 a2)] : Array Value) 5 (0, 0)) :: (R71 ++ L40)))))) hST (List.Perm.refl _) rfl Tryz.call19 (by exact args2 rfl rfl) (fun _ _ _ _ => w_graph_New v_a0 a0 v_a1 a1 _ _ (h_a0.mono (Pl.mono _) ((hle51.trans hle69).trans hST.sub_hp)) (h_a1.mono (Pl.mono _) ((hle51.trans hle69).trans hST.sub_hp)) hr85) (fun W86 v89 μ87 L91 hST hle88 hlift hK90 => ?_))
        obtain ⟨b92, y93, y97, S98, y100, S101, y103, S104, hv106, rfl, hy94, hf95, hy99, hy102, hy105⟩ := hK90
        replace hv106 := hv106.symm; subst hv106
        have hs96 := hy94.lift hf95 hlift
        replace hf95 := hf95.mono hsz
        simp only [List.append_assoc, List.cons_append, List.nil_append] at hST
        replace hST : ST NoF w _ _ ((b92, Obj.cells (#[y93, y97, y100, y103] : Array Value) 122 (0, 0)) :: ((b80, Obj.cells (#[(.bool true)] : Array Value) 4 (0, 0)) :: ((b78, Obj.cells (#[(.int .i64 0)] : Array Value) 3 (0, 0)) :: ((b73, Obj.cells (#[(.slice A75 r65.length c76)] : Array Value) 41 (0, 0)) :: ((b1, Obj.cells (#[(.int .u8 a2)] : Array Value) 5 (0, 0)) :: (S98 ++ (S101 ++ (S104 ++ (R71 ++ L40))))))))) := hST.perm (permD [[(b92, Obj.cells (#[y93, y97, y100, y103] : Array Value) 122 (0, 0))], S98, S101, S104, [(b80, Obj.cells (#[(.bool true)] : Array Value) 4 (0, 0))], [(b78, Obj.cells (#[(.int .i64 0)] : Array Value) 3 (0, 0))], [(b73, Obj.cells (#[(.slice A75 r65.length c76)] : Array Value) 41 (0, 0))], [(b1, Obj.cells (#[(.int .u8 a2)] : Array Value) 5 (0, 0))]] [0, 1, 2, 3, 4, 5, 6, 7] [0, 4, 5, 6, 7, 1, 2, 3] ((R71 ++ L40)) (by decide) rfl rfl)
        obtain ⟨r107, hr108, hm41⟩ := bind_some hm41
        replace hST : ST NoF w _ _ ((b92, Obj.cells (#[y93, y97, y100, y103] : Array Value) 122 (0, 0)) :: (S98 ++ (S101 ++ (S104 ++ ((b80, Obj.cells (#[(.bool true)] : Array Value) 4 (0, 0)) :: ((b78, Obj.cells (#[(.int .i64 0)] : Array Value) 3 (0, 0)) :: ((b73, Obj.cells (#[(.slice A75 r65.length c76)] : Array Value) 41 (0, 0)) :: ((b1, Obj.cells (#[(.int .u8 a2)] : Array Value) 5 (0, 0)) :: (R71 ++ L40))))))))) := hST.perm (permD [[(b92, Obj.cells (#[y93, y97, y100, y103] : Array Value) 122 (0, 0))], [(b80, Obj.cells (#[(.bool true)] : Array Value) 4 (0, 0))], [(b78, Obj.cells (#[(.int .i64 0)] : Array Value) 3 (0, 0))], [(b73, Obj.cells (#[(.slice A75 r65.length c76)] : Array Value) 41 (0, 0))], [(b1, Obj.cells (#[(.int .u8 a2)] : Array Value) 5 (0, 0))], S98, S101, S104] [0, 1, 2, 3, 4, 5, 6, 7] [0, 5, 6, 7, 1, 2, 3, 4] ((R71 ++ L40)) (by decide) rfl rfl)
        have hsz := hST.size
        refine LW_e (.inl rfl) rfl (by decide) (E_callM (args := [(.pointer (some ⟨b92, 0, none⟩))]) (caps := #[]) (((b92, Obj.cells (#[y93, y97, y100, y103] : Array Value) 122 (0, 0)) :: (S98 ++ (S101 ++ (S104 ++ []))))) (((b80, Obj.cells (#[(.bool true)] : Array Value) 4 (0, 0)) :: ((b78, Obj.cells (#[(.int .i64 0)] : Array Value) 3 (0, 0)) :: ((b73, Obj.cells (#[(.slice A75 r65.length c76)] : Array Value) 41 (0, 0)) :: ((b1, Obj.cells (#[(.int .u8 a2)] : Array Value) 5 (0, 0)) :: (R71 ++ L40)))))) hST (by simp only [List.append_assoc, List.cons_append, List.nil_append]; exact List.Perm.refl _) rfl Tryz.call28 (by exact args1 rfl) (fun hH hN hsb hmm => w_graph_Graph_Edges_w b92 y93 r84.1 y97 r84.2.1 S98 y100 r84.2.2.1 S101 y103 r84.2.2.2 S104 _ _ hH hN (Sub.refl _) (hs96.mono (Pl.mono _) hsb) hy99 hy102 hy105 hr108) (fun W109 v112 μ110 L114 hST hle111 hlift hK113 => ?_))
        obtain ⟨b115, hv116, rfl⟩ := hK113
        replace hv116 := hv116.symm; subst hv116
        simp only [List.append_assoc, List.cons_append, List.nil_append] at hST
        replace hST : ST NoF w _ _ ((b115, Obj.cells (#[(.pointer (some ⟨b92, 0, none⟩))] : Array Value) 31 (0, 0)) :: ((b92, Obj.cells (#[y93, y97, y100, y103] : Array Value) 122 (0, 0)) :: ((b80, Obj.cells (#[(.bool true)] : Array Value) 4 (0, 0)) :: ((b78, Obj.cells (#[(.int .i64 0)] : Array Value) 3 (0, 0)) :: ((b73, Obj.cells (#[(.slice A75 r65.length c76)] : Array Value) 41 (0, 0)) :: ((b1, Obj.cells (#[(.int .u8 a2)] : Array Value) 5 (0, 0)) :: (S98 ++ (S101 ++ (S104 ++ (R71 ++ L40)))))))))) := hST.perm (permD [[(b115, Obj.cells (#[(.pointer (some ⟨b92, 0, none⟩))] : Array Value) 31 (0, 0))], [(b92, Obj.cells (#[y93, y97, y100, y103] : Array Value) 122 (0, 0))], S98, S101, S104, [(b80, Obj.cells (#[(.bool true)] : Array Value) 4 (0, 0))], [(b78, Obj.cells (#[(.int .i64 0)] : Array Value) 3 (0, 0))], [(b73, Obj.cells (#[(.slice A75 r65.length c76)] : Array Value) 41 (0, 0))], [(b1, Obj.cells (#[(.int .u8 a2)] : Array Value) 5 (0, 0))]] [0, 1, 2, 3, 4, 5, 6, 7, 8] [0, 1, 5, 6, 7, 8, 2, 3, 4] ((R71 ++ L40)) (by decide) rfl rfl)
        refine LW_v (.inl rfl) rfl (by decide) (R_makeFuncC (by exact args4 rfl rfl rfl e44) rfl) ?_
        obtain ⟨r117, hr118, hm41⟩ := bind_some hm41
        replace hST : ST NoF w _ _ ((b80, Obj.cells (#[(.bool true)] : Array Value) 4 (0, 0)) :: ((b78, Obj.cells (#[(.int .i64 0)] : Array Value) 3 (0, 0)) :: ((b73, Obj.cells (#[(.slice A75 r65.length c76)] : Array Value) 41 (0, 0)) :: ((b1, Obj.cells (#[(.int .u8 a2)] : Array Value) 5 (0, 0)) :: (R71 ++ ((b115, Obj.cells (#[(.pointer (some ⟨b92, 0, none⟩))] : Array Value) 31 (0, 0)) :: ((b92, Obj.cells (#[y93, y97, y100, y103] : Array Value) 122 (0, 0)) :: (S98 ++ (S101 ++ (S104 ++ L40)))))))))) := hST.perm (permD [[(b115, Obj.cells (#[(.pointer (some ⟨b92, 0, none⟩))] : Array Value) 31 (0, 0))], [(b92, Obj.cells (#[y93, y97, y100, y103] : Array Value) 122 (0, 0))], [(b80, Obj.cells (#[(.bool true)] : Array Value) 4 (0, 0))], [(b78, Obj.cells (#[(.int .i64 0)] : Array Value) 3 (0, 0))], [(b73, Obj.cells (#[(.slice A75 r65.length c76)] : Array Value) 41 (0, 0))], [(b1, Obj.cells (#[(.int .u8 a2)] : Array Value) 5 (0, 0))], S98, S101, S104, R71] [0, 1, 2, 3, 4, 5, 6, 7, 8, 9] [2, 3, 4, 5, 9, 0, 1, 6, 7, 8] L40 (by decide) rfl rfl)
        have hsz := hST.size
        refine LW_e (.inl rfl) rfl (by decide) (E_callM (args := [(.func (.func 29) #[] #[(.pointer (some ⟨b80, 0, none⟩)), (.pointer (some ⟨b78, 0, none⟩)), (.pointer (some ⟨b73, 0, none⟩)), (.pointer (some ⟨b1, 0, none⟩))])]) (caps := #[(.pointer (some ⟨b115, 0, none⟩))]) ((((b80, Obj.cells (#[(.bool true)] : Array Value) 4 (0, 0)) :: ((b78, Obj.cells (#[(.int .i64 0)] : Array Value) 3 (0, 0)) :: ((b73, Obj.cells (#[(.slice A75 r65.length c76)] : Array Value) 41 (0, 0)) :: ((b1, Obj.cells (#[(.int .u8 a2)] : Array Value) 5 (0, 0)) :: (R71 ++ []))))) ++ [])) (((b115, Obj.cells (#[(.pointer (some ⟨b92, 0, none⟩))] : Array Value) 31 (0, 0)) :: ((b92, Obj.cells (#[y93, y97, y100, y103] : Array Value) 122 (0, 0)) :: (S98 ++ (S101 ++ (S104 ++ L40)))))) hST (by simp only [List.append_assoc, List.cons_append, List.nil_append]; exact List.Perm.refl _) rfl Tryz.call85 (by exact args1 rfl) (fun hH hN hsb hmm => w_graph_Graph_Edges_c1_s (fun (s : (Bool × Int)) (R : List (Nat × Obj)) => R = ((b80, Obj.cells (#[(.bool (s.1))] : Array Value) 4 (0, 0)) :: ((b78, Obj.cells (#[(.int .i64 (s.2))] : Array Value) 3 (0, 0)) :: ((b73, Obj.cells (#[(.slice A75 r65.length c76)] : Array Value) 41 (0, 0)) :: ((b1, Obj.cells (#[(.int .u8 a2)] : Array Value) 5 (0, 0)) :: (R71 ++ [])))))) (.func (.func 29) #[] #[(.pointer (some ⟨b80, 0, none⟩)), (.pointer (some ⟨b78, 0, none⟩)), (.pointer (some ⟨b73, 0, none⟩)), (.pointer (some ⟨b1, 0, none⟩))]) (fun (s : (Bool × Int)) (x : (Role × Role)) => m_law22_GraphEdges_c1_w x.1 x.2 s.1 s.2 r65 a2) ((true, 0)) (((b80, Obj.cells (#[(.bool true)] : Array Value) 4 (0, 0)) :: ((b78, Obj.cells (#[(.int .i64 0)] : Array Value) 3 (0, 0)) :: ((b73, Obj.cells (#[(.slice A75 r65.length c76)] : Array Value) 41 (0, 0)) :: ((b1, Obj.cells (#[(.int .u8 a2)] : Array Value) 5 (0, 0)) :: (R71 ++ [])))))) b115 b92 y93 r84.1 y97 r84.2.1 y100 r84.2.2.1 y103 r84.2.2.2 _ _ hH hN (Sub.refl _) ⟨29, #[(.pointer (some ⟨b80, 0, none⟩)), (.pointer (some ⟨b78, 0, none⟩)), (.pointer (some ⟨b73, 0, none⟩)), (.pointer (some ⟨b1, 0, none⟩))], rfl, Tryz.call29, fun W s x r R hs hI hH hN hm => by
      obtain ⟨rfl⟩ := hI
      refine GivesM.mono (w_law22_GraphEdges_c1_w x.1 x.2 b80 s.1 b78 s.2 b73 (.slice A75 r65.length c76) r65 R71 b1 a2 r W hH hN hs hR72 hm) ?_
      rintro v L1 W' ⟨rfl, rfl⟩
      exact ⟨rfl, rfl⟩⟩ rfl (hs96.mono (Pl.mono _) (hle111.trans hsb)) (hy99.at (fun b o hq => hmm b o (.tail _ (.tail _ (List.mem_append_left _ hq))))) (hy102.at (fun b o hq => hmm b o (.tail _ (.tail _ (List.mem_append_right _ (List.mem_append_left _ hq)))))) (hy105.at (fun b o hq => hmm b o (.tail _ (.tail _ (List.mem_append_right _ (List.mem_append_right _ (List.mem_append_left _ hq))))))) (At.of (hmm _ _ (.tail _ (.head _))) _ rfl) (At.of (hmm _ _ (.head _)) _ rfl) hr118) (fun W119 v122 μ120 L124 hST hle121 hlift hK123 => ?_))
        obtain ⟨S125, hv127, rfl, hy126⟩ := hK123
        replace hv127 := hv127.symm; subst hv127
        obtain rfl := hy126
        simp only [List.append_assoc, List.cons_append, List.nil_append] at hST
        replace hST : ST NoF w _ _ ((b80, Obj.cells (#[(.bool (r117.1))] : Array Value) 4 (0, 0)) :: ((b78, Obj.cells (#[(.int .i64 (r117.2))] : Array Value) 3 (0, 0)) :: ((b73, Obj.cells (#[(.slice A75 r65.length c76)] : Array Value) 41 (0, 0)) :: ((b1, Obj.cells (#[(.int .u8 a2)] : Array Value) 5 (0, 0)) :: ((b115, Obj.cells (#[(.pointer (some ⟨b92, 0, none⟩))] : Array Value) 31 (0, 0)) :: ((b92, Obj.cells (#[y93, y97, y100, y103] : Array Value) 122 (0, 0)) :: (R71 ++ (S98 ++ (S101 ++ (S104 ++ L40)))))))))) := hST.perm (permD [[(b80, Obj.cells (#[(.bool (r117.1))] : Array Value) 4 (0, 0))], [(b78, Obj.cells (#[(.int .i64 (r117.2))] : Array Value) 3 (0, 0))], [(b73, Obj.cells (#[(.slice A75 r65.length c76)] : Array Value) 41 (0, 0))], [(b1, Obj.cells (#[(.int .u8 a2)] : Array Value) 5 (0, 0))], R71, [(b115, Obj.cells (#[(.pointer (some ⟨b92, 0, none⟩))] : Array Value) 31 (0, 0))], [(b92, Obj.cells (#[y93, y97, y100, y103] : Array Value) 122 (0, 0))]] [0, 1, 2, 3, 4, 5, 6] [0, 1, 2, 3, 5, 6, 4] ((S98 ++ (S101 ++ (S104 ++ L40)))) (by decide) rfl rfl)
        refine LW_nil ?_
        refine sq_n ?_
        replace hST : ST NoF w _ _ ((b80, Obj.cells (#[(.bool (r117.1))] : Array Value) 4 (0, 0)) :: ((b78, Obj.cells (#[(.int .i64 (r117.2))] : Array Value) 3 (0, 0)) :: ((b73, Obj.cells (#[(.slice A75 r65.length c76)] : Array Value) 41 (0, 0)) :: ((b1, Obj.cells (#[(.int .u8 a2)] : Array Value) 5 (0, 0)) :: ((b115, Obj.cells (#[(.pointer (some ⟨b92, 0, none⟩))] : Array Value) 31 (0, 0)) :: ((b92, Obj.cells (#[y93, y97, y100, y103] : Array Value) 122 (0, 0)) :: (R71 ++ (S98 ++ (S101 ++ (S104 ++ L40)))))))))) := hST
        replace hST : ST NoF w _ _ ((b80, Obj.cells (#[(.bool (r117.1))] : Array Value) 4 (0, 0)) :: ((b78, Obj.cells (#[(.int .i64 (r117.2))] : Array Value) 3 (0, 0)) :: ((b73, Obj.cells (#[(.slice A75 r65.length c76)] : Array Value) 41 (0, 0)) :: ((b1, Obj.cells (#[(.int .u8 a2)] : Array Value) 5 (0, 0)) :: (R71 ++ L40))))) := hST.sublist (List.Sublist.cons_cons _ (List.Sublist.cons_cons _ (List.Sublist.cons_cons _ (List.Sublist.cons_cons _ (List.Sublist.cons _ (List.Sublist.cons _ (List.Sublist.append (List.Sublist.refl _) ((((List.Sublist.refl _).trans (List.sublist_append_right _ _)).trans (List.sublist_append_right _ _)).trans (List.sublist_append_right _ _)))))))))
        refine CW_seq ?_
        obtain ⟨s133, hm134, hm135⟩ := bind_some hm41
        refine CW_cut (fun E W => ∃ (x129 : Bool) (L130 : List (Nat × Obj)), ST NoF w W μ120 L130 ∧ E 6 = (.bool x129) ∧ some x129 = some r) ?_ ?_
        · refine CW_region ?_
          refine LW_v (.inl rfl) rfl (by decide) (R_load (v := (.bool r117.1)) rfl (load_box1 hST.has (.head _) rfl Tryz.isAgg4)) ?_
          refine LW_v (.inl rfl) rfl (by decide) (R_move (v := (.bool r117.1)) rfl) ?_
          rcases bool_cases r117.1 with hb136 | hb136
          · replace hm134 := if_t hb136 hm134
            refine LW_v (.inr ⟨1, true, 30, rfl, rfl, by decide, (congrArg Value.bool hb136)⟩) rfl (by decide) (R_load (v := (.int .i64 r117.2)) rfl (load_box1 hST.has (.tail _ (.head _)) rfl Tryz.isAgg3)) ?_
            refine LW_v (.inr ⟨1, true, 30, rfl, rfl, by decide, (congrArg Value.bool hb136)⟩) rfl (by decide) (R_load (v := (.slice A75 r65.length c76)) rfl (load_box1 hST.has (.tail _ (.tail _ (.head _))) rfl Tryz.isAgg41)) ?_
            refine LW_v (.inr ⟨1, true, 30, rfl, rfl, by decide, (congrArg Value.bool hb136)⟩) rfl (by decide) (R_lenRow Tryz.underlying41 rfl hR72) ?_
            refine LW_v (.inr ⟨1, true, 30, rfl, rfl, by decide, (congrArg Value.bool hb136)⟩) rfl (by decide) (R_load (v := (.int .u8 a2)) e44 (load_box1 hST.has (.tail _ (.tail _ (.tail _ (.head _)))) rfl Tryz.isAgg5)) ?_
            refine LW_v (.inr ⟨1, true, 30, rfl, rfl, by decide, (congrArg Value.bool hb136)⟩) rfl (by decide) (R_convInt (k' := .u8) (a := a2) Tryz.underlying5 Tryz.underlying3 rfl) ?_
            refine LW_v (.inr ⟨1, true, 30, rfl, rfl, by decide, (congrArg Value.bool hb136)⟩) rfl (by decide) (R_int (k := .i64) (a := ((IntKind.i64.wrap a2))) (b := 1) (v := (.int .i64 ((IntKind.i64.wrap (((IntKind.i64.wrap a2)) + 1))))) rfl rfl rfl) ?_
            refine LW_v (.inr ⟨1, true, 30, rfl, rfl, by decide, (congrArg Value.bool hb136)⟩) rfl (by decide) (R_min2 (k := .i64) rfl rfl) ?_
            refine LW_v (.inr ⟨1, true, 30, rfl, rfl, by decide, (congrArg Value.bool hb136)⟩) rfl (by decide) (R_int (k := .i64) (a := r117.2) (b := ((if (IntKind.i64.wrap (((IntKind.i64.wrap a2)) + 1)) < (r65.length : Int) then (IntKind.i64.wrap (((IntKind.i64.wrap a2)) + 1)) else (r65.length : Int)))) (v := (.bool ((r117.2 == ((if (IntKind.i64.wrap (((IntKind.i64.wrap a2)) + 1)) < (r65.length : Int) then (IntKind.i64.wrap (((IntKind.i64.wrap a2)) + 1)) else (r65.length : Int))))))) rfl rfl rfl) ?_
            refine LW_v (.inl rfl) rfl (by decide) (R_pickT (v := (.bool ((r117.2 == ((if (IntKind.i64.wrap (((IntKind.i64.wrap a2)) + 1)) < (r65.length : Int) then (IntKind.i64.wrap (((IntKind.i64.wrap a2)) + 1)) else (r65.length : Int))))))) (congrArg Value.bool hb136) rfl) ?_
            refine LW_v (.inl rfl) rfl (by decide) (R_assign (v := (.bool ((r117.2 == ((if (IntKind.i64.wrap (((IntKind.i64.wrap a2)) + 1)) < (r65.length : Int) then (IntKind.i64.wrap (((IntKind.i64.wrap a2)) + 1)) else (r65.length : Int))))))) rfl) ?_
            refine LW_nil ?_
            refine sq_n ?_
            replace hm134 := Option.some.inj hm134; subst hm134
            exact ⟨((r117.2 == ((if (IntKind.i64.wrap (((IntKind.i64.wrap a2)) + 1)) < (r65.length : Int) then (IntKind.i64.wrap (((IntKind.i64.wrap a2)) + 1)) else (r65.length : Int))))), _, (hST.sublist (List.Sublist.cons _ (List.Sublist.cons _ (List.Sublist.cons _ (List.Sublist.cons _ ((List.Sublist.refl _).trans (List.sublist_append_right _ _))))))), rfl, hm135⟩
          · replace hm134 := if_f hb136 hm134
            refine LW_no rfl (by decide) rfl rfl (by decide) (congrArg Value.bool hb136) ?_
            refine LW_no rfl (by decide) rfl rfl (by decide) (congrArg Value.bool hb136) ?_
            refine LW_no rfl (by decide) rfl rfl (by decide) (congrArg Value.bool hb136) ?_
            refine LW_no rfl (by decide) rfl rfl (by decide) (congrArg Value.bool hb136) ?_
            refine LW_no rfl (by decide) rfl rfl (by decide) (congrArg Value.bool hb136) ?_
            refine LW_no rfl (by decide) rfl rfl (by decide) (congrArg Value.bool hb136) ?_
            refine LW_no rfl (by decide) rfl rfl (by decide) (congrArg Value.bool hb136) ?_
            refine LW_no rfl (by decide) rfl rfl (by decide) (congrArg Value.bool hb136) ?_
            refine LW_v (.inl rfl) rfl (by decide) (R_pickF (v := (.bool false)) (congrArg Value.bool hb136) rfl) ?_
            refine LW_v (.inl rfl) rfl (by decide) (R_assign (v := (.bool false)) rfl) ?_
            refine LW_nil ?_
            refine sq_n ?_
            replace hm134 := Option.some.inj hm134; subst hm134
            exact ⟨false, _, (hST.sublist (List.Sublist.cons _ (List.Sublist.cons _ (List.Sublist.cons _ (List.Sublist.cons _ ((List.Sublist.refl _).trans (List.sublist_append_right _ _))))))), rfl, hm135⟩
        · rintro E W ⟨x129, L130, hST, e132, hm131⟩
          refine CW_ret ?_
          replace hm131 := Option.some.inj hm131; subst hm131
          refine retQ_1 (v := (.bool x129)) rfl e132 ?_
          exact ⟨rfl, hST.ex⟩

end Go.Proofs.YtfjdjbdnnoijgaaGreat
