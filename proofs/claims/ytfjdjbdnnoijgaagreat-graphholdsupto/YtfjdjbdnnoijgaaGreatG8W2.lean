/- a part of a proof of GraphHolds -/
import Derived.Test.YtfjdjbdnnoijgaaGreatG8W1
set_option linter.all false
namespace Go.Proofs.YtfjdjbdnnoijgaaGreat
open Go.RowKit
set_option maxRecDepth 10000
theorem w_graph_Graph_take_w (b_a0 : Nat) (v_a0_all : Value) (a0_all : List Cred) (v_a0_targets : Value) (a0_targets : List (Role × Bool)) (R_a0_targets : List (Nat × Obj)) (v_a0_words : Value) (a0_words : List (ByteArray × Bool)) (R_a0_words : List (Nat × Obj)) (v_a0_relevant : Value) (a0_relevant : List (Cred × Bool)) (R_a0_relevant : List (Nat × Obj)) (a1 : Cred) (r : ((List (Role × Bool)) × (List (ByteArray × Bool)) × (List (Cred × Bool)))) (w : World) {μ0 : Mem} (hH : Held ((b_a0, Obj.cells (#[v_a0_all, v_a0_targets, v_a0_words, v_a0_relevant] : Array Value) 122 (0, 0)) :: (R_a0_targets ++ (R_a0_words ++ (R_a0_relevant ++ [])))) w) (hN : ((((b_a0, Obj.cells (#[v_a0_all, v_a0_targets, v_a0_words, v_a0_relevant] : Array Value) 122 (0, 0)) :: (R_a0_targets ++ (R_a0_words ++ (R_a0_relevant ++ [])))) : List (Nat × Obj)).map (·.1)).Nodup) (hS0 : Sub μ0 (hpx w ((b_a0, Obj.cells (#[v_a0_all, v_a0_targets, v_a0_words, v_a0_relevant] : Array Value) 122 (0, 0)) :: (R_a0_targets ++ (R_a0_words ++ (R_a0_relevant ++ [])))))) (h_a0_all : Sl (Pl encCred) 9 μ0 v_a0_all a0_all) (h_a0_targets : MapRow (fun (x : Role) => (.agg (encRole x).toArray)) (fun (x : Bool) => (Value.bool x)) v_a0_targets a0_targets R_a0_targets) (h_a0_words : MapRow Value.string (fun (x : Bool) => (Value.bool x)) v_a0_words a0_words R_a0_words) (h_a0_relevant : MapRow (fun (x : Cred) => (.agg (encCred x).toArray)) (fun (x : Bool) => (Value.bool x)) v_a0_relevant a0_relevant R_a0_relevant) (hm : m_graph_Graph_take_w a0_all a0_targets a0_words a0_relevant a1 = some r) :
    GivesM true Tryz.prog 84 [(.pointer (some ⟨b_a0, 0, none⟩)), (.agg (encCred a1).toArray)] w ((b_a0, Obj.cells (#[v_a0_all, v_a0_targets, v_a0_words, v_a0_relevant] : Array Value) 122 (0, 0)) :: (R_a0_targets ++ (R_a0_words ++ (R_a0_relevant ++ [])))) (fun v L1 W' => ∃ (S1 : List (Nat × Obj)) (S3 : List (Nat × Obj)) (S5 : List (Nat × Obj)), v = (.tuple #[]) ∧ L1 = ((b_a0, Obj.cells (#[v_a0_all, v_a0_targets, v_a0_words, v_a0_relevant] : Array Value) 122 (0, 0)) :: (S1 ++ (S3 ++ (S5 ++ [])))) ∧ MapRow (fun (x : Role) => (.agg (encRole x).toArray)) (fun (x : Bool) => (Value.bool x)) v_a0_targets r.1 S1 ∧ MapRow Value.string (fun (x : Bool) => (Value.bool x)) v_a0_words r.2.1 S3 ∧ MapRow (fun (x : Cred) => (.agg (encCred x).toArray)) (fun (x : Bool) => (Value.bool x)) v_a0_relevant r.2.2 S5) := by
  have hST := (ST.startM (dd := true) hH hN).weak hS0
  unfold m_graph_Graph_take_w at hm
  refine calls_of_CW (n := 34) Tryz.func84 rfl rfl (Nat.le_of_ble_eq_true rfl) ?_
  refine CW_seq ?_
  refine CW_region ?_
  refine LW_e (.inl rfl) rfl (by decide) (E_box (v := (.agg (encCred a1).toArray)) hST rfl (fun W2 b1 hST => ?_))
  refine LW_nil ?_
  refine sq_n ?_
  refine CW_seq ?_
  refine PX_start (fun l W => Has μ0 ((b1, Obj.cells ((encCred a1).toArray : Array Value) 83 (0, 0)) :: ((b_a0, Obj.cells (#[v_a0_all, v_a0_targets, v_a0_words, v_a0_relevant] : Array Value) 122 (0, 0)) :: [])) W) Tryz_mixed ?_
  replace hST := hST.drew
  have hS0 : Has μ0 ((b1, Obj.cells ((encCred a1).toArray : Array Value) 83 (0, 0)) :: ((b_a0, Obj.cells (#[v_a0_all, v_a0_targets, v_a0_words, v_a0_relevant] : Array Value) 122 (0, 0)) :: [])) _ := hST.has.sub (Sub.refl _) (fun p hq => ((List.mem_cons.1 hq).elim (fun hq => by rw [hq]; exact (.head _)) (fun hq => ((List.mem_cons.1 hq).elim (fun hq => by rw [hq]; exact (.tail _ (.head _))) (fun hq => (absurd hq List.not_mem_nil))))))
  refine PX_v 0 rfl (by kernel_rfl) (.inl rfl) rfl (by decide) (fun _ _ h => h) hS0 (fun _ _ _ _ => R_move (v := (.pointer (some ⟨b_a0, 0, none⟩))) rfl) ?_
  refine PX_v 1 rfl (by kernel_rfl) (.inl rfl) rfl (by decide) (fun _ _ h => h) hS0 (fun _ _ _ _ => R_nilCheck rfl) ?_
  refine PX_v 2 rfl (by kernel_rfl) (.inl rfl) rfl (by decide) (fun _ _ h => h) hS0 (fun _ _ _ _ => R_field fa122_3 rfl) ?_
  refine PX_v 3 rfl (by kernel_rfl) (.inl rfl) rfl (by decide) (fun _ _ h => h) hS0 (fun l W hpd hs => have hS := hs; R_load (v := v_a0_relevant) rfl (load_box1 hS (.tail _ (.head _)) rfl Tryz.isAgg120)) ?_
  refine PX_v 4 rfl (by kernel_rfl) (.inl rfl) rfl (by decide) (fun _ _ h => h) hS0 (fun l W hpd hs => have hS := hs; R_load (v := (.agg (encCred a1).toArray)) rfl (load_boxA hS (.head _) (encCred a1) rfl Tryz.isAgg83 Tryz.sizeOf83)) ?_
  replace hST : ST true (keys ((b_a0, Obj.cells (#[v_a0_all, v_a0_targets, v_a0_words, v_a0_relevant] : Array Value) 122 (0, 0)) :: (R_a0_targets ++ (R_a0_words ++ (R_a0_relevant ++ []))))) w _ _ ((b1, Obj.cells ((encCred a1).toArray : Array Value) 83 (0, 0)) :: ((b_a0, Obj.cells (#[v_a0_all, v_a0_targets, v_a0_words, v_a0_relevant] : Array Value) 122 (0, 0)) :: (R_a0_relevant ++ (R_a0_targets ++ (R_a0_words ++ []))))) := hST.perm (permD [[(b1, Obj.cells ((encCred a1).toArray : Array Value) 83 (0, 0))], [(b_a0, Obj.cells (#[v_a0_all, v_a0_targets, v_a0_words, v_a0_relevant] : Array Value) 122 (0, 0))], R_a0_targets, R_a0_words, R_a0_relevant] [0, 1, 2, 3, 4] [0, 1, 4, 2, 3] ([]) (by decide) rfl rfl)
  refine PX_e0 5 rfl (by kernel_rfl) (.inl rfl) rfl (E_mapUpdate (k := a1) (v := true) (vf := (fun (x : Bool) => (Value.bool x))) [_, _] kl83 Tryz.underlying120 hST h_a0_relevant rfl rfl rfl (fun W9 R10 hST hR11 => ?_))
  replace hST : ST true (keys ((b_a0, Obj.cells (#[v_a0_all, v_a0_targets, v_a0_words, v_a0_relevant] : Array Value) 122 (0, 0)) :: (R_a0_targets ++ (R_a0_words ++ (R_a0_relevant ++ []))))) w _ _ ((b1, Obj.cells ((encCred a1).toArray : Array Value) 83 (0, 0)) :: ((b_a0, Obj.cells (#[v_a0_all, v_a0_targets, v_a0_words, v_a0_relevant] : Array Value) 122 (0, 0)) :: (R10 ++ (R_a0_targets ++ (R_a0_words ++ []))))) := hST
  have hS0 : Has μ0 ((b1, Obj.cells ((encCred a1).toArray : Array Value) 83 (0, 0)) :: ((b_a0, Obj.cells (#[v_a0_all, v_a0_targets, v_a0_words, v_a0_relevant] : Array Value) 122 (0, 0)) :: [])) _ := hST.has.sub (Sub.refl _) (fun p hq => ((List.mem_cons.1 hq).elim (fun hq => by rw [hq]; exact (.head _)) (fun hq => ((List.mem_cons.1 hq).elim (fun hq => by rw [hq]; exact (.tail _ (.head _))) (fun hq => (absurd hq List.not_mem_nil))))))
  refine ⟨hS0, ?_⟩
  refine PX_done (by kernel_rfl) ?_
  refine sq_n ?_
  refine CW_seq ?_
  refine CW_seq ?_
  refine CW_region ?_
  refine LW_v (.inl rfl) rfl (by decide) (R_load (v := (.agg (encCred a1).toArray)) rfl (load_boxA hST.has (.head _) (encCred a1) rfl Tryz.isAgg83 Tryz.sizeOf83)) ?_
  obtain ⟨r12, hr13, hm⟩ := bind_some hm
  refine LW_e (.inl rfl) rfl (by decide) (E_givesRow (args := [(.agg (encCred a1).toArray)]) [_, _] _ hST rfl Tryz.call86 (by exact args1 rfl) ((w_cred_Roles a1 _ _  hr13)) (fun W14 v17 μ15 R18 hST hle16 hR19 => ?_))
  replace hST : ST true (keys ((b_a0, Obj.cells (#[v_a0_all, v_a0_targets, v_a0_words, v_a0_relevant] : Array Value) 122 (0, 0)) :: (R_a0_targets ++ (R_a0_words ++ (R_a0_relevant ++ []))))) w _ _ ((b1, Obj.cells ((encCred a1).toArray : Array Value) 83 (0, 0)) :: ((b_a0, Obj.cells (#[v_a0_all, v_a0_targets, v_a0_words, v_a0_relevant] : Array Value) 122 (0, 0)) :: (R18 ++ (R10 ++ (R_a0_targets ++ (R_a0_words ++ [])))))) := hST
  obtain ⟨μ22, hST, hle23, hs24⟩ := ST.pubRow (X := [_, _]) hST hR19 lenRole
  simp only [List.cons_append, List.nil_append] at hST
  obtain ⟨_, hg25, hm⟩ := bind_some hm
  refine LW_q (.inl rfl) rfl (by decide) (R_sliceFrom (i := 1) Tryz.underlying23 Tryz.sizeOf47 rfl rfl hs24 (chk_1 hg25) (chk_2 hg25)) (fun v20 hs21 => ?_)
  refine LW_v (.inl rfl) rfl (by decide) (R_len Tryz.underlying23 rfl hs21.1) ?_
  refine LW_v (.inl rfl) rfl (by decide) (R_move (v := (.int .i64 0)) rfl) ?_
  refine LW_nil ?_
  refine sq_n ?_
  replace hST : ST true (keys ((b_a0, Obj.cells (#[v_a0_all, v_a0_targets, v_a0_words, v_a0_relevant] : Array Value) 122 (0, 0)) :: (R_a0_targets ++ (R_a0_words ++ (R_a0_relevant ++ []))))) w _ _ ((b1, Obj.cells ((encCred a1).toArray : Array Value) 83 (0, 0)) :: ((b_a0, Obj.cells (#[v_a0_all, v_a0_targets, v_a0_words, v_a0_relevant] : Array Value) 122 (0, 0)) :: (R10 ++ (R_a0_targets ++ (R_a0_words ++ []))))) := hST
  replace hST : ST true (keys ((b_a0, Obj.cells (#[v_a0_all, v_a0_targets, v_a0_words, v_a0_relevant] : Array Value) 122 (0, 0)) :: (R_a0_targets ++ (R_a0_words ++ (R_a0_relevant ++ []))))) w _ _ ((b1, Obj.cells ((encCred a1).toArray : Array Value) 83 (0, 0)) :: ((b_a0, Obj.cells (#[v_a0_all, v_a0_targets, v_a0_words, v_a0_relevant] : Array Value) 122 (0, 0)) :: (R_a0_targets ++ (R10 ++ (R_a0_words ++ []))))) := hST.perm (permD [[(b1, Obj.cells ((encCred a1).toArray : Array Value) 83 (0, 0))], [(b_a0, Obj.cells (#[v_a0_all, v_a0_targets, v_a0_words, v_a0_relevant] : Array Value) 122 (0, 0))], R10, R_a0_targets] [0, 1, 2, 3] [0, 1, 3, 2] ((R_a0_words ++ [])) (by decide) rfl rfl)
  refine CW_range (fun i E W => ∃ (l114 : List (Role × Bool)) (R116 : List (Nat × Obj)) (L138 : List (Nat × Obj)), (E 15 = .int .i64 (i : Nat) ∧ E 14 = .int .i64 (((r12.drop (Int.toNat 1))).length : Nat)) ∧ ST true (keys ((b_a0, Obj.cells (#[v_a0_all, v_a0_targets, v_a0_words, v_a0_relevant] : Array Value) 122 (0, 0)) :: (R_a0_targets ++ (R_a0_words ++ (R_a0_relevant ++ []))))) w W μ22 ((b1, Obj.cells ((encCred a1).toArray : Array Value) 83 (0, 0)) :: ((b_a0, Obj.cells (#[v_a0_all, v_a0_targets, v_a0_words, v_a0_relevant] : Array Value) 122 (0, 0)) :: (R116 ++ (R10 ++ (R_a0_words ++ L138))))) ∧ E 0 = (.pointer (some ⟨b_a0, 0, none⟩)) ∧ E 3 = (.pointer (some ⟨b1, 0, none⟩)) ∧ E 13 = v20 ∧ MapRow (fun (x : Role) => (.agg (encRole x).toArray)) (fun (x : Bool) => (Value.bool x)) v_a0_targets l114 R116 ∧ m_graph_Graph_take_w_L1 a1 a0_words a0_relevant (((r12.drop (Int.toNat 1))).drop i) l114 = some r) ((r12.drop (Int.toNat 1))).length hs21.1.len ⟨a0_targets, R_a0_targets, _, ⟨rfl, rfl⟩, (hST.sublist (List.Sublist.refl _)), rfl, rfl, rfl, h_a0_targets, hm⟩ (by decide) (by decide) (by decide) (fun _ _ _ h => by obtain ⟨_, _, _, eIN, _⟩ := h; exact eIN) ?_ ?_
  · rintro i92 E W hi98 ⟨l114, R116, L138, ⟨eI, eN⟩, hST, e140, e141, e142, hs115, hm139⟩
    obtain ⟨x93, xs94, hx96, hx95, hx97⟩ := drop_cons hi98
    rw [hx96] at hm139
    rw [m_graph_Graph_take_w_L1] at hm139
    refine CW_block ?_
    refine CW_seq ?_
    refine CW_region ?_
    refine LW_q (.inl rfl) rfl (by decide) (R_indexP (enc := encRole) (i := (i92 : Int)) (x0 := x93) Tryz.underlying23 Tryz.sizeOf47 e142 eI hs21.1 (Int.natCast_nonneg _) hx95) (fun p143 hp144 => ?_)
    refine LW_v (.inl rfl) rfl (by decide) (R_load rfl (load_atA hST.has hp144 Tryz.isAgg47 Tryz.sizeOf47)) ?_
    refine LW_e (.inl rfl) rfl (by decide) (E_alloc hST Tryz.zeroValue47 (fun W147 b146 hST => ?_))
    refine LW_e0 (.inl rfl) rfl (E_store [] (.agg (encRole x93).toArray) ((encRole x93).toArray) hST rfl rfl Tryz.sizeOf47 (oneRole x93) (Nat.le_of_ble_eq_true rfl) rfl (fun W148 hST => ?_))
    refine LW_nil ?_
    refine sq_n ?_
    refine PX_start (fun l W => Has μ22 ((b146, Obj.cells ((encRole x93).toArray : Array Value) 47 (0, 0)) :: ((b_a0, Obj.cells (#[v_a0_all, v_a0_targets, v_a0_words, v_a0_relevant] : Array Value) 122 (0, 0)) :: [])) W) Tryz_mixed ?_
    replace hST := hST.drew
    replace hST : ST true (keys ((b_a0, Obj.cells (#[v_a0_all, v_a0_targets, v_a0_words, v_a0_relevant] : Array Value) 122 (0, 0)) :: (R_a0_targets ++ (R_a0_words ++ (R_a0_relevant ++ []))))) w _ _ ((b146, Obj.cells ((encRole x93).toArray : Array Value) 47 (0, 0)) :: ((b1, Obj.cells ((encCred a1).toArray : Array Value) 83 (0, 0)) :: ((b_a0, Obj.cells (#[v_a0_all, v_a0_targets, v_a0_words, v_a0_relevant] : Array Value) 122 (0, 0)) :: (R116 ++ (R10 ++ (R_a0_words ++ L138)))))) := hST
    have hS0 : Has μ22 ((b146, Obj.cells ((encRole x93).toArray : Array Value) 47 (0, 0)) :: ((b_a0, Obj.cells (#[v_a0_all, v_a0_targets, v_a0_words, v_a0_relevant] : Array Value) 122 (0, 0)) :: [])) _ := hST.has.sub (Sub.refl _) (fun p hq => ((List.mem_cons.1 hq).elim (fun hq => by rw [hq]; exact (.head _)) (fun hq => ((List.mem_cons.1 hq).elim (fun hq => by rw [hq]; exact (.tail _ (.tail _ (.head _)))) (fun hq => (absurd hq List.not_mem_nil))))))
    refine PX_v 0 rfl (by kernel_rfl) (.inl rfl) rfl (by decide) (fun _ _ h => h) hS0 (fun _ _ _ _ => R_move (v := (.pointer (some ⟨b_a0, 0, none⟩))) e140) ?_
    refine PX_v 1 rfl (by kernel_rfl) (.inl rfl) rfl (by decide) (fun _ _ h => h) hS0 (fun _ _ _ _ => R_nilCheck rfl) ?_
    refine PX_v 2 rfl (by kernel_rfl) (.inl rfl) rfl (by decide) (fun _ _ h => h) hS0 (fun _ _ _ _ => R_field fa122_1 rfl) ?_
    refine PX_v 3 rfl (by kernel_rfl) (.inl rfl) rfl (by decide) (fun _ _ h => h) hS0 (fun l W hpd hs => have hS := hs; R_load (v := v_a0_targets) rfl (load_box1 hS (.tail _ (.head _)) rfl Tryz.isAgg118)) ?_
    refine PX_v 4 rfl (by kernel_rfl) (.inl rfl) rfl (by decide) (fun _ _ h => h) hS0 (fun l W hpd hs => have hS := hs; R_load (v := (.agg (encRole x93).toArray)) rfl (load_boxA hS (.head _) (encRole x93) rfl Tryz.isAgg47 Tryz.sizeOf47)) ?_
    refine PX_e0 5 rfl (by kernel_rfl) (.inl rfl) rfl (E_mapUpdate (k := x93) (v := true) (vf := (fun (x : Bool) => (Value.bool x))) [_, _, _] kl47 Tryz.underlying118 hST hs115 rfl rfl rfl (fun W155 R156 hST hR157 => ?_))
    replace hST : ST true (keys ((b_a0, Obj.cells (#[v_a0_all, v_a0_targets, v_a0_words, v_a0_relevant] : Array Value) 122 (0, 0)) :: (R_a0_targets ++ (R_a0_words ++ (R_a0_relevant ++ []))))) w _ _ ((b146, Obj.cells ((encRole x93).toArray : Array Value) 47 (0, 0)) :: ((b1, Obj.cells ((encCred a1).toArray : Array Value) 83 (0, 0)) :: ((b_a0, Obj.cells (#[v_a0_all, v_a0_targets, v_a0_words, v_a0_relevant] : Array Value) 122 (0, 0)) :: (R156 ++ (R10 ++ (R_a0_words ++ L138)))))) := hST
    have hS0 : Has μ22 ((b146, Obj.cells ((encRole x93).toArray : Array Value) 47 (0, 0)) :: ((b_a0, Obj.cells (#[v_a0_all, v_a0_targets, v_a0_words, v_a0_relevant] : Array Value) 122 (0, 0)) :: [])) _ := hST.has.sub (Sub.refl _) (fun p hq => ((List.mem_cons.1 hq).elim (fun hq => by rw [hq]; exact (.head _)) (fun hq => ((List.mem_cons.1 hq).elim (fun hq => by rw [hq]; exact (.tail _ (.tail _ (.head _)))) (fun hq => (absurd hq List.not_mem_nil))))))
    refine ⟨hS0, ?_⟩
    refine PX_done (by kernel_rfl) ?_
    refine bq_n ?_
    refine sq_n ?_
    replace hST : ST true (keys ((b_a0, Obj.cells (#[v_a0_all, v_a0_targets, v_a0_words, v_a0_relevant] : Array Value) 122 (0, 0)) :: (R_a0_targets ++ (R_a0_words ++ (R_a0_relevant ++ []))))) w _ _ ((b1, Obj.cells ((encCred a1).toArray : Array Value) 83 (0, 0)) :: ((b_a0, Obj.cells (#[v_a0_all, v_a0_targets, v_a0_words, v_a0_relevant] : Array Value) 122 (0, 0)) :: (R156 ++ (R10 ++ (R_a0_words ++ L138))))) := hST.sublist (List.Sublist.cons _ (List.Sublist.refl _))
    exact ⟨eI, ((mput beqRole l114 x93 true)), R156, _, ⟨rfl, eN⟩, (hST.sublist (List.Sublist.refl _)), e140, e141, e142, hR157, (by rw [hx97]; exact hm139)⟩
  · rintro E W ⟨l114, R116, L138, ⟨eI, eN⟩, hST, e140, e141, e142, hs115, hm139⟩
    rw [List.drop_length] at hm139
    rw [m_graph_Graph_take_w_L1] at hm139
    refine sq_n ?_
    refine CW_seq ?_
    refine CW_region ?_
    refine LW_v (.inl rfl) rfl (by decide) (R_field fa83_0 e141) ?_
    refine LW_v (.inl rfl) rfl (by decide) (R_load (v := (.int .i64 a1.Kind)) rfl (load_box1 hST.has (.head _) rfl Tryz.isAgg3)) ?_
    refine LW_v (.inl rfl) rfl (by decide) (R_int (k := .i64) (a := a1.Kind) (b := 3) (v := (.bool ((a1.Kind == 3)))) rfl rfl rfl) ?_
    refine LW_nil ?_
    refine sq_n ?_
    refine CW_if (b := (a1.Kind == 3)) rfl (fun hb158 => ?_) (fun hb158 => ?_)
    · replace hm139 := if_t hb158 hm139
      refine PX_start (fun l W => Has μ22 ((b1, Obj.cells ((encCred a1).toArray : Array Value) 83 (0, 0)) :: ((b_a0, Obj.cells (#[v_a0_all, v_a0_targets, v_a0_words, v_a0_relevant] : Array Value) 122 (0, 0)) :: [])) W) Tryz_mixed ?_
      replace hST := hST.drew
      have hS0 : Has μ22 ((b1, Obj.cells ((encCred a1).toArray : Array Value) 83 (0, 0)) :: ((b_a0, Obj.cells (#[v_a0_all, v_a0_targets, v_a0_words, v_a0_relevant] : Array Value) 122 (0, 0)) :: [])) _ := hST.has.sub (Sub.refl _) (fun p hq => ((List.mem_cons.1 hq).elim (fun hq => by rw [hq]; exact (.head _)) (fun hq => ((List.mem_cons.1 hq).elim (fun hq => by rw [hq]; exact (.tail _ (.head _))) (fun hq => (absurd hq List.not_mem_nil))))))
      refine PX_v 0 rfl (by kernel_rfl) (.inl rfl) rfl (by decide) (fun _ _ h => h) hS0 (fun _ _ _ _ => R_move (v := (.pointer (some ⟨b_a0, 0, none⟩))) e140) ?_
      refine PX_v 1 rfl (by kernel_rfl) (.inl rfl) rfl (by decide) (fun _ _ h => h) hS0 (fun _ _ _ _ => R_nilCheck rfl) ?_
      refine PX_v 2 rfl (by kernel_rfl) (.inl rfl) rfl (by decide) (fun _ _ h => h) hS0 (fun _ _ _ _ => R_field fa122_2 rfl) ?_
      refine PX_v 3 rfl (by kernel_rfl) (.inl rfl) rfl (by decide) (fun _ _ h => h) hS0 (fun l W hpd hs => have hS := hs; R_load (v := v_a0_words) rfl (load_box1 hS (.tail _ (.head _)) rfl Tryz.isAgg119)) ?_
      refine PX_v 4 rfl (by kernel_rfl) (.inl rfl) rfl (by decide) (fun _ _ h => h) hS0 (fun _ _ _ _ => R_field fa83_5 e141) ?_
      refine PX_v 5 rfl (by kernel_rfl) (.inl rfl) rfl (by decide) (fun _ _ h => h) hS0 (fun l W hpd hs => have hS := hs; R_load (v := (.string a1.Word2)) rfl (load_box1 hS (.head _) rfl Tryz.isAgg9)) ?_
      replace hST : ST true (keys ((b_a0, Obj.cells (#[v_a0_all, v_a0_targets, v_a0_words, v_a0_relevant] : Array Value) 122 (0, 0)) :: (R_a0_targets ++ (R_a0_words ++ (R_a0_relevant ++ []))))) w _ _ ((b1, Obj.cells ((encCred a1).toArray : Array Value) 83 (0, 0)) :: ((b_a0, Obj.cells (#[v_a0_all, v_a0_targets, v_a0_words, v_a0_relevant] : Array Value) 122 (0, 0)) :: (R_a0_words ++ (R116 ++ (R10 ++ L138))))) := hST.perm (permD [[(b1, Obj.cells ((encCred a1).toArray : Array Value) 83 (0, 0))], [(b_a0, Obj.cells (#[v_a0_all, v_a0_targets, v_a0_words, v_a0_relevant] : Array Value) 122 (0, 0))], R116, R10, R_a0_words] [0, 1, 2, 3, 4] [0, 1, 4, 2, 3] L138 (by decide) rfl rfl)
      refine PX_e0 6 rfl (by kernel_rfl) (.inl rfl) rfl (E_mapUpdate (k := a1.Word2) (v := true) (vf := (fun (x : Bool) => (Value.bool x))) [_, _] kl9 Tryz.underlying119 hST h_a0_words rfl rfl rfl (fun W165 R166 hST hR167 => ?_))
      replace hST : ST true (keys ((b_a0, Obj.cells (#[v_a0_all, v_a0_targets, v_a0_words, v_a0_relevant] : Array Value) 122 (0, 0)) :: (R_a0_targets ++ (R_a0_words ++ (R_a0_relevant ++ []))))) w _ _ ((b1, Obj.cells ((encCred a1).toArray : Array Value) 83 (0, 0)) :: ((b_a0, Obj.cells (#[v_a0_all, v_a0_targets, v_a0_words, v_a0_relevant] : Array Value) 122 (0, 0)) :: (R166 ++ (R116 ++ (R10 ++ L138))))) := hST
      have hS0 : Has μ22 ((b1, Obj.cells ((encCred a1).toArray : Array Value) 83 (0, 0)) :: ((b_a0, Obj.cells (#[v_a0_all, v_a0_targets, v_a0_words, v_a0_relevant] : Array Value) 122 (0, 0)) :: [])) _ := hST.has.sub (Sub.refl _) (fun p hq => ((List.mem_cons.1 hq).elim (fun hq => by rw [hq]; exact (.head _)) (fun hq => ((List.mem_cons.1 hq).elim (fun hq => by rw [hq]; exact (.tail _ (.head _))) (fun hq => (absurd hq List.not_mem_nil))))))
      refine ⟨hS0, ?_⟩
      refine PX_done (by kernel_rfl) ?_
      refine retQ_n ?_
      replace hm139 := Option.some.inj hm139; subst hm139
      refine retQ_0 rfl ?_
      replace hST : ST true (keys ((b_a0, Obj.cells (#[v_a0_all, v_a0_targets, v_a0_words, v_a0_relevant] : Array Value) 122 (0, 0)) :: (R_a0_targets ++ (R_a0_words ++ (R_a0_relevant ++ []))))) w _ _ ((b1, Obj.cells ((encCred a1).toArray : Array Value) 83 (0, 0)) :: ((b_a0, Obj.cells (#[v_a0_all, v_a0_targets, v_a0_words, v_a0_relevant] : Array Value) 122 (0, 0)) :: (R166 ++ (R116 ++ (R10 ++ L138))))) := hST
      exact ⟨_, ((b_a0, Obj.cells (#[v_a0_all, v_a0_targets, v_a0_words, v_a0_relevant] : Array Value) 122 (0, 0)) :: (R116 ++ (R166 ++ (R10 ++ [])))), rfl, (ST.backM (L1 := ((b_a0, Obj.cells (#[v_a0_all, v_a0_targets, v_a0_words, v_a0_relevant] : Array Value) 122 (0, 0)) :: (R116 ++ (R166 ++ (R10 ++ []))))) (by have hh : ST true (keys ((b_a0, Obj.cells (#[v_a0_all, v_a0_targets, v_a0_words, v_a0_relevant] : Array Value) 122 (0, 0)) :: (R_a0_targets ++ (R_a0_words ++ (R_a0_relevant ++ []))))) w _ _ ((b_a0, Obj.cells (#[v_a0_all, v_a0_targets, v_a0_words, v_a0_relevant] : Array Value) 122 (0, 0)) :: (R116 ++ (R166 ++ (R10 ++ ((b1, Obj.cells ((encCred a1).toArray : Array Value) 83 (0, 0)) :: L138))))) := hST.perm (permD [[(b1, Obj.cells ((encCred a1).toArray : Array Value) 83 (0, 0))], [(b_a0, Obj.cells (#[v_a0_all, v_a0_targets, v_a0_words, v_a0_relevant] : Array Value) 122 (0, 0))], R166, R116, R10] [0, 1, 2, 3, 4] [1, 3, 2, 4, 0] L138 (by decide) rfl rfl); simpa only [List.append_assoc, List.cons_append, List.nil_append] using hh)), R116, R166, R10, rfl, rfl, hs115, hR167, hR11⟩
    · replace hm139 := if_f hb158 hm139
      refine CW_skip ?_
      refine retQ_n ?_
      replace hm139 := Option.some.inj hm139; subst hm139
      refine retQ_0 rfl ?_
      replace hST : ST true (keys ((b_a0, Obj.cells (#[v_a0_all, v_a0_targets, v_a0_words, v_a0_relevant] : Array Value) 122 (0, 0)) :: (R_a0_targets ++ (R_a0_words ++ (R_a0_relevant ++ []))))) w _ _ ((b1, Obj.cells ((encCred a1).toArray : Array Value) 83 (0, 0)) :: ((b_a0, Obj.cells (#[v_a0_all, v_a0_targets, v_a0_words, v_a0_relevant] : Array Value) 122 (0, 0)) :: (R116 ++ (R10 ++ (R_a0_words ++ L138))))) := hST
      exact ⟨_, ((b_a0, Obj.cells (#[v_a0_all, v_a0_targets, v_a0_words, v_a0_relevant] : Array Value) 122 (0, 0)) :: (R116 ++ (R_a0_words ++ (R10 ++ [])))), rfl, (ST.backM (L1 := ((b_a0, Obj.cells (#[v_a0_all, v_a0_targets, v_a0_words, v_a0_relevant] : Array Value) 122 (0, 0)) :: (R116 ++ (R_a0_words ++ (R10 ++ []))))) (by have hh : ST true (keys ((b_a0, Obj.cells (#[v_a0_all, v_a0_targets, v_a0_words, v_a0_relevant] : Array Value) 122 (0, 0)) :: (R_a0_targets ++ (R_a0_words ++ (R_a0_relevant ++ []))))) w _ _ ((b_a0, Obj.cells (#[v_a0_all, v_a0_targets, v_a0_words, v_a0_relevant] : Array Value) 122 (0, 0)) :: (R116 ++ (R_a0_words ++ (R10 ++ ((b1, Obj.cells ((encCred a1).toArray : Array Value) 83 (0, 0)) :: L138))))) := hST.perm (permD [[(b1, Obj.cells ((encCred a1).toArray : Array Value) 83 (0, 0))], [(b_a0, Obj.cells (#[v_a0_all, v_a0_targets, v_a0_words, v_a0_relevant] : Array Value) 122 (0, 0))], R116, R10, R_a0_words] [0, 1, 2, 3, 4] [1, 2, 4, 3, 0] L138 (by decide) rfl rfl); simpa only [List.append_assoc, List.cons_append, List.nil_append] using hh)), R116, R_a0_words, R10, rfl, rfl, hs115, h_a0_words, hR11⟩
theorem w_graph_Graph_Want_w (b_a0 : Nat) (v_a0_all : Value) (a0_all : List Cred) (v_a0_targets : Value) (a0_targets : List (Role × Bool)) (R_a0_targets : List (Nat × Obj)) (v_a0_words : Value) (a0_words : List (ByteArray × Bool)) (R_a0_words : List (Nat × Obj)) (v_a0_relevant : Value) (a0_relevant : List (Cred × Bool)) (R_a0_relevant : List (Nat × Obj)) (v_a1 : Value) (a1 : List Role) (r : (Int × (List (Role × Bool)) × (List (ByteArray × Bool)) × (List (Cred × Bool)))) (w : World) {μ0 : Mem} (hH : Held ((b_a0, Obj.cells (#[v_a0_all, v_a0_targets, v_a0_words, v_a0_relevant] : Array Value) 122 (0, 0)) :: (R_a0_targets ++ (R_a0_words ++ (R_a0_relevant ++ [])))) w) (hN : ((((b_a0, Obj.cells (#[v_a0_all, v_a0_targets, v_a0_words, v_a0_relevant] : Array Value) 122 (0, 0)) :: (R_a0_targets ++ (R_a0_words ++ (R_a0_relevant ++ [])))) : List (Nat × Obj)).map (·.1)).Nodup) (hS0 : Sub μ0 (hpx w ((b_a0, Obj.cells (#[v_a0_all, v_a0_targets, v_a0_words, v_a0_relevant] : Array Value) 122 (0, 0)) :: (R_a0_targets ++ (R_a0_words ++ (R_a0_relevant ++ [])))))) (h_a0_all : Sl (Pl encCred) 9 μ0 v_a0_all a0_all) (h_a0_targets : MapRow (fun (x : Role) => (.agg (encRole x).toArray)) (fun (x : Bool) => (Value.bool x)) v_a0_targets a0_targets R_a0_targets) (h_a0_words : MapRow Value.string (fun (x : Bool) => (Value.bool x)) v_a0_words a0_words R_a0_words) (h_a0_relevant : MapRow (fun (x : Cred) => (.agg (encCred x).toArray)) (fun (x : Bool) => (Value.bool x)) v_a0_relevant a0_relevant R_a0_relevant) (h_a1 : Sl (Pl encRole) 2 μ0 v_a1 a1) (hm : m_graph_Graph_Want_w a0_all a0_targets a0_words a0_relevant a1 = some r) :
    GivesM true Tryz.prog 26 [(.pointer (some ⟨b_a0, 0, none⟩)), v_a1] w ((b_a0, Obj.cells (#[v_a0_all, v_a0_targets, v_a0_words, v_a0_relevant] : Array Value) 122 (0, 0)) :: (R_a0_targets ++ (R_a0_words ++ (R_a0_relevant ++ [])))) (fun v L1 W' => ∃ (S1 : List (Nat × Obj)) (S3 : List (Nat × Obj)) (S5 : List (Nat × Obj)), v = (.int .i64 (r.1)) ∧ L1 = ((b_a0, Obj.cells (#[v_a0_all, v_a0_targets, v_a0_words, v_a0_relevant] : Array Value) 122 (0, 0)) :: (S1 ++ (S3 ++ (S5 ++ [])))) ∧ MapRow (fun (x : Role) => (.agg (encRole x).toArray)) (fun (x : Bool) => (Value.bool x)) v_a0_targets r.2.1 S1 ∧ MapRow Value.string (fun (x : Bool) => (Value.bool x)) v_a0_words r.2.2.1 S3 ∧ MapRow (fun (x : Cred) => (.agg (encCred x).toArray)) (fun (x : Bool) => (Value.bool x)) v_a0_relevant r.2.2.2 S5) := by
  have hST := (ST.startM (dd := true) hH hN).weak hS0
  unfold m_graph_Graph_Want_w at hm
  refine calls_of_CW (n := 75) Tryz.func26 rfl rfl (Nat.le_of_ble_eq_true rfl) ?_
  refine CW_seq ?_
  refine CW_region ?_
  refine LW_v (.inl rfl) rfl (by decide) (R_assign (v := (.int .i64 0)) rfl) ?_
  refine LW_nil ?_
  refine sq_n ?_
  refine CW_seq ?_
  refine CW_seq ?_
  refine CW_region ?_
  refine LW_v (.inl rfl) rfl (by decide) (R_move (v := (.pointer (some ⟨b_a0, 0, none⟩))) rfl) ?_
  refine LW_v (.inl rfl) rfl (by decide) (R_ptrEqNil Tryz.underlying31 rfl rfl) ?_
  refine LW_nil ?_
  refine sq_n ?_
  refine CW_if_false rfl ?_
  refine CW_skip ?_
  refine sq_n ?_
  refine CW_seq ?_
  refine CW_seq ?_
  refine CW_region ?_
  refine LW_v (.inl rfl) rfl (by decide) (R_move (v := v_a1) rfl) ?_
  obtain ⟨r1, hr2, hm⟩ := bind_some hm
  refine LW_e (.inl rfl) rfl (by decide) (E_givesRow (args := [v_a1]) [_] _ hST rfl Tryz.call78 (by exact args1 rfl) ((w_role_Set v_a1 a1 _ _ (h_a1.mono (Pl.mono _) hST.sub_hp) hr2)) (fun W3 v6 μ4 R7 hST hle5 hR8 => ?_))
  refine LW_v (.inl rfl) rfl (by decide) (R_lenRow Tryz.underlying23 rfl hR8) ?_
  refine LW_v (.inl rfl) rfl (by decide) (R_move (v := (.int .i64 0)) rfl) ?_
  refine LW_nil ?_
  refine sq_n ?_
  replace hST : ST true (keys ((b_a0, Obj.cells (#[v_a0_all, v_a0_targets, v_a0_words, v_a0_relevant] : Array Value) 122 (0, 0)) :: (R_a0_targets ++ (R_a0_words ++ (R_a0_relevant ++ []))))) w _ _ ((b_a0, Obj.cells (#[v_a0_all, v_a0_targets, v_a0_words, v_a0_relevant] : Array Value) 122 (0, 0)) :: (R7 ++ (R_a0_targets ++ (R_a0_words ++ (R_a0_relevant ++ []))))) := hST
  replace hST : ST true (keys ((b_a0, Obj.cells (#[v_a0_all, v_a0_targets, v_a0_words, v_a0_relevant] : Array Value) 122 (0, 0)) :: (R_a0_targets ++ (R_a0_words ++ (R_a0_relevant ++ []))))) w _ _ ((b_a0, Obj.cells (#[v_a0_all, v_a0_targets, v_a0_words, v_a0_relevant] : Array Value) 122 (0, 0)) :: (R_a0_targets ++ (R7 ++ (R_a0_words ++ (R_a0_relevant ++ []))))) := hST.perm (permD [[(b_a0, Obj.cells (#[v_a0_all, v_a0_targets, v_a0_words, v_a0_relevant] : Array Value) 122 (0, 0))], R7, R_a0_targets] [0, 1, 2] [0, 2, 1] ((R_a0_words ++ (R_a0_relevant ++ []))) (by decide) rfl rfl)
  refine CW_range (fun i E W => ∃ (l95 : List (Role × Bool)) (R97 : List (Nat × Obj)) (L118 : List (Nat × Obj)), (E 16 = .int .i64 (i : Nat) ∧ E 15 = .int .i64 (r1.length : Nat)) ∧ ST true (keys ((b_a0, Obj.cells (#[v_a0_all, v_a0_targets, v_a0_words, v_a0_relevant] : Array Value) 122 (0, 0)) :: (R_a0_targets ++ (R_a0_words ++ (R_a0_relevant ++ []))))) w W μ4 ((b_a0, Obj.cells (#[v_a0_all, v_a0_targets, v_a0_words, v_a0_relevant] : Array Value) 122 (0, 0)) :: (R97 ++ (R7 ++ (R_a0_words ++ (R_a0_relevant ++ L118))))) ∧ E 0 = (.pointer (some ⟨b_a0, 0, none⟩)) ∧ E 14 = v6 ∧ MapRow (fun (x : Role) => (.agg (encRole x).toArray)) (fun (x : Bool) => (Value.bool x)) v_a0_targets l95 R97 ∧ m_graph_Graph_Want_w_L1 a0_all a0_words a0_relevant (r1.drop i) l95 = some r) r1.length hR8.len ⟨a0_targets, R_a0_targets, _, ⟨rfl, rfl⟩, (hST.sublist (List.Sublist.refl _)), rfl, rfl, h_a0_targets, hm⟩ (by decide) (by decide) (by decide) (fun _ _ _ h => by obtain ⟨_, _, _, eIN, _⟩ := h; exact eIN) ?_ ?_
  · rintro i73 E W hi79 ⟨l95, R97, L118, ⟨eI, eN⟩, hST, e120, e121, hs96, hm119⟩
    obtain ⟨x74, xs75, hx77, hx76, hx78⟩ := drop_cons hi79
    rw [hx77] at hm119
    rw [m_graph_Graph_Want_w_L1] at hm119
    refine CW_block ?_
    refine CW_seq ?_
    refine CW_region ?_
    refine LW_q (.inl rfl) rfl (by decide) (R_indexRow (i := (i73 : Int)) (x0 := x74) Tryz.underlying23 Tryz.sizeOf47 e121 eI hR8 (Int.natCast_nonneg _) hx76) (fun p122 hp123 => ?_)
    refine LW_v (.inl rfl) rfl (by decide) (R_load (v := (.agg (encRole x74).toArray)) rfl (load_ixA hST.has (fun p hq => by simp [hq]) hR8 lenRole hp123 hx76 Tryz.isAgg47 Tryz.sizeOf47)) ?_
    refine LW_e (.inl rfl) rfl (by decide) (E_alloc hST Tryz.zeroValue47 (fun W126 b125 hST => ?_))
    refine LW_e0 (.inl rfl) rfl (E_store [] (.agg (encRole x74).toArray) ((encRole x74).toArray) hST rfl rfl Tryz.sizeOf47 (oneRole x74) (Nat.le_of_ble_eq_true rfl) rfl (fun W127 hST => ?_))
    refine LW_nil ?_
    refine sq_n ?_
    refine PX_start (fun l W => Has μ4 ((b125, Obj.cells ((encRole x74).toArray : Array Value) 47 (0, 0)) :: ((b_a0, Obj.cells (#[v_a0_all, v_a0_targets, v_a0_words, v_a0_relevant] : Array Value) 122 (0, 0)) :: [])) W) Tryz_mixed ?_
    replace hST := hST.drew
    replace hST : ST true (keys ((b_a0, Obj.cells (#[v_a0_all, v_a0_targets, v_a0_words, v_a0_relevant] : Array Value) 122 (0, 0)) :: (R_a0_targets ++ (R_a0_words ++ (R_a0_relevant ++ []))))) w _ _ ((b125, Obj.cells ((encRole x74).toArray : Array Value) 47 (0, 0)) :: ((b_a0, Obj.cells (#[v_a0_all, v_a0_targets, v_a0_words, v_a0_relevant] : Array Value) 122 (0, 0)) :: (R97 ++ (R7 ++ (R_a0_words ++ (R_a0_relevant ++ L118)))))) := hST
    have hS0 : Has μ4 ((b125, Obj.cells ((encRole x74).toArray : Array Value) 47 (0, 0)) :: ((b_a0, Obj.cells (#[v_a0_all, v_a0_targets, v_a0_words, v_a0_relevant] : Array Value) 122 (0, 0)) :: [])) _ := hST.has.sub (Sub.refl _) (fun p hq => ((List.mem_cons.1 hq).elim (fun hq => by rw [hq]; exact (.head _)) (fun hq => ((List.mem_cons.1 hq).elim (fun hq => by rw [hq]; exact (.tail _ (.head _))) (fun hq => (absurd hq List.not_mem_nil))))))
    refine PX_v 0 rfl (by kernel_rfl) (.inl rfl) rfl (by decide) (fun _ _ h => h) hS0 (fun _ _ _ _ => R_move (v := (.pointer (some ⟨b_a0, 0, none⟩))) e120) ?_
    refine PX_v 1 rfl (by kernel_rfl) (.inl rfl) rfl (by decide) (fun _ _ h => h) hS0 (fun _ _ _ _ => R_nilCheck rfl) ?_
    refine PX_v 2 rfl (by kernel_rfl) (.inl rfl) rfl (by decide) (fun _ _ h => h) hS0 (fun _ _ _ _ => R_field fa122_1 rfl) ?_
    refine PX_v 3 rfl (by kernel_rfl) (.inl rfl) rfl (by decide) (fun _ _ h => h) hS0 (fun l W hpd hs => have hS := hs; R_load (v := v_a0_targets) rfl (load_box1 hS (.tail _ (.head _)) rfl Tryz.isAgg118)) ?_
    refine PX_v 4 rfl (by kernel_rfl) (.inl rfl) rfl (by decide) (fun _ _ h => h) hS0 (fun l W hpd hs => have hS := hs; R_load (v := (.agg (encRole x74).toArray)) rfl (load_boxA hS (.head _) (encRole x74) rfl Tryz.isAgg47 Tryz.sizeOf47)) ?_
    refine PX_e0 5 rfl (by kernel_rfl) (.inl rfl) rfl (E_mapUpdate (k := x74) (v := true) (vf := (fun (x : Bool) => (Value.bool x))) [_, _] kl47 Tryz.underlying118 hST hs96 rfl rfl rfl (fun W134 R135 hST hR136 => ?_))
    replace hST : ST true (keys ((b_a0, Obj.cells (#[v_a0_all, v_a0_targets, v_a0_words, v_a0_relevant] : Array Value) 122 (0, 0)) :: (R_a0_targets ++ (R_a0_words ++ (R_a0_relevant ++ []))))) w _ _ ((b125, Obj.cells ((encRole x74).toArray : Array Value) 47 (0, 0)) :: ((b_a0, Obj.cells (#[v_a0_all, v_a0_targets, v_a0_words, v_a0_relevant] : Array Value) 122 (0, 0)) :: (R135 ++ (R7 ++ (R_a0_words ++ (R_a0_relevant ++ L118)))))) := hST
    have hS0 : Has μ4 ((b125, Obj.cells ((encRole x74).toArray : Array Value) 47 (0, 0)) :: ((b_a0, Obj.cells (#[v_a0_all, v_a0_targets, v_a0_words, v_a0_relevant] : Array Value) 122 (0, 0)) :: [])) _ := hST.has.sub (Sub.refl _) (fun p hq => ((List.mem_cons.1 hq).elim (fun hq => by rw [hq]; exact (.head _)) (fun hq => ((List.mem_cons.1 hq).elim (fun hq => by rw [hq]; exact (.tail _ (.head _))) (fun hq => (absurd hq List.not_mem_nil))))))
    refine ⟨hS0, ?_⟩
    refine PX_done (by kernel_rfl) ?_
    refine bq_n ?_
    refine sq_n ?_
    replace hST : ST true (keys ((b_a0, Obj.cells (#[v_a0_all, v_a0_targets, v_a0_words, v_a0_relevant] : Array Value) 122 (0, 0)) :: (R_a0_targets ++ (R_a0_words ++ (R_a0_relevant ++ []))))) w _ _ ((b_a0, Obj.cells (#[v_a0_all, v_a0_targets, v_a0_words, v_a0_relevant] : Array Value) 122 (0, 0)) :: (R135 ++ (R7 ++ (R_a0_words ++ (R_a0_relevant ++ L118))))) := hST.sublist (List.Sublist.cons _ (List.Sublist.refl _))
    exact ⟨eI, ((mput beqRole l95 x74 true)), R135, _, ⟨rfl, eN⟩, (hST.sublist (List.Sublist.refl _)), e120, e121, hR136, (by rw [hx78]; exact hm119)⟩
  · rintro E W ⟨l95, R97, L118, ⟨eI, eN⟩, hST, e120, e121, hs96, hm119⟩
    rw [List.drop_length] at hm119
    rw [m_graph_Graph_Want_w_L1] at hm119
    refine sq_n ?_
    replace hST : ST true (keys ((b_a0, Obj.cells (#[v_a0_all, v_a0_targets, v_a0_words, v_a0_relevant] : Array Value) 122 (0, 0)) :: (R_a0_targets ++ (R_a0_words ++ (R_a0_relevant ++ []))))) w _ _ ((b_a0, Obj.cells (#[v_a0_all, v_a0_targets, v_a0_words, v_a0_relevant] : Array Value) 122 (0, 0)) :: (R97 ++ (R_a0_words ++ (R_a0_relevant ++ L118)))) := hST.sublist (List.Sublist.cons_cons _ (List.Sublist.append (List.Sublist.refl _) ((List.Sublist.refl _).trans (List.sublist_append_right _ _))))
    refine CW_seq ?_
    refine CW_region ?_
    refine LW_v (.inl rfl) rfl (by decide) (R_move (v := (.pointer (some ⟨b_a0, 0, none⟩))) e120) ?_
    refine LW_v (.inl rfl) rfl (by decide) (R_nilCheck rfl) ?_
    refine LW_v (.inl rfl) rfl (by decide) (R_field fa122_3 rfl) ?_
    refine LW_v (.inl rfl) rfl (by decide) (R_load (v := v_a0_relevant) rfl (load_box1 hST.has (.head _) rfl Tryz.isAgg120)) ?_
    refine LW_v (.inl rfl) rfl (by decide) (R_lenMap (vf := (fun (x : Bool) => (Value.bool x))) (kenc := (fun (x : Cred) => (.agg (encCred x).toArray))) Tryz.underlying120 rfl (h_a0_relevant.at (fun b o hq => hST.has.2 b o (.tail _ (List.mem_append_right _ (List.mem_append_right _ (List.mem_append_left _ hq))))))) ?_
    refine LW_v (.inl rfl) rfl (by decide) (R_assign (v := (.int .i64 ((a0_relevant.length : Int)))) rfl) ?_
    refine LW_nil ?_
    refine sq_n ?_
    refine CW_seq ?_
    refine CW_seq ?_
    refine CW_region ?_
    refine LW_v (.inl rfl) rfl (by decide) (R_assign (v := (.int .i64 ((-1)))) rfl) ?_
    refine LW_nil ?_
    refine sq_n ?_
    obtain ⟨s2063, hm2064, hm2065⟩ := bind_some hm119
    refine CW_cut (fun E W => ∃ (l2049 : List (Role × Bool)) (R2051 : List (Nat × Obj)) (l2052 : List (ByteArray × Bool)) (R2054 : List (Nat × Obj)) (l2055 : List (Cred × Bool)) (R2057 : List (Nat × Obj)) (μ2048 : Mem) (L2058 : List (Nat × Obj)), Sub μ4 μ2048 ∧ ST true (keys ((b_a0, Obj.cells (#[v_a0_all, v_a0_targets, v_a0_words, v_a0_relevant] : Array Value) 122 (0, 0)) :: (R_a0_targets ++ (R_a0_words ++ (R_a0_relevant ++ []))))) w W μ2048 ((b_a0, Obj.cells (#[v_a0_all, v_a0_targets, v_a0_words, v_a0_relevant] : Array Value) 122 (0, 0)) :: (R2051 ++ (R2054 ++ (R2057 ++ L2058)))) ∧ E 0 = (.pointer (some ⟨b_a0, 0, none⟩)) ∧ E 7 = (.int .i64 ((a0_relevant.length : Int))) ∧ MapRow (fun (x : Role) => (.agg (encRole x).toArray)) (fun (x : Bool) => (Value.bool x)) v_a0_targets l2049 R2051 ∧ MapRow Value.string (fun (x : Bool) => (Value.bool x)) v_a0_words l2052 R2054 ∧ MapRow (fun (x : Cred) => (.agg (encCred x).toArray)) (fun (x : Bool) => (Value.bool x)) v_a0_relevant l2055 R2057 ∧ some ((IntKind.i64.wrap (((l2055.length : Int)) - ((a0_relevant.length : Int)))), l2049, l2052, l2055) = some r) ?_ ?_
    · refine CW_block (CW_loop (fun m E W => ∃ (x2693 : Int) (l2694 : List (Role × Bool)) (R2696 : List (Nat × Obj)) (l2697 : List (ByteArray × Bool)) (R2699 : List (Nat × Obj)) (l2700 : List (Cred × Bool)) (R2702 : List (Nat × Obj)) (μ2692 : Mem) (L3344 : List (Nat × Obj)), Sub μ4 μ2692 ∧ ST true (keys ((b_a0, Obj.cells (#[v_a0_all, v_a0_targets, v_a0_words, v_a0_relevant] : Array Value) 122 (0, 0)) :: (R_a0_targets ++ (R_a0_words ++ (R_a0_relevant ++ []))))) w W μ2692 ((b_a0, Obj.cells (#[v_a0_all, v_a0_targets, v_a0_words, v_a0_relevant] : Array Value) 122 (0, 0)) :: (R2696 ++ (R2699 ++ (R2702 ++ L3344)))) ∧ E 0 = (.pointer (some ⟨b_a0, 0, none⟩)) ∧ E 7 = (.int .i64 ((a0_relevant.length : Int))) ∧ E 8 = (.int .i64 x2693) ∧ MapRow (fun (x : Role) => (.agg (encRole x).toArray)) (fun (x : Bool) => (Value.bool x)) v_a0_targets l2694 R2696 ∧ MapRow Value.string (fun (x : Bool) => (Value.bool x)) v_a0_words l2697 R2699 ∧ MapRow (fun (x : Cred) => (.agg (encCred x).toArray)) (fun (x : Bool) => (Value.bool x)) v_a0_relevant l2700 R2702 ∧ m_graph_Graph_Want_w_L2 a0_all m x2693 l2694 l2697 l2700 = some s2063) FUEL ⟨((-1)), l95, R97, a0_words, R_a0_words, a0_relevant, R_a0_relevant, μ4, _, (Sub.refl _), (hST.sublist (List.Sublist.refl _)), e120, rfl, rfl, hs96, h_a0_words, h_a0_relevant, hm2064⟩ ?_)
      rintro m E W ⟨x2693, l2694, R2696, l2697, R2699, l2700, R2702, μ2692, L3344, hle3347, hST, e3348, e3349, e3350, hs2695, hs2698, hs2701, hm3345⟩
      cases m with
      | zero => rw [m_graph_Graph_Want_w_L2] at hm3345; cases hm3345
      | succ n3346 =>
        rw [m_graph_Graph_Want_w_L2] at hm3345
        refine CW_seq ?_
        refine CW_seq ?_
        refine CW_region ?_
        refine LW_v (.inl rfl) rfl (by decide) (R_move (v := (.int .i64 x2693)) e3350) ?_
        refine LW_v (.inl rfl) rfl (by decide) (R_move (v := (.pointer (some ⟨b_a0, 0, none⟩))) e3348) ?_
        refine LW_v (.inl rfl) rfl (by decide) (R_nilCheck rfl) ?_
        refine LW_v (.inl rfl) rfl (by decide) (R_field fa122_3 rfl) ?_
        refine LW_v (.inl rfl) rfl (by decide) (R_load (v := v_a0_relevant) rfl (load_box1 hST.has (.head _) rfl Tryz.isAgg120)) ?_
        refine LW_v (.inl rfl) rfl (by decide) (R_lenMap (vf := (fun (x : Bool) => (Value.bool x))) (kenc := (fun (x : Cred) => (.agg (encCred x).toArray))) Tryz.underlying120 rfl (hs2701.at (fun b o hq => hST.has.2 b o (.tail _ (List.mem_append_right _ (List.mem_append_right _ (List.mem_append_left _ hq))))))) ?_
        refine LW_v (.inl rfl) rfl (by decide) (R_int (k := .i64) (a := x2693) (b := ((l2700.length : Int))) (v := (.bool ((decide (x2693 < ((l2700.length : Int))))))) rfl rfl rfl) ?_
        refine LW_nil ?_
        refine sq_n ?_
        refine CW_if (b := (decide (x2693 < ((l2700.length : Int))))) rfl (fun hb3351 => ?_) (fun hb3351 => ?_)
        · replace hm3345 := if_t hb3351 hm3345
          refine CW_skip ?_
          refine sq_n ?_
          refine CW_block ?_
          refine CW_seq ?_
          refine CW_region ?_
          refine LW_v (.inl rfl) rfl (by decide) (R_move (v := (.pointer (some ⟨b_a0, 0, none⟩))) e3348) ?_
          refine LW_v (.inl rfl) rfl (by decide) (R_nilCheck rfl) ?_
          refine LW_v (.inl rfl) rfl (by decide) (R_field fa122_3 rfl) ?_
          refine LW_v (.inl rfl) rfl (by decide) (R_load (v := v_a0_relevant) rfl (load_box1 hST.has (.head _) rfl Tryz.isAgg120)) ?_
          refine LW_v (.inl rfl) rfl (by decide) (R_lenMap (vf := (fun (x : Bool) => (Value.bool x))) (kenc := (fun (x : Cred) => (.agg (encCred x).toArray))) Tryz.underlying120 rfl (hs2701.at (fun b o hq => hST.has.2 b o (.tail _ (List.mem_append_right _ (List.mem_append_right _ (List.mem_append_left _ hq))))))) ?_
          refine LW_v (.inl rfl) rfl (by decide) (R_assign (v := (.int .i64 ((l2700.length : Int)))) rfl) ?_
          refine LW_nil ?_
          refine sq_n ?_
          refine CW_seq ?_
          refine CW_region ?_
          refine LW_v (.inl rfl) rfl (by decide) (R_move (v := (.pointer (some ⟨b_a0, 0, none⟩))) e3348) ?_
          refine LW_v (.inl rfl) rfl (by decide) (R_nilCheck rfl) ?_
          refine LW_v (.inl rfl) rfl (by decide) (R_field fa122_0 rfl) ?_
          refine LW_v (.inl rfl) rfl (by decide) (R_load (v := v_a0_all) rfl (load_box1 hST.has (.head _) rfl Tryz.isAgg22)) ?_
          refine LW_v (.inl rfl) rfl (by decide) (R_len Tryz.underlying22 rfl h_a0_all) ?_
          refine LW_v (.inl rfl) rfl (by decide) (R_move (v := (.int .i64 0)) rfl) ?_
          refine LW_nil ?_
          refine sq_n ?_
          refine CW_tail ?_
          obtain ⟨s3671, hm3672, hm3673⟩ := bind_some hm3345
          refine CW_cut (fun E W => ∃ (l3656 : List (Role × Bool)) (R3658 : List (Nat × Obj)) (l3659 : List (ByteArray × Bool)) (R3661 : List (Nat × Obj)) (l3662 : List (Cred × Bool)) (R3664 : List (Nat × Obj)) (μ3655 : Mem) (L3665 : List (Nat × Obj)), Sub μ2692 μ3655 ∧ ST true (keys ((b_a0, Obj.cells (#[v_a0_all, v_a0_targets, v_a0_words, v_a0_relevant] : Array Value) 122 (0, 0)) :: (R_a0_targets ++ (R_a0_words ++ (R_a0_relevant ++ []))))) w W μ3655 ((b_a0, Obj.cells (#[v_a0_all, v_a0_targets, v_a0_words, v_a0_relevant] : Array Value) 122 (0, 0)) :: (R3658 ++ (R3661 ++ (R3664 ++ L3665)))) ∧ E 0 = (.pointer (some ⟨b_a0, 0, none⟩)) ∧ E 7 = (.int .i64 ((a0_relevant.length : Int))) ∧ E 8 = (.int .i64 ((l2700.length : Int))) ∧ MapRow (fun (x : Role) => (.agg (encRole x).toArray)) (fun (x : Bool) => (Value.bool x)) v_a0_targets l3656 R3658 ∧ MapRow Value.string (fun (x : Bool) => (Value.bool x)) v_a0_words l3659 R3661 ∧ MapRow (fun (x : Cred) => (.agg (encCred x).toArray)) (fun (x : Bool) => (Value.bool x)) v_a0_relevant l3662 R3664 ∧ (m_graph_Graph_Want_w_L2 a0_all n3346 ((l2700.length : Int)) l3656 l3659 l3662) = some s2063) ?_ ?_
          · refine CW_range (fun i E W => ∃ (l3770 : List (Role × Bool)) (R3772 : List (Nat × Obj)) (l3773 : List (ByteArray × Bool)) (R3775 : List (Nat × Obj)) (l3776 : List (Cred × Bool)) (R3778 : List (Nat × Obj)) (μ3769 : Mem) (L3882 : List (Nat × Obj)), (E 48 = .int .i64 (i : Nat) ∧ E 47 = .int .i64 (a0_all.length : Nat)) ∧ Sub μ2692 μ3769 ∧ ST true (keys ((b_a0, Obj.cells (#[v_a0_all, v_a0_targets, v_a0_words, v_a0_relevant] : Array Value) 122 (0, 0)) :: (R_a0_targets ++ (R_a0_words ++ (R_a0_relevant ++ []))))) w W μ3769 ((b_a0, Obj.cells (#[v_a0_all, v_a0_targets, v_a0_words, v_a0_relevant] : Array Value) 122 (0, 0)) :: (R3772 ++ (R3775 ++ (R3778 ++ L3882)))) ∧ E 0 = (.pointer (some ⟨b_a0, 0, none⟩)) ∧ E 7 = (.int .i64 ((a0_relevant.length : Int))) ∧ E 8 = (.int .i64 ((l2700.length : Int))) ∧ E 46 = v_a0_all ∧ MapRow (fun (x : Role) => (.agg (encRole x).toArray)) (fun (x : Bool) => (Value.bool x)) v_a0_targets l3770 R3772 ∧ MapRow Value.string (fun (x : Bool) => (Value.bool x)) v_a0_words l3773 R3775 ∧ MapRow (fun (x : Cred) => (.agg (encCred x).toArray)) (fun (x : Bool) => (Value.bool x)) v_a0_relevant l3776 R3778 ∧ m_graph_Graph_Want_w_L3 a0_all (a0_all.drop i) l3770 l3773 l3776 = some s3671) a0_all.length h_a0_all.len ⟨l2694, R2696, l2697, R2699, l2700, R2702, μ2692, _, ⟨rfl, rfl⟩, (Sub.refl _), (hST.sublist (List.Sublist.refl _)), e3348, e3349, rfl, rfl, hs2695, hs2698, hs2701, hm3672⟩ (by decide) (by decide) (by decide) (fun _ _ _ h => by obtain ⟨_, _, _, _, _, _, _, _, eIN, _⟩ := h; exact eIN) ?_ ?_
            · rintro i3674 E W hi3680 ⟨l3770, R3772, l3773, R3775, l3776, R3778, μ3769, L3882, ⟨eI, eN⟩, hle3884, hST, e3885, e3886, e3887, e3888, hs3771, hs3774, hs3777, hm3883⟩
              obtain ⟨x3675, xs3676, hx3678, hx3677, hx3679⟩ := drop_cons hi3680
              rw [hx3678] at hm3883
              rw [m_graph_Graph_Want_w_L3] at hm3883
              refine CW_block ?_
              refine CW_seq ?_
              refine CW_region ?_
              refine LW_q (.inl rfl) rfl (by decide) (R_indexP (enc := encCred) (i := (i3674 : Int)) (x0 := x3675) Tryz.underlying22 Tryz.sizeOf83 e3888 eI (h_a0_all.mono (Pl.mono _) ((hle5.trans hle3347).trans hle3884)) (Int.natCast_nonneg _) hx3677) (fun p3889 hp3890 => ?_)
              refine LW_v (.inl rfl) rfl (by decide) (R_load rfl (load_atA hST.has hp3890 Tryz.isAgg83 Tryz.sizeOf83)) ?_
              refine LW_e (.inl rfl) rfl (by decide) (E_alloc hST Tryz.zeroValue83 (fun W3893 b3892 hST => ?_))
              refine LW_e0 (.inl rfl) rfl (E_store [] (.agg (encCred x3675).toArray) ((encCred x3675).toArray) hST rfl rfl Tryz.sizeOf83 (oneCred x3675) (Nat.le_of_ble_eq_true rfl) rfl (fun W3894 hST => ?_))
              refine LW_nil ?_
              refine sq_n ?_
              refine CW_seq ?_
              refine PX_start (fun l W => Has μ3769 ((b3892, Obj.cells ((encCred x3675).toArray : Array Value) 83 (0, 0)) :: ((b_a0, Obj.cells (#[v_a0_all, v_a0_targets, v_a0_words, v_a0_relevant] : Array Value) 122 (0, 0)) :: (R3778 ++ []))) W) Tryz_mixed ?_
              replace hST := hST.drew
              replace hST : ST true (keys ((b_a0, Obj.cells (#[v_a0_all, v_a0_targets, v_a0_words, v_a0_relevant] : Array Value) 122 (0, 0)) :: (R_a0_targets ++ (R_a0_words ++ (R_a0_relevant ++ []))))) w _ _ ((b3892, Obj.cells ((encCred x3675).toArray : Array Value) 83 (0, 0)) :: ((b_a0, Obj.cells (#[v_a0_all, v_a0_targets, v_a0_words, v_a0_relevant] : Array Value) 122 (0, 0)) :: (R3772 ++ (R3775 ++ (R3778 ++ L3882))))) := hST
              have hS0 : Has μ3769 ((b3892, Obj.cells ((encCred x3675).toArray : Array Value) 83 (0, 0)) :: ((b_a0, Obj.cells (#[v_a0_all, v_a0_targets, v_a0_words, v_a0_relevant] : Array Value) 122 (0, 0)) :: (R3778 ++ []))) _ := hST.has.sub (Sub.refl _) (fun p hq => ((List.mem_cons.1 hq).elim (fun hq => by rw [hq]; exact (.head _)) (fun hq => ((List.mem_cons.1 hq).elim (fun hq => by rw [hq]; exact (.tail _ (.head _))) (fun hq => ((List.mem_append.1 hq).elim (fun hq => (.tail _ (.tail _ (List.mem_append_right _ (List.mem_append_right _ (List.mem_append_left _ hq)))))) (fun hq => (absurd hq List.not_mem_nil))))))))
              refine PX_v 0 rfl (by kernel_rfl) (.inl rfl) rfl (by decide) (fun _ _ h => h) hS0 (fun _ _ _ _ => R_move (v := (.pointer (some ⟨b_a0, 0, none⟩))) e3885) ?_
              refine PX_v 1 rfl (by kernel_rfl) (.inl rfl) rfl (by decide) (fun _ _ h => h) hS0 (fun _ _ _ _ => R_nilCheck rfl) ?_
              refine PX_v 2 rfl (by kernel_rfl) (.inl rfl) rfl (by decide) (fun _ _ h => h) hS0 (fun _ _ _ _ => R_field fa122_3 rfl) ?_
              refine PX_v 3 rfl (by kernel_rfl) (.inl rfl) rfl (by decide) (fun _ _ h => h) hS0 (fun l W hpd hs => have hS := hs; R_load (v := v_a0_relevant) rfl (load_box1 hS (.tail _ (.head _)) rfl Tryz.isAgg120)) ?_
              refine PX_v 4 rfl (by kernel_rfl) (.inl rfl) rfl (by decide) (fun _ _ h => h) hS0 (fun l W hpd hs => have hS := hs; R_load (v := (.agg (encCred x3675).toArray)) rfl (load_boxA hS (.head _) (encCred x3675) rfl Tryz.isAgg83 Tryz.sizeOf83)) ?_
              refine PX_v 5 rfl (by kernel_rfl) (.inl rfl) rfl (by decide) (fun _ _ h => h) hS0 (fun l W hpd hs => have hS := hs; R_lookupD (k := x3675) (z := false) (vf := (fun (x : Bool) => (Value.bool x))) kl83 Tryz.underlying120 Tryz.zeroValue4 rfl rfl (hs3777.at (fun b o hq => hS.2 b o (.tail _ (.tail _ (List.mem_append_left _ hq)))))) ?_
              refine PX_v 6 rfl (by kernel_rfl) (.inl rfl) rfl (by decide) (fun _ _ h => h) hS0 (fun _ _ _ _ => R_not (b := (mgetD beqCred l3776 x3675 false)) rfl) ?_
              refine PX_v 7 rfl (by kernel_rfl) (.inl rfl) rfl (by decide) (fun _ _ h => h) hS0 (fun _ _ _ _ => R_move (v := (.bool ((!((mgetD beqCred l3776 x3675 false)))))) rfl) ?_
              obtain ⟨s3970, hm3971, hm3972⟩ := bind_some hm3883
              refine PX_join (J := fun E W => ∃ (x3943 : Bool) (L3944 : List (Nat × Obj)), ST true (keys ((b_a0, Obj.cells (#[v_a0_all, v_a0_targets, v_a0_words, v_a0_relevant] : Array Value) 122 (0, 0)) :: (R_a0_targets ++ (R_a0_words ++ (R_a0_relevant ++ []))))) w W μ3769 ((b3892, Obj.cells ((encCred x3675).toArray : Array Value) 83 (0, 0)) :: ((b_a0, Obj.cells (#[v_a0_all, v_a0_targets, v_a0_words, v_a0_relevant] : Array Value) 122 (0, 0)) :: (R3772 ++ (R3775 ++ (R3778 ++ L3944))))) ∧ E 0 = (.pointer (some ⟨b_a0, 0, none⟩)) ∧ E 7 = (.int .i64 ((a0_relevant.length : Int))) ∧ E 8 = (.int .i64 ((l2700.length : Int))) ∧ E 10 = (.pointer (some ⟨b3892, 0, none⟩)) ∧ E 46 = v_a0_all ∧ E 47 = (.int .i64 ((a0_all.length : Int))) ∧ E 48 = (.int .i64 ((i3674 : Int))) ∧ E 63 = (.bool x3943) ∧ (if x3943 then (((m_graph_Graph_take_w a0_all l3770 l3773 l3776 x3675)).bind fun r3955 => (m_graph_Graph_Want_w_L3 a0_all xs3676 r3955.1 r3955.2.1 r3955.2.2)) else (m_graph_Graph_Want_w_L3 a0_all xs3676 l3770 l3773 l3776)) = some s3671) #[true, true, true, true, true, true, true, true, true, true, true, true] 0 ?_ (fun key3973 => ?_)
              · rintro E W ⟨x3943, L3944, hST, e3946, e3947, e3948, e3949, e3950, e3951, e3952, e3953, hm3945⟩
                have hS0 : Has μ3769 ((b3892, Obj.cells ((encCred x3675).toArray : Array Value) 83 (0, 0)) :: ((b_a0, Obj.cells (#[v_a0_all, v_a0_targets, v_a0_words, v_a0_relevant] : Array Value) 122 (0, 0)) :: (R3778 ++ []))) _ := hST.has.sub (Sub.refl _) (fun p hq => ((List.mem_cons.1 hq).elim (fun hq => by rw [hq]; exact (.head _)) (fun hq => ((List.mem_cons.1 hq).elim (fun hq => by rw [hq]; exact (.tail _ (.head _))) (fun hq => ((List.mem_append.1 hq).elim (fun hq => (.tail _ (.tail _ (List.mem_append_right _ (List.mem_append_right _ (List.mem_append_left _ hq)))))) (fun hq => (absurd hq List.not_mem_nil))))))))
                refine PX_done (by kernel_rfl) ?_
                refine sq_n ?_
                refine CW_if (b := x3943) e3953 (fun hb3954 => ?_) (fun hb3954 => ?_)
                · replace hm3945 := if_t hb3954 hm3945
                  refine CW_region ?_
                  refine LW_v (.inl rfl) rfl (by decide) (R_move (v := (.pointer (some ⟨b_a0, 0, none⟩))) e3946) ?_
                  refine LW_v (.inl rfl) rfl (by decide) (R_load (v := (.agg (encCred x3675).toArray)) e3949 (load_boxA hST.has (.head _) (encCred x3675) rfl Tryz.isAgg83 Tryz.sizeOf83)) ?_
                  obtain ⟨r3955, hr3956, hm3945⟩ := bind_some hm3945
                  replace hST : ST true (keys ((b_a0, Obj.cells (#[v_a0_all, v_a0_targets, v_a0_words, v_a0_relevant] : Array Value) 122 (0, 0)) :: (R_a0_targets ++ (R_a0_words ++ (R_a0_relevant ++ []))))) w _ _ ((b_a0, Obj.cells (#[v_a0_all, v_a0_targets, v_a0_words, v_a0_relevant] : Array Value) 122 (0, 0)) :: (R3772 ++ (R3775 ++ (R3778 ++ ((b3892, Obj.cells ((encCred x3675).toArray : Array Value) 83 (0, 0)) :: L3944))))) := hST.perm (permD [[(b3892, Obj.cells ((encCred x3675).toArray : Array Value) 83 (0, 0))], [(b_a0, Obj.cells (#[v_a0_all, v_a0_targets, v_a0_words, v_a0_relevant] : Array Value) 122 (0, 0))], R3772, R3775, R3778] [0, 1, 2, 3, 4] [1, 2, 3, 4, 0] L3944 (by decide) rfl rfl)
                  have hsz := hST.size
                  refine LW_e (.inl rfl) rfl (by decide) (E_callM (args := [(.pointer (some ⟨b_a0, 0, none⟩)), (.agg (encCred x3675).toArray)]) (caps := #[]) (((b_a0, Obj.cells (#[v_a0_all, v_a0_targets, v_a0_words, v_a0_relevant] : Array Value) 122 (0, 0)) :: (R3772 ++ (R3775 ++ (R3778 ++ []))))) (((b3892, Obj.cells ((encCred x3675).toArray : Array Value) 83 (0, 0)) :: L3944)) hST (by simp only [List.append_assoc, List.cons_append, List.nil_append]; exact List.Perm.refl _) rfl Tryz.call84 (by exact args2 rfl rfl) (fun hH hN hsb hmm => (w_graph_Graph_take_w b_a0 v_a0_all a0_all v_a0_targets l3770 R3772 v_a0_words l3773 R3775 v_a0_relevant l3776 R3778 x3675 _ _ hH hN (Sub.refl _) (h_a0_all.mono (Pl.mono _) (((hle5.trans hle3347).trans hle3884).trans hsb)) hs3771 hs3774 hs3777 hr3956)) (fun W3957 v3960 μ3958 L3962 hST hle3959 hlift hK3961 => ?_))
                  obtain ⟨S3963, S3965, S3967, hv3969, rfl, hy3964, hy3966, hy3968⟩ := hK3961
                  replace hv3969 := hv3969.symm; subst hv3969
                  simp only [List.append_assoc, List.cons_append, List.nil_append] at hST
                  replace hST : ST true (keys ((b_a0, Obj.cells (#[v_a0_all, v_a0_targets, v_a0_words, v_a0_relevant] : Array Value) 122 (0, 0)) :: (R_a0_targets ++ (R_a0_words ++ (R_a0_relevant ++ []))))) w _ _ ((b_a0, Obj.cells (#[v_a0_all, v_a0_targets, v_a0_words, v_a0_relevant] : Array Value) 122 (0, 0)) :: ((b3892, Obj.cells ((encCred x3675).toArray : Array Value) 83 (0, 0)) :: (S3963 ++ (S3965 ++ (S3967 ++ L3944))))) := hST.perm (permD [[(b_a0, Obj.cells (#[v_a0_all, v_a0_targets, v_a0_words, v_a0_relevant] : Array Value) 122 (0, 0))], S3963, S3965, S3967, [(b3892, Obj.cells ((encCred x3675).toArray : Array Value) 83 (0, 0))]] [0, 1, 2, 3, 4] [0, 4, 1, 2, 3] L3944 (by decide) rfl rfl)
                  refine LW_nil ?_
                  refine bq_n ?_
                  refine sq_n ?_
                  replace hST : ST true (keys ((b_a0, Obj.cells (#[v_a0_all, v_a0_targets, v_a0_words, v_a0_relevant] : Array Value) 122 (0, 0)) :: (R_a0_targets ++ (R_a0_words ++ (R_a0_relevant ++ []))))) w _ _ ((b_a0, Obj.cells (#[v_a0_all, v_a0_targets, v_a0_words, v_a0_relevant] : Array Value) 122 (0, 0)) :: (S3963 ++ (S3965 ++ (S3967 ++ L3944)))) := hST.sublist (List.Sublist.cons_cons _ (List.Sublist.cons _ (List.Sublist.refl _)))
                  exact ⟨e3952, r3955.1, S3963, r3955.2.1, S3965, r3955.2.2, S3967, μ3958, _, ⟨rfl, e3951⟩, (hle3884.trans hle3959), (hST.sublist (List.Sublist.refl _)), e3946, e3947, e3948, e3950, hy3964, hy3966, hy3968, (by rw [hx3679]; exact hm3945)⟩
                · replace hm3945 := if_f hb3954 hm3945
                  refine CW_skip ?_
                  refine bq_n ?_
                  refine sq_n ?_
                  replace hST : ST true (keys ((b_a0, Obj.cells (#[v_a0_all, v_a0_targets, v_a0_words, v_a0_relevant] : Array Value) 122 (0, 0)) :: (R_a0_targets ++ (R_a0_words ++ (R_a0_relevant ++ []))))) w _ _ ((b_a0, Obj.cells (#[v_a0_all, v_a0_targets, v_a0_words, v_a0_relevant] : Array Value) 122 (0, 0)) :: (R3772 ++ (R3775 ++ (R3778 ++ L3944)))) := hST.sublist (List.Sublist.cons _ (List.Sublist.refl _))
                  exact ⟨e3952, l3770, R3772, l3773, R3775, l3776, R3778, μ3769, _, ⟨rfl, e3951⟩, hle3884, (hST.sublist (List.Sublist.refl _)), e3946, e3947, e3948, e3950, hs3771, hs3774, hs3777, (by rw [hx3679]; exact hm3945)⟩
              · rcases bool_cases ((!((mgetD beqCred l3776 x3675 false)))) with hb3939 | hb3939
                · replace hm3971 := if_t hb3939 hm3971
                  refine PX_v 8 rfl (by kernel_rfl) (.inr ⟨7, true, 59, rfl, rfl, by decide, (congrArg Value.bool hb3939)⟩) rfl (by decide) (fun _ _ h => h) hS0 (fun _ _ _ _ => R_move (v := (.pointer (some ⟨b_a0, 0, none⟩))) e3885) ?_
                  refine PX_v 9 rfl (by kernel_rfl) (.inr ⟨7, true, 59, rfl, rfl, by decide, (congrArg Value.bool hb3939)⟩) rfl (by decide) (fun _ _ h => h) hS0 (fun l W hpd hs => have hS := hs; R_load (v := (.agg (encCred x3675).toArray)) rfl (load_boxA hS (.head _) (encCred x3675) rfl Tryz.isAgg83 Tryz.sizeOf83)) ?_
                  obtain ⟨r3974, hr3975, hm3971⟩ := bind_some hm3971
                  refine PX_e 10 rfl (by kernel_rfl) (.inr ⟨7, true, 59, rfl, rfl, by decide, (congrArg Value.bool hb3939)⟩) rfl (by decide) (E_gives (args := [(.pointer (some ⟨b_a0, 0, none⟩)), (.agg (encCred x3675).toArray)]) hST rfl Tryz.call83 (by exact args2 rfl rfl) ((w_graph_Graph_bears b_a0 v_a0_all a0_all v_a0_targets l3770 v_a0_words l3773 v_a0_relevant l3776 x3675 _ _ (h_a0_all.mono (Pl.mono _) (((hle5.trans hle3347).trans hle3884).trans hST.sub_hp)) (hs3771.at (fun b o hq => hST.at_ (.tail _ (.tail _ (List.mem_append_left _ hq))))) (hs3774.at (fun b o hq => hST.at_ (.tail _ (.tail _ (List.mem_append_right _ (List.mem_append_left _ hq)))))) (hs3777.at (fun b o hq => hST.at_ (.tail _ (.tail _ (List.mem_append_right _ (List.mem_append_right _ (List.mem_append_left _ hq))))))) (At.of (hST.at_ (.tail _ (.head _))) _ rfl) hr3975)) (fun W3976 hST => ?_))
                  have hS0 : Has μ3769 ((b3892, Obj.cells ((encCred x3675).toArray : Array Value) 83 (0, 0)) :: ((b_a0, Obj.cells (#[v_a0_all, v_a0_targets, v_a0_words, v_a0_relevant] : Array Value) 122 (0, 0)) :: (R3778 ++ []))) _ := hST.has.sub (Sub.refl _) (fun p hq => ((List.mem_cons.1 hq).elim (fun hq => by rw [hq]; exact (.head _)) (fun hq => ((List.mem_cons.1 hq).elim (fun hq => by rw [hq]; exact (.tail _ (.head _))) (fun hq => ((List.mem_append.1 hq).elim (fun hq => (.tail _ (.tail _ (List.mem_append_right _ (List.mem_append_right _ (List.mem_append_left _ hq)))))) (fun hq => (absurd hq List.not_mem_nil))))))))
                  refine ⟨hS0, ?_⟩
                  refine PX_v 11 rfl (by kernel_rfl) (.inl rfl) rfl (by decide) (fun _ _ h => h) hS0 (fun _ _ _ _ => R_pickT (v := (.bool r3974)) (congrArg Value.bool hb3939) rfl) ?_
                  replace hm3971 := Option.some.inj hm3971; subst hm3971
                  refine PX_at (by kernel_rfl) (key3973 _ _ ⟨r3974, _, (hST.sublist (List.Sublist.refl _)), e3885, e3886, e3887, rfl, e3888, eN, eI, rfl, hm3972⟩)
                · replace hm3971 := if_f hb3939 hm3971
                  refine PX_no 8 rfl (by kernel_rfl) rfl rfl (by decide) (congrArg Value.bool hb3939) rfl (by decide) (fun _ _ h => h) hS0 ?_
                  refine PX_no 9 rfl (by kernel_rfl) rfl rfl (by decide) (congrArg Value.bool hb3939) rfl (by decide) (fun _ _ h => h) hS0 ?_
                  refine PX_no 10 rfl (by kernel_rfl) rfl rfl (by decide) (congrArg Value.bool hb3939) rfl (by decide) (fun _ _ h => h) hS0 ?_
                  refine PX_v 11 rfl (by kernel_rfl) (.inl rfl) rfl (by decide) (fun _ _ h => h) hS0 (fun _ _ _ _ => R_pickF (v := (.bool false)) (congrArg Value.bool hb3939) rfl) ?_
                  replace hm3971 := Option.some.inj hm3971; subst hm3971
                  refine PX_at (by kernel_rfl) (key3973 _ _ ⟨false, _, (hST.sublist (List.Sublist.refl _)), e3885, e3886, e3887, rfl, e3888, eN, eI, rfl, hm3972⟩)
            · rintro E W ⟨l3770, R3772, l3773, R3775, l3776, R3778, μ3769, L3882, ⟨eI, eN⟩, hle3884, hST, e3885, e3886, e3887, e3888, hs3771, hs3774, hs3777, hm3883⟩
              rw [List.drop_length] at hm3883
              rw [m_graph_Graph_Want_w_L3] at hm3883
              refine sq_n ?_
              replace hm3883 := Option.some.inj hm3883; subst hm3883
              exact ⟨l3770, R3772, l3773, R3775, l3776, R3778, μ3769, _, hle3884, (hST.sublist (List.Sublist.refl _)), e3885, e3886, e3887, hs3771, hs3774, hs3777, hm3673⟩
          · rintro E W ⟨l3656, R3658, l3659, R3661, l3662, R3664, μ3655, L3665, hle3667, hST, e3668, e3669, e3670, hs3657, hs3660, hs3663, hm3666⟩
            refine bq_n ?_
            refine sq_n ?_
            exact ⟨n3346, Nat.lt_succ_self _, ((l2700.length : Int)), l3656, R3658, l3659, R3661, l3662, R3664, μ3655, _, (hle3347.trans hle3667), (hST.sublist (List.Sublist.refl _)), e3668, e3669, e3670, hs3657, hs3660, hs3663, hm3666⟩
        · replace hm3345 := if_f hb3351 hm3345
          refine CW_exit ?_
          refine sq_e (sq_e (bq_e ?_))
          refine sq_n ?_
          replace hm3345 := Option.some.inj hm3345; subst hm3345
          exact ⟨l2694, R2696, l2697, R2699, l2700, R2702, μ2692, _, hle3347, (hST.sublist (List.Sublist.refl _)), e3348, e3349, hs2695, hs2698, hs2701, hm2065⟩
    · rintro E W ⟨l2049, R2051, l2052, R2054, l2055, R2057, μ2048, L2058, hle2060, hST, e2061, e2062, hs2050, hs2053, hs2056, hm2059⟩
      refine CW_seq ?_
      refine CW_region ?_
      refine LW_v (.inl rfl) rfl (by decide) (R_move (v := (.pointer (some ⟨b_a0, 0, none⟩))) e2061) ?_
      refine LW_v (.inl rfl) rfl (by decide) (R_nilCheck rfl) ?_
      refine LW_v (.inl rfl) rfl (by decide) (R_field fa122_3 rfl) ?_
      refine LW_v (.inl rfl) rfl (by decide) (R_load (v := v_a0_relevant) rfl (load_box1 hST.has (.head _) rfl Tryz.isAgg120)) ?_
      refine LW_v (.inl rfl) rfl (by decide) (R_lenMap (vf := (fun (x : Bool) => (Value.bool x))) (kenc := (fun (x : Cred) => (.agg (encCred x).toArray))) Tryz.underlying120 rfl (hs2056.at (fun b o hq => hST.has.2 b o (.tail _ (List.mem_append_right _ (List.mem_append_right _ (List.mem_append_left _ hq))))))) ?_
      refine LW_v (.inl rfl) rfl (by decide) (R_move (v := (.int .i64 ((a0_relevant.length : Int)))) e2062) ?_
      refine LW_v (.inl rfl) rfl (by decide) (R_int (k := .i64) (a := ((l2055.length : Int))) (b := ((a0_relevant.length : Int))) (v := (.int .i64 ((IntKind.i64.wrap (((l2055.length : Int)) - ((a0_relevant.length : Int))))))) rfl rfl rfl) ?_
      refine LW_v (.inl rfl) rfl (by decide) (R_assign (v := (.int .i64 ((IntKind.i64.wrap (((l2055.length : Int)) - ((a0_relevant.length : Int))))))) rfl) ?_
      refine LW_nil ?_
      refine sq_n ?_
      refine CW_ret ?_
      replace hm2059 := Option.some.inj hm2059; subst hm2059
      refine retQ_1 (v := (.int .i64 ((IntKind.i64.wrap (((l2055.length : Int)) - ((a0_relevant.length : Int))))))) rfl rfl ?_
      replace hST : ST true (keys ((b_a0, Obj.cells (#[v_a0_all, v_a0_targets, v_a0_words, v_a0_relevant] : Array Value) 122 (0, 0)) :: (R_a0_targets ++ (R_a0_words ++ (R_a0_relevant ++ []))))) w _ _ ((b_a0, Obj.cells (#[v_a0_all, v_a0_targets, v_a0_words, v_a0_relevant] : Array Value) 122 (0, 0)) :: (R2051 ++ (R2054 ++ (R2057 ++ L2058)))) := hST
      exact ⟨_, ((b_a0, Obj.cells (#[v_a0_all, v_a0_targets, v_a0_words, v_a0_relevant] : Array Value) 122 (0, 0)) :: (R2051 ++ (R2054 ++ (R2057 ++ [])))), rfl, (ST.backM (L1 := ((b_a0, Obj.cells (#[v_a0_all, v_a0_targets, v_a0_words, v_a0_relevant] : Array Value) 122 (0, 0)) :: (R2051 ++ (R2054 ++ (R2057 ++ []))))) (by have hh : ST true (keys ((b_a0, Obj.cells (#[v_a0_all, v_a0_targets, v_a0_words, v_a0_relevant] : Array Value) 122 (0, 0)) :: (R_a0_targets ++ (R_a0_words ++ (R_a0_relevant ++ []))))) w _ _ ((b_a0, Obj.cells (#[v_a0_all, v_a0_targets, v_a0_words, v_a0_relevant] : Array Value) 122 (0, 0)) :: (R2051 ++ (R2054 ++ (R2057 ++ L2058)))) := hST.perm (List.Perm.refl _); simpa only [List.append_assoc, List.cons_append, List.nil_append] using hh)), R2051, R2054, R2057, rfl, rfl, hs2050, hs2053, hs2056⟩
theorem w_graph_New (v_a0 : Value) (a0 : List Cred) (v_a1 : Value) (a1 : List Role) (r : ((List Cred) × (List (Role × Bool)) × (List (ByteArray × Bool)) × (List (Cred × Bool)))) (w : World) (h_a0 : Sl (Pl encCred) 9 (hp w) v_a0 a0) (h_a1 : Sl (Pl encRole) 2 (hp w) v_a1 a1) (hm : m_graph_New a0 a1 = some r) :
    GivesM true Tryz.prog 19 [v_a0, v_a1] w [] (fun v L1 W' => ∃ (b1 : Nat) (y2 : Value) (y5 : Value) (S6 : List (Nat × Obj)) (y8 : Value) (S9 : List (Nat × Obj)) (y11 : Value) (S12 : List (Nat × Obj)), v = (.pointer (some ⟨b1, 0, none⟩)) ∧ L1 = ((b1, Obj.cells (#[y2, y5, y8, y11] : Array Value) 122 (0, 0)) :: (S6 ++ (S9 ++ (S12 ++ [])))) ∧ Sl (Pl encCred) 9 (hpx W' L1) y2 r.1 ∧ Fr w.heap.size y2 ∧ MapRow (fun (x : Role) => (.agg (encRole x).toArray)) (fun (x : Bool) => (Value.bool x)) y5 r.2.1 S6 ∧ MapRow Value.string (fun (x : Bool) => (Value.bool x)) y8 r.2.2.1 S9 ∧ MapRow (fun (x : Cred) => (.agg (encCred x).toArray)) (fun (x : Bool) => (Value.bool x)) y11 r.2.2.2 S12) := by
  have hST := ST.start (dd := true) w
  unfold m_graph_New at hm
  refine calls_of_CW (n := 17) Tryz.func19 rfl rfl (Nat.le_of_ble_eq_true rfl) ?_
  refine CW_seq ?_
  refine CW_region ?_
  refine LW_v (.inl rfl) rfl (by decide) (R_assign (v := (.pointer none)) rfl) ?_
  refine LW_nil ?_
  refine sq_n ?_
  refine CW_seq ?_
  refine CW_region ?_
  refine LW_v (.inl rfl) rfl (by decide) (R_move (v := v_a0) rfl) ?_
  obtain ⟨r1, hr2, hm⟩ := bind_some hm
  refine LW_e (.inl rfl) rfl (by decide) (E_givesRow (args := [v_a0]) [] _ hST rfl Tryz.call77 (by exact args1 rfl) ((w_cred_Set v_a0 a0 _ _ (h_a0.mono (Pl.mono _) hST.sub_hp) hr2)) (fun W3 v6 μ4 R7 hST hle5 hR8 => ?_))
  refine LW_e (.inl rfl) rfl (by decide) (E_makeMap (P := Tryz.prog) (fun (x : Role) => (.agg (encRole x).toArray)) (fun (x : Bool) => (Value.bool x)) hST (fun W9 v12 R10 hST hR11 => ?_))
  refine LW_e (.inl rfl) rfl (by decide) (E_makeMap (P := Tryz.prog) Value.string (fun (x : Bool) => (Value.bool x)) hST (fun W13 v16 R14 hST hR15 => ?_))
  refine LW_e (.inl rfl) rfl (by decide) (E_makeMap (P := Tryz.prog) (fun (x : Cred) => (.agg (encCred x).toArray)) (fun (x : Bool) => (Value.bool x)) hST (fun W17 v20 R18 hST hR19 => ?_))
  obtain ⟨A21, c22, rfl⟩ := hR8.form
  replace hST : ST true NoF w _ _ (R7 ++ (R18 ++ (R14 ++ (R10 ++ [])))) := hST.perm (permD [R18, R14, R10, R7] [0, 1, 2, 3] [3, 0, 1, 2] ([]) (by decide) rfl rfl)
  replace hST : ST true NoF w _ _ (R7 ++ (R18 ++ (R14 ++ (R10 ++ [])))) := hST
  have hf26 := hR8.frM hST (fun p hq => (List.mem_append_left _ hq))
  obtain ⟨μ23, hST, hle24, hs25⟩ := ST.pubRow (X := []) hST hR8 lenCred
  simp only [List.cons_append, List.nil_append] at hST
  obtain ⟨m27, rfl⟩ := hR11.form
  obtain ⟨m28, rfl⟩ := hR15.form
  obtain ⟨m29, rfl⟩ := hR19.form
  refine LW_v (.inl rfl) rfl (by decide) (R_build (qs := #[(0, (.slice A21 r1.length c22)), (1, (.map (some m27))), (2, (.map (some m28))), (3, (.map (some m29)))]) (v := (.agg #[(.slice A21 r1.length c22), (.map (some m27)), (.map (some m28)), (.map (some m29))])) (parts4 rfl rfl rfl rfl) (run_build Tryz.zeroValue122 Tryz.underlying122 (pl122 _ Tryz.underlying122) (by kernel_rfl))) ?_
  refine LW_e (.inl rfl) rfl (by decide) (E_box (v := (.agg #[(.slice A21 r1.length c22), (.map (some m27)), (.map (some m28)), (.map (some m29))])) hST rfl (fun W31 b30 hST => ?_))
  refine LW_v (.inl rfl) rfl (by decide) (R_assign (v := (.pointer (some ⟨b30, 0, none⟩))) rfl) ?_
  refine LW_nil ?_
  refine sq_n ?_
  refine CW_seq ?_
  refine CW_region ?_
  refine LW_v (.inl rfl) rfl (by decide) (R_move (v := (.pointer (some ⟨b30, 0, none⟩))) rfl) ?_
  refine LW_v (.inl rfl) rfl (by decide) (R_move (v := v_a1) rfl) ?_
  replace hST : ST true NoF w _ _ ((b30, Obj.cells (#[(.slice A21 r1.length c22), (.map (some m27)), (.map (some m28)), (.map (some m29))] : Array Value) 122 (0, 0)) :: (R18 ++ (R14 ++ (R10 ++ [])))) := hST
  obtain ⟨r32, hr33, hm⟩ := bind_some hm
  replace hST : ST true NoF w _ _ ((b30, Obj.cells (#[(.slice A21 r1.length c22), (.map (some m27)), (.map (some m28)), (.map (some m29))] : Array Value) 122 (0, 0)) :: (R10 ++ (R14 ++ (R18 ++ [])))) := hST.perm (permD [[(b30, Obj.cells (#[(.slice A21 r1.length c22), (.map (some m27)), (.map (some m28)), (.map (some m29))] : Array Value) 122 (0, 0))], R18, R14, R10] [0, 1, 2, 3] [0, 3, 2, 1] ([]) (by decide) rfl rfl)
  have hsz := hST.size
  refine LW_e (.inl rfl) rfl (by decide) (E_callM (args := [(.pointer (some ⟨b30, 0, none⟩)), v_a1]) (caps := #[]) (((b30, Obj.cells (#[(.slice A21 r1.length c22), (.map (some m27)), (.map (some m28)), (.map (some m29))] : Array Value) 122 (0, 0)) :: (R10 ++ (R14 ++ (R18 ++ []))))) ([]) hST (by simp only [List.append_assoc, List.cons_append, List.nil_append]; exact List.Perm.refl _) rfl Tryz.call26 (by exact args2 rfl rfl) (fun hH hN hsb hmm => (w_graph_Graph_Want_w b30 (.slice A21 r1.length c22) r1 (.map (some m27)) ([]) R10 (.map (some m28)) ([]) R14 (.map (some m29)) ([]) R18 v_a1 a1 _ _ hH hN (Sub.refl _) (hs25.mono (Pl.mono _) hsb) hR11 hR15 hR19 (h_a1.mono (Pl.mono _) ((hle5.trans hle24).trans hsb)) hr33)) (fun W34 v37 μ35 L39 hST hle36 hlift hK38 => ?_))
  obtain ⟨S40, S42, S44, hv46, rfl, hy41, hy43, hy45⟩ := hK38
  replace hv46 := hv46.symm; subst hv46
  simp only [List.append_assoc, List.cons_append, List.nil_append] at hST
  refine LW_nil ?_
  refine sq_n ?_
  refine CW_seq ?_
  refine CW_region ?_
  refine LW_v (.inl rfl) rfl (by decide) (R_move (v := (.pointer (some ⟨b30, 0, none⟩))) rfl) ?_
  refine LW_v (.inl rfl) rfl (by decide) (R_assign (v := (.pointer (some ⟨b30, 0, none⟩))) rfl) ?_
  refine LW_nil ?_
  refine sq_n ?_
  refine CW_ret ?_
  replace hm := Option.some.inj hm; subst hm
  refine retQ_1 (v := (.pointer (some ⟨b30, 0, none⟩))) rfl rfl ?_
  replace hST : ST true NoF w _ _ ((b30, Obj.cells (#[(.slice A21 r1.length c22), (.map (some m27)), (.map (some m28)), (.map (some m29))] : Array Value) 122 (0, 0)) :: (S40 ++ (S42 ++ (S44 ++ [])))) := hST
  exact ⟨_, ((b30, Obj.cells (#[(.slice A21 r1.length c22), (.map (some m27)), (.map (some m28)), (.map (some m29))] : Array Value) 122 (0, 0)) :: (S40 ++ (S42 ++ (S44 ++ [])))), rfl, (ST.backL (L1 := ((b30, Obj.cells (#[(.slice A21 r1.length c22), (.map (some m27)), (.map (some m28)), (.map (some m29))] : Array Value) 122 (0, 0)) :: (S40 ++ (S42 ++ (S44 ++ []))))) (by have hh : ST true NoF w _ _ ((b30, Obj.cells (#[(.slice A21 r1.length c22), (.map (some m27)), (.map (some m28)), (.map (some m29))] : Array Value) 122 (0, 0)) :: (S40 ++ (S42 ++ (S44 ++ [])))) := hST.perm (List.Perm.refl _); simpa only [List.append_assoc, List.cons_append, List.nil_append] using hh)), b30, (.slice A21 r1.length c22), (.map (some m27)), S40, (.map (some m28)), S42, (.map (some m29)), S44, rfl, rfl, (hs25.mono (Pl.mono _) (hle36.trans (ST.sub_hpx hST (L0 := ((b30, Obj.cells (#[(.slice A21 r1.length c22), (.map (some m27)), (.map (some m28)), (.map (some m29))] : Array Value) 122 (0, 0)) :: (S40 ++ (S42 ++ (S44 ++ []))))) (fun p hp => (List.Perm.mem_iff (show List.Perm (((b30, Obj.cells (#[(.slice A21 r1.length c22), (.map (some m27)), (.map (some m28)), (.map (some m29))] : Array Value) 122 (0, 0)) :: (S40 ++ (S42 ++ (S44 ++ [])))) : List (Nat × Obj)) ((b30, Obj.cells (#[(.slice A21 r1.length c22), (.map (some m27)), (.map (some m28)), (.map (some m29))] : Array Value) 122 (0, 0)) :: (S40 ++ (S42 ++ (S44 ++ [])))) from (List.Perm.refl _))).2 (by have hh := List.mem_append_left ([]) hp; simpa only [List.append_assoc, List.cons_append, List.nil_append] using hh))))), hf26, hy41, hy43, hy45⟩
theorem w_graph_Graph_Edges_w (b_a0 : Nat) (v_a0_all : Value) (a0_all : List Cred) (v_a0_targets : Value) (a0_targets : List (Role × Bool)) (R_a0_targets : List (Nat × Obj)) (v_a0_words : Value) (a0_words : List (ByteArray × Bool)) (R_a0_words : List (Nat × Obj)) (v_a0_relevant : Value) (a0_relevant : List (Cred × Bool)) (R_a0_relevant : List (Nat × Obj)) (r : Unit) (w : World) {μ0 : Mem} (hH : Held ((b_a0, Obj.cells (#[v_a0_all, v_a0_targets, v_a0_words, v_a0_relevant] : Array Value) 122 (0, 0)) :: (R_a0_targets ++ (R_a0_words ++ (R_a0_relevant ++ [])))) w) (hN : ((((b_a0, Obj.cells (#[v_a0_all, v_a0_targets, v_a0_words, v_a0_relevant] : Array Value) 122 (0, 0)) :: (R_a0_targets ++ (R_a0_words ++ (R_a0_relevant ++ [])))) : List (Nat × Obj)).map (·.1)).Nodup) (hS0 : Sub μ0 (hpx w ((b_a0, Obj.cells (#[v_a0_all, v_a0_targets, v_a0_words, v_a0_relevant] : Array Value) 122 (0, 0)) :: (R_a0_targets ++ (R_a0_words ++ (R_a0_relevant ++ [])))))) (h_a0_all : Sl (Pl encCred) 9 μ0 v_a0_all a0_all) (h_a0_targets : MapRow (fun (x : Role) => (.agg (encRole x).toArray)) (fun (x : Bool) => (Value.bool x)) v_a0_targets a0_targets R_a0_targets) (h_a0_words : MapRow Value.string (fun (x : Bool) => (Value.bool x)) v_a0_words a0_words R_a0_words) (h_a0_relevant : MapRow (fun (x : Cred) => (.agg (encCred x).toArray)) (fun (x : Bool) => (Value.bool x)) v_a0_relevant a0_relevant R_a0_relevant) (hm : m_graph_Graph_Edges_w a0_all a0_targets a0_words a0_relevant = some r) :
    GivesM true Tryz.prog 28 [(.pointer (some ⟨b_a0, 0, none⟩))] w ((b_a0, Obj.cells (#[v_a0_all, v_a0_targets, v_a0_words, v_a0_relevant] : Array Value) 122 (0, 0)) :: (R_a0_targets ++ (R_a0_words ++ (R_a0_relevant ++ [])))) (fun v L1 W' => ∃ (b1 : Nat), v = (.func (.func 85) #[] #[(.pointer (some ⟨b1, 0, none⟩))]) ∧ L1 = ((b1, Obj.cells (#[(.pointer (some ⟨b_a0, 0, none⟩))] : Array Value) 31 (0, 0)) :: ((b_a0, Obj.cells (#[v_a0_all, v_a0_targets, v_a0_words, v_a0_relevant] : Array Value) 122 (0, 0)) :: (R_a0_targets ++ (R_a0_words ++ (R_a0_relevant ++ [])))))) := by
  have hST := (ST.startM (dd := true) hH hN).weak hS0
  unfold m_graph_Graph_Edges_w at hm
  refine calls_of_CW (n := 4) Tryz.func28 rfl rfl (Nat.le_of_ble_eq_true rfl) ?_
  refine CW_seq ?_
  refine CW_region ?_
  refine LW_e (.inl rfl) rfl (by decide) (E_box (v := (.pointer (some ⟨b_a0, 0, none⟩))) hST rfl (fun W2 b1 hST => ?_))
  refine LW_v (.inl rfl) rfl (by decide) (R_assign (v := .nilFunc) rfl) ?_
  refine LW_nil ?_
  refine sq_n ?_
  refine CW_seq ?_
  refine CW_region ?_
  refine LW_v (.inl rfl) rfl (by decide) (R_makeFuncC (by exact args1 rfl) rfl) ?_
  refine LW_v (.inl rfl) rfl (by decide) (R_assign (v := (.func (.func 85) #[] #[(.pointer (some ⟨b1, 0, none⟩))])) rfl) ?_
  refine LW_nil ?_
  refine sq_n ?_
  refine CW_ret ?_
  replace hm := Option.some.inj hm; subst hm
  refine retQ_1 (v := (.func (.func 85) #[] #[(.pointer (some ⟨b1, 0, none⟩))])) rfl rfl ?_
  replace hST : ST true (keys ((b_a0, Obj.cells (#[v_a0_all, v_a0_targets, v_a0_words, v_a0_relevant] : Array Value) 122 (0, 0)) :: (R_a0_targets ++ (R_a0_words ++ (R_a0_relevant ++ []))))) w _ _ ((b1, Obj.cells (#[(.pointer (some ⟨b_a0, 0, none⟩))] : Array Value) 31 (0, 0)) :: ((b_a0, Obj.cells (#[v_a0_all, v_a0_targets, v_a0_words, v_a0_relevant] : Array Value) 122 (0, 0)) :: (R_a0_targets ++ (R_a0_words ++ (R_a0_relevant ++ []))))) := hST
  exact ⟨_, ((b1, Obj.cells (#[(.pointer (some ⟨b_a0, 0, none⟩))] : Array Value) 31 (0, 0)) :: ((b_a0, Obj.cells (#[v_a0_all, v_a0_targets, v_a0_words, v_a0_relevant] : Array Value) 122 (0, 0)) :: (R_a0_targets ++ (R_a0_words ++ (R_a0_relevant ++ []))))), rfl, (ST.backM (L1 := ((b1, Obj.cells (#[(.pointer (some ⟨b_a0, 0, none⟩))] : Array Value) 31 (0, 0)) :: ((b_a0, Obj.cells (#[v_a0_all, v_a0_targets, v_a0_words, v_a0_relevant] : Array Value) 122 (0, 0)) :: (R_a0_targets ++ (R_a0_words ++ (R_a0_relevant ++ [])))))) (by have hh : ST true (keys ((b_a0, Obj.cells (#[v_a0_all, v_a0_targets, v_a0_words, v_a0_relevant] : Array Value) 122 (0, 0)) :: (R_a0_targets ++ (R_a0_words ++ (R_a0_relevant ++ []))))) w _ _ ((b1, Obj.cells (#[(.pointer (some ⟨b_a0, 0, none⟩))] : Array Value) 31 (0, 0)) :: ((b_a0, Obj.cells (#[v_a0_all, v_a0_targets, v_a0_words, v_a0_relevant] : Array Value) 122 (0, 0)) :: (R_a0_targets ++ (R_a0_words ++ (R_a0_relevant ++ []))))) := hST.perm (List.Perm.refl _); simpa only [List.append_assoc, List.cons_append, List.nil_append] using hh)), b1, rfl, rfl⟩
theorem w_graph_Graph_Relevant_c1 (a0 : Cred) (b_c0 : Nat) (b_c0q : Nat) (v_c0q_all : Value) (c0q_all : List Cred) (v_c0q_targets : Value) (c0q_targets : List (Role × Bool)) (v_c0q_words : Value) (c0q_words : List (ByteArray × Bool)) (v_c0q_relevant : Value) (c0q_relevant : List (Cred × Bool)) (r : Bool) (w : World) (h_c0q_all : Sl (Pl encCred) 9 (hp w) v_c0q_all c0q_all) (h_c0q_targets : MapAt (fun (x : Role) => (.agg (encRole x).toArray)) (fun (x : Bool) => (Value.bool x)) (hp w) v_c0q_targets c0q_targets) (h_c0q_words : MapAt Value.string (fun (x : Bool) => (Value.bool x)) (hp w) v_c0q_words c0q_words) (h_c0q_relevant : MapAt (fun (x : Cred) => (.agg (encCred x).toArray)) (fun (x : Bool) => (Value.bool x)) (hp w) v_c0q_relevant c0q_relevant) (hA_c0q : At (hp w) (.pointer (some ⟨b_c0q, 0, none⟩)) [v_c0q_all, v_c0q_targets, v_c0q_words, v_c0q_relevant]) (hA_c0 : At (hp w) (.pointer (some ⟨b_c0, 0, none⟩)) [(.pointer (some ⟨b_c0q, 0, none⟩))]) (hm : m_graph_Graph_Relevant_c1 a0 c0q_all c0q_targets c0q_words c0q_relevant = some r) :
    Gives true Tryz.prog 82 [(.agg (encCred a0).toArray), (.pointer (some ⟨b_c0, 0, none⟩))] w (.bool r) := by
  have hST := ST.start (dd := true) w
  unfold m_graph_Graph_Relevant_c1 at hm
  refine calls_of_CW (n := 11) Tryz.func82 rfl rfl (Nat.le_of_ble_eq_true rfl) ?_
  refine CW_seq ?_
  refine CW_region ?_
  refine LW_e (.inl rfl) rfl (by decide) (E_box (v := (.agg (encCred a0).toArray)) hST rfl (fun W2 b1 hST => ?_))
  refine LW_v (.inl rfl) rfl (by decide) (R_assign (v := (.bool false)) rfl) ?_
  refine LW_nil ?_
  refine sq_n ?_
  refine CW_seq ?_
  refine PX_start (fun l W => Has (hp w) ((b1, Obj.cells ((encCred a0).toArray : Array Value) 83 (0, 0)) :: []) W) Tryz_mixed ?_
  replace hST := hST.drew
  have hS0 : Has (hp w) ((b1, Obj.cells ((encCred a0).toArray : Array Value) 83 (0, 0)) :: []) _ := hST.has.sub (Sub.refl _) (fun p hq => ((List.mem_cons.1 hq).elim (fun hq => by rw [hq]; exact (.head _)) (fun hq => (absurd hq List.not_mem_nil))))
  refine PX_v 0 rfl (by kernel_rfl) (.inl rfl) rfl (by decide) (fun _ _ h => h) hS0 (fun l W hpd hs => have hS := hs; R_load rfl (load_at1 hS (y := (.pointer (some ⟨b_c0q, 0, none⟩))) hA_c0 Tryz.isAgg31)) ?_
  refine PX_v 1 rfl (by kernel_rfl) (.inl rfl) rfl (by decide) (fun _ _ h => h) hS0 (fun _ _ _ _ => R_nilCheck rfl) ?_
  refine PX_q 2 rfl (by kernel_rfl) (.inl rfl) rfl (by decide) (fun _ _ h => h) hS0 (R_fieldAt [v_c0q_relevant] fa122_3 rfl hA_c0q rfl) (fun p9 hp10 => ?_)
  refine PX_v 3 rfl (by kernel_rfl) (.inl rfl) rfl (by decide) (fun _ _ h => h) hS0 (fun l W hpd hs => have hS := hs; R_load rfl (load_at1 hS (y := v_c0q_relevant) hp10 Tryz.isAgg120)) ?_
  refine PX_v 4 rfl (by kernel_rfl) (.inl rfl) rfl (by decide) (fun _ _ h => h) hS0 (fun l W hpd hs => have hS := hs; R_load (v := (.agg (encCred a0).toArray)) rfl (load_boxA hS (.head _) (encCred a0) rfl Tryz.isAgg83 Tryz.sizeOf83)) ?_
  refine PX_v 5 rfl (by kernel_rfl) (.inl rfl) rfl (by decide) (fun _ _ h => h) hS0 (fun l W hpd hs => have hS := hs; R_lookupD (k := a0) (z := false) (vf := (fun (x : Bool) => (Value.bool x))) kl83 Tryz.underlying120 Tryz.zeroValue4 rfl rfl (h_c0q_relevant.mono (fun b o hq => hS.1 b o hq))) ?_
  refine PX_v 6 rfl (by kernel_rfl) (.inl rfl) rfl (by decide) (fun _ _ h => h) hS0 (fun _ _ _ _ => R_not (b := (mgetD beqCred c0q_relevant a0 false)) rfl) ?_
  refine PX_v 7 rfl (by kernel_rfl) (.inl rfl) rfl (by decide) (fun _ _ h => h) hS0 (fun _ _ _ _ => R_assign (v := (.bool ((!((mgetD beqCred c0q_relevant a0 false)))))) rfl) ?_
  refine PX_done (by kernel_rfl) ?_
  refine sq_n ?_
  replace hST : ST true NoF w _ _ [] := hST.sublist (List.Sublist.cons _ (List.Sublist.refl _))
  refine CW_ret ?_
  replace hm := Option.some.inj hm; subst hm
  refine retQ_1 (v := (.bool ((!((mgetD beqCred c0q_relevant a0 false)))))) rfl rfl ?_
  exact ⟨rfl, hST.ex⟩
theorem w_graph_Graph_Relevant (b_a0 : Nat) (v_a0_all : Value) (a0_all : List Cred) (v_a0_targets : Value) (a0_targets : List (Role × Bool)) (v_a0_words : Value) (a0_words : List (ByteArray × Bool)) (v_a0_relevant : Value) (a0_relevant : List (Cred × Bool)) (r : List Cred) (w : World) (h_a0_all : Sl (Pl encCred) 9 (hp w) v_a0_all a0_all) (h_a0_targets : MapAt (fun (x : Role) => (.agg (encRole x).toArray)) (fun (x : Bool) => (Value.bool x)) (hp w) v_a0_targets a0_targets) (h_a0_words : MapAt Value.string (fun (x : Bool) => (Value.bool x)) (hp w) v_a0_words a0_words) (h_a0_relevant : MapAt (fun (x : Cred) => (.agg (encCred x).toArray)) (fun (x : Bool) => (Value.bool x)) (hp w) v_a0_relevant a0_relevant) (hA_a0 : At (hp w) (.pointer (some ⟨b_a0, 0, none⟩)) [v_a0_all, v_a0_targets, v_a0_words, v_a0_relevant]) (hm : m_graph_Graph_Relevant a0_all a0_targets a0_words a0_relevant = some r) :
    GivesRow true Tryz.prog 25 [(.pointer (some ⟨b_a0, 0, none⟩))] w 83 encCred 9 r := by
  have hST := ST.start (dd := true) w
  unfold m_graph_Graph_Relevant at hm
  refine calls_of_CW (n := 12) Tryz.func25 rfl rfl (Nat.le_of_ble_eq_true rfl) ?_
  refine CW_seq ?_
  refine CW_region ?_
  refine LW_e (.inl rfl) rfl (by decide) (E_box (v := (.pointer (some ⟨b_a0, 0, none⟩))) hST rfl (fun W2 b1 hST => ?_))
  refine LW_v (.inl rfl) rfl (by decide) (R_assign (v := (.slice none 0 0)) rfl) ?_
  refine LW_nil ?_
  refine sq_n ?_
  refine CW_seq ?_
  refine CW_seq ?_
  refine CW_region ?_
  refine LW_v (.inl rfl) rfl (by decide) (R_load (v := (.pointer (some ⟨b_a0, 0, none⟩))) rfl (load_box1 hST.has (.head _) rfl Tryz.isAgg31)) ?_
  refine LW_v (.inl rfl) rfl (by decide) (R_ptrEqNil Tryz.underlying31 rfl rfl) ?_
  refine LW_nil ?_
  refine sq_n ?_
  refine CW_if_false rfl ?_
  refine CW_skip ?_
  refine sq_n ?_
  refine CW_seq ?_
  refine CW_region ?_
  refine LW_v (.inl rfl) rfl (by decide) (R_load (v := (.pointer (some ⟨b_a0, 0, none⟩))) rfl (load_box1 hST.has (.head _) rfl Tryz.isAgg31)) ?_
  refine LW_v (.inl rfl) rfl (by decide) (R_nilCheck rfl) ?_
  refine LW_q (.inl rfl) rfl (by decide) (R_fieldAt [v_a0_all] fa122_0 rfl hA_a0 rfl) (fun p3 hp4 => ?_)
  refine LW_v (.inl rfl) rfl (by decide) (R_load rfl (load_at1 hST.has (y := v_a0_all) hp4 Tryz.isAgg22)) ?_
  obtain ⟨r6, hr7, hm⟩ := bind_some hm
  refine LW_e (.inl rfl) rfl (by decide) (E_givesRow (args := [v_a0_all]) [_] _ hST rfl Tryz.call81 (by exact args1 rfl) ((w_slices_Clone_Cred v_a0_all a0_all _ _ (h_a0_all.mono (Pl.mono _) hST.sub_hp) hr7)) (fun W8 v11 μ9 R12 hST hle10 hR13 => ?_))
  refine LW_v (.inl rfl) rfl (by decide) (R_makeFuncC (by exact args1 rfl) rfl) ?_
  replace hST : ST true NoF w _ _ ((b1, Obj.cells (#[(.pointer (some ⟨b_a0, 0, none⟩))] : Array Value) 31 (0, 0)) :: (R12 ++ [])) := hST
  obtain ⟨r14, hr15, hm⟩ := bind_some hm
  replace hST : ST true NoF w _ _ (R12 ++ ((b1, Obj.cells (#[(.pointer (some ⟨b_a0, 0, none⟩))] : Array Value) 31 (0, 0)) :: [])) := hST.perm (permD [[(b1, Obj.cells (#[(.pointer (some ⟨b_a0, 0, none⟩))] : Array Value) 31 (0, 0))], R12] [0, 1] [1, 0] ([]) (by decide) rfl rfl)
  have hsz := hST.size
  refine LW_e (.inl rfl) rfl (by decide) (E_callM (args := [v11, (.func (.func 82) #[] #[(.pointer (some ⟨b1, 0, none⟩))])]) (caps := #[]) ((R12 ++ [])) (((b1, Obj.cells (#[(.pointer (some ⟨b_a0, 0, none⟩))] : Array Value) 31 (0, 0)) :: [])) hST (by simp only [List.append_assoc, List.cons_append, List.nil_append]; exact List.Perm.refl _) rfl Tryz.call80 (by exact args2 rfl rfl) (fun hH hN hsb hmm => (w_slices_DeleteFunc_Cred v11 r6 R12 (.func (.func 82) #[] #[(.pointer (some ⟨b1, 0, none⟩))]) (fun (x : Cred) => m_graph_Graph_Relevant_c1 x a0_all a0_targets a0_words a0_relevant) _ _ hH hN (Sub.refl _) hR13 ⟨82, #[], #[(.pointer (some ⟨b1, 0, none⟩))], rfl, Tryz.call82, fun W x r hs hm => w_graph_Graph_Relevant_c1 x b1 b_a0 v_a0_all a0_all v_a0_targets a0_targets v_a0_words a0_words v_a0_relevant a0_relevant r W (h_a0_all.mono (Pl.mono _) ((hle10.trans hsb).trans hs)) (h_a0_targets.mono ((hle10.trans hsb).trans hs)) (h_a0_words.mono ((hle10.trans hsb).trans hs)) (h_a0_relevant.mono ((hle10.trans hsb).trans hs)) (hA_a0.mono ((hle10.trans hsb).trans hs)) (At.of (hs _ _ (hmm _ _ (.head _))) _ rfl) hm⟩ hr15)) (fun W16 v19 μ17 L21 hST hle18 hlift hK20 => ?_))
  obtain ⟨y22, S23, hv25, rfl, hy24⟩ := hK20
  replace hv25 := hv25.symm; subst hv25
  simp only [List.append_assoc, List.cons_append, List.nil_append] at hST
  replace hST : ST true NoF w _ _ ((b1, Obj.cells (#[(.pointer (some ⟨b_a0, 0, none⟩))] : Array Value) 31 (0, 0)) :: (S23 ++ [])) := hST.perm (permD [S23, [(b1, Obj.cells (#[(.pointer (some ⟨b_a0, 0, none⟩))] : Array Value) 31 (0, 0))]] [0, 1] [1, 0] ([]) (by decide) rfl rfl)
  refine LW_v (.inl rfl) rfl (by decide) (R_assign (v := y22) rfl) ?_
  refine LW_nil ?_
  refine sq_n ?_
  replace hST : ST true NoF w _ _ (S23 ++ []) := hST.sublist (List.Sublist.cons _ (List.Sublist.refl _))
  refine CW_ret ?_
  replace hm := Option.some.inj hm; subst hm
  refine retQ_1 (v := y22) rfl rfl ?_
  exact ⟨_, S23, rfl, hST.backRow (fun p hq => by simp [hq]) hy24.nd, hy24⟩
theorem w_graph_Graph_Edges_c1_s {σ0 : Type} (I0 : σ0 → List (Nat × Obj) → Prop) (v_a0 : Value) (f0 : σ0 → ((Role × Role)) → Option (Bool × σ0)) (s0 : σ0) (R_s0 : List (Nat × Obj)) (b_c0 : Nat) (b_c0q : Nat) (v_c0q_all : Value) (c0q_all : List Cred) (v_c0q_targets : Value) (c0q_targets : List (Role × Bool)) (v_c0q_words : Value) (c0q_words : List (ByteArray × Bool)) (v_c0q_relevant : Value) (c0q_relevant : List (Cred × Bool)) (r : σ0) (w : World) {μ0 : Mem} (hH : Held (R_s0 ++ []) w) (hN : (((R_s0 ++ []) : List (Nat × Obj)).map (·.1)).Nodup) (hS0 : Sub μ0 (hpx w (R_s0 ++ []))) (h_a0 : CbsOk Tryz.prog v_a0 μ0 I0 (fun (x : (Role × Role)) => [(.agg (encRole x.1).toArray), (.agg (encRole x.2).toArray)]) (fun (r : Bool) => (.bool r)) f0) (h_s0 : I0 s0 R_s0) (h_c0q_all : Sl (Pl encCred) 9 μ0 v_c0q_all c0q_all) (h_c0q_targets : MapAt (fun (x : Role) => (.agg (encRole x).toArray)) (fun (x : Bool) => (Value.bool x)) μ0 v_c0q_targets c0q_targets) (h_c0q_words : MapAt Value.string (fun (x : Bool) => (Value.bool x)) μ0 v_c0q_words c0q_words) (h_c0q_relevant : MapAt (fun (x : Cred) => (.agg (encCred x).toArray)) (fun (x : Bool) => (Value.bool x)) μ0 v_c0q_relevant c0q_relevant) (hA_c0q : At μ0 (.pointer (some ⟨b_c0q, 0, none⟩)) [v_c0q_all, v_c0q_targets, v_c0q_words, v_c0q_relevant]) (hA_c0 : At μ0 (.pointer (some ⟨b_c0, 0, none⟩)) [(.pointer (some ⟨b_c0q, 0, none⟩))]) (hm : m_graph_Graph_Edges_c1_s f0 s0 c0q_all c0q_targets c0q_words c0q_relevant = some r) :
    GivesM true Tryz.prog 85 [v_a0, (.pointer (some ⟨b_c0, 0, none⟩))] w (R_s0 ++ []) (fun v L1 W' => ∃ (S1 : List (Nat × Obj)), v = (.tuple #[]) ∧ L1 = (S1 ++ []) ∧ I0 r S1) := by
  have hST := (ST.startM (dd := true) hH hN).weak hS0
  unfold m_graph_Graph_Edges_c1_s at hm
  refine calls_of_CW (n := 30) Tryz.func85 rfl rfl (Nat.le_of_ble_eq_true rfl) ?_
  refine CW_seq ?_
  refine CW_region ?_
  refine LW_v (.inl rfl) rfl (by decide) (R_load rfl (load_at1 hST.has (y := (.pointer (some ⟨b_c0q, 0, none⟩))) hA_c0 Tryz.isAgg31)) ?_
  obtain ⟨r1, hr2, hm⟩ := bind_some hm
  refine LW_e (.inl rfl) rfl (by decide) (E_givesRow (args := [(.pointer (some ⟨b_c0q, 0, none⟩))]) [] _ hST rfl Tryz.call25 (by exact args1 rfl) ((w_graph_Graph_Relevant b_c0q v_c0q_all c0q_all v_c0q_targets c0q_targets v_c0q_words c0q_words v_c0q_relevant c0q_relevant _ _ (h_c0q_all.mono (Pl.mono _) hST.sub_hp) (h_c0q_targets.mono hST.sub_hp) (h_c0q_words.mono hST.sub_hp) (h_c0q_relevant.mono hST.sub_hp) (hA_c0q.mono hST.sub_hp) hr2)) (fun W3 v6 μ4 R7 hST hle5 hR8 => ?_))
  refine LW_v (.inl rfl) rfl (by decide) (R_lenRow Tryz.underlying22 rfl hR8) ?_
  refine LW_v (.inl rfl) rfl (by decide) (R_move (v := (.int .i64 0)) rfl) ?_
  refine LW_nil ?_
  refine sq_n ?_
  refine CW_tail ?_
  replace hST : ST true (keys (R_s0 ++ [])) w _ _ (R7 ++ (R_s0 ++ [])) := hST
  replace hST : ST true (keys (R_s0 ++ [])) w _ _ (R_s0 ++ (R7 ++ [])) := hST.perm (permD [R7, R_s0] [0, 1] [1, 0] ([]) (by decide) rfl rfl)
  refine CW_range (fun i E W => ∃ (s764 : σ0) (R766 : List (Nat × Obj)) (μ763 : Mem) (L955 : List (Nat × Obj)), (E 10 = .int .i64 (i : Nat) ∧ E 9 = .int .i64 (r1.length : Nat)) ∧ Sub μ4 μ763 ∧ ST true (keys (R_s0 ++ [])) w W μ763 (R766 ++ (R7 ++ L955)) ∧ E 0 = v_a0 ∧ E 8 = v6 ∧ I0 s764 R766 ∧ m_graph_Graph_Edges_c1_s_L1 f0 (r1.drop i) s764 = some r) r1.length hR8.len ⟨s0, R_s0, μ4, _, ⟨rfl, rfl⟩, (Sub.refl _), (hST.sublist (List.Sublist.refl _)), rfl, rfl, h_s0, hm⟩ (by decide) (by decide) (by decide) (fun _ _ _ h => by obtain ⟨_, _, _, _, eIN, _⟩ := h; exact eIN) ?_ ?_
  · rintro i575 E W hi581 ⟨s764, R766, μ763, L955, ⟨eI, eN⟩, hle957, hST, e958, e959, hs765, hm956⟩
    obtain ⟨x576, xs577, hx579, hx578, hx580⟩ := drop_cons hi581
    rw [hx579] at hm956
    rw [m_graph_Graph_Edges_c1_s_L1] at hm956
    refine CW_block ?_
    refine CW_seq ?_
    refine CW_region ?_
    refine LW_q (.inl rfl) rfl (by decide) (R_indexRow (i := (i575 : Int)) (x0 := x576) Tryz.underlying22 Tryz.sizeOf83 e959 eI hR8 (Int.natCast_nonneg _) hx578) (fun p960 hp961 => ?_)
    refine LW_v (.inl rfl) rfl (by decide) (R_load (v := (.agg (encCred x576).toArray)) rfl (load_ixA hST.has (fun p hq => by simp [hq]) hR8 lenCred hp961 hx578 Tryz.isAgg83 Tryz.sizeOf83)) ?_
    refine LW_e (.inl rfl) rfl (by decide) (E_alloc hST Tryz.zeroValue83 (fun W964 b963 hST => ?_))
    refine LW_e0 (.inl rfl) rfl (E_store [] (.agg (encCred x576).toArray) ((encCred x576).toArray) hST rfl rfl Tryz.sizeOf83 (oneCred x576) (Nat.le_of_ble_eq_true rfl) rfl (fun W965 hST => ?_))
    refine LW_nil ?_
    refine sq_n ?_
    refine CW_seq ?_
    refine CW_region ?_
    refine LW_v (.inl rfl) rfl (by decide) (R_load (v := (.agg (encCred x576).toArray)) rfl (load_boxA hST.has (.head _) (encCred x576) rfl Tryz.isAgg83 Tryz.sizeOf83)) ?_
    replace hST : ST true (keys (R_s0 ++ [])) w _ _ ((b963, Obj.cells ((encCred x576).toArray : Array Value) 83 (0, 0)) :: (R766 ++ (R7 ++ L955))) := hST
    obtain ⟨r966, hr967, hm956⟩ := bind_some hm956
    refine LW_e (.inl rfl) rfl (by decide) (E_givesRow (args := [(.agg (encCred x576).toArray)]) [_] _ hST rfl Tryz.call86 (by exact args1 rfl) ((w_cred_Roles x576 _ _  hr967)) (fun W968 v971 μ969 R972 hST hle970 hR973 => ?_))
    replace hST : ST true (keys (R_s0 ++ [])) w _ _ ((b963, Obj.cells ((encCred x576).toArray : Array Value) 83 (0, 0)) :: (R972 ++ (R766 ++ (R7 ++ L955)))) := hST
    obtain ⟨μ976, hST, hle977, hs978⟩ := ST.pubRow (X := [_]) hST hR973 lenRole
    simp only [List.cons_append, List.nil_append] at hST
    obtain ⟨_, hg979, hm956⟩ := bind_some hm956
    refine LW_q (.inl rfl) rfl (by decide) (R_sliceFrom (i := 1) Tryz.underlying23 Tryz.sizeOf47 rfl rfl hs978 (chk_1 hg979) (chk_2 hg979)) (fun v974 hs975 => ?_)
    refine LW_v (.inl rfl) rfl (by decide) (R_len Tryz.underlying23 rfl hs975.1) ?_
    refine LW_v (.inl rfl) rfl (by decide) (R_move (v := (.int .i64 0)) rfl) ?_
    refine LW_nil ?_
    refine sq_n ?_
    refine CW_tail ?_
    obtain ⟨s1064, hm1065, hm1066⟩ := bind_some hm956
    refine CW_cut (fun E W => ∃ (s1054 : σ0) (R1056 : List (Nat × Obj)) (μ1053 : Mem) (L1057 : List (Nat × Obj)), Sub μ976 μ1053 ∧ ST true (keys (R_s0 ++ [])) w W μ1053 (R1056 ++ (R7 ++ L1057)) ∧ E 0 = v_a0 ∧ E 8 = v6 ∧ E 9 = (.int .i64 ((r1.length : Int))) ∧ E 10 = (.int .i64 ((i575 : Int))) ∧ I0 s1054 R1056 ∧ (m_graph_Graph_Edges_c1_s_L1 f0 xs577 s1054) = some r) ?_ ?_
    · replace hST : ST true (keys (R_s0 ++ [])) w _ _ ((b963, Obj.cells ((encCred x576).toArray : Array Value) 83 (0, 0)) :: (R766 ++ (R7 ++ L955))) := hST
      refine CW_range (fun i E W => ∃ (s1089 : σ0) (R1091 : List (Nat × Obj)) (μ1088 : Mem) (L1117 : List (Nat × Obj)), (E 18 = .int .i64 (i : Nat) ∧ E 17 = .int .i64 (((r966.drop (Int.toNat 1))).length : Nat)) ∧ Sub μ976 μ1088 ∧ ST true (keys (R_s0 ++ [])) w W μ1088 ((b963, Obj.cells ((encCred x576).toArray : Array Value) 83 (0, 0)) :: (R1091 ++ (R7 ++ L1117))) ∧ E 0 = v_a0 ∧ E 4 = (.pointer (some ⟨b963, 0, none⟩)) ∧ E 8 = v6 ∧ E 9 = (.int .i64 ((r1.length : Int))) ∧ E 10 = (.int .i64 ((i575 : Int))) ∧ E 16 = v974 ∧ I0 s1089 R1091 ∧ m_graph_Graph_Edges_c1_s_L2 f0 x576 (((r966.drop (Int.toNat 1))).drop i) s1089 = some s1064) ((r966.drop (Int.toNat 1))).length hs975.1.len ⟨s764, R766, μ976, _, ⟨rfl, rfl⟩, (Sub.refl _), (hST.sublist (List.Sublist.refl _)), e958, rfl, e959, eN, eI, rfl, hs765, hm1065⟩ (by decide) (by decide) (by decide) (fun _ _ _ h => by obtain ⟨_, _, _, _, eIN, _⟩ := h; exact eIN) ?_ ?_
      · rintro i1067 E W hi1073 ⟨s1089, R1091, μ1088, L1117, ⟨eI, eN⟩, hle1119, hST, e1120, e1121, e1122, e1123, e1124, e1125, hs1090, hm1118⟩
        obtain ⟨x1068, xs1069, hx1071, hx1070, hx1072⟩ := drop_cons hi1073
        rw [hx1071] at hm1118
        rw [m_graph_Graph_Edges_c1_s_L2] at hm1118
        refine CW_block ?_
        refine CW_seq ?_
        refine CW_region ?_
        refine LW_q (.inl rfl) rfl (by decide) (R_indexP (enc := encRole) (i := (i1067 : Int)) (x0 := x1068) Tryz.underlying23 Tryz.sizeOf47 e1125 eI (hs975.1.mono (Pl.mono _) hle1119) (Int.natCast_nonneg _) hx1070) (fun p1126 hp1127 => ?_)
        refine LW_v (.inl rfl) rfl (by decide) (R_load rfl (load_atA hST.has hp1127 Tryz.isAgg47 Tryz.sizeOf47)) ?_
        refine LW_e (.inl rfl) rfl (by decide) (E_alloc hST Tryz.zeroValue47 (fun W1130 b1129 hST => ?_))
        refine LW_e0 (.inl rfl) rfl (E_store [] (.agg (encRole x1068).toArray) ((encRole x1068).toArray) hST rfl rfl Tryz.sizeOf47 (oneRole x1068) (Nat.le_of_ble_eq_true rfl) rfl (fun W1131 hST => ?_))
        refine LW_nil ?_
        refine sq_n ?_
        refine CW_seq ?_
        refine CW_region ?_
        refine LW_v (.inl rfl) rfl (by decide) (R_move (v := v_a0) e1120) ?_
        refine LW_v (.inl rfl) rfl (by decide) (R_field fa83_1 e1121) ?_
        refine LW_v (.inl rfl) rfl (by decide) (R_load (v := (.agg (encRole x576.Head).toArray)) rfl (load_boxA hST.has (.tail _ (.head _)) (encRole x576.Head) rfl Tryz.isAgg47 Tryz.sizeOf47)) ?_
        refine LW_v (.inl rfl) rfl (by decide) (R_load (v := (.agg (encRole x1068).toArray)) rfl (load_boxA hST.has (.head _) (encRole x1068) rfl Tryz.isAgg47 Tryz.sizeOf47)) ?_
        replace hST : ST true (keys (R_s0 ++ [])) w _ _ ((b1129, Obj.cells ((encRole x1068).toArray : Array Value) 47 (0, 0)) :: ((b963, Obj.cells ((encCred x576).toArray : Array Value) 83 (0, 0)) :: (R1091 ++ (R7 ++ L1117)))) := hST
        obtain ⟨r1132, hr1133, hm1118⟩ := bind_some hm1118
        refine LW_e (.inl rfl) rfl (by decide) (E_cbs s1089 ((x576.Head, x1068)) (((b1129, Obj.cells ((encRole x1068).toArray : Array Value) 47 (0, 0)) :: ((b963, Obj.cells ((encCred x576).toArray : Array Value) 83 (0, 0)) :: (R7 ++ L1117)))) hST (permD [[(b1129, Obj.cells ((encRole x1068).toArray : Array Value) 47 (0, 0))], [(b963, Obj.cells ((encCred x576).toArray : Array Value) 83 (0, 0))], R1091] [0, 1, 2] [2, 0, 1] ((R7 ++ L1117)) (by decide) rfl rfl) h_a0 ((((hle5.trans hle957).trans hle970).trans hle977).trans hle1119) hs1090 rfl (args2 rfl rfl) hr1133 (fun W1134 μ1135 R1137 hST hle1136 hI1138 => ?_))
        replace hST : ST true (keys (R_s0 ++ [])) w _ _ ((b1129, Obj.cells ((encRole x1068).toArray : Array Value) 47 (0, 0)) :: ((b963, Obj.cells ((encCred x576).toArray : Array Value) 83 (0, 0)) :: (R1137 ++ (R7 ++ L1117)))) := hST.perm (permD [R1137, [(b1129, Obj.cells ((encRole x1068).toArray : Array Value) 47 (0, 0))], [(b963, Obj.cells ((encCred x576).toArray : Array Value) 83 (0, 0))]] [0, 1, 2] [1, 2, 0] ((R7 ++ L1117)) (by decide) rfl rfl)
        refine LW_v (.inl rfl) rfl (by decide) (R_not (b := r1132.1) rfl) ?_
        refine LW_nil ?_
        refine sq_n ?_
        replace hST : ST true (keys (R_s0 ++ [])) w _ _ ((b963, Obj.cells ((encCred x576).toArray : Array Value) 83 (0, 0)) :: (R1137 ++ (R7 ++ L1117))) := hST.sublist (List.Sublist.cons _ (List.Sublist.refl _))
        refine CW_if (b := (!r1132.1)) rfl (fun hb1139 => ?_) (fun hb1139 => ?_)
        · replace hm1118 := if_t hb1139 hm1118
          refine CW_ret ?_
          refine bq_r (sq_r (bq_r (sq_r (bq_r (sq_r (bq_r (sq_r ?_)))))))
          replace hm1118 := Option.some.inj hm1118; subst hm1118
          replace hm1066 : some r1132.2 = some r := hm1066
          replace hm1066 := Option.some.inj hm1066; subst hm1066
          refine retQ_0 rfl ?_
          replace hST : ST true (keys (R_s0 ++ [])) w _ _ ((b963, Obj.cells ((encCred x576).toArray : Array Value) 83 (0, 0)) :: (R1137 ++ (R7 ++ L1117))) := hST
          exact ⟨_, (R1137 ++ []), rfl, (ST.backM (L1 := (R1137 ++ [])) (by have hh : ST true (keys (R_s0 ++ [])) w _ _ (R1137 ++ ((b963, Obj.cells ((encCred x576).toArray : Array Value) 83 (0, 0)) :: (R7 ++ L1117))) := hST.perm (permD [[(b963, Obj.cells ((encCred x576).toArray : Array Value) 83 (0, 0))], R1137] [0, 1] [1, 0] ((R7 ++ L1117)) (by decide) rfl rfl); simpa only [List.append_assoc, List.cons_append, List.nil_append] using hh)), R1137, rfl, rfl, hI1138⟩
        · replace hm1118 := if_f hb1139 hm1118
          refine CW_skip ?_
          refine bq_n ?_
          refine sq_n ?_
          exact ⟨eI, r1132.2, R1137, μ1135, _, ⟨rfl, eN⟩, (hle1119.trans hle1136), (hST.sublist (List.Sublist.refl _)), e1120, e1121, e1122, e1123, e1124, e1125, hI1138, (by rw [hx1072]; exact hm1118)⟩
      · rintro E W ⟨s1089, R1091, μ1088, L1117, ⟨eI, eN⟩, hle1119, hST, e1120, e1121, e1122, e1123, e1124, e1125, hs1090, hm1118⟩
        rw [List.drop_length] at hm1118
        rw [m_graph_Graph_Edges_c1_s_L2] at hm1118
        refine sq_n ?_
        replace hm1118 := Option.some.inj hm1118; subst hm1118
        exact ⟨s1089, R1091, μ1088, _, hle1119, (hST.sublist (List.Sublist.cons _ (List.Sublist.refl _))), e1120, e1122, e1123, e1124, hs1090, hm1066⟩
    · rintro E W ⟨s1054, R1056, μ1053, L1057, hle1059, hST, e1060, e1061, e1062, e1063, hs1055, hm1058⟩
      refine bq_n ?_
      refine sq_n ?_
      exact ⟨e1063, s1054, R1056, μ1053, _, ⟨rfl, e1062⟩, (((hle957.trans hle970).trans hle977).trans hle1059), (hST.sublist (List.Sublist.refl _)), e1060, e1061, hs1055, (by rw [hx580]; exact hm1058)⟩
  · rintro E W ⟨s764, R766, μ763, L955, ⟨eI, eN⟩, hle957, hST, e958, e959, hs765, hm956⟩
    rw [List.drop_length] at hm956
    rw [m_graph_Graph_Edges_c1_s_L1] at hm956
    refine sq_n ?_
    replace hST : ST true (keys (R_s0 ++ [])) w _ _ (R766 ++ L955) := hST.sublist (List.Sublist.append (List.Sublist.refl _) ((List.Sublist.refl _).trans (List.sublist_append_right _ _)))
    refine retQ_n ?_
    replace hm956 := Option.some.inj hm956; subst hm956
    refine retQ_0 rfl ?_
    replace hST : ST true (keys (R_s0 ++ [])) w _ _ (R766 ++ L955) := hST
    exact ⟨_, (R766 ++ []), rfl, (ST.backM (L1 := (R766 ++ [])) (by have hh : ST true (keys (R_s0 ++ [])) w _ _ (R766 ++ L955) := hST.perm (List.Perm.refl _); simpa only [List.append_assoc, List.cons_append, List.nil_append] using hh)), R766, rfl, rfl, hs765⟩
theorem w_law22_first_c1_w (a0 : Role) (a1 : Role) (b_c0 : Nat) (c0 : Int) (b_c1 : Nat) (c1 : Role) (b_c2 : Nat) (c2 : Role) (r : (Bool × Int)) (w : World) {μ0 : Mem} (hH : Held ((b_c0, Obj.cells (#[(.int .i64 c0)] : Array Value) 3 (0, 0)) :: ((b_c1, Obj.cells ((encRole c1).toArray : Array Value) 47 (0, 0)) :: ((b_c2, Obj.cells ((encRole c2).toArray : Array Value) 47 (0, 0)) :: []))) w) (hN : ((((b_c0, Obj.cells (#[(.int .i64 c0)] : Array Value) 3 (0, 0)) :: ((b_c1, Obj.cells ((encRole c1).toArray : Array Value) 47 (0, 0)) :: ((b_c2, Obj.cells ((encRole c2).toArray : Array Value) 47 (0, 0)) :: []))) : List (Nat × Obj)).map (·.1)).Nodup) (hS0 : Sub μ0 (hpx w ((b_c0, Obj.cells (#[(.int .i64 c0)] : Array Value) 3 (0, 0)) :: ((b_c1, Obj.cells ((encRole c1).toArray : Array Value) 47 (0, 0)) :: ((b_c2, Obj.cells ((encRole c2).toArray : Array Value) 47 (0, 0)) :: [])))))  (hm : m_law22_first_c1_w a0 a1 c0 c1 c2 = some r) :
    GivesM true Tryz.prog 71 [(.agg (encRole a0).toArray), (.agg (encRole a1).toArray), (.pointer (some ⟨b_c0, 0, none⟩)), (.pointer (some ⟨b_c1, 0, none⟩)), (.pointer (some ⟨b_c2, 0, none⟩))] w ((b_c0, Obj.cells (#[(.int .i64 c0)] : Array Value) 3 (0, 0)) :: ((b_c1, Obj.cells ((encRole c1).toArray : Array Value) 47 (0, 0)) :: ((b_c2, Obj.cells ((encRole c2).toArray : Array Value) 47 (0, 0)) :: []))) (fun v L1 W' => v = (.bool (r.1)) ∧ L1 = ((b_c0, Obj.cells (#[(.int .i64 (r.2))] : Array Value) 3 (0, 0)) :: ((b_c1, Obj.cells ((encRole c1).toArray : Array Value) 47 (0, 0)) :: ((b_c2, Obj.cells ((encRole c2).toArray : Array Value) 47 (0, 0)) :: [])))) := by
  have hST := (ST.startM (dd := true) hH hN).weak hS0
  unfold m_law22_first_c1_w at hm
  refine calls_of_CW (n := 18) Tryz.func71 rfl rfl (Nat.le_of_ble_eq_true rfl) ?_
  refine CW_seq ?_
  refine CW_region ?_
  refine LW_e (.inl rfl) rfl (by decide) (E_box (v := (.agg (encRole a0).toArray)) hST rfl (fun W2 b1 hST => ?_))
  refine LW_e (.inl rfl) rfl (by decide) (E_box (v := (.agg (encRole a1).toArray)) hST rfl (fun W4 b3 hST => ?_))
  refine LW_v (.inl rfl) rfl (by decide) (R_assign (v := (.bool false)) rfl) ?_
  refine LW_nil ?_
  refine sq_n ?_
  refine CW_seq ?_
  refine CW_region ?_
  refine LW_v (.inl rfl) rfl (by decide) (R_load (v := (.int .i64 c0)) rfl (load_box1 hST.has (.tail _ (.tail _ (.head _))) rfl Tryz.isAgg3)) ?_
  refine LW_v (.inl rfl) rfl (by decide) (R_int (k := .i64) (a := c0) (b := 1) (v := (.int .i64 ((IntKind.i64.wrap (c0 + 1))))) rfl rfl rfl) ?_
  refine LW_e0 (.inl rfl) rfl (E_store [_, _] (.int .i64 ((IntKind.i64.wrap (c0 + 1)))) (#[(.int .i64 ((IntKind.i64.wrap (c0 + 1))))]) hST rfl rfl Tryz.sizeOf3 (oneI _ ((IntKind.i64.wrap (c0 + 1)))) (Nat.le_of_ble_eq_true rfl) rfl (fun W5 hST => ?_))
  refine LW_nil ?_
  refine sq_n ?_
  refine CW_seq ?_
  refine CW_region ?_
  refine LW_v (.inl rfl) rfl (by decide) (R_load (v := (.agg (encRole a0).toArray)) rfl (load_boxA hST.has (.tail _ (.head _)) (encRole a0) rfl Tryz.isAgg47 Tryz.sizeOf47)) ?_
  refine LW_v (.inl rfl) rfl (by decide) (R_load (v := (.agg (encRole c1).toArray)) rfl (load_boxA hST.has (.tail _ (.tail _ (.tail _ (.head _)))) (encRole c1) rfl Tryz.isAgg47 Tryz.sizeOf47)) ?_
  refine LW_v (.inl rfl) rfl (by decide) (R_eql (a := (encRole a0).toArray) (b := (encRole c1).toArray) rfl rfl (guard_agg Tryz.eqGuardType47) (bin_eql (eqInRole _ a0 c1))) ?_
  refine LW_v (.inl rfl) rfl (by decide) (R_move (v := (.bool ((beqRole a0 c1)))) rfl) ?_
  obtain ⟨s12, hm13, hm14⟩ := bind_some hm
  refine LW_join (J := fun E W => ∃ (x7 : Bool) (L8 : List (Nat × Obj)), ST true (keys ((b_c0, Obj.cells (#[(.int .i64 c0)] : Array Value) 3 (0, 0)) :: ((b_c1, Obj.cells ((encRole c1).toArray : Array Value) 47 (0, 0)) :: ((b_c2, Obj.cells ((encRole c2).toArray : Array Value) 47 (0, 0)) :: [])))) w W μ0 ((b_c0, Obj.cells (#[(.int .i64 ((IntKind.i64.wrap (c0 + 1))))] : Array Value) 3 (0, 0)) :: ((b_c1, Obj.cells ((encRole c1).toArray : Array Value) 47 (0, 0)) :: ((b_c2, Obj.cells ((encRole c2).toArray : Array Value) 47 (0, 0)) :: L8))) ∧ E 7 = (.bool false) ∧ E 17 = (.bool x7) ∧ some (x7, (IntKind.i64.wrap (c0 + 1))) = some r) 4 ?_ (fun key15 => ?_)
  · rintro E W ⟨x7, L8, hST, e10, e11, hm9⟩
    refine LW_v (.inl rfl) rfl (by decide) (R_assign (v := (.bool x7)) e11) ?_
    refine LW_nil ?_
    refine sq_n ?_
    refine CW_ret ?_
    replace hm9 := Option.some.inj hm9; subst hm9
    refine retQ_1 (v := (.bool x7)) rfl rfl ?_
    replace hST : ST true (keys ((b_c0, Obj.cells (#[(.int .i64 c0)] : Array Value) 3 (0, 0)) :: ((b_c1, Obj.cells ((encRole c1).toArray : Array Value) 47 (0, 0)) :: ((b_c2, Obj.cells ((encRole c2).toArray : Array Value) 47 (0, 0)) :: [])))) w _ _ ((b_c0, Obj.cells (#[(.int .i64 ((IntKind.i64.wrap (c0 + 1))))] : Array Value) 3 (0, 0)) :: ((b_c1, Obj.cells ((encRole c1).toArray : Array Value) 47 (0, 0)) :: ((b_c2, Obj.cells ((encRole c2).toArray : Array Value) 47 (0, 0)) :: L8))) := hST
    exact ⟨_, ((b_c0, Obj.cells (#[(.int .i64 ((IntKind.i64.wrap (c0 + 1))))] : Array Value) 3 (0, 0)) :: ((b_c1, Obj.cells ((encRole c1).toArray : Array Value) 47 (0, 0)) :: ((b_c2, Obj.cells ((encRole c2).toArray : Array Value) 47 (0, 0)) :: []))), rfl, (ST.backM (L1 := ((b_c0, Obj.cells (#[(.int .i64 ((IntKind.i64.wrap (c0 + 1))))] : Array Value) 3 (0, 0)) :: ((b_c1, Obj.cells ((encRole c1).toArray : Array Value) 47 (0, 0)) :: ((b_c2, Obj.cells ((encRole c2).toArray : Array Value) 47 (0, 0)) :: [])))) (by have hh : ST true (keys ((b_c0, Obj.cells (#[(.int .i64 c0)] : Array Value) 3 (0, 0)) :: ((b_c1, Obj.cells ((encRole c1).toArray : Array Value) 47 (0, 0)) :: ((b_c2, Obj.cells ((encRole c2).toArray : Array Value) 47 (0, 0)) :: [])))) w _ _ ((b_c0, Obj.cells (#[(.int .i64 ((IntKind.i64.wrap (c0 + 1))))] : Array Value) 3 (0, 0)) :: ((b_c1, Obj.cells ((encRole c1).toArray : Array Value) 47 (0, 0)) :: ((b_c2, Obj.cells ((encRole c2).toArray : Array Value) 47 (0, 0)) :: L8))) := hST.perm (List.Perm.refl _); simpa only [List.append_assoc, List.cons_append, List.nil_append] using hh)), rfl, rfl⟩
  · rcases bool_cases ((beqRole a0 c1)) with hb6 | hb6
    · replace hm13 := if_t hb6 hm13
      refine LW_v (.inr ⟨3, true, 13, rfl, rfl, by decide, (congrArg Value.bool hb6)⟩) rfl (by decide) (R_load (v := (.agg (encRole a1).toArray)) rfl (load_boxA hST.has (.head _) (encRole a1) rfl Tryz.isAgg47 Tryz.sizeOf47)) ?_
      refine LW_v (.inr ⟨3, true, 13, rfl, rfl, by decide, (congrArg Value.bool hb6)⟩) rfl (by decide) (R_load (v := (.agg (encRole c2).toArray)) rfl (load_boxA hST.has (.tail _ (.tail _ (.tail _ (.tail _ (.head _))))) (encRole c2) rfl Tryz.isAgg47 Tryz.sizeOf47)) ?_
      refine LW_v (.inr ⟨3, true, 13, rfl, rfl, by decide, (congrArg Value.bool hb6)⟩) rfl (by decide) (R_eql (a := (encRole a1).toArray) (b := (encRole c2).toArray) rfl rfl (guard_agg Tryz.eqGuardType47) (bin_eql (eqInRole _ a1 c2))) ?_
      refine LW_v (.inl rfl) rfl (by decide) (R_pickT (v := (.bool ((beqRole a1 c2)))) (congrArg Value.bool hb6) rfl) ?_
      replace hm13 := Option.some.inj hm13; subst hm13
      replace hST : ST true (keys ((b_c0, Obj.cells (#[(.int .i64 c0)] : Array Value) 3 (0, 0)) :: ((b_c1, Obj.cells ((encRole c1).toArray : Array Value) 47 (0, 0)) :: ((b_c2, Obj.cells ((encRole c2).toArray : Array Value) 47 (0, 0)) :: [])))) w _ _ ((b3, Obj.cells ((encRole a1).toArray : Array Value) 47 (0, 0)) :: ((b1, Obj.cells ((encRole a0).toArray : Array Value) 47 (0, 0)) :: ((b_c0, Obj.cells (#[(.int .i64 ((IntKind.i64.wrap (c0 + 1))))] : Array Value) 3 (0, 0)) :: ((b_c1, Obj.cells ((encRole c1).toArray : Array Value) 47 (0, 0)) :: ((b_c2, Obj.cells ((encRole c2).toArray : Array Value) 47 (0, 0)) :: []))))) := hST
      exact key15 _ _ ⟨((beqRole a1 c2)), _, (hST.sublist (List.Sublist.cons _ (List.Sublist.cons _ (List.Sublist.refl _)))), rfl, rfl, hm14⟩
    · replace hm13 := if_f hb6 hm13
      refine LW_no rfl (by decide) rfl rfl (by decide) (congrArg Value.bool hb6) ?_
      refine LW_no rfl (by decide) rfl rfl (by decide) (congrArg Value.bool hb6) ?_
      refine LW_no rfl (by decide) rfl rfl (by decide) (congrArg Value.bool hb6) ?_
      refine LW_v (.inl rfl) rfl (by decide) (R_pickF (v := (.bool false)) (congrArg Value.bool hb6) rfl) ?_
      replace hm13 := Option.some.inj hm13; subst hm13
      replace hST : ST true (keys ((b_c0, Obj.cells (#[(.int .i64 c0)] : Array Value) 3 (0, 0)) :: ((b_c1, Obj.cells ((encRole c1).toArray : Array Value) 47 (0, 0)) :: ((b_c2, Obj.cells ((encRole c2).toArray : Array Value) 47 (0, 0)) :: [])))) w _ _ ((b3, Obj.cells ((encRole a1).toArray : Array Value) 47 (0, 0)) :: ((b1, Obj.cells ((encRole a0).toArray : Array Value) 47 (0, 0)) :: ((b_c0, Obj.cells (#[(.int .i64 ((IntKind.i64.wrap (c0 + 1))))] : Array Value) 3 (0, 0)) :: ((b_c1, Obj.cells ((encRole c1).toArray : Array Value) 47 (0, 0)) :: ((b_c2, Obj.cells ((encRole c2).toArray : Array Value) 47 (0, 0)) :: []))))) := hST
      exact key15 _ _ ⟨false, _, (hST.sublist (List.Sublist.cons _ (List.Sublist.cons _ (List.Sublist.refl _)))), rfl, rfl, hm14⟩
theorem w_graph_Graph_Targets (b_a0 : Nat) (v_a0_all : Value) (a0_all : List Cred) (v_a0_targets : Value) (a0_targets : List (Role × Bool)) (v_a0_words : Value) (a0_words : List (ByteArray × Bool)) (v_a0_relevant : Value) (a0_relevant : List (Cred × Bool)) (r : List Role) (w : World) (h_a0_all : Sl (Pl encCred) 9 (hp w) v_a0_all a0_all) (h_a0_targets : MapAt (fun (x : Role) => (.agg (encRole x).toArray)) (fun (x : Bool) => (Value.bool x)) (hp w) v_a0_targets a0_targets) (h_a0_words : MapAt Value.string (fun (x : Bool) => (Value.bool x)) (hp w) v_a0_words a0_words) (h_a0_relevant : MapAt (fun (x : Cred) => (.agg (encCred x).toArray)) (fun (x : Bool) => (Value.bool x)) (hp w) v_a0_relevant a0_relevant) (hA_a0 : At (hp w) (.pointer (some ⟨b_a0, 0, none⟩)) [v_a0_all, v_a0_targets, v_a0_words, v_a0_relevant]) (hm : m_graph_Graph_Targets a0_all a0_targets a0_words a0_relevant = some r) :
    GivesRow true Tryz.prog 21 [(.pointer (some ⟨b_a0, 0, none⟩))] w 47 encRole 2 r := by
  have hST := ST.start (dd := true) w
  unfold m_graph_Graph_Targets at hm
  refine calls_of_CW (n := 22) Tryz.func21 rfl rfl (Nat.le_of_ble_eq_true rfl) ?_
  refine CW_seq ?_
  refine CW_region ?_
  refine LW_v (.inl rfl) rfl (by decide) (R_assign (v := (.slice none 0 0)) rfl) ?_
  refine LW_nil ?_
  refine sq_n ?_
  refine CW_seq ?_
  refine CW_seq ?_
  refine CW_region ?_
  refine LW_v (.inl rfl) rfl (by decide) (R_move (v := (.pointer (some ⟨b_a0, 0, none⟩))) rfl) ?_
  refine LW_v (.inl rfl) rfl (by decide) (R_ptrEqNil Tryz.underlying31 rfl rfl) ?_
  refine LW_nil ?_
  refine sq_n ?_
  refine CW_if_false rfl ?_
  refine CW_skip ?_
  refine sq_n ?_
  refine CW_seq ?_
  refine CW_region ?_
  refine LW_v (.inl rfl) rfl (by decide) (R_assign (v := (.slice none 0 0)) rfl) ?_
  refine LW_nil ?_
  refine sq_n ?_
  refine CW_seq ?_
  refine CW_seq ?_
  refine CW_region ?_
  refine LW_v (.inl rfl) rfl (by decide) (R_move (v := (.pointer (some ⟨b_a0, 0, none⟩))) rfl) ?_
  refine LW_v (.inl rfl) rfl (by decide) (R_nilCheck rfl) ?_
  refine LW_q (.inl rfl) rfl (by decide) (R_fieldAt [v_a0_targets] fa122_1 rfl hA_a0 rfl) (fun p1 hp2 => ?_)
  refine LW_v (.inl rfl) rfl (by decide) (R_load rfl (load_at1 hST.has (y := v_a0_targets) hp2 Tryz.isAgg118)) ?_
  refine LW_e (.inl rfl) rfl (by decide) (E_rangeM (M := (hp w)) Tryz.underlying118 hST rfl h_a0_targets (fun b o hb => hST.mem b o hb) (fun W4 v5 R6 hST hI7 => ?_))
  refine LW_nil ?_
  refine sq_n ?_
  replace hST : ST true NoF w _ _ (R6 ++ []) := hST
  refine CW_block (CW_loop (fun m E W => ∃ (v89 : Value) (l90 : List Role) (R92 : List (Nat × Obj)) (L75 : List (Nat × Obj)) (lf68 : List (Role × Bool)) (R69 : List (Nat × Obj)), m = lf68.length ∧ ST true NoF w W (hp w) (R92 ++ (R69 ++ L75)) ∧ E 3 = v89 ∧ E 11 = v5 ∧ Iter (fun (x : Role) => (.agg (encRole x).toArray)) (fun (x : Bool) => (Value.bool x)) (hp w) v5 lf68 R69 ∧ Row 47 encRole 2 v89 l90 R92 ∧ (∀ o : List (Role × Bool), o.Perm lf68 → m_graph_Graph_Targets_L1 o l90 = some r)) _ ⟨(.slice none 0 0), ([]), [], [], a0_targets, R6, rfl, (hST.sublist (List.Sublist.refl _)), rfl, rfl, hI7, (Row.nil _ _ _), (allOrders_spec hm)⟩ ?_)
  rintro m E W ⟨v89, l90, R92, L75, lf68, R69, rfl, hST, e109, eit, hI70, hs91, hm76⟩
  refine CW_seq (CW_region (LW_e (.inl rfl) rfl (by decide) (E_nextM ([] ++ (R92)) (by simpa only [List.append_assoc, List.cons_append, List.nil_append, List.singleton_append] using hST) (fun b o hb => hST.mem b o hb) hI70 eit (fun hend => ?_) (fun W77 R73 p66 lf72 hp74 hST hA71 => ?_))))
  · subst hend
    replace hm76 := hm76 [] (List.Perm.refl _)
    rw [m_graph_Graph_Targets_L1] at hm76
    refine LW_v (.inl rfl) rfl (by decide) (R_extract (v := .bool false) rfl rfl) (LW_nil (sq_n (CW_seq ?_)))
    refine CW_if_false rfl (CW_exit (sq_e (sq_e (bq_e ?_))))
    refine sq_n ?_
    refine CW_seq ?_
    refine CW_region ?_
    refine LW_v (.inl rfl) rfl (by decide) (R_move (v := v89) e109) ?_
    obtain ⟨r124, hr125, hm76⟩ := bind_some hm76
    refine LW_e (.inl rfl) rfl (by decide) (E_givesRow (args := [v89]) [] _ hST rfl Tryz.call78 (by exact args1 rfl) ((w_role_Set v89 l90 _ _ (hs91.sl lenRole (fun b o hq => hST.at_ (List.mem_append_left _ hq))) hr125)) (fun W126 v129 μ127 R130 hST hle128 hR131 => ?_))
    refine LW_v (.inl rfl) rfl (by decide) (R_assign (v := v129) rfl) ?_
    refine LW_nil ?_
    refine sq_n ?_
    replace hST : ST true NoF w _ _ (R130 ++ (R92 ++ (R69 ++ L75))) := hST
    replace hST : ST true NoF w _ _ (R130 ++ (R69 ++ L75)) := hST.sublist (List.Sublist.append (List.Sublist.refl _) ((List.Sublist.refl _).trans (List.sublist_append_right _ _)))
    refine CW_ret ?_
    replace hm76 := Option.some.inj hm76; subst hm76
    refine retQ_1 (v := v129) rfl rfl ?_
    exact ⟨_, R130, rfl, hST.backRow (fun p hq => by simp [hq]) hR131.nd, hR131⟩
  · try simp only [List.append_assoc, List.cons_append, List.nil_append] at hST
    replace hST : ST true NoF w _ _ (R92 ++ (R73 ++ L75)) := hST
    obtain ⟨s110, hm111, hm112⟩ := bind_all (Q := fun o => List.Perm o lf72) (s := ((((appB 32 l90 ([p66.1]))).bind fun l118 => some l118) : Option (List Role))) (f := (fun o => fun l90 => m_graph_Graph_Targets_L1 o l90)) (t := r) lf72 (List.Perm.refl _) (fun o ho => by have hh := hm76 (p66 :: o) ((List.Perm.cons p66 ho).trans hp74.symm); rw [m_graph_Graph_Targets_L1] at hh; exact hh)
    refine LW_v (.inl rfl) rfl (by decide) (R_extract (v := .bool true) rfl rfl) (LW_nil (sq_n (CW_seq ?_)))
    refine CW_if_true rfl (CW_skip (sq_n (CW_block ?_)))
    refine CW_seq ?_
    refine CW_region ?_
    refine LW_v (.inl rfl) rfl (by decide) (R_entryM (fun q hq => (hST.box q.1 q.2 (List.mem_append_right _ (List.mem_append_left _ hq))).1) (fun b o hb => hST.mem b o hb) hA71 eit) ?_
    refine LW_v (.inl rfl) rfl (by decide) (R_extract (v := (.agg (encRole p66.1).toArray)) rfl rfl) ?_
    refine LW_e (.inl rfl) rfl (by decide) (E_alloc hST Tryz.zeroValue47 (fun W114 b113 hST => ?_))
    refine LW_e0 (.inl rfl) rfl (E_store [] (.agg (encRole p66.1).toArray) ((encRole p66.1).toArray) hST rfl rfl Tryz.sizeOf47 (oneRole p66.1) (Nat.le_of_ble_eq_true rfl) rfl (fun W115 hST => ?_))
    refine LW_nil ?_
    refine sq_n ?_
    refine CW_region ?_
    refine LW_v (.inl rfl) rfl (by decide) (R_move (v := v89) e109) ?_
    refine LW_v (.inl rfl) rfl (by decide) (R_load (v := (.agg (encRole p66.1).toArray)) rfl (load_boxA hST.has (.head _) (encRole p66.1) rfl Tryz.isAgg47 Tryz.sizeOf47)) ?_
    refine LW_e (.inl rfl) rfl (by decide) (E_buildSlice (qs := #[(0, (.agg (encRole p66.1).toArray))]) (cs := (encRole p66.1).toArray) hST (parts1 rfl) (run_lit [(.agg (encRole p66.1).toArray)] Tryz.underlying23 Tryz.sizeOf47 Tryz.zeroValue47 (by decide) rfl (by intro v hv; simp only [List.mem_cons, List.not_mem_nil, or_false] at hv; rcases hv with rfl <;> rfl) rfl rfl) (fun W117 b116 hST => ?_))
    replace hST : ST true NoF w _ _ ((b116, Obj.cells ((encRole p66.1).toArray : Array Value) 47 (0, 0)) :: ((b113, Obj.cells ((encRole p66.1).toArray : Array Value) 47 (0, 0)) :: (R92 ++ (R73 ++ L75)))) := hST
    obtain ⟨l118, hb119, hm111⟩ := bind_some hm111
    refine LW_e (.inl rfl) rfl (by decide) (E_append (enc := encRole) (v := v89) (vs := (.slice (some ⟨b116, 0, none⟩) 1 1)) (R := R92) [_, _] hST lenRole (by decide) oneRole Tryz.underlying23 info47.1 info47.2.1 rfl info47.2.2.1 info47.2.2.2 rfl rfl hs91 (Sl.lit (enc := encRole) (l := [p66.1]) lenRole rfl (Nat.le_of_ble_eq_true rfl) rfl (hST.at_ (.head _))) hb119 (fun W120 v123 R121 hST hR122 => ?_))
    refine LW_v (.inl rfl) rfl (by decide) (R_assign (v := v123) rfl) ?_
    refine LW_nil ?_
    refine bq_n ?_
    refine sq_n ?_
    replace hST : ST true NoF w _ _ ((b116, Obj.cells ((encRole p66.1).toArray : Array Value) 47 (0, 0)) :: ((b113, Obj.cells ((encRole p66.1).toArray : Array Value) 47 (0, 0)) :: (R121 ++ (R73 ++ L75)))) := hST
    replace hST : ST true NoF w _ _ (R121 ++ (R73 ++ L75)) := hST.sublist (List.Sublist.cons _ (List.Sublist.cons _ (List.Sublist.refl _)))
    replace hm111 := Option.some.inj hm111; subst hm111
    exact ⟨_, by simp [hp74.length_eq], v123, l118, R121, _, lf72, R73, rfl, (hST.sublist (List.Sublist.refl _)), rfl, eit, hA71.iter, hR122, hm112⟩
theorem w_sortS135 (v_a0 : Value) (a0 : List ByteArray) (R_a0 : List (Nat × Obj)) (r : List ByteArray) (w : World) {μ0 : Mem} (hH : Held (R_a0 ++ []) w) (hN : (((R_a0 ++ []) : List (Nat × Obj)).map (·.1)).Nodup) (hS0 : Sub μ0 (hpx w (R_a0 ++ []))) (h_a0 : Row 9 encSk 1 v_a0 a0 R_a0) (hm : sortS a0 = some r) :
    GivesM true Tryz.prog 135 [v_a0] w (R_a0 ++ []) (fun v L1 W' => ∃ (S : List (Nat × Obj)), v = (.tuple #[]) ∧ L1 = (S ++ []) ∧ Row 9 encSk 1 v_a0 r S) := sortS_gives (P := Tryz.prog) (ρ := ren135) lay135 hH h_a0 hm
theorem w_slices_Compact_string (v_a0 : Value) (a0 : List ByteArray) (R_a0 : List (Nat × Obj)) (r : List ByteArray) (w : World) {μ0 : Mem} (hH : Held (R_a0 ++ []) w) (hN : (((R_a0 ++ []) : List (Nat × Obj)).map (·.1)).Nodup) (hS0 : Sub μ0 (hpx w (R_a0 ++ []))) (h_a0 : Row 9 encSk 1 v_a0 a0 R_a0) (hm : m_slices_Compact_string a0 = some r) :
    GivesM true Tryz.prog 136 [v_a0] w (R_a0 ++ []) (fun v L1 W' => ∃ (y1 : Value) (S2 : List (Nat × Obj)), v = y1 ∧ L1 = (S2 ++ []) ∧ Row 9 encSk 1 y1 r S2) := by
  have hST := (ST.startM (dd := true) hH hN).weak hS0
  unfold m_slices_Compact_string at hm
  refine calls_of_CW (n := 61) Tryz.func136 rfl rfl (Nat.le_of_ble_eq_true rfl) ?_
  refine CW_seq ?_
  refine CW_region ?_
  refine LW_v (.inl rfl) rfl (by decide) (R_assign (v := (.slice none 0 0)) rfl) ?_
  refine LW_nil ?_
  refine sq_n ?_
  refine CW_seq ?_
  refine CW_seq ?_
  refine CW_region ?_
  refine LW_v (.inl rfl) rfl (by decide) (R_move (v := v_a0) rfl) ?_
  refine LW_v (.inl rfl) rfl (by decide) (R_lenRow Tryz.underlying27 rfl h_a0) ?_
  refine LW_v (.inl rfl) rfl (by decide) (R_int (k := .i64) (a := ((a0.length : Int))) (b := 2) (v := (.bool ((decide (((a0.length : Int)) < 2))))) rfl rfl rfl) ?_
  refine LW_nil ?_
  refine sq_n ?_
  refine CW_if (b := (decide (((a0.length : Int)) < 2))) rfl (fun hb1 => ?_) (fun hb1 => ?_)
  · replace hm := if_t hb1 hm
    refine CW_seq ?_
    refine CW_region ?_
    refine LW_v (.inl rfl) rfl (by decide) (R_move (v := v_a0) rfl) ?_
    refine LW_v (.inl rfl) rfl (by decide) (R_assign (v := v_a0) rfl) ?_
    refine LW_nil ?_
    refine sq_n ?_
    refine CW_ret ?_
    refine sq_r ?_
    replace hm := Option.some.inj hm; subst hm
    refine retQ_1 (v := v_a0) rfl rfl ?_
    replace hST : ST true (keys (R_a0 ++ [])) w _ _ (R_a0 ++ []) := hST
    exact ⟨_, (R_a0 ++ []), rfl, (ST.backM (L1 := (R_a0 ++ [])) (by have hh : ST true (keys (R_a0 ++ [])) w _ _ (R_a0 ++ []) := hST.perm (List.Perm.refl _); simpa only [List.append_assoc, List.cons_append, List.nil_append] using hh)), v_a0, R_a0, rfl, rfl, h_a0⟩
  · replace hm := if_f hb1 hm
    refine CW_skip ?_
    refine sq_n ?_
    refine CW_seq ?_
    refine CW_seq ?_
    refine CW_region ?_
    refine LW_v (.inl rfl) rfl (by decide) (R_assign (v := (.int .i64 1)) rfl) ?_
    refine LW_nil ?_
    refine sq_n ?_
    refine CW_block (CW_loop (fun m E W => ∃ (x2891 : Int) (L3615 : List (Nat × Obj)), ST true (keys (R_a0 ++ [])) w W μ0 (R_a0 ++ L3615) ∧ E 0 = v_a0 ∧ E 3 = (.int .i64 x2891) ∧ m_slices_Compact_string_L1 a0 m x2891 = some r) FUEL ⟨1, _, (hST.sublist (List.Sublist.refl _)), rfl, rfl, hm⟩ ?_)
    rintro m E W ⟨x2891, L3615, hST, e3618, e3619, hm3616⟩
    cases m with
    | zero => rw [m_slices_Compact_string_L1] at hm3616; cases hm3616
    | succ n3617 =>
      rw [m_slices_Compact_string_L1] at hm3616
      refine CW_seq ?_
      refine CW_seq ?_
      refine CW_region ?_
      refine LW_v (.inl rfl) rfl (by decide) (R_move (v := (.int .i64 x2891)) e3619) ?_
      refine LW_v (.inl rfl) rfl (by decide) (R_move (v := v_a0) e3618) ?_
      refine LW_v (.inl rfl) rfl (by decide) (R_lenRow Tryz.underlying27 rfl h_a0) ?_
      refine LW_v (.inl rfl) rfl (by decide) (R_int (k := .i64) (a := x2891) (b := ((a0.length : Int))) (v := (.bool ((decide (x2891 < ((a0.length : Int))))))) rfl rfl rfl) ?_
      refine LW_nil ?_
      refine sq_n ?_
      refine CW_if (b := (decide (x2891 < ((a0.length : Int))))) rfl (fun hb3620 => ?_) (fun hb3620 => ?_)
      · replace hm3616 := if_t hb3620 hm3616
        refine CW_skip ?_
        refine sq_n ?_
        refine CW_seq ?_
        refine CW_block ?_
        refine CW_seq ?_
        refine PX_start (fun l W => Has μ0 (R_a0 ++ []) W) Tryz_mixed ?_
        replace hST := hST.drew
        have hS0 : Has μ0 (R_a0 ++ []) _ := hST.has.sub (Sub.refl _) (fun p hq => ((List.mem_append.1 hq).elim (fun hq => (List.mem_append_left _ hq)) (fun hq => (absurd hq List.not_mem_nil))))
        refine PX_v 0 rfl (by kernel_rfl) (.inl rfl) rfl (by decide) (fun _ _ h => h) hS0 (fun _ _ _ _ => R_move (v := v_a0) e3618) ?_
        refine PX_v 1 rfl (by kernel_rfl) (.inl rfl) rfl (by decide) (fun _ _ h => h) hS0 (fun _ _ _ _ => R_move (v := (.int .i64 x2891)) e3619) ?_
        obtain ⟨x3644, hx3645, hm3616⟩ := bind_some hm3616
        refine PX_q 2 rfl (by kernel_rfl) (.inl rfl) rfl (by decide) (fun _ _ h => h) hS0 (R_indexRow (i := x2891) (x0 := x3644) Tryz.underlying27 Tryz.sizeOf9 rfl rfl h_a0 (idx_nonneg hx3645) (idx_get hx3645)) (fun p3641 hp3642 => ?_)
        refine PX_v 3 rfl (by kernel_rfl) (.inl rfl) rfl (by decide) (fun _ _ h => h) hS0 (fun l W hpd hs => have hS := hs; R_load (v := (.string x3644)) rfl (load_ix1 hS (fun p hq => by simp [hq]) h_a0 (fun _ => rfl) hp3642 (idx_get hx3645) (y := (.string x3644)) rfl Tryz.isAgg9)) ?_
        refine PX_v 4 rfl (by kernel_rfl) (.inl rfl) rfl (by decide) (fun _ _ h => h) hS0 (fun _ _ _ _ => R_move (v := v_a0) e3618) ?_
        refine PX_v 5 rfl (by kernel_rfl) (.inl rfl) rfl (by decide) (fun _ _ h => h) hS0 (fun _ _ _ _ => R_move (v := (.int .i64 x2891)) e3619) ?_
        refine PX_v 6 rfl (by kernel_rfl) (.inl rfl) rfl (by decide) (fun _ _ h => h) hS0 (fun _ _ _ _ => R_int (k := .i64) (a := x2891) (b := 1) (v := (.int .i64 ((IntKind.i64.wrap (x2891 - 1))))) rfl rfl rfl) ?_
        obtain ⟨x3649, hx3650, hm3616⟩ := bind_some hm3616
        refine PX_q 7 rfl (by kernel_rfl) (.inl rfl) rfl (by decide) (fun _ _ h => h) hS0 (R_indexRow (i := (IntKind.i64.wrap (x2891 - 1))) (x0 := x3649) Tryz.underlying27 Tryz.sizeOf9 rfl rfl h_a0 (idx_nonneg hx3650) (idx_get hx3650)) (fun p3646 hp3647 => ?_)
        refine PX_v 8 rfl (by kernel_rfl) (.inl rfl) rfl (by decide) (fun _ _ h => h) hS0 (fun l W hpd hs => have hS := hs; R_load (v := (.string x3649)) rfl (load_ix1 hS (fun p hq => by simp [hq]) h_a0 (fun _ => rfl) hp3647 (idx_get hx3650) (y := (.string x3649)) rfl Tryz.isAgg9)) ?_
        refine PX_v 9 rfl (by kernel_rfl) (.inl rfl) rfl (by decide) (fun _ _ h => h) hS0 (fun _ _ _ _ => R_str (a := x3644) (b := x3649) (v := (.bool ((beqS x3644 x3649)))) rfl rfl rfl) ?_
        refine PX_done (by kernel_rfl) ?_
        refine sq_n ?_
        refine CW_if (b := (beqS x3644 x3649)) rfl (fun hb3651 => ?_) (fun hb3651 => ?_)
        · replace hm3616 := if_t hb3651 hm3616
          refine CW_seq ?_
          refine CW_region ?_
          refine LW_v (.inl rfl) rfl (by decide) (R_move (v := v_a0) e3618) ?_
          refine LW_v (.inl rfl) rfl (by decide) (R_move (v := (.int .i64 x2891)) e3619) ?_
          obtain ⟨_, hg3654, hm3616⟩ := bind_some hm3616
          refine LW_q (.inl rfl) rfl (by decide) (R_sliceTail (i := x2891) Tryz.underlying27 Tryz.sizeOf9 rfl rfl h_a0 (chk_1 hg3654) (chk_2 hg3654)) (fun v3652 hs3653 => ?_)
          refine LW_v (.inl rfl) rfl (by decide) (R_assign (v := v3652) rfl) ?_
          refine LW_nil ?_
          refine sq_n ?_
          refine CW_seq ?_
          refine CW_seq ?_
          refine CW_region ?_
          refine LW_v (.inl rfl) rfl (by decide) (R_assign (v := (.int .i64 1)) rfl) ?_
          refine LW_nil ?_
          refine sq_n ?_
          obtain ⟨s4005, hm4006, hm4007⟩ := bind_some hm3616
          refine CW_cut (fun E W => ∃ (l3988 : List ByteArray) (R3990 : List (Nat × Obj)) (x3991 : Int) (L3992 : List (Nat × Obj)), ST true (keys (R_a0 ++ [])) w W μ0 (R3990 ++ L3992) ∧ E 0 = v_a0 ∧ E 3 = (.int .i64 x3991) ∧ Row 9 encSk 1 v_a0 l3988 R3990 ∧ (((chk (decide (0 ≤ x3991) && decide (x3991 ≤ (l3988.length : Int))))).bind fun _ => (((chk (decide (0 ≤ x3991) && decide (x3991 ≤ (((clearT l3988 (Int.toNat x3991) zS)).length : Int))))).bind fun _ => some (((clearT l3988 (Int.toNat x3991) zS)).take (Int.toNat x3991)))) = some r) ?_ ?_
          · refine CW_block (CW_loop (fun m E W => ∃ (l4112 : List ByteArray) (R4114 : List (Nat × Obj)) (x4115 : Int) (x4116 : Int) (L4230 : List (Nat × Obj)), ST true (keys (R_a0 ++ [])) w W μ0 (R4114 ++ L4230) ∧ E 0 = v_a0 ∧ E 3 = (.int .i64 x4115) ∧ E 4 = v3652 ∧ E 5 = (.int .i64 x4116) ∧ Row 9 encSk 1 v_a0 l4112 R4114 ∧ m_slices_Compact_string_L2 x2891 m l4112 x4115 x4116 = some s4005) FUEL ⟨a0, R_a0, x2891, 1, _, (hST.sublist (List.Sublist.refl _)), e3618, e3619, rfl, rfl, h_a0, hm4006⟩ ?_)
            rintro m E W ⟨l4112, R4114, x4115, x4116, L4230, hST, e4233, e4234, e4235, e4236, hs4113, hm4231⟩
            cases m with
            | zero => rw [m_slices_Compact_string_L2] at hm4231; cases hm4231
            | succ n4232 =>
              rw [m_slices_Compact_string_L2] at hm4231
              refine CW_seq ?_
              refine CW_seq ?_
              refine CW_region ?_
              refine LW_v (.inl rfl) rfl (by decide) (R_move (v := (.int .i64 x4116)) e4236) ?_
              refine LW_v (.inl rfl) rfl (by decide) (R_move (v := v3652) e4235) ?_
              refine LW_v (.inl rfl) rfl (by decide) (R_lenTail Tryz.underlying27 rfl hs3653 hs4113) ?_
              refine LW_v (.inl rfl) rfl (by decide) (R_int (k := .i64) (a := x4116) (b := (((l4112.length - (Int.toNat x2891) : Nat) : Int))) (v := (.bool ((decide (x4116 < (((l4112.length - (Int.toNat x2891) : Nat) : Int))))))) rfl rfl rfl) ?_
              refine LW_nil ?_
              refine sq_n ?_
              refine CW_if (b := (decide (x4116 < (((l4112.length - (Int.toNat x2891) : Nat) : Int))))) rfl (fun hb4237 => ?_) (fun hb4237 => ?_)
              · replace hm4231 := if_t hb4237 hm4231
                refine CW_skip ?_
                refine sq_n ?_
                refine CW_seq ?_
                obtain ⟨s4293, hm4294, hm4295⟩ := bind_some hm4231
                refine CW_cut (fun E W => ∃ (l4283 : List ByteArray) (R4285 : List (Nat × Obj)) (x4286 : Int) (L4287 : List (Nat × Obj)), ST true (keys (R_a0 ++ [])) w W μ0 (R4285 ++ L4287) ∧ E 0 = v_a0 ∧ E 3 = (.int .i64 x4286) ∧ E 4 = v3652 ∧ E 5 = (.int .i64 x4116) ∧ Row 9 encSk 1 v_a0 l4283 R4285 ∧ (m_slices_Compact_string_L2 x2891 n4232 l4283 x4286 ((IntKind.i64.wrap (x4116 + 1)))) = some s4005) ?_ ?_
                · refine CW_block ?_
                  refine CW_seq ?_
                  refine PX_start (fun l W => Has μ0 (R4114 ++ []) W) Tryz_mixed ?_
                  replace hST := hST.drew
                  have hS0 : Has μ0 (R4114 ++ []) _ := hST.has.sub (Sub.refl _) (fun p hq => ((List.mem_append.1 hq).elim (fun hq => (List.mem_append_left _ hq)) (fun hq => (absurd hq List.not_mem_nil))))
                  refine PX_v 0 rfl (by kernel_rfl) (.inl rfl) rfl (by decide) (fun _ _ h => h) hS0 (fun _ _ _ _ => R_move (v := v3652) e4235) ?_
                  refine PX_v 1 rfl (by kernel_rfl) (.inl rfl) rfl (by decide) (fun _ _ h => h) hS0 (fun _ _ _ _ => R_move (v := (.int .i64 x4116)) e4236) ?_
                  obtain ⟨x4319, hx4320, hm4294⟩ := bind_some hm4294
                  refine PX_q 2 rfl (by kernel_rfl) (.inl rfl) rfl (by decide) (fun _ _ h => h) hS0 (R_indexTail (i := x4116) (x0 := x4319) Tryz.underlying27 Tryz.sizeOf9 rfl rfl hs4113 hs3653 (idx_nonneg hx4320) (idx_get hx4320)) (fun p4316 hp4317 => ?_)
                  refine PX_v 3 rfl (by kernel_rfl) (.inl rfl) rfl (by decide) (fun _ _ h => h) hS0 (fun l W hpd hs => have hS := hs; R_load (v := (.string x4319)) rfl (load_ix1 hS (fun p hq => by simp [hq]) hs4113 (fun _ => rfl) hp4317 (tail_get (idx_get hx4320)) (y := (.string x4319)) rfl Tryz.isAgg9)) ?_
                  refine PX_v 4 rfl (by kernel_rfl) (.inl rfl) rfl (by decide) (fun _ _ h => h) hS0 (fun _ _ _ _ => R_move (v := v3652) e4235) ?_
                  refine PX_v 5 rfl (by kernel_rfl) (.inl rfl) rfl (by decide) (fun _ _ h => h) hS0 (fun _ _ _ _ => R_move (v := (.int .i64 x4116)) e4236) ?_
                  refine PX_v 6 rfl (by kernel_rfl) (.inl rfl) rfl (by decide) (fun _ _ h => h) hS0 (fun _ _ _ _ => R_int (k := .i64) (a := x4116) (b := 1) (v := (.int .i64 ((IntKind.i64.wrap (x4116 - 1))))) rfl rfl rfl) ?_
                  obtain ⟨x4324, hx4325, hm4294⟩ := bind_some hm4294
                  refine PX_q 7 rfl (by kernel_rfl) (.inl rfl) rfl (by decide) (fun _ _ h => h) hS0 (R_indexTail (i := (IntKind.i64.wrap (x4116 - 1))) (x0 := x4324) Tryz.underlying27 Tryz.sizeOf9 rfl rfl hs4113 hs3653 (idx_nonneg hx4325) (idx_get hx4325)) (fun p4321 hp4322 => ?_)
                  refine PX_v 8 rfl (by kernel_rfl) (.inl rfl) rfl (by decide) (fun _ _ h => h) hS0 (fun l W hpd hs => have hS := hs; R_load (v := (.string x4324)) rfl (load_ix1 hS (fun p hq => by simp [hq]) hs4113 (fun _ => rfl) hp4322 (tail_get (idx_get hx4325)) (y := (.string x4324)) rfl Tryz.isAgg9)) ?_
                  refine PX_v 9 rfl (by kernel_rfl) (.inl rfl) rfl (by decide) (fun _ _ h => h) hS0 (fun _ _ _ _ => R_str (a := x4319) (b := x4324) (v := (.bool ((!(beqS x4319 x4324))))) rfl rfl rfl) ?_
                  refine PX_done (by kernel_rfl) ?_
                  refine sq_n ?_
                  refine CW_if (b := (!(beqS x4319 x4324))) rfl (fun hb4326 => ?_) (fun hb4326 => ?_)
                  · replace hm4294 := if_t hb4326 hm4294
                    refine CW_seq ?_
                    refine CW_region ?_
                    refine LW_v (.inl rfl) rfl (by decide) (R_move (v := v_a0) e4233) ?_
                    refine LW_v (.inl rfl) rfl (by decide) (R_move (v := (.int .i64 x4115)) e4234) ?_
                    refine LW_v (.inl rfl) rfl (by decide) (R_move (v := v3652) e4235) ?_
                    refine LW_v (.inl rfl) rfl (by decide) (R_move (v := (.int .i64 x4116)) e4236) ?_
                    obtain ⟨x4330, hx4331, hm4294⟩ := bind_some hm4294
                    refine LW_q (.inl rfl) rfl (by decide) (R_indexTail (i := x4116) (x0 := x4330) Tryz.underlying27 Tryz.sizeOf9 rfl rfl hs4113 hs3653 (idx_nonneg hx4331) (idx_get hx4331)) (fun p4327 hp4328 => ?_)
                    refine LW_v (.inl rfl) rfl (by decide) (R_load (v := (.string x4330)) rfl (load_ix1 hST.has (fun p hq => by simp [hq]) hs4113 (fun _ => rfl) hp4328 (tail_get (idx_get hx4331)) (y := (.string x4330)) rfl Tryz.isAgg9)) ?_
                    obtain ⟨x4335, hx4336, hm4294⟩ := bind_some hm4294
                    refine LW_q (.inl rfl) rfl (by decide) (R_indexRow (i := x4115) (x0 := x4335) Tryz.underlying27 Tryz.sizeOf9 rfl rfl hs4113 (idx_nonneg hx4336) (idx_get hx4336)) (fun p4332 hp4333 => ?_)
                    refine LW_e0 (.inl rfl) rfl (E_storeRow (u := (.string x4330)) (x1 := x4330) [] hST hs4113 (fun _ => rfl) oneS rfl rfl rfl hp4333 (idx_get hx4336) Tryz.sizeOf9 (fun W4337 R4338 hST hR4339 => ?_))
                    refine LW_nil ?_
                    refine sq_n ?_
                    refine CW_region ?_
                    refine LW_v (.inl rfl) rfl (by decide) (R_move (v := (.int .i64 x4115)) e4234) ?_
                    refine LW_v (.inl rfl) rfl (by decide) (R_int (k := .i64) (a := x4115) (b := 1) (v := (.int .i64 ((IntKind.i64.wrap (x4115 + 1))))) rfl rfl rfl) ?_
                    refine LW_v (.inl rfl) rfl (by decide) (R_assign (v := (.int .i64 ((IntKind.i64.wrap (x4115 + 1))))) rfl) ?_
                    refine LW_nil ?_
                    refine bq_n ?_
                    refine sq_n ?_
                    replace hm4294 := Option.some.inj hm4294; subst hm4294
                    replace hST : ST true (keys (R_a0 ++ [])) w _ _ (R4338 ++ L4230) := hST
                    exact ⟨((l4112.set (Int.toNat x4115) x4330)), R4338, ((IntKind.i64.wrap (x4115 + 1))), _, (hST.sublist (List.Sublist.refl _)), e4233, rfl, e4235, e4236, hR4339, hm4295⟩
                  · replace hm4294 := if_f hb4326 hm4294
                    refine CW_skip ?_
                    refine bq_n ?_
                    refine sq_n ?_
                    replace hm4294 := Option.some.inj hm4294; subst hm4294
                    exact ⟨l4112, R4114, x4115, _, (hST.sublist (List.Sublist.refl _)), e4233, e4234, e4235, e4236, hs4113, hm4295⟩
                · rintro E W ⟨l4283, R4285, x4286, L4287, hST, e4289, e4290, e4291, e4292, hs4284, hm4288⟩
                  refine CW_region ?_
                  refine LW_v (.inl rfl) rfl (by decide) (R_move (v := (.int .i64 x4116)) e4292) ?_
                  refine LW_v (.inl rfl) rfl (by decide) (R_int (k := .i64) (a := x4116) (b := 1) (v := (.int .i64 ((IntKind.i64.wrap (x4116 + 1))))) rfl rfl rfl) ?_
                  refine LW_v (.inl rfl) rfl (by decide) (R_assign (v := (.int .i64 ((IntKind.i64.wrap (x4116 + 1))))) rfl) ?_
                  refine LW_nil ?_
                  refine sq_n ?_
                  exact ⟨n4232, Nat.lt_succ_self _, l4283, R4285, x4286, ((IntKind.i64.wrap (x4116 + 1))), _, (hST.sublist (List.Sublist.refl _)), e4289, e4290, e4291, rfl, hs4284, hm4288⟩
              · replace hm4231 := if_f hb4237 hm4231
                refine CW_exit ?_
                refine sq_e (sq_e (bq_e ?_))
                refine sq_n ?_
                replace hm4231 := Option.some.inj hm4231; subst hm4231
                exact ⟨l4112, R4114, x4115, _, (hST.sublist (List.Sublist.refl _)), e4233, e4234, hs4113, hm4007⟩
          · rintro E W ⟨l3988, R3990, x3991, L3992, hST, e3994, e3995, hs3989, hm3993⟩
            refine CW_seq ?_
            refine CW_region ?_
            refine LW_v (.inl rfl) rfl (by decide) (R_move (v := v_a0) e3994) ?_
            refine LW_v (.inl rfl) rfl (by decide) (R_move (v := (.int .i64 x3991)) e3995) ?_
            obtain ⟨_, hg3998, hm3993⟩ := bind_some hm3993
            refine LW_q (.inl rfl) rfl (by decide) (R_sliceTail (i := x3991) Tryz.underlying27 Tryz.sizeOf9 rfl rfl hs3989 (chk_1 hg3998) (chk_2 hg3998)) (fun v3996 hs3997 => ?_)
            refine LW_e0 (.inl rfl) rfl (E_clearTail (z := zS) [] hST hs3989 (fun _ => rfl) oneS Tryz.underlying27 Tryz.zeroValue9 hs3997 rfl rfl (fun W3999 R4000 hST hR4001 => ?_))
            refine LW_nil ?_
            refine sq_n ?_
            refine CW_seq ?_
            refine CW_region ?_
            refine LW_v (.inl rfl) rfl (by decide) (R_move (v := v_a0) e3994) ?_
            refine LW_v (.inl rfl) rfl (by decide) (R_move (v := (.int .i64 x3991)) e3995) ?_
            obtain ⟨_, hg4004, hm3993⟩ := bind_some hm3993
            refine LW_q (.inl rfl) rfl (by decide) (R_sliceTo (i := x3991) Tryz.underlying27 Tryz.sizeOf9 rfl rfl hR4001 (fun _ => rfl) (chk_1 hg4004) (chk_2 hg4004)) (fun v4002 hs4003 => ?_)
            refine LW_v (.inl rfl) rfl (by decide) (R_assign (v := v4002) rfl) ?_
            refine LW_nil ?_
            refine sq_n ?_
            refine CW_ret ?_
            refine bq_r (sq_r (sq_r (bq_r (sq_r ?_))))
            replace hm3993 := Option.some.inj hm3993; subst hm3993
            refine retQ_1 (v := v4002) rfl rfl ?_
            replace hST : ST true (keys (R_a0 ++ [])) w _ _ (R4000 ++ L3992) := hST
            exact ⟨_, (R4000 ++ []), rfl, (ST.backM (L1 := (R4000 ++ [])) (by have hh : ST true (keys (R_a0 ++ [])) w _ _ (R4000 ++ L3992) := hST.perm (List.Perm.refl _); simpa only [List.append_assoc, List.cons_append, List.nil_append] using hh)), v4002, R4000, rfl, rfl, hs4003⟩
        · replace hm3616 := if_f hb3651 hm3616
          refine CW_skip ?_
          refine bq_n ?_
          refine sq_n ?_
          refine CW_region ?_
          refine LW_v (.inl rfl) rfl (by decide) (R_move (v := (.int .i64 x2891)) e3619) ?_
          refine LW_v (.inl rfl) rfl (by decide) (R_int (k := .i64) (a := x2891) (b := 1) (v := (.int .i64 ((IntKind.i64.wrap (x2891 + 1))))) rfl rfl rfl) ?_
          refine LW_v (.inl rfl) rfl (by decide) (R_assign (v := (.int .i64 ((IntKind.i64.wrap (x2891 + 1))))) rfl) ?_
          refine LW_nil ?_
          refine sq_n ?_
          exact ⟨n3617, Nat.lt_succ_self _, ((IntKind.i64.wrap (x2891 + 1))), _, (hST.sublist (List.Sublist.refl _)), e3618, rfl, hm3616⟩
      · replace hm3616 := if_f hb3620 hm3616
        refine CW_exit ?_
        refine sq_e (sq_e (bq_e ?_))
        refine sq_n ?_
        refine CW_seq ?_
        refine CW_region ?_
        refine LW_v (.inl rfl) rfl (by decide) (R_move (v := v_a0) e3618) ?_
        refine LW_v (.inl rfl) rfl (by decide) (R_assign (v := v_a0) rfl) ?_
        refine LW_nil ?_
        refine sq_n ?_
        refine CW_ret ?_
        replace hm3616 := Option.some.inj hm3616; subst hm3616
        refine retQ_1 (v := v_a0) rfl rfl ?_
        replace hST : ST true (keys (R_a0 ++ [])) w _ _ (R_a0 ++ L3615) := hST
        exact ⟨_, (R_a0 ++ []), rfl, (ST.backM (L1 := (R_a0 ++ [])) (by have hh : ST true (keys (R_a0 ++ [])) w _ _ (R_a0 ++ L3615) := hST.perm (List.Perm.refl _); simpa only [List.append_assoc, List.cons_append, List.nil_append] using hh)), v_a0, R_a0, rfl, rfl, h_a0⟩
theorem w_name_Set (v_a0 : Value) (a0 : List ByteArray) (r : List ByteArray) (w : World) (h_a0 : Sl (Pl encSk) 1 (hp w) v_a0 a0) (hm : m_name_Set a0 = some r) :
    GivesRow true Tryz.prog 79 [v_a0] w 9 encSk 1 r := by
  have hST := ST.start (dd := true) w
  unfold m_name_Set at hm
  refine calls_of_CW (n := 23) Tryz.func79 rfl rfl (Nat.le_of_ble_eq_true rfl) ?_
  refine CW_seq ?_
  refine CW_region ?_
  refine LW_v (.inl rfl) rfl (by decide) (R_assign (v := (.slice none 0 0)) rfl) ?_
  refine LW_nil ?_
  refine sq_n ?_
  refine CW_seq ?_
  refine CW_region ?_
  refine LW_v (.inl rfl) rfl (by decide) (R_assign (v := (.slice none 0 0)) rfl) ?_
  refine LW_nil ?_
  refine sq_n ?_
  refine CW_seq ?_
  refine CW_seq ?_
  refine CW_region ?_
  refine LW_v (.inl rfl) rfl (by decide) (R_move (v := v_a0) rfl) ?_
  refine LW_v (.inl rfl) rfl (by decide) (R_len Tryz.underlying27 rfl h_a0) ?_
  refine LW_v (.inl rfl) rfl (by decide) (R_move (v := (.int .i64 0)) rfl) ?_
  refine LW_nil ?_
  refine sq_n ?_
  refine CW_range (fun i E W => ∃ (v89 : Value) (l90 : List ByteArray) (R92 : List (Nat × Obj)) (L114 : List (Nat × Obj)), (E 8 = .int .i64 (i : Nat) ∧ E 7 = .int .i64 (a0.length : Nat)) ∧ ST true NoF w W (hp w) (R92 ++ L114) ∧ E 3 = v89 ∧ E 6 = v_a0 ∧ Row 9 encSk 1 v89 l90 R92 ∧ m_name_Set_L1 (a0.drop i) l90 = some r) a0.length h_a0.len ⟨(.slice none 0 0), ([]), [], _, ⟨rfl, rfl⟩, (hST.sublist (List.Sublist.refl _)), rfl, rfl, (Row.nil _ _ _), hm⟩ (by decide) (by decide) (by decide) (fun _ _ _ h => by obtain ⟨_, _, _, _, eIN, _⟩ := h; exact eIN) ?_ ?_
  · rintro i67 E W hi73 ⟨v89, l90, R92, L114, ⟨eI, eN⟩, hST, e116, e117, hs91, hm115⟩
    obtain ⟨x68, xs69, hx71, hx70, hx72⟩ := drop_cons hi73
    rw [hx71] at hm115
    rw [m_name_Set_L1] at hm115
    refine CW_block ?_
    refine CW_seq ?_
    refine CW_region ?_
    refine LW_q (.inl rfl) rfl (by decide) (R_indexP (enc := encSk) (i := (i67 : Int)) (x0 := x68) Tryz.underlying27 Tryz.sizeOf9 e117 eI h_a0 (Int.natCast_nonneg _) hx70) (fun p118 hp119 => ?_)
    refine LW_v (.inl rfl) rfl (by decide) (R_load rfl (load_at1 hST.has (y := (.string x68)) hp119 Tryz.isAgg9)) ?_
    refine LW_v (.inl rfl) rfl (by decide) (R_assign (v := (.string x68)) rfl) ?_
    refine LW_nil ?_
    refine sq_n ?_
    refine CW_seq ?_
    refine CW_region ?_
    refine LW_v (.inl rfl) rfl (by decide) (R_move (v := (.string x68)) rfl) ?_
    obtain ⟨r121, hr122, hm115⟩ := bind_some hm115
    refine LW_e (.inl rfl) rfl (by decide) (E_gives (args := [(.string x68)]) hST rfl Tryz.call134 (by exact args1 rfl) ((w_name_Right x68 _ _  hr122)) (fun W123 hST => ?_))
    refine LW_nil ?_
    refine sq_n ?_
    refine CW_if (b := r121) rfl (fun hb124 => ?_) (fun hb124 => ?_)
    · replace hm115 := if_t hb124 hm115
      refine CW_region ?_
      refine LW_v (.inl rfl) rfl (by decide) (R_move (v := v89) e116) ?_
      refine LW_v (.inl rfl) rfl (by decide) (R_move (v := (.string x68)) rfl) ?_
      refine LW_e (.inl rfl) rfl (by decide) (E_buildSlice (qs := #[(0, (.string x68))]) (cs := [(.string x68)].toArray) hST (parts1 rfl) (run_lit [(.string x68)] Tryz.underlying27 Tryz.sizeOf9 Tryz.zeroValue9 (by decide) rfl (by intro v hv; simp only [List.mem_cons, List.not_mem_nil, or_false] at hv; rcases hv with rfl <;> rfl) rfl rfl) (fun W126 b125 hST => ?_))
      obtain ⟨l127, hb128, hm115⟩ := bind_some hm115
      refine LW_e (.inl rfl) rfl (by decide) (E_append (enc := encSk) (v := v89) (vs := (.slice (some ⟨b125, 0, none⟩) 1 1)) (R := R92) [_] hST (fun _ => rfl) (by decide) oneS Tryz.underlying27 info9.1 info9.2.1 rfl info9.2.2.1 info9.2.2.2 rfl rfl hs91 (Sl.lit (enc := encSk) (l := [x68]) (fun _ => rfl) rfl (Nat.le_of_ble_eq_true rfl) rfl (hST.at_ (.head _))) hb128 (fun W129 v132 R130 hST hR131 => ?_))
      refine LW_v (.inl rfl) rfl (by decide) (R_assign (v := v132) rfl) ?_
      refine LW_nil ?_
      refine bq_n ?_
      refine sq_n ?_
      replace hST : ST true NoF w _ _ ((b125, Obj.cells ([(.string x68)].toArray : Array Value) 9 (0, 0)) :: (R130 ++ L114)) := hST
      replace hST : ST true NoF w _ _ (R130 ++ L114) := hST.sublist (List.Sublist.cons _ (List.Sublist.refl _))
      exact ⟨eI, v132, l127, R130, _, ⟨rfl, eN⟩, (hST.sublist (List.Sublist.refl _)), rfl, e117, hR131, (by rw [hx72]; exact hm115)⟩
    · replace hm115 := if_f hb124 hm115
      refine CW_skip ?_
      refine bq_n ?_
      refine sq_n ?_
      exact ⟨eI, v89, l90, R92, _, ⟨rfl, eN⟩, (hST.sublist (List.Sublist.refl _)), e116, e117, hs91, (by rw [hx72]; exact hm115)⟩
  · rintro E W ⟨v89, l90, R92, L114, ⟨eI, eN⟩, hST, e116, e117, hs91, hm115⟩
    rw [List.drop_length] at hm115
    rw [m_name_Set_L1] at hm115
    refine sq_n ?_
    refine CW_seq ?_
    refine CW_region ?_
    refine LW_v (.inl rfl) rfl (by decide) (R_move (v := v89) e116) ?_
    obtain ⟨r133, hr134, hm115⟩ := bind_some hm115
    replace hST : ST true NoF w _ _ (R92 ++ L114) := hST.perm (List.Perm.refl _)
    have hsz := hST.size
    refine LW_e (.inl rfl) rfl (by decide) (E_callM (args := [v89]) (caps := #[]) ((R92 ++ [])) L114 hST (by simp only [List.append_assoc, List.cons_append, List.nil_append]; exact List.Perm.refl _) rfl Tryz.call135 (by exact args1 rfl) (fun hH hN hsb hmm => (w_sortS135 v89 l90 R92 _ _ hH hN (Sub.refl _) hs91 hr134)) (fun W135 v138 μ136 L140 hST hle137 hlift hK139 => ?_))
    obtain ⟨S141, hv143, rfl, hy142⟩ := hK139
    replace hv143 := hv143.symm; subst hv143
    simp only [List.append_assoc, List.cons_append, List.nil_append] at hST
    refine LW_nil ?_
    refine sq_n ?_
    refine CW_seq ?_
    refine CW_region ?_
    refine LW_v (.inl rfl) rfl (by decide) (R_move (v := v89) e116) ?_
    replace hST : ST true NoF w _ _ (S141 ++ L114) := hST
    obtain ⟨r144, hr145, hm115⟩ := bind_some hm115
    replace hST : ST true NoF w _ _ (S141 ++ L114) := hST.perm (List.Perm.refl _)
    have hsz := hST.size
    refine LW_e (.inl rfl) rfl (by decide) (E_callM (args := [v89]) (caps := #[]) ((S141 ++ [])) L114 hST (by simp only [List.append_assoc, List.cons_append, List.nil_append]; exact List.Perm.refl _) rfl Tryz.call136 (by exact args1 rfl) (fun hH hN hsb hmm => (w_slices_Compact_string v89 r133 S141 _ _ hH hN (Sub.refl _) hy142 hr145)) (fun W146 v149 μ147 L151 hST hle148 hlift hK150 => ?_))
    obtain ⟨y152, S153, hv155, rfl, hy154⟩ := hK150
    replace hv155 := hv155.symm; subst hv155
    simp only [List.append_assoc, List.cons_append, List.nil_append] at hST
    refine LW_v (.inl rfl) rfl (by decide) (R_assign (v := y152) rfl) ?_
    refine LW_nil ?_
    refine sq_n ?_
    refine CW_ret ?_
    replace hm115 := Option.some.inj hm115; subst hm115
    refine retQ_1 (v := y152) rfl rfl ?_
    exact ⟨_, S153, rfl, hST.backRow (fun p hq => by simp [hq]) hy154.nd, hy154⟩
theorem w_graph_Graph_Words (b_a0 : Nat) (v_a0_all : Value) (a0_all : List Cred) (v_a0_targets : Value) (a0_targets : List (Role × Bool)) (v_a0_words : Value) (a0_words : List (ByteArray × Bool)) (v_a0_relevant : Value) (a0_relevant : List (Cred × Bool)) (r : List ByteArray) (w : World) (h_a0_all : Sl (Pl encCred) 9 (hp w) v_a0_all a0_all) (h_a0_targets : MapAt (fun (x : Role) => (.agg (encRole x).toArray)) (fun (x : Bool) => (Value.bool x)) (hp w) v_a0_targets a0_targets) (h_a0_words : MapAt Value.string (fun (x : Bool) => (Value.bool x)) (hp w) v_a0_words a0_words) (h_a0_relevant : MapAt (fun (x : Cred) => (.agg (encCred x).toArray)) (fun (x : Bool) => (Value.bool x)) (hp w) v_a0_relevant a0_relevant) (hA_a0 : At (hp w) (.pointer (some ⟨b_a0, 0, none⟩)) [v_a0_all, v_a0_targets, v_a0_words, v_a0_relevant]) (hm : m_graph_Graph_Words a0_all a0_targets a0_words a0_relevant = some r) :
    GivesRow true Tryz.prog 23 [(.pointer (some ⟨b_a0, 0, none⟩))] w 9 encSk 1 r := by
  have hST := ST.start (dd := true) w
  unfold m_graph_Graph_Words at hm
  refine calls_of_CW (n := 22) Tryz.func23 rfl rfl (Nat.le_of_ble_eq_true rfl) ?_
  refine CW_seq ?_
  refine CW_region ?_
  refine LW_v (.inl rfl) rfl (by decide) (R_assign (v := (.slice none 0 0)) rfl) ?_
  refine LW_nil ?_
  refine sq_n ?_
  refine CW_seq ?_
  refine CW_seq ?_
  refine CW_region ?_
  refine LW_v (.inl rfl) rfl (by decide) (R_move (v := (.pointer (some ⟨b_a0, 0, none⟩))) rfl) ?_
  refine LW_v (.inl rfl) rfl (by decide) (R_ptrEqNil Tryz.underlying31 rfl rfl) ?_
  refine LW_nil ?_
  refine sq_n ?_
  refine CW_if_false rfl ?_
  refine CW_skip ?_
  refine sq_n ?_
  refine CW_seq ?_
  refine CW_region ?_
  refine LW_v (.inl rfl) rfl (by decide) (R_assign (v := (.slice none 0 0)) rfl) ?_
  refine LW_nil ?_
  refine sq_n ?_
  refine CW_seq ?_
  refine CW_seq ?_
  refine CW_region ?_
  refine LW_v (.inl rfl) rfl (by decide) (R_move (v := (.pointer (some ⟨b_a0, 0, none⟩))) rfl) ?_
  refine LW_v (.inl rfl) rfl (by decide) (R_nilCheck rfl) ?_
  refine LW_q (.inl rfl) rfl (by decide) (R_fieldAt [v_a0_words] fa122_2 rfl hA_a0 rfl) (fun p1 hp2 => ?_)
  refine LW_v (.inl rfl) rfl (by decide) (R_load rfl (load_at1 hST.has (y := v_a0_words) hp2 Tryz.isAgg119)) ?_
  refine LW_e (.inl rfl) rfl (by decide) (E_rangeM (M := (hp w)) Tryz.underlying119 hST rfl h_a0_words (fun b o hb => hST.mem b o hb) (fun W4 v5 R6 hST hI7 => ?_))
  refine LW_nil ?_
  refine sq_n ?_
  replace hST : ST true NoF w _ _ (R6 ++ []) := hST
  refine CW_block (CW_loop (fun m E W => ∃ (v77 : Value) (l78 : List ByteArray) (R80 : List (Nat × Obj)) (L66 : List (Nat × Obj)) (lf59 : List (ByteArray × Bool)) (R60 : List (Nat × Obj)), m = lf59.length ∧ ST true NoF w W (hp w) (R80 ++ (R60 ++ L66)) ∧ E 3 = v77 ∧ E 11 = v5 ∧ Iter Value.string (fun (x : Bool) => (Value.bool x)) (hp w) v5 lf59 R60 ∧ Row 9 encSk 1 v77 l78 R80 ∧ (∀ o : List (ByteArray × Bool), o.Perm lf59 → m_graph_Graph_Words_L1 o l78 = some r)) _ ⟨(.slice none 0 0), ([]), [], [], a0_words, R6, rfl, (hST.sublist (List.Sublist.refl _)), rfl, rfl, hI7, (Row.nil _ _ _), (allOrders_spec hm)⟩ ?_)
  rintro m E W ⟨v77, l78, R80, L66, lf59, R60, rfl, hST, e94, eit, hI61, hs79, hm67⟩
  refine CW_seq (CW_region (LW_e (.inl rfl) rfl (by decide) (E_nextM ([] ++ (R80)) (by simpa only [List.append_assoc, List.cons_append, List.nil_append, List.singleton_append] using hST) (fun b o hb => hST.mem b o hb) hI61 eit (fun hend => ?_) (fun W68 R64 p57 lf63 hp65 hST hA62 => ?_))))
  · subst hend
    replace hm67 := hm67 [] (List.Perm.refl _)
    rw [m_graph_Graph_Words_L1] at hm67
    refine LW_v (.inl rfl) rfl (by decide) (R_extract (v := .bool false) rfl rfl) (LW_nil (sq_n (CW_seq ?_)))
    refine CW_if_false rfl (CW_exit (sq_e (sq_e (bq_e ?_))))
    refine sq_n ?_
    refine CW_seq ?_
    refine CW_region ?_
    refine LW_v (.inl rfl) rfl (by decide) (R_move (v := v77) e94) ?_
    obtain ⟨r106, hr107, hm67⟩ := bind_some hm67
    refine LW_e (.inl rfl) rfl (by decide) (E_givesRow (args := [v77]) [] _ hST rfl Tryz.call79 (by exact args1 rfl) ((w_name_Set v77 l78 _ _ (hs79.sl (fun _ => rfl) (fun b o hq => hST.at_ (List.mem_append_left _ hq))) hr107)) (fun W108 v111 μ109 R112 hST hle110 hR113 => ?_))
    refine LW_v (.inl rfl) rfl (by decide) (R_assign (v := v111) rfl) ?_
    refine LW_nil ?_
    refine sq_n ?_
    replace hST : ST true NoF w _ _ (R112 ++ (R80 ++ (R60 ++ L66))) := hST
    replace hST : ST true NoF w _ _ (R112 ++ (R60 ++ L66)) := hST.sublist (List.Sublist.append (List.Sublist.refl _) ((List.Sublist.refl _).trans (List.sublist_append_right _ _)))
    refine CW_ret ?_
    replace hm67 := Option.some.inj hm67; subst hm67
    refine retQ_1 (v := v111) rfl rfl ?_
    exact ⟨_, R112, rfl, hST.backRow (fun p hq => by simp [hq]) hR113.nd, hR113⟩
  · try simp only [List.append_assoc, List.cons_append, List.nil_append] at hST
    replace hST : ST true NoF w _ _ (R80 ++ (R64 ++ L66)) := hST
    obtain ⟨s95, hm96, hm97⟩ := bind_all (Q := fun o => List.Perm o lf63) (s := ((((appB 16 l78 ([p57.1]))).bind fun l100 => some l100) : Option (List ByteArray))) (f := (fun o => fun l78 => m_graph_Graph_Words_L1 o l78)) (t := r) lf63 (List.Perm.refl _) (fun o ho => by have hh := hm67 (p57 :: o) ((List.Perm.cons p57 ho).trans hp65.symm); rw [m_graph_Graph_Words_L1] at hh; exact hh)
    refine LW_v (.inl rfl) rfl (by decide) (R_extract (v := .bool true) rfl rfl) (LW_nil (sq_n (CW_seq ?_)))
    refine CW_if_true rfl (CW_skip (sq_n (CW_block ?_)))
    refine CW_seq ?_
    refine CW_region ?_
    refine LW_v (.inl rfl) rfl (by decide) (R_entryM (fun q hq => (hST.box q.1 q.2 (List.mem_append_right _ (List.mem_append_left _ hq))).1) (fun b o hb => hST.mem b o hb) hA62 eit) ?_
    refine LW_v (.inl rfl) rfl (by decide) (R_extract (v := (.string p57.1)) rfl rfl) ?_
    refine LW_v (.inl rfl) rfl (by decide) (R_assign (v := (.string p57.1)) rfl) ?_
    refine LW_nil ?_
    refine sq_n ?_
    refine CW_region ?_
    refine LW_v (.inl rfl) rfl (by decide) (R_move (v := v77) e94) ?_
    refine LW_v (.inl rfl) rfl (by decide) (R_move (v := (.string p57.1)) rfl) ?_
    refine LW_e (.inl rfl) rfl (by decide) (E_buildSlice (qs := #[(0, (.string p57.1))]) (cs := [(.string p57.1)].toArray) hST (parts1 rfl) (run_lit [(.string p57.1)] Tryz.underlying27 Tryz.sizeOf9 Tryz.zeroValue9 (by decide) rfl (by intro v hv; simp only [List.mem_cons, List.not_mem_nil, or_false] at hv; rcases hv with rfl <;> rfl) rfl rfl) (fun W99 b98 hST => ?_))
    obtain ⟨l100, hb101, hm96⟩ := bind_some hm96
    refine LW_e (.inl rfl) rfl (by decide) (E_append (enc := encSk) (v := v77) (vs := (.slice (some ⟨b98, 0, none⟩) 1 1)) (R := R80) [_] hST (fun _ => rfl) (by decide) oneS Tryz.underlying27 info9.1 info9.2.1 rfl info9.2.2.1 info9.2.2.2 rfl rfl hs79 (Sl.lit (enc := encSk) (l := [p57.1]) (fun _ => rfl) rfl (Nat.le_of_ble_eq_true rfl) rfl (hST.at_ (.head _))) hb101 (fun W102 v105 R103 hST hR104 => ?_))
    refine LW_v (.inl rfl) rfl (by decide) (R_assign (v := v105) rfl) ?_
    refine LW_nil ?_
    refine bq_n ?_
    refine sq_n ?_
    replace hST : ST true NoF w _ _ ((b98, Obj.cells ([(.string p57.1)].toArray : Array Value) 9 (0, 0)) :: (R103 ++ (R64 ++ L66))) := hST
    replace hST : ST true NoF w _ _ (R103 ++ (R64 ++ L66)) := hST.sublist (List.Sublist.cons _ (List.Sublist.refl _))
    replace hm96 := Option.some.inj hm96; subst hm96
    exact ⟨_, by simp [hp65.length_eq], v105, l100, R103, _, lf63, R64, rfl, (hST.sublist (List.Sublist.refl _)), rfl, eit, hA62.iter, hR104, hm97⟩
theorem w_law22_first  (r : Bool) (w : World)  (hm : m_law22_first  = some r) :
    Gives true Tryz.prog 15 [] w (.bool r) := by
  have hST := ST.start (dd := true) w
  unfold m_law22_first at hm
  refine calls_of_CW (n := 69) Tryz.func15 rfl rfl (Nat.le_of_ble_eq_true rfl) ?_
  refine CW_seq ?_
  refine CW_region ?_
  refine LW_v (.inl rfl) rfl (by decide) (R_assign (v := (.bool false)) rfl) ?_
  refine LW_nil ?_
  refine sq_n ?_
  refine CW_seq ?_
  refine CW_region ?_
  refine LW_v (.inl rfl) rfl (by decide) (R_build (qs := #[(0, (.string ((⟨#[97]⟩ : ByteArray)))), (1, (.string ((⟨#[114]⟩ : ByteArray))))]) (v := (.agg (encRole ((⟨(⟨#[97]⟩ : ByteArray), (⟨#[114]⟩ : ByteArray)⟩ : Role))).toArray)) (parts2 rfl rfl) (run_build Tryz.zeroValue47 Tryz.underlying47 (pl47 _ Tryz.underlying47) (by kernel_rfl))) ?_
  refine LW_v (.inl rfl) rfl (by decide) (R_build (qs := #[(0, (.string ((⟨#[98]⟩ : ByteArray)))), (1, (.string ((⟨#[115]⟩ : ByteArray))))]) (v := (.agg (encRole ((⟨(⟨#[98]⟩ : ByteArray), (⟨#[115]⟩ : ByteArray)⟩ : Role))).toArray)) (parts2 rfl rfl) (run_build Tryz.zeroValue47 Tryz.underlying47 (pl47 _ Tryz.underlying47) (by kernel_rfl))) ?_
  refine LW_e (.inl rfl) rfl (by decide) (E_alloc hST Tryz.zeroValue47 (fun W2 b1 hST => ?_))
  refine LW_e (.inl rfl) rfl (by decide) (E_alloc hST Tryz.zeroValue47 (fun W4 b3 hST => ?_))
  refine LW_e0 (.inl rfl) rfl (E_store [_] (.agg (encRole ((⟨(⟨#[97]⟩ : ByteArray), (⟨#[114]⟩ : ByteArray)⟩ : Role))).toArray) ((encRole ((⟨(⟨#[97]⟩ : ByteArray), (⟨#[114]⟩ : ByteArray)⟩ : Role))).toArray) hST rfl rfl Tryz.sizeOf47 (oneRole ((⟨(⟨#[97]⟩ : ByteArray), (⟨#[114]⟩ : ByteArray)⟩ : Role))) (Nat.le_of_ble_eq_true rfl) rfl (fun W5 hST => ?_))
  refine LW_e0 (.inl rfl) rfl (E_store [] (.agg (encRole ((⟨(⟨#[98]⟩ : ByteArray), (⟨#[115]⟩ : ByteArray)⟩ : Role))).toArray) ((encRole ((⟨(⟨#[98]⟩ : ByteArray), (⟨#[115]⟩ : ByteArray)⟩ : Role))).toArray) hST rfl rfl Tryz.sizeOf47 (oneRole ((⟨(⟨#[98]⟩ : ByteArray), (⟨#[115]⟩ : ByteArray)⟩ : Role))) (Nat.le_of_ble_eq_true rfl) rfl (fun W6 hST => ?_))
  refine LW_nil ?_
  refine sq_n ?_
  refine CW_seq ?_
  refine CW_region ?_
  refine LW_v (.inl rfl) rfl (by decide) (R_load (v := (.agg (encRole ((⟨(⟨#[97]⟩ : ByteArray), (⟨#[114]⟩ : ByteArray)⟩ : Role))).toArray)) rfl (load_boxA hST.has (.tail _ (.head _)) (encRole ((⟨(⟨#[97]⟩ : ByteArray), (⟨#[114]⟩ : ByteArray)⟩ : Role))) rfl Tryz.isAgg47 Tryz.sizeOf47)) ?_
  refine LW_v (.inl rfl) rfl (by decide) (R_load (v := (.agg (encRole ((⟨(⟨#[98]⟩ : ByteArray), (⟨#[115]⟩ : ByteArray)⟩ : Role))).toArray)) rfl (load_boxA hST.has (.head _) (encRole ((⟨(⟨#[98]⟩ : ByteArray), (⟨#[115]⟩ : ByteArray)⟩ : Role))) rfl Tryz.isAgg47 Tryz.sizeOf47)) ?_
  refine LW_v (.inl rfl) rfl (by decide) (R_build (qs := #[(0, (.int .i64 2)), (1, (.agg (encRole ((⟨(⟨#[97]⟩ : ByteArray), (⟨#[114]⟩ : ByteArray)⟩ : Role))).toArray)), (3, (.agg (encRole ((⟨(⟨#[98]⟩ : ByteArray), (⟨#[115]⟩ : ByteArray)⟩ : Role))).toArray))]) (v := (.agg (encCred ((⟨2, (⟨(⟨#[97]⟩ : ByteArray), (⟨#[114]⟩ : ByteArray)⟩ : Role), zS, (⟨(⟨#[98]⟩ : ByteArray), (⟨#[115]⟩ : ByteArray)⟩ : Role), (⟨zS, zS⟩ : Role), zS⟩ : Cred))).toArray)) (parts3 rfl rfl rfl) (run_build Tryz.zeroValue83 Tryz.underlying83 (pl83 _ Tryz.underlying83) (by kernel_rfl))) ?_
  refine LW_v (.inl rfl) rfl (by decide) (R_build (qs := #[(0, (.string ((⟨#[99]⟩ : ByteArray)))), (1, (.string ((⟨#[116]⟩ : ByteArray))))]) (v := (.agg (encRole ((⟨(⟨#[99]⟩ : ByteArray), (⟨#[116]⟩ : ByteArray)⟩ : Role))).toArray)) (parts2 rfl rfl) (run_build Tryz.zeroValue47 Tryz.underlying47 (pl47 _ Tryz.underlying47) (by kernel_rfl))) ?_
  refine LW_v (.inl rfl) rfl (by decide) (R_build (qs := #[(0, (.int .i64 1)), (1, (.agg (encRole ((⟨(⟨#[99]⟩ : ByteArray), (⟨#[116]⟩ : ByteArray)⟩ : Role))).toArray)), (2, (.string ((⟨#[100]⟩ : ByteArray))))]) (v := (.agg (encCred ((⟨1, (⟨(⟨#[99]⟩ : ByteArray), (⟨#[116]⟩ : ByteArray)⟩ : Role), (⟨#[100]⟩ : ByteArray), (⟨zS, zS⟩ : Role), (⟨zS, zS⟩ : Role), zS⟩ : Cred))).toArray)) (parts3 rfl rfl rfl) (run_build Tryz.zeroValue83 Tryz.underlying83 (pl83 _ Tryz.underlying83) (by kernel_rfl))) ?_
  refine LW_e (.inl rfl) rfl (by decide) (E_buildSlice (qs := #[(0, (.agg (encCred ((⟨2, (⟨(⟨#[97]⟩ : ByteArray), (⟨#[114]⟩ : ByteArray)⟩ : Role), zS, (⟨(⟨#[98]⟩ : ByteArray), (⟨#[115]⟩ : ByteArray)⟩ : Role), (⟨zS, zS⟩ : Role), zS⟩ : Cred))).toArray)), (1, (.agg (encCred ((⟨1, (⟨(⟨#[99]⟩ : ByteArray), (⟨#[116]⟩ : ByteArray)⟩ : Role), (⟨#[100]⟩ : ByteArray), (⟨zS, zS⟩ : Role), (⟨zS, zS⟩ : Role), zS⟩ : Cred))).toArray))]) (cs := #[(.int .i64 2), (.string (((⟨(⟨#[97]⟩ : ByteArray), (⟨#[114]⟩ : ByteArray)⟩ : Role)).Owner)), (.string (((⟨(⟨#[97]⟩ : ByteArray), (⟨#[114]⟩ : ByteArray)⟩ : Role)).Word)), (.string zS), (.string (((⟨(⟨#[98]⟩ : ByteArray), (⟨#[115]⟩ : ByteArray)⟩ : Role)).Owner)), (.string (((⟨(⟨#[98]⟩ : ByteArray), (⟨#[115]⟩ : ByteArray)⟩ : Role)).Word)), (.string (((⟨zS, zS⟩ : Role)).Owner)), (.string (((⟨zS, zS⟩ : Role)).Word)), (.string zS), (.int .i64 1), (.string (((⟨(⟨#[99]⟩ : ByteArray), (⟨#[116]⟩ : ByteArray)⟩ : Role)).Owner)), (.string (((⟨(⟨#[99]⟩ : ByteArray), (⟨#[116]⟩ : ByteArray)⟩ : Role)).Word)), (.string ((⟨#[100]⟩ : ByteArray))), (.string (((⟨zS, zS⟩ : Role)).Owner)), (.string (((⟨zS, zS⟩ : Role)).Word)), (.string (((⟨zS, zS⟩ : Role)).Owner)), (.string (((⟨zS, zS⟩ : Role)).Word)), (.string zS)]) hST (parts2 rfl rfl) (run_lit [(.agg (encCred ((⟨2, (⟨(⟨#[97]⟩ : ByteArray), (⟨#[114]⟩ : ByteArray)⟩ : Role), zS, (⟨(⟨#[98]⟩ : ByteArray), (⟨#[115]⟩ : ByteArray)⟩ : Role), (⟨zS, zS⟩ : Role), zS⟩ : Cred))).toArray), (.agg (encCred ((⟨1, (⟨(⟨#[99]⟩ : ByteArray), (⟨#[116]⟩ : ByteArray)⟩ : Role), (⟨#[100]⟩ : ByteArray), (⟨zS, zS⟩ : Role), (⟨zS, zS⟩ : Role), zS⟩ : Cred))).toArray)] Tryz.underlying22 Tryz.sizeOf83 Tryz.zeroValue83 (by decide) rfl (by intro v hv; simp only [List.mem_cons, List.not_mem_nil, or_false] at hv; rcases hv with rfl | rfl <;> rfl) rfl rfl) (fun W8 b7 hST => ?_))
  refine LW_v (.inl rfl) rfl (by decide) (R_assign (v := (.slice (some ⟨b7, 0, none⟩) 2 2)) rfl) ?_
  refine LW_nil ?_
  refine sq_n ?_
  refine CW_seq ?_
  refine CW_region ?_
  refine LW_v (.inl rfl) rfl (by decide) (R_move (v := (.slice (some ⟨b7, 0, none⟩) 2 2)) rfl) ?_
  refine LW_v (.inl rfl) rfl (by decide) (R_load (v := (.agg (encRole ((⟨(⟨#[97]⟩ : ByteArray), (⟨#[114]⟩ : ByteArray)⟩ : Role))).toArray)) rfl (load_boxA hST.has (.tail _ (.tail _ (.head _))) (encRole ((⟨(⟨#[97]⟩ : ByteArray), (⟨#[114]⟩ : ByteArray)⟩ : Role))) rfl Tryz.isAgg47 Tryz.sizeOf47)) ?_
  refine LW_e (.inl rfl) rfl (by decide) (E_buildSlice (qs := #[(0, (.agg (encRole ((⟨(⟨#[97]⟩ : ByteArray), (⟨#[114]⟩ : ByteArray)⟩ : Role))).toArray))]) (cs := (encRole ((⟨(⟨#[97]⟩ : ByteArray), (⟨#[114]⟩ : ByteArray)⟩ : Role))).toArray) hST (parts1 rfl) (run_lit [(.agg (encRole ((⟨(⟨#[97]⟩ : ByteArray), (⟨#[114]⟩ : ByteArray)⟩ : Role))).toArray)] Tryz.underlying23 Tryz.sizeOf47 Tryz.zeroValue47 (by decide) rfl (by intro v hv; simp only [List.mem_cons, List.not_mem_nil, or_false] at hv; rcases hv with rfl <;> rfl) rfl rfl) (fun W10 b9 hST => ?_))
  replace hST : ST true NoF w _ _ ((b9, Obj.cells ((encRole ((⟨(⟨#[97]⟩ : ByteArray), (⟨#[114]⟩ : ByteArray)⟩ : Role))).toArray : Array Value) 47 (0, 0)) :: ((b7, Obj.cells (#[(.int .i64 2), (.string (((⟨(⟨#[97]⟩ : ByteArray), (⟨#[114]⟩ : ByteArray)⟩ : Role)).Owner)), (.string (((⟨(⟨#[97]⟩ : ByteArray), (⟨#[114]⟩ : ByteArray)⟩ : Role)).Word)), (.string zS), (.string (((⟨(⟨#[98]⟩ : ByteArray), (⟨#[115]⟩ : ByteArray)⟩ : Role)).Owner)), (.string (((⟨(⟨#[98]⟩ : ByteArray), (⟨#[115]⟩ : ByteArray)⟩ : Role)).Word)), (.string (((⟨zS, zS⟩ : Role)).Owner)), (.string (((⟨zS, zS⟩ : Role)).Word)), (.string zS), (.int .i64 1), (.string (((⟨(⟨#[99]⟩ : ByteArray), (⟨#[116]⟩ : ByteArray)⟩ : Role)).Owner)), (.string (((⟨(⟨#[99]⟩ : ByteArray), (⟨#[116]⟩ : ByteArray)⟩ : Role)).Word)), (.string ((⟨#[100]⟩ : ByteArray))), (.string (((⟨zS, zS⟩ : Role)).Owner)), (.string (((⟨zS, zS⟩ : Role)).Word)), (.string (((⟨zS, zS⟩ : Role)).Owner)), (.string (((⟨zS, zS⟩ : Role)).Word)), (.string zS)] : Array Value) 83 (0, 0)) :: ((b3, Obj.cells ((encRole ((⟨(⟨#[98]⟩ : ByteArray), (⟨#[115]⟩ : ByteArray)⟩ : Role))).toArray : Array Value) 47 (0, 0)) :: ((b1, Obj.cells ((encRole ((⟨(⟨#[97]⟩ : ByteArray), (⟨#[114]⟩ : ByteArray)⟩ : Role))).toArray : Array Value) 47 (0, 0)) :: [])))) := hST
  obtain ⟨r11, hr12, hm⟩ := bind_some hm
  have hsz := hST.size
  refine LW_e (.inl rfl) rfl (by decide) (E_callM (args := [(.slice (some ⟨b7, 0, none⟩) 2 2), (.slice (some ⟨b9, 0, none⟩) 1 1)]) (caps := #[]) [] (((b9, Obj.cells ((encRole ((⟨(⟨#[97]⟩ : ByteArray), (⟨#[114]⟩ : ByteArray)⟩ : Role))).toArray : Array Value) 47 (0, 0)) :: ((b7, Obj.cells (#[(.int .i64 2), (.string (((⟨(⟨#[97]⟩ : ByteArray), (⟨#[114]⟩ : ByteArray)⟩ : Role)).Owner)), (.string (((⟨(⟨#[97]⟩ : ByteArray), (⟨#[114]⟩ : ByteArray)⟩ : Role)).Word)), (.string zS), (.string (((⟨(⟨#[98]⟩ : ByteArray), (⟨#[115]⟩ : ByteArray)⟩ : Role)).Owner)), (.string (((⟨(⟨#[98]⟩ : ByteArray), (⟨#[115]⟩ : ByteArray)⟩ : Role)).Word)), (.string (((⟨zS, zS⟩ : Role)).Owner)), (.string (((⟨zS, zS⟩ : Role)).Word)), (.string zS), (.int .i64 1), (.string (((⟨(⟨#[99]⟩ : ByteArray), (⟨#[116]⟩ : ByteArray)⟩ : Role)).Owner)), (.string (((⟨(⟨#[99]⟩ : ByteArray), (⟨#[116]⟩ : ByteArray)⟩ : Role)).Word)), (.string ((⟨#[100]⟩ : ByteArray))), (.string (((⟨zS, zS⟩ : Role)).Owner)), (.string (((⟨zS, zS⟩ : Role)).Word)), (.string (((⟨zS, zS⟩ : Role)).Owner)), (.string (((⟨zS, zS⟩ : Role)).Word)), (.string zS)] : Array Value) 83 (0, 0)) :: ((b3, Obj.cells ((encRole ((⟨(⟨#[98]⟩ : ByteArray), (⟨#[115]⟩ : ByteArray)⟩ : Role))).toArray : Array Value) 47 (0, 0)) :: ((b1, Obj.cells ((encRole ((⟨(⟨#[97]⟩ : ByteArray), (⟨#[114]⟩ : ByteArray)⟩ : Role))).toArray : Array Value) 47 (0, 0)) :: []))))) hST (List.Perm.refl _) rfl Tryz.call19 (by exact args2 rfl rfl) (fun _ _ _ _ => (w_graph_New (.slice (some ⟨b7, 0, none⟩) 2 2) ([(⟨2, (⟨(⟨#[97]⟩ : ByteArray), (⟨#[114]⟩ : ByteArray)⟩ : Role), zS, (⟨(⟨#[98]⟩ : ByteArray), (⟨#[115]⟩ : ByteArray)⟩ : Role), (⟨zS, zS⟩ : Role), zS⟩ : Cred), (⟨1, (⟨(⟨#[99]⟩ : ByteArray), (⟨#[116]⟩ : ByteArray)⟩ : Role), (⟨#[100]⟩ : ByteArray), (⟨zS, zS⟩ : Role), (⟨zS, zS⟩ : Role), zS⟩ : Cred)]) (.slice (some ⟨b9, 0, none⟩) 1 1) ([(⟨(⟨#[97]⟩ : ByteArray), (⟨#[114]⟩ : ByteArray)⟩ : Role)]) _ _ (Sl.lit (enc := encCred) (l := [(⟨2, (⟨(⟨#[97]⟩ : ByteArray), (⟨#[114]⟩ : ByteArray)⟩ : Role), zS, (⟨(⟨#[98]⟩ : ByteArray), (⟨#[115]⟩ : ByteArray)⟩ : Role), (⟨zS, zS⟩ : Role), zS⟩ : Cred), (⟨1, (⟨(⟨#[99]⟩ : ByteArray), (⟨#[116]⟩ : ByteArray)⟩ : Role), (⟨#[100]⟩ : ByteArray), (⟨zS, zS⟩ : Role), (⟨zS, zS⟩ : Role), zS⟩ : Cred)]) lenCred rfl (Nat.le_of_ble_eq_true rfl) rfl (hST.at_ (.tail _ (.head _)))) (Sl.lit (enc := encRole) (l := [(⟨(⟨#[97]⟩ : ByteArray), (⟨#[114]⟩ : ByteArray)⟩ : Role)]) lenRole rfl (Nat.le_of_ble_eq_true rfl) rfl (hST.at_ (.head _))) hr12)) (fun W13 v16 μ14 L18 hST hle15 hlift hK17 => ?_))
  obtain ⟨b19, y20, y24, S25, y27, S28, y30, S31, hv33, rfl, hy21, hf22, hy26, hy29, hy32⟩ := hK17
  replace hv33 := hv33.symm; subst hv33
  have hs23 := hy21.lift hf22 hlift
  replace hf22 := hf22.mono hsz
  simp only [List.append_assoc, List.cons_append, List.nil_append] at hST
  replace hST : ST true NoF w _ _ ((b19, Obj.cells (#[y20, y24, y27, y30] : Array Value) 122 (0, 0)) :: ((b9, Obj.cells ((encRole ((⟨(⟨#[97]⟩ : ByteArray), (⟨#[114]⟩ : ByteArray)⟩ : Role))).toArray : Array Value) 47 (0, 0)) :: ((b7, Obj.cells (#[(.int .i64 2), (.string (((⟨(⟨#[97]⟩ : ByteArray), (⟨#[114]⟩ : ByteArray)⟩ : Role)).Owner)), (.string (((⟨(⟨#[97]⟩ : ByteArray), (⟨#[114]⟩ : ByteArray)⟩ : Role)).Word)), (.string zS), (.string (((⟨(⟨#[98]⟩ : ByteArray), (⟨#[115]⟩ : ByteArray)⟩ : Role)).Owner)), (.string (((⟨(⟨#[98]⟩ : ByteArray), (⟨#[115]⟩ : ByteArray)⟩ : Role)).Word)), (.string (((⟨zS, zS⟩ : Role)).Owner)), (.string (((⟨zS, zS⟩ : Role)).Word)), (.string zS), (.int .i64 1), (.string (((⟨(⟨#[99]⟩ : ByteArray), (⟨#[116]⟩ : ByteArray)⟩ : Role)).Owner)), (.string (((⟨(⟨#[99]⟩ : ByteArray), (⟨#[116]⟩ : ByteArray)⟩ : Role)).Word)), (.string ((⟨#[100]⟩ : ByteArray))), (.string (((⟨zS, zS⟩ : Role)).Owner)), (.string (((⟨zS, zS⟩ : Role)).Word)), (.string (((⟨zS, zS⟩ : Role)).Owner)), (.string (((⟨zS, zS⟩ : Role)).Word)), (.string zS)] : Array Value) 83 (0, 0)) :: ((b3, Obj.cells ((encRole ((⟨(⟨#[98]⟩ : ByteArray), (⟨#[115]⟩ : ByteArray)⟩ : Role))).toArray : Array Value) 47 (0, 0)) :: ((b1, Obj.cells ((encRole ((⟨(⟨#[97]⟩ : ByteArray), (⟨#[114]⟩ : ByteArray)⟩ : Role))).toArray : Array Value) 47 (0, 0)) :: (S25 ++ (S28 ++ (S31 ++ [])))))))) := hST.perm (permD [[(b19, Obj.cells (#[y20, y24, y27, y30] : Array Value) 122 (0, 0))], S25, S28, S31, [(b9, Obj.cells ((encRole ((⟨(⟨#[97]⟩ : ByteArray), (⟨#[114]⟩ : ByteArray)⟩ : Role))).toArray : Array Value) 47 (0, 0))], [(b7, Obj.cells (#[(.int .i64 2), (.string (((⟨(⟨#[97]⟩ : ByteArray), (⟨#[114]⟩ : ByteArray)⟩ : Role)).Owner)), (.string (((⟨(⟨#[97]⟩ : ByteArray), (⟨#[114]⟩ : ByteArray)⟩ : Role)).Word)), (.string zS), (.string (((⟨(⟨#[98]⟩ : ByteArray), (⟨#[115]⟩ : ByteArray)⟩ : Role)).Owner)), (.string (((⟨(⟨#[98]⟩ : ByteArray), (⟨#[115]⟩ : ByteArray)⟩ : Role)).Word)), (.string (((⟨zS, zS⟩ : Role)).Owner)), (.string (((⟨zS, zS⟩ : Role)).Word)), (.string zS), (.int .i64 1), (.string (((⟨(⟨#[99]⟩ : ByteArray), (⟨#[116]⟩ : ByteArray)⟩ : Role)).Owner)), (.string (((⟨(⟨#[99]⟩ : ByteArray), (⟨#[116]⟩ : ByteArray)⟩ : Role)).Word)), (.string ((⟨#[100]⟩ : ByteArray))), (.string (((⟨zS, zS⟩ : Role)).Owner)), (.string (((⟨zS, zS⟩ : Role)).Word)), (.string (((⟨zS, zS⟩ : Role)).Owner)), (.string (((⟨zS, zS⟩ : Role)).Word)), (.string zS)] : Array Value) 83 (0, 0))], [(b3, Obj.cells ((encRole ((⟨(⟨#[98]⟩ : ByteArray), (⟨#[115]⟩ : ByteArray)⟩ : Role))).toArray : Array Value) 47 (0, 0))], [(b1, Obj.cells ((encRole ((⟨(⟨#[97]⟩ : ByteArray), (⟨#[114]⟩ : ByteArray)⟩ : Role))).toArray : Array Value) 47 (0, 0))]] [0, 1, 2, 3, 4, 5, 6, 7] [0, 4, 5, 6, 7, 1, 2, 3] ([]) (by decide) rfl rfl)
  refine LW_v (.inl rfl) rfl (by decide) (R_assign (v := (.pointer (some ⟨b19, 0, none⟩))) rfl) ?_
  refine LW_nil ?_
  refine sq_n ?_
  replace hST : ST true NoF w _ _ ((b19, Obj.cells (#[y20, y24, y27, y30] : Array Value) 122 (0, 0)) :: ((b7, Obj.cells (#[(.int .i64 2), (.string (((⟨(⟨#[97]⟩ : ByteArray), (⟨#[114]⟩ : ByteArray)⟩ : Role)).Owner)), (.string (((⟨(⟨#[97]⟩ : ByteArray), (⟨#[114]⟩ : ByteArray)⟩ : Role)).Word)), (.string zS), (.string (((⟨(⟨#[98]⟩ : ByteArray), (⟨#[115]⟩ : ByteArray)⟩ : Role)).Owner)), (.string (((⟨(⟨#[98]⟩ : ByteArray), (⟨#[115]⟩ : ByteArray)⟩ : Role)).Word)), (.string (((⟨zS, zS⟩ : Role)).Owner)), (.string (((⟨zS, zS⟩ : Role)).Word)), (.string zS), (.int .i64 1), (.string (((⟨(⟨#[99]⟩ : ByteArray), (⟨#[116]⟩ : ByteArray)⟩ : Role)).Owner)), (.string (((⟨(⟨#[99]⟩ : ByteArray), (⟨#[116]⟩ : ByteArray)⟩ : Role)).Word)), (.string ((⟨#[100]⟩ : ByteArray))), (.string (((⟨zS, zS⟩ : Role)).Owner)), (.string (((⟨zS, zS⟩ : Role)).Word)), (.string (((⟨zS, zS⟩ : Role)).Owner)), (.string (((⟨zS, zS⟩ : Role)).Word)), (.string zS)] : Array Value) 83 (0, 0)) :: ((b3, Obj.cells ((encRole ((⟨(⟨#[98]⟩ : ByteArray), (⟨#[115]⟩ : ByteArray)⟩ : Role))).toArray : Array Value) 47 (0, 0)) :: ((b1, Obj.cells ((encRole ((⟨(⟨#[97]⟩ : ByteArray), (⟨#[114]⟩ : ByteArray)⟩ : Role))).toArray : Array Value) 47 (0, 0)) :: (S25 ++ (S28 ++ (S31 ++ []))))))) := hST.sublist (List.Sublist.cons_cons _ (List.Sublist.cons _ (List.Sublist.refl _)))
  refine CW_seq ?_
  refine CW_region ?_
  refine LW_e (.inl rfl) rfl (by decide) (E_alloc hST Tryz.zeroValue3 (fun W35 b34 hST => ?_))
  refine LW_e0 (.inl rfl) rfl (E_store [] (.int .i64 0) (#[(.int .i64 0)]) hST rfl rfl Tryz.sizeOf3 (oneI _ 0) (Nat.le_of_ble_eq_true rfl) rfl (fun W36 hST => ?_))
  refine LW_nil ?_
  refine sq_n ?_
  refine CW_seq ?_
  refine CW_seq ?_
  refine CW_region ?_
  refine LW_v (.inl rfl) rfl (by decide) (R_move (v := (.pointer (some ⟨b19, 0, none⟩))) rfl) ?_
  replace hST : ST true NoF w _ _ ((b34, Obj.cells (#[(.int .i64 0)] : Array Value) 3 (0, 0)) :: ((b19, Obj.cells (#[y20, y24, y27, y30] : Array Value) 122 (0, 0)) :: ((b7, Obj.cells (#[(.int .i64 2), (.string (((⟨(⟨#[97]⟩ : ByteArray), (⟨#[114]⟩ : ByteArray)⟩ : Role)).Owner)), (.string (((⟨(⟨#[97]⟩ : ByteArray), (⟨#[114]⟩ : ByteArray)⟩ : Role)).Word)), (.string zS), (.string (((⟨(⟨#[98]⟩ : ByteArray), (⟨#[115]⟩ : ByteArray)⟩ : Role)).Owner)), (.string (((⟨(⟨#[98]⟩ : ByteArray), (⟨#[115]⟩ : ByteArray)⟩ : Role)).Word)), (.string (((⟨zS, zS⟩ : Role)).Owner)), (.string (((⟨zS, zS⟩ : Role)).Word)), (.string zS), (.int .i64 1), (.string (((⟨(⟨#[99]⟩ : ByteArray), (⟨#[116]⟩ : ByteArray)⟩ : Role)).Owner)), (.string (((⟨(⟨#[99]⟩ : ByteArray), (⟨#[116]⟩ : ByteArray)⟩ : Role)).Word)), (.string ((⟨#[100]⟩ : ByteArray))), (.string (((⟨zS, zS⟩ : Role)).Owner)), (.string (((⟨zS, zS⟩ : Role)).Word)), (.string (((⟨zS, zS⟩ : Role)).Owner)), (.string (((⟨zS, zS⟩ : Role)).Word)), (.string zS)] : Array Value) 83 (0, 0)) :: ((b3, Obj.cells ((encRole ((⟨(⟨#[98]⟩ : ByteArray), (⟨#[115]⟩ : ByteArray)⟩ : Role))).toArray : Array Value) 47 (0, 0)) :: ((b1, Obj.cells ((encRole ((⟨(⟨#[97]⟩ : ByteArray), (⟨#[114]⟩ : ByteArray)⟩ : Role))).toArray : Array Value) 47 (0, 0)) :: (S25 ++ (S28 ++ (S31 ++ [])))))))) := hST
  obtain ⟨r58, hr59, hm⟩ := bind_some hm
  replace hST : ST true NoF w _ _ ((b19, Obj.cells (#[y20, y24, y27, y30] : Array Value) 122 (0, 0)) :: (S25 ++ (S28 ++ (S31 ++ ((b34, Obj.cells (#[(.int .i64 0)] : Array Value) 3 (0, 0)) :: ((b7, Obj.cells (#[(.int .i64 2), (.string (((⟨(⟨#[97]⟩ : ByteArray), (⟨#[114]⟩ : ByteArray)⟩ : Role)).Owner)), (.string (((⟨(⟨#[97]⟩ : ByteArray), (⟨#[114]⟩ : ByteArray)⟩ : Role)).Word)), (.string zS), (.string (((⟨(⟨#[98]⟩ : ByteArray), (⟨#[115]⟩ : ByteArray)⟩ : Role)).Owner)), (.string (((⟨(⟨#[98]⟩ : ByteArray), (⟨#[115]⟩ : ByteArray)⟩ : Role)).Word)), (.string (((⟨zS, zS⟩ : Role)).Owner)), (.string (((⟨zS, zS⟩ : Role)).Word)), (.string zS), (.int .i64 1), (.string (((⟨(⟨#[99]⟩ : ByteArray), (⟨#[116]⟩ : ByteArray)⟩ : Role)).Owner)), (.string (((⟨(⟨#[99]⟩ : ByteArray), (⟨#[116]⟩ : ByteArray)⟩ : Role)).Word)), (.string ((⟨#[100]⟩ : ByteArray))), (.string (((⟨zS, zS⟩ : Role)).Owner)), (.string (((⟨zS, zS⟩ : Role)).Word)), (.string (((⟨zS, zS⟩ : Role)).Owner)), (.string (((⟨zS, zS⟩ : Role)).Word)), (.string zS)] : Array Value) 83 (0, 0)) :: ((b3, Obj.cells ((encRole ((⟨(⟨#[98]⟩ : ByteArray), (⟨#[115]⟩ : ByteArray)⟩ : Role))).toArray : Array Value) 47 (0, 0)) :: ((b1, Obj.cells ((encRole ((⟨(⟨#[97]⟩ : ByteArray), (⟨#[114]⟩ : ByteArray)⟩ : Role))).toArray : Array Value) 47 (0, 0)) :: [])))))))) := hST.perm (permD [[(b34, Obj.cells (#[(.int .i64 0)] : Array Value) 3 (0, 0))], [(b19, Obj.cells (#[y20, y24, y27, y30] : Array Value) 122 (0, 0))], [(b7, Obj.cells (#[(.int .i64 2), (.string (((⟨(⟨#[97]⟩ : ByteArray), (⟨#[114]⟩ : ByteArray)⟩ : Role)).Owner)), (.string (((⟨(⟨#[97]⟩ : ByteArray), (⟨#[114]⟩ : ByteArray)⟩ : Role)).Word)), (.string zS), (.string (((⟨(⟨#[98]⟩ : ByteArray), (⟨#[115]⟩ : ByteArray)⟩ : Role)).Owner)), (.string (((⟨(⟨#[98]⟩ : ByteArray), (⟨#[115]⟩ : ByteArray)⟩ : Role)).Word)), (.string (((⟨zS, zS⟩ : Role)).Owner)), (.string (((⟨zS, zS⟩ : Role)).Word)), (.string zS), (.int .i64 1), (.string (((⟨(⟨#[99]⟩ : ByteArray), (⟨#[116]⟩ : ByteArray)⟩ : Role)).Owner)), (.string (((⟨(⟨#[99]⟩ : ByteArray), (⟨#[116]⟩ : ByteArray)⟩ : Role)).Word)), (.string ((⟨#[100]⟩ : ByteArray))), (.string (((⟨zS, zS⟩ : Role)).Owner)), (.string (((⟨zS, zS⟩ : Role)).Word)), (.string (((⟨zS, zS⟩ : Role)).Owner)), (.string (((⟨zS, zS⟩ : Role)).Word)), (.string zS)] : Array Value) 83 (0, 0))], [(b3, Obj.cells ((encRole ((⟨(⟨#[98]⟩ : ByteArray), (⟨#[115]⟩ : ByteArray)⟩ : Role))).toArray : Array Value) 47 (0, 0))], [(b1, Obj.cells ((encRole ((⟨(⟨#[97]⟩ : ByteArray), (⟨#[114]⟩ : ByteArray)⟩ : Role))).toArray : Array Value) 47 (0, 0))], S25, S28, S31] [0, 1, 2, 3, 4, 5, 6, 7] [1, 5, 6, 7, 0, 2, 3, 4] ([]) (by decide) rfl rfl)
  have hsz := hST.size
  refine LW_e (.inl rfl) rfl (by decide) (E_callM (args := [(.pointer (some ⟨b19, 0, none⟩))]) (caps := #[]) (((b19, Obj.cells (#[y20, y24, y27, y30] : Array Value) 122 (0, 0)) :: (S25 ++ (S28 ++ (S31 ++ []))))) (((b34, Obj.cells (#[(.int .i64 0)] : Array Value) 3 (0, 0)) :: ((b7, Obj.cells (#[(.int .i64 2), (.string (((⟨(⟨#[97]⟩ : ByteArray), (⟨#[114]⟩ : ByteArray)⟩ : Role)).Owner)), (.string (((⟨(⟨#[97]⟩ : ByteArray), (⟨#[114]⟩ : ByteArray)⟩ : Role)).Word)), (.string zS), (.string (((⟨(⟨#[98]⟩ : ByteArray), (⟨#[115]⟩ : ByteArray)⟩ : Role)).Owner)), (.string (((⟨(⟨#[98]⟩ : ByteArray), (⟨#[115]⟩ : ByteArray)⟩ : Role)).Word)), (.string (((⟨zS, zS⟩ : Role)).Owner)), (.string (((⟨zS, zS⟩ : Role)).Word)), (.string zS), (.int .i64 1), (.string (((⟨(⟨#[99]⟩ : ByteArray), (⟨#[116]⟩ : ByteArray)⟩ : Role)).Owner)), (.string (((⟨(⟨#[99]⟩ : ByteArray), (⟨#[116]⟩ : ByteArray)⟩ : Role)).Word)), (.string ((⟨#[100]⟩ : ByteArray))), (.string (((⟨zS, zS⟩ : Role)).Owner)), (.string (((⟨zS, zS⟩ : Role)).Word)), (.string (((⟨zS, zS⟩ : Role)).Owner)), (.string (((⟨zS, zS⟩ : Role)).Word)), (.string zS)] : Array Value) 83 (0, 0)) :: ((b3, Obj.cells ((encRole ((⟨(⟨#[98]⟩ : ByteArray), (⟨#[115]⟩ : ByteArray)⟩ : Role))).toArray : Array Value) 47 (0, 0)) :: ((b1, Obj.cells ((encRole ((⟨(⟨#[97]⟩ : ByteArray), (⟨#[114]⟩ : ByteArray)⟩ : Role))).toArray : Array Value) 47 (0, 0)) :: []))))) hST (by simp only [List.append_assoc, List.cons_append, List.nil_append]; exact List.Perm.refl _) rfl Tryz.call28 (by exact args1 rfl) (fun hH hN hsb hmm => (w_graph_Graph_Edges_w b19 y20 r11.1 y24 r11.2.1 S25 y27 r11.2.2.1 S28 y30 r11.2.2.2 S31 _ _ hH hN (Sub.refl _) (hs23.mono (Pl.mono _) hsb) hy26 hy29 hy32 hr59)) (fun W60 v63 μ61 L65 hST hle62 hlift hK64 => ?_))
  obtain ⟨b66, hv67, rfl⟩ := hK64
  replace hv67 := hv67.symm; subst hv67
  simp only [List.append_assoc, List.cons_append, List.nil_append] at hST
  replace hST : ST true NoF w _ _ ((b66, Obj.cells (#[(.pointer (some ⟨b19, 0, none⟩))] : Array Value) 31 (0, 0)) :: ((b19, Obj.cells (#[y20, y24, y27, y30] : Array Value) 122 (0, 0)) :: ((b34, Obj.cells (#[(.int .i64 0)] : Array Value) 3 (0, 0)) :: ((b7, Obj.cells (#[(.int .i64 2), (.string (((⟨(⟨#[97]⟩ : ByteArray), (⟨#[114]⟩ : ByteArray)⟩ : Role)).Owner)), (.string (((⟨(⟨#[97]⟩ : ByteArray), (⟨#[114]⟩ : ByteArray)⟩ : Role)).Word)), (.string zS), (.string (((⟨(⟨#[98]⟩ : ByteArray), (⟨#[115]⟩ : ByteArray)⟩ : Role)).Owner)), (.string (((⟨(⟨#[98]⟩ : ByteArray), (⟨#[115]⟩ : ByteArray)⟩ : Role)).Word)), (.string (((⟨zS, zS⟩ : Role)).Owner)), (.string (((⟨zS, zS⟩ : Role)).Word)), (.string zS), (.int .i64 1), (.string (((⟨(⟨#[99]⟩ : ByteArray), (⟨#[116]⟩ : ByteArray)⟩ : Role)).Owner)), (.string (((⟨(⟨#[99]⟩ : ByteArray), (⟨#[116]⟩ : ByteArray)⟩ : Role)).Word)), (.string ((⟨#[100]⟩ : ByteArray))), (.string (((⟨zS, zS⟩ : Role)).Owner)), (.string (((⟨zS, zS⟩ : Role)).Word)), (.string (((⟨zS, zS⟩ : Role)).Owner)), (.string (((⟨zS, zS⟩ : Role)).Word)), (.string zS)] : Array Value) 83 (0, 0)) :: ((b3, Obj.cells ((encRole ((⟨(⟨#[98]⟩ : ByteArray), (⟨#[115]⟩ : ByteArray)⟩ : Role))).toArray : Array Value) 47 (0, 0)) :: ((b1, Obj.cells ((encRole ((⟨(⟨#[97]⟩ : ByteArray), (⟨#[114]⟩ : ByteArray)⟩ : Role))).toArray : Array Value) 47 (0, 0)) :: (S25 ++ (S28 ++ (S31 ++ []))))))))) := hST.perm (permD [[(b66, Obj.cells (#[(.pointer (some ⟨b19, 0, none⟩))] : Array Value) 31 (0, 0))], [(b19, Obj.cells (#[y20, y24, y27, y30] : Array Value) 122 (0, 0))], S25, S28, S31, [(b34, Obj.cells (#[(.int .i64 0)] : Array Value) 3 (0, 0))], [(b7, Obj.cells (#[(.int .i64 2), (.string (((⟨(⟨#[97]⟩ : ByteArray), (⟨#[114]⟩ : ByteArray)⟩ : Role)).Owner)), (.string (((⟨(⟨#[97]⟩ : ByteArray), (⟨#[114]⟩ : ByteArray)⟩ : Role)).Word)), (.string zS), (.string (((⟨(⟨#[98]⟩ : ByteArray), (⟨#[115]⟩ : ByteArray)⟩ : Role)).Owner)), (.string (((⟨(⟨#[98]⟩ : ByteArray), (⟨#[115]⟩ : ByteArray)⟩ : Role)).Word)), (.string (((⟨zS, zS⟩ : Role)).Owner)), (.string (((⟨zS, zS⟩ : Role)).Word)), (.string zS), (.int .i64 1), (.string (((⟨(⟨#[99]⟩ : ByteArray), (⟨#[116]⟩ : ByteArray)⟩ : Role)).Owner)), (.string (((⟨(⟨#[99]⟩ : ByteArray), (⟨#[116]⟩ : ByteArray)⟩ : Role)).Word)), (.string ((⟨#[100]⟩ : ByteArray))), (.string (((⟨zS, zS⟩ : Role)).Owner)), (.string (((⟨zS, zS⟩ : Role)).Word)), (.string (((⟨zS, zS⟩ : Role)).Owner)), (.string (((⟨zS, zS⟩ : Role)).Word)), (.string zS)] : Array Value) 83 (0, 0))], [(b3, Obj.cells ((encRole ((⟨(⟨#[98]⟩ : ByteArray), (⟨#[115]⟩ : ByteArray)⟩ : Role))).toArray : Array Value) 47 (0, 0))], [(b1, Obj.cells ((encRole ((⟨(⟨#[97]⟩ : ByteArray), (⟨#[114]⟩ : ByteArray)⟩ : Role))).toArray : Array Value) 47 (0, 0))]] [0, 1, 2, 3, 4, 5, 6, 7, 8] [0, 1, 5, 6, 7, 8, 2, 3, 4] ([]) (by decide) rfl rfl)
  refine LW_v (.inl rfl) rfl (by decide) (R_assign (v := (.func (.func 85) #[] #[(.pointer (some ⟨b66, 0, none⟩))])) rfl) ?_
  refine LW_nil ?_
  refine sq_n ?_
  refine CW_seq ?_
  refine CW_region ?_
  refine LW_v (.inl rfl) rfl (by decide) (R_move (v := (.func (.func 85) #[] #[(.pointer (some ⟨b66, 0, none⟩))])) rfl) ?_
  refine LW_v (.inl rfl) rfl (by decide) (R_funcNeNil Tryz.underlying44 rfl rfl) ?_
  refine LW_nil ?_
  refine sq_n ?_
  refine CW_if_true rfl ?_
  refine CW_region ?_
  refine LW_v (.inl rfl) rfl (by decide) (R_move (v := (.func (.func 85) #[] #[(.pointer (some ⟨b66, 0, none⟩))])) rfl) ?_
  refine LW_v (.inl rfl) rfl (by decide) (R_makeFuncC (by exact args3 rfl rfl rfl) rfl) ?_
  obtain ⟨r68, hr69, hm⟩ := bind_some hm
  replace hST : ST true NoF w _ _ ((b34, Obj.cells (#[(.int .i64 0)] : Array Value) 3 (0, 0)) :: ((b1, Obj.cells ((encRole ((⟨(⟨#[97]⟩ : ByteArray), (⟨#[114]⟩ : ByteArray)⟩ : Role))).toArray : Array Value) 47 (0, 0)) :: ((b3, Obj.cells ((encRole ((⟨(⟨#[98]⟩ : ByteArray), (⟨#[115]⟩ : ByteArray)⟩ : Role))).toArray : Array Value) 47 (0, 0)) :: ((b66, Obj.cells (#[(.pointer (some ⟨b19, 0, none⟩))] : Array Value) 31 (0, 0)) :: ((b19, Obj.cells (#[y20, y24, y27, y30] : Array Value) 122 (0, 0)) :: ((b7, Obj.cells (#[(.int .i64 2), (.string (((⟨(⟨#[97]⟩ : ByteArray), (⟨#[114]⟩ : ByteArray)⟩ : Role)).Owner)), (.string (((⟨(⟨#[97]⟩ : ByteArray), (⟨#[114]⟩ : ByteArray)⟩ : Role)).Word)), (.string zS), (.string (((⟨(⟨#[98]⟩ : ByteArray), (⟨#[115]⟩ : ByteArray)⟩ : Role)).Owner)), (.string (((⟨(⟨#[98]⟩ : ByteArray), (⟨#[115]⟩ : ByteArray)⟩ : Role)).Word)), (.string (((⟨zS, zS⟩ : Role)).Owner)), (.string (((⟨zS, zS⟩ : Role)).Word)), (.string zS), (.int .i64 1), (.string (((⟨(⟨#[99]⟩ : ByteArray), (⟨#[116]⟩ : ByteArray)⟩ : Role)).Owner)), (.string (((⟨(⟨#[99]⟩ : ByteArray), (⟨#[116]⟩ : ByteArray)⟩ : Role)).Word)), (.string ((⟨#[100]⟩ : ByteArray))), (.string (((⟨zS, zS⟩ : Role)).Owner)), (.string (((⟨zS, zS⟩ : Role)).Word)), (.string (((⟨zS, zS⟩ : Role)).Owner)), (.string (((⟨zS, zS⟩ : Role)).Word)), (.string zS)] : Array Value) 83 (0, 0)) :: (S25 ++ (S28 ++ (S31 ++ []))))))))) := hST.perm (permD [[(b66, Obj.cells (#[(.pointer (some ⟨b19, 0, none⟩))] : Array Value) 31 (0, 0))], [(b19, Obj.cells (#[y20, y24, y27, y30] : Array Value) 122 (0, 0))], [(b34, Obj.cells (#[(.int .i64 0)] : Array Value) 3 (0, 0))], [(b7, Obj.cells (#[(.int .i64 2), (.string (((⟨(⟨#[97]⟩ : ByteArray), (⟨#[114]⟩ : ByteArray)⟩ : Role)).Owner)), (.string (((⟨(⟨#[97]⟩ : ByteArray), (⟨#[114]⟩ : ByteArray)⟩ : Role)).Word)), (.string zS), (.string (((⟨(⟨#[98]⟩ : ByteArray), (⟨#[115]⟩ : ByteArray)⟩ : Role)).Owner)), (.string (((⟨(⟨#[98]⟩ : ByteArray), (⟨#[115]⟩ : ByteArray)⟩ : Role)).Word)), (.string (((⟨zS, zS⟩ : Role)).Owner)), (.string (((⟨zS, zS⟩ : Role)).Word)), (.string zS), (.int .i64 1), (.string (((⟨(⟨#[99]⟩ : ByteArray), (⟨#[116]⟩ : ByteArray)⟩ : Role)).Owner)), (.string (((⟨(⟨#[99]⟩ : ByteArray), (⟨#[116]⟩ : ByteArray)⟩ : Role)).Word)), (.string ((⟨#[100]⟩ : ByteArray))), (.string (((⟨zS, zS⟩ : Role)).Owner)), (.string (((⟨zS, zS⟩ : Role)).Word)), (.string (((⟨zS, zS⟩ : Role)).Owner)), (.string (((⟨zS, zS⟩ : Role)).Word)), (.string zS)] : Array Value) 83 (0, 0))], [(b3, Obj.cells ((encRole ((⟨(⟨#[98]⟩ : ByteArray), (⟨#[115]⟩ : ByteArray)⟩ : Role))).toArray : Array Value) 47 (0, 0))], [(b1, Obj.cells ((encRole ((⟨(⟨#[97]⟩ : ByteArray), (⟨#[114]⟩ : ByteArray)⟩ : Role))).toArray : Array Value) 47 (0, 0))]] [0, 1, 2, 3, 4, 5] [2, 5, 4, 0, 1, 3] ((S25 ++ (S28 ++ (S31 ++ [])))) (by decide) rfl rfl)
  have hsz := hST.size
  refine LW_e (.inl rfl) rfl (by decide) (E_callM (args := [(.func (.func 71) #[] #[(.pointer (some ⟨b34, 0, none⟩)), (.pointer (some ⟨b1, 0, none⟩)), (.pointer (some ⟨b3, 0, none⟩))])]) (caps := #[(.pointer (some ⟨b66, 0, none⟩))]) ((((b34, Obj.cells (#[(.int .i64 0)] : Array Value) 3 (0, 0)) :: ((b1, Obj.cells ((encRole ((⟨(⟨#[97]⟩ : ByteArray), (⟨#[114]⟩ : ByteArray)⟩ : Role))).toArray : Array Value) 47 (0, 0)) :: ((b3, Obj.cells ((encRole ((⟨(⟨#[98]⟩ : ByteArray), (⟨#[115]⟩ : ByteArray)⟩ : Role))).toArray : Array Value) 47 (0, 0)) :: []))) ++ [])) (((b66, Obj.cells (#[(.pointer (some ⟨b19, 0, none⟩))] : Array Value) 31 (0, 0)) :: ((b19, Obj.cells (#[y20, y24, y27, y30] : Array Value) 122 (0, 0)) :: ((b7, Obj.cells (#[(.int .i64 2), (.string (((⟨(⟨#[97]⟩ : ByteArray), (⟨#[114]⟩ : ByteArray)⟩ : Role)).Owner)), (.string (((⟨(⟨#[97]⟩ : ByteArray), (⟨#[114]⟩ : ByteArray)⟩ : Role)).Word)), (.string zS), (.string (((⟨(⟨#[98]⟩ : ByteArray), (⟨#[115]⟩ : ByteArray)⟩ : Role)).Owner)), (.string (((⟨(⟨#[98]⟩ : ByteArray), (⟨#[115]⟩ : ByteArray)⟩ : Role)).Word)), (.string (((⟨zS, zS⟩ : Role)).Owner)), (.string (((⟨zS, zS⟩ : Role)).Word)), (.string zS), (.int .i64 1), (.string (((⟨(⟨#[99]⟩ : ByteArray), (⟨#[116]⟩ : ByteArray)⟩ : Role)).Owner)), (.string (((⟨(⟨#[99]⟩ : ByteArray), (⟨#[116]⟩ : ByteArray)⟩ : Role)).Word)), (.string ((⟨#[100]⟩ : ByteArray))), (.string (((⟨zS, zS⟩ : Role)).Owner)), (.string (((⟨zS, zS⟩ : Role)).Word)), (.string (((⟨zS, zS⟩ : Role)).Owner)), (.string (((⟨zS, zS⟩ : Role)).Word)), (.string zS)] : Array Value) 83 (0, 0)) :: (S25 ++ (S28 ++ (S31 ++ []))))))) hST (by simp only [List.append_assoc, List.cons_append, List.nil_append]; exact List.Perm.refl _) rfl Tryz.call85 (by exact args1 rfl) (fun hH hN hsb hmm => (w_graph_Graph_Edges_c1_s (fun (s : Int) (R : List (Nat × Obj)) => R = ((b34, Obj.cells (#[(.int .i64 (s))] : Array Value) 3 (0, 0)) :: ((b1, Obj.cells ((encRole ((⟨(⟨#[97]⟩ : ByteArray), (⟨#[114]⟩ : ByteArray)⟩ : Role))).toArray : Array Value) 47 (0, 0)) :: ((b3, Obj.cells ((encRole ((⟨(⟨#[98]⟩ : ByteArray), (⟨#[115]⟩ : ByteArray)⟩ : Role))).toArray : Array Value) 47 (0, 0)) :: [])))) (.func (.func 71) #[] #[(.pointer (some ⟨b34, 0, none⟩)), (.pointer (some ⟨b1, 0, none⟩)), (.pointer (some ⟨b3, 0, none⟩))]) (fun (s : Int) (x : (Role × Role)) => m_law22_first_c1_w x.1 x.2 s ((⟨(⟨#[97]⟩ : ByteArray), (⟨#[114]⟩ : ByteArray)⟩ : Role)) ((⟨(⟨#[98]⟩ : ByteArray), (⟨#[115]⟩ : ByteArray)⟩ : Role))) 0 (((b34, Obj.cells (#[(.int .i64 0)] : Array Value) 3 (0, 0)) :: ((b1, Obj.cells ((encRole ((⟨(⟨#[97]⟩ : ByteArray), (⟨#[114]⟩ : ByteArray)⟩ : Role))).toArray : Array Value) 47 (0, 0)) :: ((b3, Obj.cells ((encRole ((⟨(⟨#[98]⟩ : ByteArray), (⟨#[115]⟩ : ByteArray)⟩ : Role))).toArray : Array Value) 47 (0, 0)) :: [])))) b66 b19 y20 r11.1 y24 r11.2.1 y27 r11.2.2.1 y30 r11.2.2.2 _ _ hH hN (Sub.refl _) ⟨71, #[(.pointer (some ⟨b34, 0, none⟩)), (.pointer (some ⟨b1, 0, none⟩)), (.pointer (some ⟨b3, 0, none⟩))], rfl, Tryz.call71, fun W s x r R hs hI hH hN hm => by
      obtain ⟨rfl⟩ := hI
      refine GivesM.mono (w_law22_first_c1_w x.1 x.2 b34 s b1 ((⟨(⟨#[97]⟩ : ByteArray), (⟨#[114]⟩ : ByteArray)⟩ : Role)) b3 ((⟨(⟨#[98]⟩ : ByteArray), (⟨#[115]⟩ : ByteArray)⟩ : Role)) r W hH hN hs  hm) ?_
      rintro v L1 W' ⟨rfl, rfl⟩
      exact ⟨rfl, rfl⟩⟩ rfl (hs23.mono (Pl.mono _) (hle62.trans hsb)) (hy26.at (fun b o hq => hmm b o (.tail _ (.tail _ (.tail _ (List.mem_append_left _ hq)))))) (hy29.at (fun b o hq => hmm b o (.tail _ (.tail _ (.tail _ (List.mem_append_right _ (List.mem_append_left _ hq))))))) (hy32.at (fun b o hq => hmm b o (.tail _ (.tail _ (.tail _ (List.mem_append_right _ (List.mem_append_right _ (List.mem_append_left _ hq)))))))) (At.of (hmm _ _ (.tail _ (.head _))) _ rfl) (At.of (hmm _ _ (.head _)) _ rfl) hr69)) (fun W70 v73 μ71 L75 hST hle72 hlift hK74 => ?_))
  obtain ⟨S76, hv78, rfl, hy77⟩ := hK74
  replace hv78 := hv78.symm; subst hv78
  obtain rfl := hy77
  simp only [List.append_assoc, List.cons_append, List.nil_append] at hST
  refine LW_nil ?_
  refine sq_n ?_
  replace hST : ST true NoF w _ _ ((b34, Obj.cells (#[(.int .i64 (r68))] : Array Value) 3 (0, 0)) :: ((b1, Obj.cells ((encRole ((⟨(⟨#[97]⟩ : ByteArray), (⟨#[114]⟩ : ByteArray)⟩ : Role))).toArray : Array Value) 47 (0, 0)) :: ((b3, Obj.cells ((encRole ((⟨(⟨#[98]⟩ : ByteArray), (⟨#[115]⟩ : ByteArray)⟩ : Role))).toArray : Array Value) 47 (0, 0)) :: ((b66, Obj.cells (#[(.pointer (some ⟨b19, 0, none⟩))] : Array Value) 31 (0, 0)) :: ((b19, Obj.cells (#[y20, y24, y27, y30] : Array Value) 122 (0, 0)) :: ((b7, Obj.cells (#[(.int .i64 2), (.string (((⟨(⟨#[97]⟩ : ByteArray), (⟨#[114]⟩ : ByteArray)⟩ : Role)).Owner)), (.string (((⟨(⟨#[97]⟩ : ByteArray), (⟨#[114]⟩ : ByteArray)⟩ : Role)).Word)), (.string zS), (.string (((⟨(⟨#[98]⟩ : ByteArray), (⟨#[115]⟩ : ByteArray)⟩ : Role)).Owner)), (.string (((⟨(⟨#[98]⟩ : ByteArray), (⟨#[115]⟩ : ByteArray)⟩ : Role)).Word)), (.string (((⟨zS, zS⟩ : Role)).Owner)), (.string (((⟨zS, zS⟩ : Role)).Word)), (.string zS), (.int .i64 1), (.string (((⟨(⟨#[99]⟩ : ByteArray), (⟨#[116]⟩ : ByteArray)⟩ : Role)).Owner)), (.string (((⟨(⟨#[99]⟩ : ByteArray), (⟨#[116]⟩ : ByteArray)⟩ : Role)).Word)), (.string ((⟨#[100]⟩ : ByteArray))), (.string (((⟨zS, zS⟩ : Role)).Owner)), (.string (((⟨zS, zS⟩ : Role)).Word)), (.string (((⟨zS, zS⟩ : Role)).Owner)), (.string (((⟨zS, zS⟩ : Role)).Word)), (.string zS)] : Array Value) 83 (0, 0)) :: (S25 ++ (S28 ++ (S31 ++ []))))))))) := hST
  replace hST : ST true NoF w _ _ ((b34, Obj.cells (#[(.int .i64 (r68))] : Array Value) 3 (0, 0)) :: ((b1, Obj.cells ((encRole ((⟨(⟨#[97]⟩ : ByteArray), (⟨#[114]⟩ : ByteArray)⟩ : Role))).toArray : Array Value) 47 (0, 0)) :: ((b19, Obj.cells (#[y20, y24, y27, y30] : Array Value) 122 (0, 0)) :: ((b7, Obj.cells (#[(.int .i64 2), (.string (((⟨(⟨#[97]⟩ : ByteArray), (⟨#[114]⟩ : ByteArray)⟩ : Role)).Owner)), (.string (((⟨(⟨#[97]⟩ : ByteArray), (⟨#[114]⟩ : ByteArray)⟩ : Role)).Word)), (.string zS), (.string (((⟨(⟨#[98]⟩ : ByteArray), (⟨#[115]⟩ : ByteArray)⟩ : Role)).Owner)), (.string (((⟨(⟨#[98]⟩ : ByteArray), (⟨#[115]⟩ : ByteArray)⟩ : Role)).Word)), (.string (((⟨zS, zS⟩ : Role)).Owner)), (.string (((⟨zS, zS⟩ : Role)).Word)), (.string zS), (.int .i64 1), (.string (((⟨(⟨#[99]⟩ : ByteArray), (⟨#[116]⟩ : ByteArray)⟩ : Role)).Owner)), (.string (((⟨(⟨#[99]⟩ : ByteArray), (⟨#[116]⟩ : ByteArray)⟩ : Role)).Word)), (.string ((⟨#[100]⟩ : ByteArray))), (.string (((⟨zS, zS⟩ : Role)).Owner)), (.string (((⟨zS, zS⟩ : Role)).Word)), (.string (((⟨zS, zS⟩ : Role)).Owner)), (.string (((⟨zS, zS⟩ : Role)).Word)), (.string zS)] : Array Value) 83 (0, 0)) :: (S25 ++ (S28 ++ (S31 ++ []))))))) := hST.sublist (List.Sublist.cons_cons _ (List.Sublist.cons_cons _ (List.Sublist.cons _ (List.Sublist.cons _ (List.Sublist.refl _)))))
  refine CW_seq ?_
  refine CW_region ?_
  refine LW_v (.inl rfl) rfl (by decide) (R_move (v := (.pointer (some ⟨b19, 0, none⟩))) rfl) ?_
  obtain ⟨r79, hr80, hm⟩ := bind_some hm
  refine LW_e (.inl rfl) rfl (by decide) (E_givesRow (args := [(.pointer (some ⟨b19, 0, none⟩))]) [_, _, _, _] _ hST rfl Tryz.call21 (by exact args1 rfl) ((w_graph_Graph_Targets b19 y20 r11.1 y24 r11.2.1 y27 r11.2.2.1 y30 r11.2.2.2 _ _ (hs23.mono (Pl.mono _) ((hle62.trans hle72).trans hST.sub_hp)) (hy26.at (fun b o hq => hST.at_ (.tail _ (.tail _ (.tail _ (.tail _ (List.mem_append_left _ hq))))))) (hy29.at (fun b o hq => hST.at_ (.tail _ (.tail _ (.tail _ (.tail _ (List.mem_append_right _ (List.mem_append_left _ hq)))))))) (hy32.at (fun b o hq => hST.at_ (.tail _ (.tail _ (.tail _ (.tail _ (List.mem_append_right _ (List.mem_append_right _ (List.mem_append_left _ hq))))))))) (At.of (hST.at_ (.tail _ (.tail _ (.head _)))) _ rfl) hr80)) (fun W81 v84 μ82 R85 hST hle83 hR86 => ?_))
  refine LW_v (.inl rfl) rfl (by decide) (R_lenRow Tryz.underlying23 rfl hR86) ?_
  refine LW_v (.inl rfl) rfl (by decide) (R_int (k := .i64) (a := ((r79.length : Int))) (b := 2) (v := (.bool ((((r79.length : Int)) == 2)))) rfl rfl rfl) ?_
  refine LW_v (.inl rfl) rfl (by decide) (R_move (v := (.bool ((((r79.length : Int)) == 2)))) rfl) ?_
  obtain ⟨s291, hm292, hm293⟩ := bind_some hm
  refine LW_join (J := fun E W => ∃ (x97 : Bool) (μ96 : Mem) (L98 : List (Nat × Obj)), Sub μ82 μ96 ∧ ST true NoF w W μ96 ((b34, Obj.cells (#[(.int .i64 r68)] : Array Value) 3 (0, 0)) :: ((b1, Obj.cells ((encRole ((⟨(⟨#[97]⟩ : ByteArray), (⟨#[114]⟩ : ByteArray)⟩ : Role))).toArray : Array Value) 47 (0, 0)) :: ((b19, Obj.cells (#[y20, y24, y27, y30] : Array Value) 122 (0, 0)) :: ((b7, Obj.cells (#[(.int .i64 2), (.string (((⟨(⟨#[97]⟩ : ByteArray), (⟨#[114]⟩ : ByteArray)⟩ : Role)).Owner)), (.string (((⟨(⟨#[97]⟩ : ByteArray), (⟨#[114]⟩ : ByteArray)⟩ : Role)).Word)), (.string zS), (.string (((⟨(⟨#[98]⟩ : ByteArray), (⟨#[115]⟩ : ByteArray)⟩ : Role)).Owner)), (.string (((⟨(⟨#[98]⟩ : ByteArray), (⟨#[115]⟩ : ByteArray)⟩ : Role)).Word)), (.string (((⟨zS, zS⟩ : Role)).Owner)), (.string (((⟨zS, zS⟩ : Role)).Word)), (.string zS), (.int .i64 1), (.string (((⟨(⟨#[99]⟩ : ByteArray), (⟨#[116]⟩ : ByteArray)⟩ : Role)).Owner)), (.string (((⟨(⟨#[99]⟩ : ByteArray), (⟨#[116]⟩ : ByteArray)⟩ : Role)).Word)), (.string ((⟨#[100]⟩ : ByteArray))), (.string (((⟨zS, zS⟩ : Role)).Owner)), (.string (((⟨zS, zS⟩ : Role)).Word)), (.string (((⟨zS, zS⟩ : Role)).Owner)), (.string (((⟨zS, zS⟩ : Role)).Word)), (.string zS)] : Array Value) 83 (0, 0)) :: (S25 ++ (S28 ++ (S31 ++ L98))))))) ∧ E 0 = (.bool false) ∧ E 1 = (.pointer (some ⟨b1, 0, none⟩)) ∧ E 3 = (.slice (some ⟨b7, 0, none⟩) 2 2) ∧ E 4 = (.pointer (some ⟨b19, 0, none⟩)) ∧ E 5 = (.pointer (some ⟨b34, 0, none⟩)) ∧ E 35 = (.bool x97) ∧ (((if x97 then (((m_graph_Graph_Relevant r11.1 r11.2.1 r11.2.2.1 r11.2.2.2)).bind fun r283 => some ((((r283.length : Int)) == 1))) else some false) : Option Bool).bind fun x117 => (((if x117 then some ((r68 == 1)) else some false) : Option Bool).bind fun x128 => (((if x128 then (((m_graph_Graph_Want_w r11.1 r11.2.1 r11.2.2.1 r11.2.2.2 ([(⟨(⟨#[99]⟩ : ByteArray), (⟨#[116]⟩ : ByteArray)⟩ : Role)]))).bind fun r260 => some (((r260.1 == 1)), r260.2.1, r260.2.2.1, r260.2.2.2)) else some (false, r11.2.1, r11.2.2.1, r11.2.2.2)) : Option ((Bool × (List (Role × Bool)) × (List (ByteArray × Bool)) × (List (Cred × Bool))))).bind fun (x158, l159, l162, l165) => (((if x158 then (((m_graph_Graph_Relevant r11.1 l159 l162 l165)).bind fun r243 => some ((((r243.length : Int)) == 2))) else some false) : Option Bool).bind fun x185 => (((if x185 then (((m_graph_Graph_Want_w r11.1 l159 l162 l165 ([(⟨(⟨#[97]⟩ : ByteArray), (⟨#[114]⟩ : ByteArray)⟩ : Role)]))).bind fun r224 => some ((r224.1 == 0))) else some false) : Option Bool).bind fun x212 => some x212))))) = some r) 5 ?_ (fun key294 => ?_)
  · rintro E W ⟨x97, μ96, L98, hle100, hST, e101, e102, e103, e104, e105, e106, hm99⟩
    refine LW_v (.inl rfl) rfl (by decide) (R_move (v := (.bool x97)) e106) ?_
    obtain ⟨s279, hm280, hm281⟩ := bind_some hm99
    refine LW_join (J := fun E W => ∃ (x117 : Bool) (μ116 : Mem) (L118 : List (Nat × Obj)), Sub μ96 μ116 ∧ ST true NoF w W μ116 ((b34, Obj.cells (#[(.int .i64 r68)] : Array Value) 3 (0, 0)) :: ((b1, Obj.cells ((encRole ((⟨(⟨#[97]⟩ : ByteArray), (⟨#[114]⟩ : ByteArray)⟩ : Role))).toArray : Array Value) 47 (0, 0)) :: ((b19, Obj.cells (#[y20, y24, y27, y30] : Array Value) 122 (0, 0)) :: ((b7, Obj.cells (#[(.int .i64 2), (.string (((⟨(⟨#[97]⟩ : ByteArray), (⟨#[114]⟩ : ByteArray)⟩ : Role)).Owner)), (.string (((⟨(⟨#[97]⟩ : ByteArray), (⟨#[114]⟩ : ByteArray)⟩ : Role)).Word)), (.string zS), (.string (((⟨(⟨#[98]⟩ : ByteArray), (⟨#[115]⟩ : ByteArray)⟩ : Role)).Owner)), (.string (((⟨(⟨#[98]⟩ : ByteArray), (⟨#[115]⟩ : ByteArray)⟩ : Role)).Word)), (.string (((⟨zS, zS⟩ : Role)).Owner)), (.string (((⟨zS, zS⟩ : Role)).Word)), (.string zS), (.int .i64 1), (.string (((⟨(⟨#[99]⟩ : ByteArray), (⟨#[116]⟩ : ByteArray)⟩ : Role)).Owner)), (.string (((⟨(⟨#[99]⟩ : ByteArray), (⟨#[116]⟩ : ByteArray)⟩ : Role)).Word)), (.string ((⟨#[100]⟩ : ByteArray))), (.string (((⟨zS, zS⟩ : Role)).Owner)), (.string (((⟨zS, zS⟩ : Role)).Word)), (.string (((⟨zS, zS⟩ : Role)).Owner)), (.string (((⟨zS, zS⟩ : Role)).Word)), (.string zS)] : Array Value) 83 (0, 0)) :: (S25 ++ (S28 ++ (S31 ++ L118))))))) ∧ E 0 = (.bool false) ∧ E 1 = (.pointer (some ⟨b1, 0, none⟩)) ∧ E 3 = (.slice (some ⟨b7, 0, none⟩) 2 2) ∧ E 4 = (.pointer (some ⟨b19, 0, none⟩)) ∧ E 5 = (.pointer (some ⟨b34, 0, none⟩)) ∧ E 41 = (.bool x117) ∧ (((if x117 then some ((r68 == 1)) else some false) : Option Bool).bind fun x128 => (((if x128 then (((m_graph_Graph_Want_w r11.1 r11.2.1 r11.2.2.1 r11.2.2.2 ([(⟨(⟨#[99]⟩ : ByteArray), (⟨#[116]⟩ : ByteArray)⟩ : Role)]))).bind fun r260 => some (((r260.1 == 1)), r260.2.1, r260.2.2.1, r260.2.2.2)) else some (false, r11.2.1, r11.2.2.1, r11.2.2.2)) : Option ((Bool × (List (Role × Bool)) × (List (ByteArray × Bool)) × (List (Cred × Bool))))).bind fun (x158, l159, l162, l165) => (((if x158 then (((m_graph_Graph_Relevant r11.1 l159 l162 l165)).bind fun r243 => some ((((r243.length : Int)) == 2))) else some false) : Option Bool).bind fun x185 => (((if x185 then (((m_graph_Graph_Want_w r11.1 l159 l162 l165 ([(⟨(⟨#[97]⟩ : ByteArray), (⟨#[114]⟩ : ByteArray)⟩ : Role)]))).bind fun r224 => some ((r224.1 == 0))) else some false) : Option Bool).bind fun x212 => some x212)))) = some r) 5 ?_ (fun key282 => ?_)
    · rintro E W ⟨x117, μ116, L118, hle120, hST, e121, e122, e123, e124, e125, e126, hm119⟩
      refine LW_v (.inl rfl) rfl (by decide) (R_move (v := (.bool x117)) e126) ?_
      obtain ⟨s275, hm276, hm277⟩ := bind_some hm119
      refine LW_join (J := fun E W => ∃ (x128 : Bool) (L129 : List (Nat × Obj)), ST true NoF w W μ116 ((b1, Obj.cells ((encRole ((⟨(⟨#[97]⟩ : ByteArray), (⟨#[114]⟩ : ByteArray)⟩ : Role))).toArray : Array Value) 47 (0, 0)) :: ((b19, Obj.cells (#[y20, y24, y27, y30] : Array Value) 122 (0, 0)) :: ((b7, Obj.cells (#[(.int .i64 2), (.string (((⟨(⟨#[97]⟩ : ByteArray), (⟨#[114]⟩ : ByteArray)⟩ : Role)).Owner)), (.string (((⟨(⟨#[97]⟩ : ByteArray), (⟨#[114]⟩ : ByteArray)⟩ : Role)).Word)), (.string zS), (.string (((⟨(⟨#[98]⟩ : ByteArray), (⟨#[115]⟩ : ByteArray)⟩ : Role)).Owner)), (.string (((⟨(⟨#[98]⟩ : ByteArray), (⟨#[115]⟩ : ByteArray)⟩ : Role)).Word)), (.string (((⟨zS, zS⟩ : Role)).Owner)), (.string (((⟨zS, zS⟩ : Role)).Word)), (.string zS), (.int .i64 1), (.string (((⟨(⟨#[99]⟩ : ByteArray), (⟨#[116]⟩ : ByteArray)⟩ : Role)).Owner)), (.string (((⟨(⟨#[99]⟩ : ByteArray), (⟨#[116]⟩ : ByteArray)⟩ : Role)).Word)), (.string ((⟨#[100]⟩ : ByteArray))), (.string (((⟨zS, zS⟩ : Role)).Owner)), (.string (((⟨zS, zS⟩ : Role)).Word)), (.string (((⟨zS, zS⟩ : Role)).Owner)), (.string (((⟨zS, zS⟩ : Role)).Word)), (.string zS)] : Array Value) 83 (0, 0)) :: (S25 ++ (S28 ++ (S31 ++ L129)))))) ∧ E 0 = (.bool false) ∧ E 1 = (.pointer (some ⟨b1, 0, none⟩)) ∧ E 3 = (.slice (some ⟨b7, 0, none⟩) 2 2) ∧ E 4 = (.pointer (some ⟨b19, 0, none⟩)) ∧ E 45 = (.bool x128) ∧ (((if x128 then (((m_graph_Graph_Want_w r11.1 r11.2.1 r11.2.2.1 r11.2.2.2 ([(⟨(⟨#[99]⟩ : ByteArray), (⟨#[116]⟩ : ByteArray)⟩ : Role)]))).bind fun r260 => some (((r260.1 == 1)), r260.2.1, r260.2.2.1, r260.2.2.2)) else some (false, r11.2.1, r11.2.2.1, r11.2.2.2)) : Option ((Bool × (List (Role × Bool)) × (List (ByteArray × Bool)) × (List (Cred × Bool))))).bind fun (x158, l159, l162, l165) => (((if x158 then (((m_graph_Graph_Relevant r11.1 l159 l162 l165)).bind fun r243 => some ((((r243.length : Int)) == 2))) else some false) : Option Bool).bind fun x185 => (((if x185 then (((m_graph_Graph_Want_w r11.1 l159 l162 l165 ([(⟨(⟨#[97]⟩ : ByteArray), (⟨#[114]⟩ : ByteArray)⟩ : Role)]))).bind fun r224 => some ((r224.1 == 0))) else some false) : Option Bool).bind fun x212 => some x212))) = some r) 3 ?_ (fun key278 => ?_)
      · rintro E W ⟨x128, L129, hST, e131, e132, e133, e134, e135, hm130⟩
        refine LW_v (.inl rfl) rfl (by decide) (R_move (v := (.bool x128)) e135) ?_
        obtain ⟨s251, hm252, hm253⟩ := bind_some hm130
        refine LW_join (J := fun E W => ∃ (x158 : Bool) (l159 : List (Role × Bool)) (R161 : List (Nat × Obj)) (l162 : List (ByteArray × Bool)) (R164 : List (Nat × Obj)) (l165 : List (Cred × Bool)) (R167 : List (Nat × Obj)) (μ157 : Mem) (L168 : List (Nat × Obj)), Sub μ116 μ157 ∧ ST true NoF w W μ157 ((b1, Obj.cells ((encRole ((⟨(⟨#[97]⟩ : ByteArray), (⟨#[114]⟩ : ByteArray)⟩ : Role))).toArray : Array Value) 47 (0, 0)) :: ((b19, Obj.cells (#[y20, y24, y27, y30] : Array Value) 122 (0, 0)) :: (R161 ++ (R164 ++ (R167 ++ L168))))) ∧ E 0 = (.bool false) ∧ E 1 = (.pointer (some ⟨b1, 0, none⟩)) ∧ E 4 = (.pointer (some ⟨b19, 0, none⟩)) ∧ E 55 = (.bool x158) ∧ MapRow (fun (x : Role) => (.agg (encRole x).toArray)) (fun (x : Bool) => (Value.bool x)) y24 l159 R161 ∧ MapRow Value.string (fun (x : Bool) => (Value.bool x)) y27 l162 R164 ∧ MapRow (fun (x : Cred) => (.agg (encCred x).toArray)) (fun (x : Bool) => (Value.bool x)) y30 l165 R167 ∧ (((if x158 then (((m_graph_Graph_Relevant r11.1 l159 l162 l165)).bind fun r243 => some ((((r243.length : Int)) == 2))) else some false) : Option Bool).bind fun x185 => (((if x185 then (((m_graph_Graph_Want_w r11.1 l159 l162 l165 ([(⟨(⟨#[97]⟩ : ByteArray), (⟨#[114]⟩ : ByteArray)⟩ : Role)]))).bind fun r224 => some ((r224.1 == 0))) else some false) : Option Bool).bind fun x212 => some x212)) = some r) 9 ?_ (fun key254 => ?_)
        · rintro E W ⟨x158, l159, R161, l162, R164, l165, R167, μ157, L168, hle170, hST, e171, e172, e173, e174, hs160, hs163, hs166, hm169⟩
          refine LW_v (.inl rfl) rfl (by decide) (R_move (v := (.bool x158)) e174) ?_
          obtain ⟨s239, hm240, hm241⟩ := bind_some hm169
          refine LW_join (J := fun E W => ∃ (x185 : Bool) (μ184 : Mem) (L186 : List (Nat × Obj)), Sub μ157 μ184 ∧ ST true NoF w W μ184 ((b1, Obj.cells ((encRole ((⟨(⟨#[97]⟩ : ByteArray), (⟨#[114]⟩ : ByteArray)⟩ : Role))).toArray : Array Value) 47 (0, 0)) :: ((b19, Obj.cells (#[y20, y24, y27, y30] : Array Value) 122 (0, 0)) :: (R161 ++ (R164 ++ (R167 ++ L186))))) ∧ E 0 = (.bool false) ∧ E 1 = (.pointer (some ⟨b1, 0, none⟩)) ∧ E 4 = (.pointer (some ⟨b19, 0, none⟩)) ∧ E 61 = (.bool x185) ∧ (((if x185 then (((m_graph_Graph_Want_w r11.1 l159 l162 l165 ([(⟨(⟨#[97]⟩ : ByteArray), (⟨#[114]⟩ : ByteArray)⟩ : Role)]))).bind fun r224 => some ((r224.1 == 0))) else some false) : Option Bool).bind fun x212 => some x212) = some r) 5 ?_ (fun key242 => ?_)
          · rintro E W ⟨x185, μ184, L186, hle188, hST, e189, e190, e191, e192, hm187⟩
            refine LW_v (.inl rfl) rfl (by decide) (R_move (v := (.bool x185)) e192) ?_
            obtain ⟨s218, hm219, hm220⟩ := bind_some hm187
            refine LW_join (J := fun E W => ∃ (x212 : Bool) (μ211 : Mem) (L213 : List (Nat × Obj)), Sub μ184 μ211 ∧ ST true NoF w W μ211 L213 ∧ E 0 = (.bool false) ∧ E 68 = (.bool x212) ∧ some x212 = some r) 6 ?_ (fun key221 => ?_)
            · rintro E W ⟨x212, μ211, L213, hle215, hST, e216, e217, hm214⟩
              refine LW_v (.inl rfl) rfl (by decide) (R_assign (v := (.bool x212)) e217) ?_
              refine LW_nil ?_
              refine sq_n ?_
              refine CW_ret ?_
              replace hm214 := Option.some.inj hm214; subst hm214
              refine retQ_1 (v := (.bool x212)) rfl rfl ?_
              exact ⟨rfl, hST.ex⟩
            · rcases bool_cases x185 with hb193 | hb193
              · replace hm219 := if_t hb193 hm219
                refine LW_v (.inr ⟨36, true, 62, rfl, rfl, by decide, (congrArg Value.bool hb193)⟩) rfl (by decide) (R_move (v := (.pointer (some ⟨b19, 0, none⟩))) e191) ?_
                refine LW_v (.inr ⟨36, true, 62, rfl, rfl, by decide, (congrArg Value.bool hb193)⟩) rfl (by decide) (R_load (v := (.agg (encRole ((⟨(⟨#[97]⟩ : ByteArray), (⟨#[114]⟩ : ByteArray)⟩ : Role))).toArray)) e190 (load_boxA hST.has (.head _) (encRole ((⟨(⟨#[97]⟩ : ByteArray), (⟨#[114]⟩ : ByteArray)⟩ : Role))) rfl Tryz.isAgg47 Tryz.sizeOf47)) ?_
                refine LW_e (.inr ⟨36, true, 62, rfl, rfl, by decide, (congrArg Value.bool hb193)⟩) rfl (by decide) (E_buildSlice (qs := #[(0, (.agg (encRole ((⟨(⟨#[97]⟩ : ByteArray), (⟨#[114]⟩ : ByteArray)⟩ : Role))).toArray))]) (cs := (encRole ((⟨(⟨#[97]⟩ : ByteArray), (⟨#[114]⟩ : ByteArray)⟩ : Role))).toArray) hST (parts1 rfl) (run_lit [(.agg (encRole ((⟨(⟨#[97]⟩ : ByteArray), (⟨#[114]⟩ : ByteArray)⟩ : Role))).toArray)] Tryz.underlying23 Tryz.sizeOf47 Tryz.zeroValue47 (by decide) rfl (by intro v hv; simp only [List.mem_cons, List.not_mem_nil, or_false] at hv; rcases hv with rfl <;> rfl) rfl rfl) (fun W223 b222 hST => ?_))
                obtain ⟨r224, hr225, hm219⟩ := bind_some hm219
                replace hST : ST true NoF w _ _ ((b19, Obj.cells (#[y20, y24, y27, y30] : Array Value) 122 (0, 0)) :: (R161 ++ (R164 ++ (R167 ++ ((b222, Obj.cells ((encRole ((⟨(⟨#[97]⟩ : ByteArray), (⟨#[114]⟩ : ByteArray)⟩ : Role))).toArray : Array Value) 47 (0, 0)) :: ((b1, Obj.cells ((encRole ((⟨(⟨#[97]⟩ : ByteArray), (⟨#[114]⟩ : ByteArray)⟩ : Role))).toArray : Array Value) 47 (0, 0)) :: L186)))))) := hST.perm (permD [[(b222, Obj.cells ((encRole ((⟨(⟨#[97]⟩ : ByteArray), (⟨#[114]⟩ : ByteArray)⟩ : Role))).toArray : Array Value) 47 (0, 0))], [(b1, Obj.cells ((encRole ((⟨(⟨#[97]⟩ : ByteArray), (⟨#[114]⟩ : ByteArray)⟩ : Role))).toArray : Array Value) 47 (0, 0))], [(b19, Obj.cells (#[y20, y24, y27, y30] : Array Value) 122 (0, 0))], R161, R164, R167] [0, 1, 2, 3, 4, 5] [2, 3, 4, 5, 0, 1] L186 (by decide) rfl rfl)
                have hsz := hST.size
                refine LW_e (.inr ⟨36, true, 62, rfl, rfl, by decide, (congrArg Value.bool hb193)⟩) rfl (by decide) (E_callM (args := [(.pointer (some ⟨b19, 0, none⟩)), (.slice (some ⟨b222, 0, none⟩) 1 1)]) (caps := #[]) (((b19, Obj.cells (#[y20, y24, y27, y30] : Array Value) 122 (0, 0)) :: (R161 ++ (R164 ++ (R167 ++ []))))) (((b222, Obj.cells ((encRole ((⟨(⟨#[97]⟩ : ByteArray), (⟨#[114]⟩ : ByteArray)⟩ : Role))).toArray : Array Value) 47 (0, 0)) :: ((b1, Obj.cells ((encRole ((⟨(⟨#[97]⟩ : ByteArray), (⟨#[114]⟩ : ByteArray)⟩ : Role))).toArray : Array Value) 47 (0, 0)) :: L186))) hST (by simp only [List.append_assoc, List.cons_append, List.nil_append]; exact List.Perm.refl _) rfl Tryz.call26 (by exact args2 rfl rfl) (fun hH hN hsb hmm => (w_graph_Graph_Want_w b19 y20 r11.1 y24 l159 R161 y27 l162 R164 y30 l165 R167 (.slice (some ⟨b222, 0, none⟩) 1 1) ([(⟨(⟨#[97]⟩ : ByteArray), (⟨#[114]⟩ : ByteArray)⟩ : Role)]) _ _ hH hN (Sub.refl _) (hs23.mono (Pl.mono _) (((((((hle62.trans hle72).trans hle83).trans hle100).trans hle120).trans hle170).trans hle188).trans hsb)) hs160 hs163 hs166 (Sl.lit (enc := encRole) (l := [(⟨(⟨#[97]⟩ : ByteArray), (⟨#[114]⟩ : ByteArray)⟩ : Role)]) lenRole rfl (Nat.le_of_ble_eq_true rfl) rfl (hmm _ _ (.head _))) hr225)) (fun W226 v229 μ227 L231 hST hle228 hlift hK230 => ?_))
                obtain ⟨S232, S234, S236, hv238, rfl, hy233, hy235, hy237⟩ := hK230
                replace hv238 := hv238.symm; subst hv238
                simp only [List.append_assoc, List.cons_append, List.nil_append] at hST
                replace hST : ST true NoF w _ _ ((b19, Obj.cells (#[y20, y24, y27, y30] : Array Value) 122 (0, 0)) :: ((b222, Obj.cells ((encRole ((⟨(⟨#[97]⟩ : ByteArray), (⟨#[114]⟩ : ByteArray)⟩ : Role))).toArray : Array Value) 47 (0, 0)) :: ((b1, Obj.cells ((encRole ((⟨(⟨#[97]⟩ : ByteArray), (⟨#[114]⟩ : ByteArray)⟩ : Role))).toArray : Array Value) 47 (0, 0)) :: (S232 ++ (S234 ++ (S236 ++ L186)))))) := hST.perm (permD [[(b19, Obj.cells (#[y20, y24, y27, y30] : Array Value) 122 (0, 0))], S232, S234, S236, [(b222, Obj.cells ((encRole ((⟨(⟨#[97]⟩ : ByteArray), (⟨#[114]⟩ : ByteArray)⟩ : Role))).toArray : Array Value) 47 (0, 0))], [(b1, Obj.cells ((encRole ((⟨(⟨#[97]⟩ : ByteArray), (⟨#[114]⟩ : ByteArray)⟩ : Role))).toArray : Array Value) 47 (0, 0))]] [0, 1, 2, 3, 4, 5] [0, 4, 5, 1, 2, 3] L186 (by decide) rfl rfl)
                refine LW_v (.inr ⟨36, true, 62, rfl, rfl, by decide, (congrArg Value.bool hb193)⟩) rfl (by decide) (R_int (k := .i64) (a := r224.1) (b := 0) (v := (.bool ((r224.1 == 0)))) rfl rfl rfl) ?_
                refine LW_v (.inl rfl) rfl (by decide) (R_pickT (v := (.bool ((r224.1 == 0)))) (congrArg Value.bool hb193) rfl) ?_
                replace hm219 := Option.some.inj hm219; subst hm219
                exact key221 _ _ ⟨((r224.1 == 0)), μ227, _, hle228, (hST.sublist (List.Sublist.cons _ (List.Sublist.cons _ (List.Sublist.cons _ ((((List.Sublist.refl _).trans (List.sublist_append_right _ _)).trans (List.sublist_append_right _ _)).trans (List.sublist_append_right _ _)))))), e189, rfl, hm220⟩
              · replace hm219 := if_f hb193 hm219
                refine LW_no rfl (by decide) rfl rfl (by decide) (congrArg Value.bool hb193) ?_
                refine LW_no rfl (by decide) rfl rfl (by decide) (congrArg Value.bool hb193) ?_
                refine LW_no rfl (by decide) rfl rfl (by decide) (congrArg Value.bool hb193) ?_
                refine LW_no rfl (by decide) rfl rfl (by decide) (congrArg Value.bool hb193) ?_
                refine LW_no rfl (by decide) rfl rfl (by decide) (congrArg Value.bool hb193) ?_
                refine LW_v (.inl rfl) rfl (by decide) (R_pickF (v := (.bool false)) (congrArg Value.bool hb193) rfl) ?_
                replace hm219 := Option.some.inj hm219; subst hm219
                exact key221 _ _ ⟨false, μ184, _, (Sub.refl _), (hST.sublist (List.Sublist.cons _ (List.Sublist.cons _ ((((List.Sublist.refl _).trans (List.sublist_append_right _ _)).trans (List.sublist_append_right _ _)).trans (List.sublist_append_right _ _))))), e189, rfl, hm220⟩
          · rcases bool_cases x158 with hb175 | hb175
            · replace hm240 := if_t hb175 hm240
              refine LW_v (.inr ⟨30, true, 56, rfl, rfl, by decide, (congrArg Value.bool hb175)⟩) rfl (by decide) (R_move (v := (.pointer (some ⟨b19, 0, none⟩))) e173) ?_
              obtain ⟨r243, hr244, hm240⟩ := bind_some hm240
              refine LW_e (.inr ⟨30, true, 56, rfl, rfl, by decide, (congrArg Value.bool hb175)⟩) rfl (by decide) (E_givesRow (args := [(.pointer (some ⟨b19, 0, none⟩))]) [_, _] _ hST rfl Tryz.call25 (by exact args1 rfl) ((w_graph_Graph_Relevant b19 y20 r11.1 y24 l159 y27 l162 y30 l165 _ _ (hs23.mono (Pl.mono _) ((((((hle62.trans hle72).trans hle83).trans hle100).trans hle120).trans hle170).trans hST.sub_hp)) (hs160.at (fun b o hq => hST.at_ (.tail _ (.tail _ (List.mem_append_left _ hq))))) (hs163.at (fun b o hq => hST.at_ (.tail _ (.tail _ (List.mem_append_right _ (List.mem_append_left _ hq)))))) (hs166.at (fun b o hq => hST.at_ (.tail _ (.tail _ (List.mem_append_right _ (List.mem_append_right _ (List.mem_append_left _ hq))))))) (At.of (hST.at_ (.tail _ (.head _))) _ rfl) hr244)) (fun W245 v248 μ246 R249 hST hle247 hR250 => ?_))
              refine LW_v (.inr ⟨30, true, 56, rfl, rfl, by decide, (congrArg Value.bool hb175)⟩) rfl (by decide) (R_lenRow Tryz.underlying22 rfl hR250) ?_
              refine LW_v (.inr ⟨30, true, 56, rfl, rfl, by decide, (congrArg Value.bool hb175)⟩) rfl (by decide) (R_int (k := .i64) (a := ((r243.length : Int))) (b := 2) (v := (.bool ((((r243.length : Int)) == 2)))) rfl rfl rfl) ?_
              refine LW_v (.inl rfl) rfl (by decide) (R_pickT (v := (.bool ((((r243.length : Int)) == 2)))) (congrArg Value.bool hb175) rfl) ?_
              replace hm240 := Option.some.inj hm240; subst hm240
              replace hST : ST true NoF w _ _ ((b1, Obj.cells ((encRole ((⟨(⟨#[97]⟩ : ByteArray), (⟨#[114]⟩ : ByteArray)⟩ : Role))).toArray : Array Value) 47 (0, 0)) :: ((b19, Obj.cells (#[y20, y24, y27, y30] : Array Value) 122 (0, 0)) :: (R249 ++ (R161 ++ (R164 ++ (R167 ++ L168)))))) := hST
              exact key242 _ _ ⟨((((r243.length : Int)) == 2)), μ246, _, hle247, (hST.sublist (List.Sublist.cons_cons _ (List.Sublist.cons_cons _ ((List.Sublist.refl _).trans (List.sublist_append_right _ _))))), e171, e172, e173, rfl, hm241⟩
            · replace hm240 := if_f hb175 hm240
              refine LW_no rfl (by decide) rfl rfl (by decide) (congrArg Value.bool hb175) ?_
              refine LW_no rfl (by decide) rfl rfl (by decide) (congrArg Value.bool hb175) ?_
              refine LW_no rfl (by decide) rfl rfl (by decide) (congrArg Value.bool hb175) ?_
              refine LW_no rfl (by decide) rfl rfl (by decide) (congrArg Value.bool hb175) ?_
              refine LW_v (.inl rfl) rfl (by decide) (R_pickF (v := (.bool false)) (congrArg Value.bool hb175) rfl) ?_
              replace hm240 := Option.some.inj hm240; subst hm240
              exact key242 _ _ ⟨false, μ157, _, (Sub.refl _), (hST.sublist (List.Sublist.refl _)), e171, e172, e173, rfl, hm241⟩
        · rcases bool_cases x128 with hb136 | hb136
          · replace hm252 := if_t hb136 hm252
            refine LW_v (.inr ⟨20, true, 46, rfl, rfl, by decide, (congrArg Value.bool hb136)⟩) rfl (by decide) (R_move (v := (.pointer (some ⟨b19, 0, none⟩))) e134) ?_
            refine LW_v (.inr ⟨20, true, 46, rfl, rfl, by decide, (congrArg Value.bool hb136)⟩) rfl (by decide) (R_move (v := (.slice (some ⟨b7, 0, none⟩) 2 2)) e133) ?_
            refine LW_v (.inr ⟨20, true, 46, rfl, rfl, by decide, (congrArg Value.bool hb136)⟩) rfl (by decide) (R_indexLit (i := 1) Tryz.underlying22 Tryz.sizeOf83 rfl rfl (by decide) (by decide) rfl) ?_
            refine LW_v (.inr ⟨20, true, 46, rfl, rfl, by decide, (congrArg Value.bool hb136)⟩) rfl (by decide) (R_field fa83_1 rfl) ?_
            refine LW_v (.inr ⟨20, true, 46, rfl, rfl, by decide, (congrArg Value.bool hb136)⟩) rfl (by decide) (R_load (v := (.agg (encRole ((⟨(⟨#[99]⟩ : ByteArray), (⟨#[116]⟩ : ByteArray)⟩ : Role))).toArray)) rfl (load_boxA hST.has (.tail _ (.tail _ (.head _))) (encRole ((⟨(⟨#[99]⟩ : ByteArray), (⟨#[116]⟩ : ByteArray)⟩ : Role))) rfl Tryz.isAgg47 Tryz.sizeOf47)) ?_
            refine LW_e (.inr ⟨20, true, 46, rfl, rfl, by decide, (congrArg Value.bool hb136)⟩) rfl (by decide) (E_buildSlice (qs := #[(0, (.agg (encRole ((⟨(⟨#[99]⟩ : ByteArray), (⟨#[116]⟩ : ByteArray)⟩ : Role))).toArray))]) (cs := (encRole ((⟨(⟨#[99]⟩ : ByteArray), (⟨#[116]⟩ : ByteArray)⟩ : Role))).toArray) hST (parts1 rfl) (run_lit [(.agg (encRole ((⟨(⟨#[99]⟩ : ByteArray), (⟨#[116]⟩ : ByteArray)⟩ : Role))).toArray)] Tryz.underlying23 Tryz.sizeOf47 Tryz.zeroValue47 (by decide) rfl (by intro v hv; simp only [List.mem_cons, List.not_mem_nil, or_false] at hv; rcases hv with rfl <;> rfl) rfl rfl) (fun W259 b258 hST => ?_))
            obtain ⟨r260, hr261, hm252⟩ := bind_some hm252
            replace hST : ST true NoF w _ _ ((b19, Obj.cells (#[y20, y24, y27, y30] : Array Value) 122 (0, 0)) :: (S25 ++ (S28 ++ (S31 ++ ((b258, Obj.cells ((encRole ((⟨(⟨#[99]⟩ : ByteArray), (⟨#[116]⟩ : ByteArray)⟩ : Role))).toArray : Array Value) 47 (0, 0)) :: ((b1, Obj.cells ((encRole ((⟨(⟨#[97]⟩ : ByteArray), (⟨#[114]⟩ : ByteArray)⟩ : Role))).toArray : Array Value) 47 (0, 0)) :: ((b7, Obj.cells (#[(.int .i64 2), (.string (((⟨(⟨#[97]⟩ : ByteArray), (⟨#[114]⟩ : ByteArray)⟩ : Role)).Owner)), (.string (((⟨(⟨#[97]⟩ : ByteArray), (⟨#[114]⟩ : ByteArray)⟩ : Role)).Word)), (.string zS), (.string (((⟨(⟨#[98]⟩ : ByteArray), (⟨#[115]⟩ : ByteArray)⟩ : Role)).Owner)), (.string (((⟨(⟨#[98]⟩ : ByteArray), (⟨#[115]⟩ : ByteArray)⟩ : Role)).Word)), (.string (((⟨zS, zS⟩ : Role)).Owner)), (.string (((⟨zS, zS⟩ : Role)).Word)), (.string zS), (.int .i64 1), (.string (((⟨(⟨#[99]⟩ : ByteArray), (⟨#[116]⟩ : ByteArray)⟩ : Role)).Owner)), (.string (((⟨(⟨#[99]⟩ : ByteArray), (⟨#[116]⟩ : ByteArray)⟩ : Role)).Word)), (.string ((⟨#[100]⟩ : ByteArray))), (.string (((⟨zS, zS⟩ : Role)).Owner)), (.string (((⟨zS, zS⟩ : Role)).Word)), (.string (((⟨zS, zS⟩ : Role)).Owner)), (.string (((⟨zS, zS⟩ : Role)).Word)), (.string zS)] : Array Value) 83 (0, 0)) :: L129))))))) := hST.perm (permD [[(b258, Obj.cells ((encRole ((⟨(⟨#[99]⟩ : ByteArray), (⟨#[116]⟩ : ByteArray)⟩ : Role))).toArray : Array Value) 47 (0, 0))], [(b1, Obj.cells ((encRole ((⟨(⟨#[97]⟩ : ByteArray), (⟨#[114]⟩ : ByteArray)⟩ : Role))).toArray : Array Value) 47 (0, 0))], [(b19, Obj.cells (#[y20, y24, y27, y30] : Array Value) 122 (0, 0))], [(b7, Obj.cells (#[(.int .i64 2), (.string (((⟨(⟨#[97]⟩ : ByteArray), (⟨#[114]⟩ : ByteArray)⟩ : Role)).Owner)), (.string (((⟨(⟨#[97]⟩ : ByteArray), (⟨#[114]⟩ : ByteArray)⟩ : Role)).Word)), (.string zS), (.string (((⟨(⟨#[98]⟩ : ByteArray), (⟨#[115]⟩ : ByteArray)⟩ : Role)).Owner)), (.string (((⟨(⟨#[98]⟩ : ByteArray), (⟨#[115]⟩ : ByteArray)⟩ : Role)).Word)), (.string (((⟨zS, zS⟩ : Role)).Owner)), (.string (((⟨zS, zS⟩ : Role)).Word)), (.string zS), (.int .i64 1), (.string (((⟨(⟨#[99]⟩ : ByteArray), (⟨#[116]⟩ : ByteArray)⟩ : Role)).Owner)), (.string (((⟨(⟨#[99]⟩ : ByteArray), (⟨#[116]⟩ : ByteArray)⟩ : Role)).Word)), (.string ((⟨#[100]⟩ : ByteArray))), (.string (((⟨zS, zS⟩ : Role)).Owner)), (.string (((⟨zS, zS⟩ : Role)).Word)), (.string (((⟨zS, zS⟩ : Role)).Owner)), (.string (((⟨zS, zS⟩ : Role)).Word)), (.string zS)] : Array Value) 83 (0, 0))], S25, S28, S31] [0, 1, 2, 3, 4, 5, 6] [2, 4, 5, 6, 0, 1, 3] L129 (by decide) rfl rfl)
            have hsz := hST.size
            refine LW_e (.inr ⟨20, true, 46, rfl, rfl, by decide, (congrArg Value.bool hb136)⟩) rfl (by decide) (E_callM (args := [(.pointer (some ⟨b19, 0, none⟩)), (.slice (some ⟨b258, 0, none⟩) 1 1)]) (caps := #[]) (((b19, Obj.cells (#[y20, y24, y27, y30] : Array Value) 122 (0, 0)) :: (S25 ++ (S28 ++ (S31 ++ []))))) (((b258, Obj.cells ((encRole ((⟨(⟨#[99]⟩ : ByteArray), (⟨#[116]⟩ : ByteArray)⟩ : Role))).toArray : Array Value) 47 (0, 0)) :: ((b1, Obj.cells ((encRole ((⟨(⟨#[97]⟩ : ByteArray), (⟨#[114]⟩ : ByteArray)⟩ : Role))).toArray : Array Value) 47 (0, 0)) :: ((b7, Obj.cells (#[(.int .i64 2), (.string (((⟨(⟨#[97]⟩ : ByteArray), (⟨#[114]⟩ : ByteArray)⟩ : Role)).Owner)), (.string (((⟨(⟨#[97]⟩ : ByteArray), (⟨#[114]⟩ : ByteArray)⟩ : Role)).Word)), (.string zS), (.string (((⟨(⟨#[98]⟩ : ByteArray), (⟨#[115]⟩ : ByteArray)⟩ : Role)).Owner)), (.string (((⟨(⟨#[98]⟩ : ByteArray), (⟨#[115]⟩ : ByteArray)⟩ : Role)).Word)), (.string (((⟨zS, zS⟩ : Role)).Owner)), (.string (((⟨zS, zS⟩ : Role)).Word)), (.string zS), (.int .i64 1), (.string (((⟨(⟨#[99]⟩ : ByteArray), (⟨#[116]⟩ : ByteArray)⟩ : Role)).Owner)), (.string (((⟨(⟨#[99]⟩ : ByteArray), (⟨#[116]⟩ : ByteArray)⟩ : Role)).Word)), (.string ((⟨#[100]⟩ : ByteArray))), (.string (((⟨zS, zS⟩ : Role)).Owner)), (.string (((⟨zS, zS⟩ : Role)).Word)), (.string (((⟨zS, zS⟩ : Role)).Owner)), (.string (((⟨zS, zS⟩ : Role)).Word)), (.string zS)] : Array Value) 83 (0, 0)) :: L129)))) hST (by simp only [List.append_assoc, List.cons_append, List.nil_append]; exact List.Perm.refl _) rfl Tryz.call26 (by exact args2 rfl rfl) (fun hH hN hsb hmm => (w_graph_Graph_Want_w b19 y20 r11.1 y24 r11.2.1 S25 y27 r11.2.2.1 S28 y30 r11.2.2.2 S31 (.slice (some ⟨b258, 0, none⟩) 1 1) ([(⟨(⟨#[99]⟩ : ByteArray), (⟨#[116]⟩ : ByteArray)⟩ : Role)]) _ _ hH hN (Sub.refl _) (hs23.mono (Pl.mono _) (((((hle62.trans hle72).trans hle83).trans hle100).trans hle120).trans hsb)) hy26 hy29 hy32 (Sl.lit (enc := encRole) (l := [(⟨(⟨#[99]⟩ : ByteArray), (⟨#[116]⟩ : ByteArray)⟩ : Role)]) lenRole rfl (Nat.le_of_ble_eq_true rfl) rfl (hmm _ _ (.head _))) hr261)) (fun W262 v265 μ263 L267 hST hle264 hlift hK266 => ?_))
            obtain ⟨S268, S270, S272, hv274, rfl, hy269, hy271, hy273⟩ := hK266
            replace hv274 := hv274.symm; subst hv274
            simp only [List.append_assoc, List.cons_append, List.nil_append] at hST
            replace hST : ST true NoF w _ _ ((b19, Obj.cells (#[y20, y24, y27, y30] : Array Value) 122 (0, 0)) :: ((b258, Obj.cells ((encRole ((⟨(⟨#[99]⟩ : ByteArray), (⟨#[116]⟩ : ByteArray)⟩ : Role))).toArray : Array Value) 47 (0, 0)) :: ((b1, Obj.cells ((encRole ((⟨(⟨#[97]⟩ : ByteArray), (⟨#[114]⟩ : ByteArray)⟩ : Role))).toArray : Array Value) 47 (0, 0)) :: ((b7, Obj.cells (#[(.int .i64 2), (.string (((⟨(⟨#[97]⟩ : ByteArray), (⟨#[114]⟩ : ByteArray)⟩ : Role)).Owner)), (.string (((⟨(⟨#[97]⟩ : ByteArray), (⟨#[114]⟩ : ByteArray)⟩ : Role)).Word)), (.string zS), (.string (((⟨(⟨#[98]⟩ : ByteArray), (⟨#[115]⟩ : ByteArray)⟩ : Role)).Owner)), (.string (((⟨(⟨#[98]⟩ : ByteArray), (⟨#[115]⟩ : ByteArray)⟩ : Role)).Word)), (.string (((⟨zS, zS⟩ : Role)).Owner)), (.string (((⟨zS, zS⟩ : Role)).Word)), (.string zS), (.int .i64 1), (.string (((⟨(⟨#[99]⟩ : ByteArray), (⟨#[116]⟩ : ByteArray)⟩ : Role)).Owner)), (.string (((⟨(⟨#[99]⟩ : ByteArray), (⟨#[116]⟩ : ByteArray)⟩ : Role)).Word)), (.string ((⟨#[100]⟩ : ByteArray))), (.string (((⟨zS, zS⟩ : Role)).Owner)), (.string (((⟨zS, zS⟩ : Role)).Word)), (.string (((⟨zS, zS⟩ : Role)).Owner)), (.string (((⟨zS, zS⟩ : Role)).Word)), (.string zS)] : Array Value) 83 (0, 0)) :: (S268 ++ (S270 ++ (S272 ++ L129))))))) := hST.perm (permD [[(b19, Obj.cells (#[y20, y24, y27, y30] : Array Value) 122 (0, 0))], S268, S270, S272, [(b258, Obj.cells ((encRole ((⟨(⟨#[99]⟩ : ByteArray), (⟨#[116]⟩ : ByteArray)⟩ : Role))).toArray : Array Value) 47 (0, 0))], [(b1, Obj.cells ((encRole ((⟨(⟨#[97]⟩ : ByteArray), (⟨#[114]⟩ : ByteArray)⟩ : Role))).toArray : Array Value) 47 (0, 0))], [(b7, Obj.cells (#[(.int .i64 2), (.string (((⟨(⟨#[97]⟩ : ByteArray), (⟨#[114]⟩ : ByteArray)⟩ : Role)).Owner)), (.string (((⟨(⟨#[97]⟩ : ByteArray), (⟨#[114]⟩ : ByteArray)⟩ : Role)).Word)), (.string zS), (.string (((⟨(⟨#[98]⟩ : ByteArray), (⟨#[115]⟩ : ByteArray)⟩ : Role)).Owner)), (.string (((⟨(⟨#[98]⟩ : ByteArray), (⟨#[115]⟩ : ByteArray)⟩ : Role)).Word)), (.string (((⟨zS, zS⟩ : Role)).Owner)), (.string (((⟨zS, zS⟩ : Role)).Word)), (.string zS), (.int .i64 1), (.string (((⟨(⟨#[99]⟩ : ByteArray), (⟨#[116]⟩ : ByteArray)⟩ : Role)).Owner)), (.string (((⟨(⟨#[99]⟩ : ByteArray), (⟨#[116]⟩ : ByteArray)⟩ : Role)).Word)), (.string ((⟨#[100]⟩ : ByteArray))), (.string (((⟨zS, zS⟩ : Role)).Owner)), (.string (((⟨zS, zS⟩ : Role)).Word)), (.string (((⟨zS, zS⟩ : Role)).Owner)), (.string (((⟨zS, zS⟩ : Role)).Word)), (.string zS)] : Array Value) 83 (0, 0))]] [0, 1, 2, 3, 4, 5, 6] [0, 4, 5, 6, 1, 2, 3] L129 (by decide) rfl rfl)
            refine LW_v (.inr ⟨20, true, 46, rfl, rfl, by decide, (congrArg Value.bool hb136)⟩) rfl (by decide) (R_int (k := .i64) (a := r260.1) (b := 1) (v := (.bool ((r260.1 == 1)))) rfl rfl rfl) ?_
            refine LW_v (.inl rfl) rfl (by decide) (R_pickT (v := (.bool ((r260.1 == 1)))) (congrArg Value.bool hb136) rfl) ?_
            replace hm252 := Option.some.inj hm252; subst hm252
            replace hST : ST true NoF w _ _ ((b1, Obj.cells ((encRole ((⟨(⟨#[97]⟩ : ByteArray), (⟨#[114]⟩ : ByteArray)⟩ : Role))).toArray : Array Value) 47 (0, 0)) :: ((b19, Obj.cells (#[y20, y24, y27, y30] : Array Value) 122 (0, 0)) :: ((b258, Obj.cells ((encRole ((⟨(⟨#[99]⟩ : ByteArray), (⟨#[116]⟩ : ByteArray)⟩ : Role))).toArray : Array Value) 47 (0, 0)) :: ((b7, Obj.cells (#[(.int .i64 2), (.string (((⟨(⟨#[97]⟩ : ByteArray), (⟨#[114]⟩ : ByteArray)⟩ : Role)).Owner)), (.string (((⟨(⟨#[97]⟩ : ByteArray), (⟨#[114]⟩ : ByteArray)⟩ : Role)).Word)), (.string zS), (.string (((⟨(⟨#[98]⟩ : ByteArray), (⟨#[115]⟩ : ByteArray)⟩ : Role)).Owner)), (.string (((⟨(⟨#[98]⟩ : ByteArray), (⟨#[115]⟩ : ByteArray)⟩ : Role)).Word)), (.string (((⟨zS, zS⟩ : Role)).Owner)), (.string (((⟨zS, zS⟩ : Role)).Word)), (.string zS), (.int .i64 1), (.string (((⟨(⟨#[99]⟩ : ByteArray), (⟨#[116]⟩ : ByteArray)⟩ : Role)).Owner)), (.string (((⟨(⟨#[99]⟩ : ByteArray), (⟨#[116]⟩ : ByteArray)⟩ : Role)).Word)), (.string ((⟨#[100]⟩ : ByteArray))), (.string (((⟨zS, zS⟩ : Role)).Owner)), (.string (((⟨zS, zS⟩ : Role)).Word)), (.string (((⟨zS, zS⟩ : Role)).Owner)), (.string (((⟨zS, zS⟩ : Role)).Word)), (.string zS)] : Array Value) 83 (0, 0)) :: (S268 ++ (S270 ++ (S272 ++ L129))))))) := hST.perm (permD [[(b19, Obj.cells (#[y20, y24, y27, y30] : Array Value) 122 (0, 0))], [(b258, Obj.cells ((encRole ((⟨(⟨#[99]⟩ : ByteArray), (⟨#[116]⟩ : ByteArray)⟩ : Role))).toArray : Array Value) 47 (0, 0))], [(b1, Obj.cells ((encRole ((⟨(⟨#[97]⟩ : ByteArray), (⟨#[114]⟩ : ByteArray)⟩ : Role))).toArray : Array Value) 47 (0, 0))]] [0, 1, 2] [2, 0, 1] (((b7, Obj.cells (#[(.int .i64 2), (.string (((⟨(⟨#[97]⟩ : ByteArray), (⟨#[114]⟩ : ByteArray)⟩ : Role)).Owner)), (.string (((⟨(⟨#[97]⟩ : ByteArray), (⟨#[114]⟩ : ByteArray)⟩ : Role)).Word)), (.string zS), (.string (((⟨(⟨#[98]⟩ : ByteArray), (⟨#[115]⟩ : ByteArray)⟩ : Role)).Owner)), (.string (((⟨(⟨#[98]⟩ : ByteArray), (⟨#[115]⟩ : ByteArray)⟩ : Role)).Word)), (.string (((⟨zS, zS⟩ : Role)).Owner)), (.string (((⟨zS, zS⟩ : Role)).Word)), (.string zS), (.int .i64 1), (.string (((⟨(⟨#[99]⟩ : ByteArray), (⟨#[116]⟩ : ByteArray)⟩ : Role)).Owner)), (.string (((⟨(⟨#[99]⟩ : ByteArray), (⟨#[116]⟩ : ByteArray)⟩ : Role)).Word)), (.string ((⟨#[100]⟩ : ByteArray))), (.string (((⟨zS, zS⟩ : Role)).Owner)), (.string (((⟨zS, zS⟩ : Role)).Word)), (.string (((⟨zS, zS⟩ : Role)).Owner)), (.string (((⟨zS, zS⟩ : Role)).Word)), (.string zS)] : Array Value) 83 (0, 0)) :: (S268 ++ (S270 ++ (S272 ++ L129))))) (by decide) rfl rfl)
            exact key254 _ _ ⟨((r260.1 == 1)), r260.2.1, S268, r260.2.2.1, S270, r260.2.2.2, S272, μ263, _, hle264, (hST.sublist (List.Sublist.cons_cons _ (List.Sublist.cons_cons _ (List.Sublist.cons _ (List.Sublist.cons _ (List.Sublist.refl _)))))), e131, e132, e134, rfl, hy269, hy271, hy273, hm253⟩
          · replace hm252 := if_f hb136 hm252
            refine LW_no rfl (by decide) rfl rfl (by decide) (congrArg Value.bool hb136) ?_
            refine LW_no rfl (by decide) rfl rfl (by decide) (congrArg Value.bool hb136) ?_
            refine LW_no rfl (by decide) rfl rfl (by decide) (congrArg Value.bool hb136) ?_
            refine LW_no rfl (by decide) rfl rfl (by decide) (congrArg Value.bool hb136) ?_
            refine LW_no rfl (by decide) rfl rfl (by decide) (congrArg Value.bool hb136) ?_
            refine LW_no rfl (by decide) rfl rfl (by decide) (congrArg Value.bool hb136) ?_
            refine LW_no rfl (by decide) rfl rfl (by decide) (congrArg Value.bool hb136) ?_
            refine LW_no rfl (by decide) rfl rfl (by decide) (congrArg Value.bool hb136) ?_
            refine LW_v (.inl rfl) rfl (by decide) (R_pickF (v := (.bool false)) (congrArg Value.bool hb136) rfl) ?_
            replace hm252 := Option.some.inj hm252; subst hm252
            exact key254 _ _ ⟨false, r11.2.1, S25, r11.2.2.1, S28, r11.2.2.2, S31, μ116, _, (Sub.refl _), (hST.sublist (List.Sublist.cons_cons _ (List.Sublist.cons_cons _ (List.Sublist.cons _ (List.Sublist.refl _))))), e131, e132, e134, rfl, hy26, hy29, hy32, hm253⟩
      · rcases bool_cases x117 with hb127 | hb127
        · replace hm276 := if_t hb127 hm276
          refine LW_v (.inr ⟨16, true, 42, rfl, rfl, by decide, (congrArg Value.bool hb127)⟩) rfl (by decide) (R_load (v := (.int .i64 r68)) e125 (load_box1 hST.has (.head _) rfl Tryz.isAgg3)) ?_
          refine LW_v (.inr ⟨16, true, 42, rfl, rfl, by decide, (congrArg Value.bool hb127)⟩) rfl (by decide) (R_int (k := .i64) (a := r68) (b := 1) (v := (.bool ((r68 == 1)))) rfl rfl rfl) ?_
          refine LW_v (.inl rfl) rfl (by decide) (R_pickT (v := (.bool ((r68 == 1)))) (congrArg Value.bool hb127) rfl) ?_
          replace hm276 := Option.some.inj hm276; subst hm276
          exact key278 _ _ ⟨((r68 == 1)), _, (hST.sublist (List.Sublist.cons _ (List.Sublist.refl _))), e121, e122, e123, e124, rfl, hm277⟩
        · replace hm276 := if_f hb127 hm276
          refine LW_no rfl (by decide) rfl rfl (by decide) (congrArg Value.bool hb127) ?_
          refine LW_no rfl (by decide) rfl rfl (by decide) (congrArg Value.bool hb127) ?_
          refine LW_v (.inl rfl) rfl (by decide) (R_pickF (v := (.bool false)) (congrArg Value.bool hb127) rfl) ?_
          replace hm276 := Option.some.inj hm276; subst hm276
          exact key278 _ _ ⟨false, _, (hST.sublist (List.Sublist.cons _ (List.Sublist.refl _))), e121, e122, e123, e124, rfl, hm277⟩
    · rcases bool_cases x97 with hb107 | hb107
      · replace hm280 := if_t hb107 hm280
        refine LW_v (.inr ⟨10, true, 36, rfl, rfl, by decide, (congrArg Value.bool hb107)⟩) rfl (by decide) (R_move (v := (.pointer (some ⟨b19, 0, none⟩))) e104) ?_
        obtain ⟨r283, hr284, hm280⟩ := bind_some hm280
        refine LW_e (.inr ⟨10, true, 36, rfl, rfl, by decide, (congrArg Value.bool hb107)⟩) rfl (by decide) (E_givesRow (args := [(.pointer (some ⟨b19, 0, none⟩))]) [_, _, _, _] _ hST rfl Tryz.call25 (by exact args1 rfl) ((w_graph_Graph_Relevant b19 y20 r11.1 y24 r11.2.1 y27 r11.2.2.1 y30 r11.2.2.2 _ _ (hs23.mono (Pl.mono _) ((((hle62.trans hle72).trans hle83).trans hle100).trans hST.sub_hp)) (hy26.at (fun b o hq => hST.at_ (.tail _ (.tail _ (.tail _ (.tail _ (List.mem_append_left _ hq))))))) (hy29.at (fun b o hq => hST.at_ (.tail _ (.tail _ (.tail _ (.tail _ (List.mem_append_right _ (List.mem_append_left _ hq)))))))) (hy32.at (fun b o hq => hST.at_ (.tail _ (.tail _ (.tail _ (.tail _ (List.mem_append_right _ (List.mem_append_right _ (List.mem_append_left _ hq))))))))) (At.of (hST.at_ (.tail _ (.tail _ (.head _)))) _ rfl) hr284)) (fun W285 v288 μ286 R289 hST hle287 hR290 => ?_))
        refine LW_v (.inr ⟨10, true, 36, rfl, rfl, by decide, (congrArg Value.bool hb107)⟩) rfl (by decide) (R_lenRow Tryz.underlying22 rfl hR290) ?_
        refine LW_v (.inr ⟨10, true, 36, rfl, rfl, by decide, (congrArg Value.bool hb107)⟩) rfl (by decide) (R_int (k := .i64) (a := ((r283.length : Int))) (b := 1) (v := (.bool ((((r283.length : Int)) == 1)))) rfl rfl rfl) ?_
        refine LW_v (.inl rfl) rfl (by decide) (R_pickT (v := (.bool ((((r283.length : Int)) == 1)))) (congrArg Value.bool hb107) rfl) ?_
        replace hm280 := Option.some.inj hm280; subst hm280
        replace hST : ST true NoF w _ _ ((b34, Obj.cells (#[(.int .i64 r68)] : Array Value) 3 (0, 0)) :: ((b1, Obj.cells ((encRole ((⟨(⟨#[97]⟩ : ByteArray), (⟨#[114]⟩ : ByteArray)⟩ : Role))).toArray : Array Value) 47 (0, 0)) :: ((b19, Obj.cells (#[y20, y24, y27, y30] : Array Value) 122 (0, 0)) :: ((b7, Obj.cells (#[(.int .i64 2), (.string (((⟨(⟨#[97]⟩ : ByteArray), (⟨#[114]⟩ : ByteArray)⟩ : Role)).Owner)), (.string (((⟨(⟨#[97]⟩ : ByteArray), (⟨#[114]⟩ : ByteArray)⟩ : Role)).Word)), (.string zS), (.string (((⟨(⟨#[98]⟩ : ByteArray), (⟨#[115]⟩ : ByteArray)⟩ : Role)).Owner)), (.string (((⟨(⟨#[98]⟩ : ByteArray), (⟨#[115]⟩ : ByteArray)⟩ : Role)).Word)), (.string (((⟨zS, zS⟩ : Role)).Owner)), (.string (((⟨zS, zS⟩ : Role)).Word)), (.string zS), (.int .i64 1), (.string (((⟨(⟨#[99]⟩ : ByteArray), (⟨#[116]⟩ : ByteArray)⟩ : Role)).Owner)), (.string (((⟨(⟨#[99]⟩ : ByteArray), (⟨#[116]⟩ : ByteArray)⟩ : Role)).Word)), (.string ((⟨#[100]⟩ : ByteArray))), (.string (((⟨zS, zS⟩ : Role)).Owner)), (.string (((⟨zS, zS⟩ : Role)).Word)), (.string (((⟨zS, zS⟩ : Role)).Owner)), (.string (((⟨zS, zS⟩ : Role)).Word)), (.string zS)] : Array Value) 83 (0, 0)) :: (R289 ++ (S25 ++ (S28 ++ (S31 ++ L98)))))))) := hST
        exact key282 _ _ ⟨((((r283.length : Int)) == 1)), μ286, _, hle287, (hST.sublist (List.Sublist.cons_cons _ (List.Sublist.cons_cons _ (List.Sublist.cons_cons _ (List.Sublist.cons_cons _ ((List.Sublist.refl _).trans (List.sublist_append_right _ _))))))), e101, e102, e103, e104, e105, rfl, hm281⟩
      · replace hm280 := if_f hb107 hm280
        refine LW_no rfl (by decide) rfl rfl (by decide) (congrArg Value.bool hb107) ?_
        refine LW_no rfl (by decide) rfl rfl (by decide) (congrArg Value.bool hb107) ?_
        refine LW_no rfl (by decide) rfl rfl (by decide) (congrArg Value.bool hb107) ?_
        refine LW_no rfl (by decide) rfl rfl (by decide) (congrArg Value.bool hb107) ?_
        refine LW_v (.inl rfl) rfl (by decide) (R_pickF (v := (.bool false)) (congrArg Value.bool hb107) rfl) ?_
        replace hm280 := Option.some.inj hm280; subst hm280
        exact key282 _ _ ⟨false, μ96, _, (Sub.refl _), (hST.sublist (List.Sublist.refl _)), e101, e102, e103, e104, e105, rfl, hm281⟩
  · rcases bool_cases ((((r79.length : Int)) == 2)) with hb87 | hb87
    · replace hm292 := if_t hb87 hm292
      refine LW_v (.inr ⟨4, true, 30, rfl, rfl, by decide, (congrArg Value.bool hb87)⟩) rfl (by decide) (R_move (v := (.pointer (some ⟨b19, 0, none⟩))) rfl) ?_
      replace hST : ST true NoF w _ _ ((b34, Obj.cells (#[(.int .i64 (r68))] : Array Value) 3 (0, 0)) :: ((b1, Obj.cells ((encRole ((⟨(⟨#[97]⟩ : ByteArray), (⟨#[114]⟩ : ByteArray)⟩ : Role))).toArray : Array Value) 47 (0, 0)) :: ((b19, Obj.cells (#[y20, y24, y27, y30] : Array Value) 122 (0, 0)) :: ((b7, Obj.cells (#[(.int .i64 2), (.string (((⟨(⟨#[97]⟩ : ByteArray), (⟨#[114]⟩ : ByteArray)⟩ : Role)).Owner)), (.string (((⟨(⟨#[97]⟩ : ByteArray), (⟨#[114]⟩ : ByteArray)⟩ : Role)).Word)), (.string zS), (.string (((⟨(⟨#[98]⟩ : ByteArray), (⟨#[115]⟩ : ByteArray)⟩ : Role)).Owner)), (.string (((⟨(⟨#[98]⟩ : ByteArray), (⟨#[115]⟩ : ByteArray)⟩ : Role)).Word)), (.string (((⟨zS, zS⟩ : Role)).Owner)), (.string (((⟨zS, zS⟩ : Role)).Word)), (.string zS), (.int .i64 1), (.string (((⟨(⟨#[99]⟩ : ByteArray), (⟨#[116]⟩ : ByteArray)⟩ : Role)).Owner)), (.string (((⟨(⟨#[99]⟩ : ByteArray), (⟨#[116]⟩ : ByteArray)⟩ : Role)).Word)), (.string ((⟨#[100]⟩ : ByteArray))), (.string (((⟨zS, zS⟩ : Role)).Owner)), (.string (((⟨zS, zS⟩ : Role)).Word)), (.string (((⟨zS, zS⟩ : Role)).Owner)), (.string (((⟨zS, zS⟩ : Role)).Word)), (.string zS)] : Array Value) 83 (0, 0)) :: (R85 ++ (S25 ++ (S28 ++ (S31 ++ [])))))))) := hST
      obtain ⟨r295, hr296, hm292⟩ := bind_some hm292
      refine LW_e (.inr ⟨4, true, 30, rfl, rfl, by decide, (congrArg Value.bool hb87)⟩) rfl (by decide) (E_givesRow (args := [(.pointer (some ⟨b19, 0, none⟩))]) [_, _, _, _] _ hST rfl Tryz.call23 (by exact args1 rfl) ((w_graph_Graph_Words b19 y20 r11.1 y24 r11.2.1 y27 r11.2.2.1 y30 r11.2.2.2 _ _ (hs23.mono (Pl.mono _) (((hle62.trans hle72).trans hle83).trans hST.sub_hp)) (hy26.at (fun b o hq => hST.at_ (.tail _ (.tail _ (.tail _ (.tail _ (List.mem_append_right _ (List.mem_append_left _ hq)))))))) (hy29.at (fun b o hq => hST.at_ (.tail _ (.tail _ (.tail _ (.tail _ (List.mem_append_right _ (List.mem_append_right _ (List.mem_append_left _ hq))))))))) (hy32.at (fun b o hq => hST.at_ (.tail _ (.tail _ (.tail _ (.tail _ (List.mem_append_right _ (List.mem_append_right _ (List.mem_append_right _ (List.mem_append_left _ hq)))))))))) (At.of (hST.at_ (.tail _ (.tail _ (.head _)))) _ rfl) hr296)) (fun W297 v300 μ298 R301 hST hle299 hR302 => ?_))
      refine LW_v (.inr ⟨4, true, 30, rfl, rfl, by decide, (congrArg Value.bool hb87)⟩) rfl (by decide) (R_lenRow Tryz.underlying27 rfl hR302) ?_
      refine LW_v (.inr ⟨4, true, 30, rfl, rfl, by decide, (congrArg Value.bool hb87)⟩) rfl (by decide) (R_int (k := .i64) (a := ((r295.length : Int))) (b := 0) (v := (.bool ((((r295.length : Int)) == 0)))) rfl rfl rfl) ?_
      refine LW_v (.inl rfl) rfl (by decide) (R_pickT (v := (.bool ((((r295.length : Int)) == 0)))) (congrArg Value.bool hb87) rfl) ?_
      replace hm292 := Option.some.inj hm292; subst hm292
      replace hST : ST true NoF w _ _ ((b34, Obj.cells (#[(.int .i64 (r68))] : Array Value) 3 (0, 0)) :: ((b1, Obj.cells ((encRole ((⟨(⟨#[97]⟩ : ByteArray), (⟨#[114]⟩ : ByteArray)⟩ : Role))).toArray : Array Value) 47 (0, 0)) :: ((b19, Obj.cells (#[y20, y24, y27, y30] : Array Value) 122 (0, 0)) :: ((b7, Obj.cells (#[(.int .i64 2), (.string (((⟨(⟨#[97]⟩ : ByteArray), (⟨#[114]⟩ : ByteArray)⟩ : Role)).Owner)), (.string (((⟨(⟨#[97]⟩ : ByteArray), (⟨#[114]⟩ : ByteArray)⟩ : Role)).Word)), (.string zS), (.string (((⟨(⟨#[98]⟩ : ByteArray), (⟨#[115]⟩ : ByteArray)⟩ : Role)).Owner)), (.string (((⟨(⟨#[98]⟩ : ByteArray), (⟨#[115]⟩ : ByteArray)⟩ : Role)).Word)), (.string (((⟨zS, zS⟩ : Role)).Owner)), (.string (((⟨zS, zS⟩ : Role)).Word)), (.string zS), (.int .i64 1), (.string (((⟨(⟨#[99]⟩ : ByteArray), (⟨#[116]⟩ : ByteArray)⟩ : Role)).Owner)), (.string (((⟨(⟨#[99]⟩ : ByteArray), (⟨#[116]⟩ : ByteArray)⟩ : Role)).Word)), (.string ((⟨#[100]⟩ : ByteArray))), (.string (((⟨zS, zS⟩ : Role)).Owner)), (.string (((⟨zS, zS⟩ : Role)).Word)), (.string (((⟨zS, zS⟩ : Role)).Owner)), (.string (((⟨zS, zS⟩ : Role)).Word)), (.string zS)] : Array Value) 83 (0, 0)) :: (R301 ++ (R85 ++ (S25 ++ (S28 ++ (S31 ++ []))))))))) := hST
      exact key294 _ _ ⟨((((r295.length : Int)) == 0)), μ298, _, hle299, (hST.sublist (List.Sublist.cons_cons _ (List.Sublist.cons_cons _ (List.Sublist.cons_cons _ (List.Sublist.cons_cons _ (((List.Sublist.refl _).trans (List.sublist_append_right _ _)).trans (List.sublist_append_right _ _))))))), rfl, rfl, rfl, rfl, rfl, rfl, hm293⟩
    · replace hm292 := if_f hb87 hm292
      refine LW_no rfl (by decide) rfl rfl (by decide) (congrArg Value.bool hb87) ?_
      refine LW_no rfl (by decide) rfl rfl (by decide) (congrArg Value.bool hb87) ?_
      refine LW_no rfl (by decide) rfl rfl (by decide) (congrArg Value.bool hb87) ?_
      refine LW_no rfl (by decide) rfl rfl (by decide) (congrArg Value.bool hb87) ?_
      refine LW_v (.inl rfl) rfl (by decide) (R_pickF (v := (.bool false)) (congrArg Value.bool hb87) rfl) ?_
      replace hm292 := Option.some.inj hm292; subst hm292
      replace hST : ST true NoF w _ _ ((b34, Obj.cells (#[(.int .i64 (r68))] : Array Value) 3 (0, 0)) :: ((b1, Obj.cells ((encRole ((⟨(⟨#[97]⟩ : ByteArray), (⟨#[114]⟩ : ByteArray)⟩ : Role))).toArray : Array Value) 47 (0, 0)) :: ((b19, Obj.cells (#[y20, y24, y27, y30] : Array Value) 122 (0, 0)) :: ((b7, Obj.cells (#[(.int .i64 2), (.string (((⟨(⟨#[97]⟩ : ByteArray), (⟨#[114]⟩ : ByteArray)⟩ : Role)).Owner)), (.string (((⟨(⟨#[97]⟩ : ByteArray), (⟨#[114]⟩ : ByteArray)⟩ : Role)).Word)), (.string zS), (.string (((⟨(⟨#[98]⟩ : ByteArray), (⟨#[115]⟩ : ByteArray)⟩ : Role)).Owner)), (.string (((⟨(⟨#[98]⟩ : ByteArray), (⟨#[115]⟩ : ByteArray)⟩ : Role)).Word)), (.string (((⟨zS, zS⟩ : Role)).Owner)), (.string (((⟨zS, zS⟩ : Role)).Word)), (.string zS), (.int .i64 1), (.string (((⟨(⟨#[99]⟩ : ByteArray), (⟨#[116]⟩ : ByteArray)⟩ : Role)).Owner)), (.string (((⟨(⟨#[99]⟩ : ByteArray), (⟨#[116]⟩ : ByteArray)⟩ : Role)).Word)), (.string ((⟨#[100]⟩ : ByteArray))), (.string (((⟨zS, zS⟩ : Role)).Owner)), (.string (((⟨zS, zS⟩ : Role)).Word)), (.string (((⟨zS, zS⟩ : Role)).Owner)), (.string (((⟨zS, zS⟩ : Role)).Word)), (.string zS)] : Array Value) 83 (0, 0)) :: (R85 ++ (S25 ++ (S28 ++ (S31 ++ [])))))))) := hST
      exact key294 _ _ ⟨false, μ82, _, (Sub.refl _), (hST.sublist (List.Sublist.cons_cons _ (List.Sublist.cons_cons _ (List.Sublist.cons_cons _ (List.Sublist.cons_cons _ ((List.Sublist.refl _).trans (List.sublist_append_right _ _))))))), rfl, rfl, rfl, rfl, rfl, rfl, hm293⟩
theorem w_law05_Great (v_a0 : Value) (a0 : List Cred) (r : Int) (w : World) (h_a0 : Sl (Pl encCred) 9 (hp w) v_a0 a0) (hm : m_law05_Great a0 = some r) :
    Gives true Tryz.prog 16 [v_a0] w (.int .i64 r) := by
  have hST := ST.start (dd := true) w
  unfold m_law05_Great at hm
  refine calls_of_CW (n := 54) Tryz.func16 rfl rfl (Nat.le_of_ble_eq_true rfl) ?_
  refine CW_seq ?_
  refine CW_region ?_
  refine LW_v (.inl rfl) rfl (by decide) (R_assign (v := (.int .i64 0)) rfl) ?_
  refine LW_nil ?_
  refine sq_n ?_
  refine CW_seq ?_
  refine CW_region ?_
  refine LW_v (.inl rfl) rfl (by decide) (R_assign (v := (.int .i64 0)) rfl) ?_
  refine LW_nil ?_
  refine sq_n ?_
  refine CW_seq ?_
  refine CW_seq ?_
  refine CW_region ?_
  refine LW_v (.inl rfl) rfl (by decide) (R_move (v := v_a0) rfl) ?_
  refine LW_v (.inl rfl) rfl (by decide) (R_len Tryz.underlying22 rfl h_a0) ?_
  refine LW_v (.inl rfl) rfl (by decide) (R_move (v := (.int .i64 0)) rfl) ?_
  refine LW_nil ?_
  refine sq_n ?_
  refine CW_range (fun i E W => ∃ (x47 : Int) (L57 : List (Nat × Obj)), (E 8 = .int .i64 (i : Nat) ∧ E 7 = .int .i64 (a0.length : Nat)) ∧ ST true NoF w W (hp w) L57 ∧ E 3 = (.int .i64 x47) ∧ E 6 = v_a0 ∧ m_law05_Great_L1 (a0.drop i) x47 = some r) a0.length h_a0.len ⟨0, _, ⟨rfl, rfl⟩, (hST.sublist (List.Sublist.refl _)), rfl, rfl, hm⟩ (by decide) (by decide) (by decide) (fun _ _ _ h => by obtain ⟨_, _, eIN, _⟩ := h; exact eIN) ?_ ?_
  · rintro i34 E W hi40 ⟨x47, L57, ⟨eI, eN⟩, hST, e59, e60, hm58⟩
    obtain ⟨x35, xs36, hx38, hx37, hx39⟩ := drop_cons hi40
    rw [hx38] at hm58
    rw [m_law05_Great_L1] at hm58
    refine CW_block ?_
    refine CW_seq ?_
    refine CW_region ?_
    refine LW_q (.inl rfl) rfl (by decide) (R_indexP (enc := encCred) (i := (i34 : Int)) (x0 := x35) Tryz.underlying22 Tryz.sizeOf83 e60 eI h_a0 (Int.natCast_nonneg _) hx37) (fun p61 hp62 => ?_)
    refine LW_v (.inl rfl) rfl (by decide) (R_load rfl (load_atA hST.has hp62 Tryz.isAgg83 Tryz.sizeOf83)) ?_
    refine LW_e (.inl rfl) rfl (by decide) (E_alloc hST Tryz.zeroValue83 (fun W65 b64 hST => ?_))
    refine LW_e0 (.inl rfl) rfl (E_store [] (.agg (encCred x35).toArray) ((encCred x35).toArray) hST rfl rfl Tryz.sizeOf83 (oneCred x35) (Nat.le_of_ble_eq_true rfl) rfl (fun W66 hST => ?_))
    refine LW_nil ?_
    refine sq_n ?_
    refine CW_region ?_
    refine LW_v (.inl rfl) rfl (by decide) (R_move (v := (.int .i64 x47)) e59) ?_
    refine LW_v (.inl rfl) rfl (by decide) (R_field fa83_1 rfl) ?_
    refine LW_v (.inl rfl) rfl (by decide) (R_field fa47_0 rfl) ?_
    refine LW_v (.inl rfl) rfl (by decide) (R_load (v := (.string x35.Head.Owner)) rfl (load_box1 hST.has (.head _) rfl Tryz.isAgg9)) ?_
    refine LW_v (.inl rfl) rfl (by decide) (R_lenStr (s := x35.Head.Owner) Tryz.underlying9 rfl) ?_
    refine LW_v (.inl rfl) rfl (by decide) (R_int (k := .i64) (a := 20) (b := ((x35.Head.Owner.size : Int))) (v := (.int .i64 ((IntKind.i64.wrap (20 + ((x35.Head.Owner.size : Int))))))) rfl rfl rfl) ?_
    refine LW_v (.inl rfl) rfl (by decide) (R_field fa83_1 rfl) ?_
    refine LW_v (.inl rfl) rfl (by decide) (R_field fa47_1 rfl) ?_
    refine LW_v (.inl rfl) rfl (by decide) (R_load (v := (.string x35.Head.Word)) rfl (load_box1 hST.has (.head _) rfl Tryz.isAgg9)) ?_
    refine LW_v (.inl rfl) rfl (by decide) (R_lenStr (s := x35.Head.Word) Tryz.underlying9 rfl) ?_
    refine LW_v (.inl rfl) rfl (by decide) (R_int (k := .i64) (a := ((IntKind.i64.wrap (20 + ((x35.Head.Owner.size : Int)))))) (b := ((x35.Head.Word.size : Int))) (v := (.int .i64 ((IntKind.i64.wrap (((IntKind.i64.wrap (20 + ((x35.Head.Owner.size : Int))))) + ((x35.Head.Word.size : Int))))))) rfl rfl rfl) ?_
    refine LW_v (.inl rfl) rfl (by decide) (R_field fa83_2 rfl) ?_
    refine LW_v (.inl rfl) rfl (by decide) (R_load (v := (.string x35.Who)) rfl (load_box1 hST.has (.head _) rfl Tryz.isAgg9)) ?_
    refine LW_v (.inl rfl) rfl (by decide) (R_lenStr (s := x35.Who) Tryz.underlying9 rfl) ?_
    refine LW_v (.inl rfl) rfl (by decide) (R_int (k := .i64) (a := ((IntKind.i64.wrap (((IntKind.i64.wrap (20 + ((x35.Head.Owner.size : Int))))) + ((x35.Head.Word.size : Int)))))) (b := ((x35.Who.size : Int))) (v := (.int .i64 ((IntKind.i64.wrap (((IntKind.i64.wrap (((IntKind.i64.wrap (20 + ((x35.Head.Owner.size : Int))))) + ((x35.Head.Word.size : Int))))) + ((x35.Who.size : Int))))))) rfl rfl rfl) ?_
    refine LW_v (.inl rfl) rfl (by decide) (R_field fa83_3 rfl) ?_
    refine LW_v (.inl rfl) rfl (by decide) (R_field fa47_0 rfl) ?_
    refine LW_v (.inl rfl) rfl (by decide) (R_load (v := (.string x35.B.Owner)) rfl (load_box1 hST.has (.head _) rfl Tryz.isAgg9)) ?_
    refine LW_v (.inl rfl) rfl (by decide) (R_lenStr (s := x35.B.Owner) Tryz.underlying9 rfl) ?_
    refine LW_v (.inl rfl) rfl (by decide) (R_int (k := .i64) (a := ((IntKind.i64.wrap (((IntKind.i64.wrap (((IntKind.i64.wrap (20 + ((x35.Head.Owner.size : Int))))) + ((x35.Head.Word.size : Int))))) + ((x35.Who.size : Int)))))) (b := ((x35.B.Owner.size : Int))) (v := (.int .i64 ((IntKind.i64.wrap (((IntKind.i64.wrap (((IntKind.i64.wrap (((IntKind.i64.wrap (20 + ((x35.Head.Owner.size : Int))))) + ((x35.Head.Word.size : Int))))) + ((x35.Who.size : Int))))) + ((x35.B.Owner.size : Int))))))) rfl rfl rfl) ?_
    refine LW_v (.inl rfl) rfl (by decide) (R_field fa83_3 rfl) ?_
    refine LW_v (.inl rfl) rfl (by decide) (R_field fa47_1 rfl) ?_
    refine LW_v (.inl rfl) rfl (by decide) (R_load (v := (.string x35.B.Word)) rfl (load_box1 hST.has (.head _) rfl Tryz.isAgg9)) ?_
    refine LW_v (.inl rfl) rfl (by decide) (R_lenStr (s := x35.B.Word) Tryz.underlying9 rfl) ?_
    refine LW_v (.inl rfl) rfl (by decide) (R_int (k := .i64) (a := ((IntKind.i64.wrap (((IntKind.i64.wrap (((IntKind.i64.wrap (((IntKind.i64.wrap (20 + ((x35.Head.Owner.size : Int))))) + ((x35.Head.Word.size : Int))))) + ((x35.Who.size : Int))))) + ((x35.B.Owner.size : Int)))))) (b := ((x35.B.Word.size : Int))) (v := (.int .i64 ((IntKind.i64.wrap (((IntKind.i64.wrap (((IntKind.i64.wrap (((IntKind.i64.wrap (((IntKind.i64.wrap (20 + ((x35.Head.Owner.size : Int))))) + ((x35.Head.Word.size : Int))))) + ((x35.Who.size : Int))))) + ((x35.B.Owner.size : Int))))) + ((x35.B.Word.size : Int))))))) rfl rfl rfl) ?_
    refine LW_v (.inl rfl) rfl (by decide) (R_field fa83_4 rfl) ?_
    refine LW_v (.inl rfl) rfl (by decide) (R_field fa47_0 rfl) ?_
    refine LW_v (.inl rfl) rfl (by decide) (R_load (v := (.string x35.C.Owner)) rfl (load_box1 hST.has (.head _) rfl Tryz.isAgg9)) ?_
    refine LW_v (.inl rfl) rfl (by decide) (R_lenStr (s := x35.C.Owner) Tryz.underlying9 rfl) ?_
    refine LW_v (.inl rfl) rfl (by decide) (R_int (k := .i64) (a := ((IntKind.i64.wrap (((IntKind.i64.wrap (((IntKind.i64.wrap (((IntKind.i64.wrap (((IntKind.i64.wrap (20 + ((x35.Head.Owner.size : Int))))) + ((x35.Head.Word.size : Int))))) + ((x35.Who.size : Int))))) + ((x35.B.Owner.size : Int))))) + ((x35.B.Word.size : Int)))))) (b := ((x35.C.Owner.size : Int))) (v := (.int .i64 ((IntKind.i64.wrap (((IntKind.i64.wrap (((IntKind.i64.wrap (((IntKind.i64.wrap (((IntKind.i64.wrap (((IntKind.i64.wrap (20 + ((x35.Head.Owner.size : Int))))) + ((x35.Head.Word.size : Int))))) + ((x35.Who.size : Int))))) + ((x35.B.Owner.size : Int))))) + ((x35.B.Word.size : Int))))) + ((x35.C.Owner.size : Int))))))) rfl rfl rfl) ?_
    refine LW_v (.inl rfl) rfl (by decide) (R_field fa83_4 rfl) ?_
    refine LW_v (.inl rfl) rfl (by decide) (R_field fa47_1 rfl) ?_
    refine LW_v (.inl rfl) rfl (by decide) (R_load (v := (.string x35.C.Word)) rfl (load_box1 hST.has (.head _) rfl Tryz.isAgg9)) ?_
    refine LW_v (.inl rfl) rfl (by decide) (R_lenStr (s := x35.C.Word) Tryz.underlying9 rfl) ?_
    refine LW_v (.inl rfl) rfl (by decide) (R_int (k := .i64) (a := ((IntKind.i64.wrap (((IntKind.i64.wrap (((IntKind.i64.wrap (((IntKind.i64.wrap (((IntKind.i64.wrap (((IntKind.i64.wrap (20 + ((x35.Head.Owner.size : Int))))) + ((x35.Head.Word.size : Int))))) + ((x35.Who.size : Int))))) + ((x35.B.Owner.size : Int))))) + ((x35.B.Word.size : Int))))) + ((x35.C.Owner.size : Int)))))) (b := ((x35.C.Word.size : Int))) (v := (.int .i64 ((IntKind.i64.wrap (((IntKind.i64.wrap (((IntKind.i64.wrap (((IntKind.i64.wrap (((IntKind.i64.wrap (((IntKind.i64.wrap (((IntKind.i64.wrap (20 + ((x35.Head.Owner.size : Int))))) + ((x35.Head.Word.size : Int))))) + ((x35.Who.size : Int))))) + ((x35.B.Owner.size : Int))))) + ((x35.B.Word.size : Int))))) + ((x35.C.Owner.size : Int))))) + ((x35.C.Word.size : Int))))))) rfl rfl rfl) ?_
    refine LW_v (.inl rfl) rfl (by decide) (R_field fa83_5 rfl) ?_
    refine LW_v (.inl rfl) rfl (by decide) (R_load (v := (.string x35.Word2)) rfl (load_box1 hST.has (.head _) rfl Tryz.isAgg9)) ?_
    refine LW_v (.inl rfl) rfl (by decide) (R_lenStr (s := x35.Word2) Tryz.underlying9 rfl) ?_
    refine LW_v (.inl rfl) rfl (by decide) (R_int (k := .i64) (a := ((IntKind.i64.wrap (((IntKind.i64.wrap (((IntKind.i64.wrap (((IntKind.i64.wrap (((IntKind.i64.wrap (((IntKind.i64.wrap (((IntKind.i64.wrap (20 + ((x35.Head.Owner.size : Int))))) + ((x35.Head.Word.size : Int))))) + ((x35.Who.size : Int))))) + ((x35.B.Owner.size : Int))))) + ((x35.B.Word.size : Int))))) + ((x35.C.Owner.size : Int))))) + ((x35.C.Word.size : Int)))))) (b := ((x35.Word2.size : Int))) (v := (.int .i64 ((IntKind.i64.wrap (((IntKind.i64.wrap (((IntKind.i64.wrap (((IntKind.i64.wrap (((IntKind.i64.wrap (((IntKind.i64.wrap (((IntKind.i64.wrap (((IntKind.i64.wrap (20 + ((x35.Head.Owner.size : Int))))) + ((x35.Head.Word.size : Int))))) + ((x35.Who.size : Int))))) + ((x35.B.Owner.size : Int))))) + ((x35.B.Word.size : Int))))) + ((x35.C.Owner.size : Int))))) + ((x35.C.Word.size : Int))))) + ((x35.Word2.size : Int))))))) rfl rfl rfl) ?_
    refine LW_v (.inl rfl) rfl (by decide) (R_int (k := .i64) (a := x47) (b := ((IntKind.i64.wrap (((IntKind.i64.wrap (((IntKind.i64.wrap (((IntKind.i64.wrap (((IntKind.i64.wrap (((IntKind.i64.wrap (((IntKind.i64.wrap (((IntKind.i64.wrap (20 + ((x35.Head.Owner.size : Int))))) + ((x35.Head.Word.size : Int))))) + ((x35.Who.size : Int))))) + ((x35.B.Owner.size : Int))))) + ((x35.B.Word.size : Int))))) + ((x35.C.Owner.size : Int))))) + ((x35.C.Word.size : Int))))) + ((x35.Word2.size : Int)))))) (v := (.int .i64 ((IntKind.i64.wrap (x47 + ((IntKind.i64.wrap (((IntKind.i64.wrap (((IntKind.i64.wrap (((IntKind.i64.wrap (((IntKind.i64.wrap (((IntKind.i64.wrap (((IntKind.i64.wrap (((IntKind.i64.wrap (20 + ((x35.Head.Owner.size : Int))))) + ((x35.Head.Word.size : Int))))) + ((x35.Who.size : Int))))) + ((x35.B.Owner.size : Int))))) + ((x35.B.Word.size : Int))))) + ((x35.C.Owner.size : Int))))) + ((x35.C.Word.size : Int))))) + ((x35.Word2.size : Int)))))))))) rfl rfl rfl) ?_
    refine LW_v (.inl rfl) rfl (by decide) (R_assign (v := (.int .i64 ((IntKind.i64.wrap (x47 + ((IntKind.i64.wrap (((IntKind.i64.wrap (((IntKind.i64.wrap (((IntKind.i64.wrap (((IntKind.i64.wrap (((IntKind.i64.wrap (((IntKind.i64.wrap (((IntKind.i64.wrap (20 + ((x35.Head.Owner.size : Int))))) + ((x35.Head.Word.size : Int))))) + ((x35.Who.size : Int))))) + ((x35.B.Owner.size : Int))))) + ((x35.B.Word.size : Int))))) + ((x35.C.Owner.size : Int))))) + ((x35.C.Word.size : Int))))) + ((x35.Word2.size : Int)))))))))) rfl) ?_
    refine LW_nil ?_
    refine bq_n ?_
    refine sq_n ?_
    replace hST : ST true NoF w _ _ ((b64, Obj.cells ((encCred x35).toArray : Array Value) 83 (0, 0)) :: L57) := hST
    replace hST : ST true NoF w _ _ L57 := hST.sublist (List.Sublist.cons _ (List.Sublist.refl _))
    exact ⟨eI, ((IntKind.i64.wrap (x47 + ((IntKind.i64.wrap (((IntKind.i64.wrap (((IntKind.i64.wrap (((IntKind.i64.wrap (((IntKind.i64.wrap (((IntKind.i64.wrap (((IntKind.i64.wrap (((IntKind.i64.wrap (20 + ((x35.Head.Owner.size : Int))))) + ((x35.Head.Word.size : Int))))) + ((x35.Who.size : Int))))) + ((x35.B.Owner.size : Int))))) + ((x35.B.Word.size : Int))))) + ((x35.C.Owner.size : Int))))) + ((x35.C.Word.size : Int))))) + ((x35.Word2.size : Int)))))))), _, ⟨rfl, eN⟩, (hST.sublist (List.Sublist.refl _)), rfl, e60, (by rw [hx39]; exact hm58)⟩
  · rintro E W ⟨x47, L57, ⟨eI, eN⟩, hST, e59, e60, hm58⟩
    rw [List.drop_length] at hm58
    rw [m_law05_Great_L1] at hm58
    refine sq_n ?_
    refine CW_seq ?_
    refine CW_region ?_
    refine LW_v (.inl rfl) rfl (by decide) (R_move (v := (.int .i64 x47)) e59) ?_
    refine LW_v (.inl rfl) rfl (by decide) (R_assign (v := (.int .i64 x47)) rfl) ?_
    refine LW_nil ?_
    refine sq_n ?_
    refine CW_ret ?_
    replace hm58 := Option.some.inj hm58; subst hm58
    refine retQ_1 (v := (.int .i64 x47)) rfl rfl ?_
    exact ⟨rfl, hST.ex⟩
theorem w_law22_great (v_a0 : Value) (a0 : List Role) (r : Bool) (w : World) (h_a0 : Sl (Pl encRole) 2 (hp w) v_a0 a0) (hm : m_law22_great a0 = some r) :
    Gives true Tryz.prog 17 [v_a0] w (.bool r) := by
  have hST := ST.start (dd := true) w
  unfold m_law22_great at hm
  refine calls_of_CW (n := 25) Tryz.func17 rfl rfl (Nat.le_of_ble_eq_true rfl) ?_
  refine CW_seq ?_
  refine CW_region ?_
  refine LW_v (.inl rfl) rfl (by decide) (R_assign (v := (.bool false)) rfl) ?_
  refine LW_nil ?_
  refine sq_n ?_
  refine CW_seq ?_
  refine CW_region ?_
  refine LW_v (.inl rfl) rfl (by decide) (R_assign (v := (.int .i64 0)) rfl) ?_
  refine LW_nil ?_
  refine sq_n ?_
  refine CW_seq ?_
  refine CW_seq ?_
  refine CW_region ?_
  refine LW_v (.inl rfl) rfl (by decide) (R_move (v := v_a0) rfl) ?_
  refine LW_v (.inl rfl) rfl (by decide) (R_len Tryz.underlying23 rfl h_a0) ?_
  refine LW_v (.inl rfl) rfl (by decide) (R_move (v := (.int .i64 0)) rfl) ?_
  refine LW_nil ?_
  refine sq_n ?_
  refine CW_range (fun i E W => ∃ (x47 : Int) (L57 : List (Nat × Obj)), (E 8 = .int .i64 (i : Nat) ∧ E 7 = .int .i64 (a0.length : Nat)) ∧ ST true NoF w W (hp w) L57 ∧ E 3 = (.int .i64 x47) ∧ E 6 = v_a0 ∧ m_law22_great_L1 (a0.drop i) x47 = some r) a0.length h_a0.len ⟨0, _, ⟨rfl, rfl⟩, (hST.sublist (List.Sublist.refl _)), rfl, rfl, hm⟩ (by decide) (by decide) (by decide) (fun _ _ _ h => by obtain ⟨_, _, eIN, _⟩ := h; exact eIN) ?_ ?_
  · rintro i34 E W hi40 ⟨x47, L57, ⟨eI, eN⟩, hST, e59, e60, hm58⟩
    obtain ⟨x35, xs36, hx38, hx37, hx39⟩ := drop_cons hi40
    rw [hx38] at hm58
    rw [m_law22_great_L1] at hm58
    refine CW_block ?_
    refine CW_seq ?_
    refine CW_region ?_
    refine LW_q (.inl rfl) rfl (by decide) (R_indexP (enc := encRole) (i := (i34 : Int)) (x0 := x35) Tryz.underlying23 Tryz.sizeOf47 e60 eI h_a0 (Int.natCast_nonneg _) hx37) (fun p61 hp62 => ?_)
    refine LW_v (.inl rfl) rfl (by decide) (R_load rfl (load_atA hST.has hp62 Tryz.isAgg47 Tryz.sizeOf47)) ?_
    refine LW_e (.inl rfl) rfl (by decide) (E_alloc hST Tryz.zeroValue47 (fun W65 b64 hST => ?_))
    refine LW_e0 (.inl rfl) rfl (E_store [] (.agg (encRole x35).toArray) ((encRole x35).toArray) hST rfl rfl Tryz.sizeOf47 (oneRole x35) (Nat.le_of_ble_eq_true rfl) rfl (fun W66 hST => ?_))
    refine LW_nil ?_
    refine sq_n ?_
    refine CW_region ?_
    refine LW_v (.inl rfl) rfl (by decide) (R_move (v := (.int .i64 x47)) e59) ?_
    refine LW_v (.inl rfl) rfl (by decide) (R_field fa47_0 rfl) ?_
    refine LW_v (.inl rfl) rfl (by decide) (R_load (v := (.string x35.Owner)) rfl (load_box1 hST.has (.head _) rfl Tryz.isAgg9)) ?_
    refine LW_v (.inl rfl) rfl (by decide) (R_lenStr (s := x35.Owner) Tryz.underlying9 rfl) ?_
    refine LW_v (.inl rfl) rfl (by decide) (R_int (k := .i64) (a := 1) (b := ((x35.Owner.size : Int))) (v := (.int .i64 ((IntKind.i64.wrap (1 + ((x35.Owner.size : Int))))))) rfl rfl rfl) ?_
    refine LW_v (.inl rfl) rfl (by decide) (R_field fa47_1 rfl) ?_
    refine LW_v (.inl rfl) rfl (by decide) (R_load (v := (.string x35.Word)) rfl (load_box1 hST.has (.head _) rfl Tryz.isAgg9)) ?_
    refine LW_v (.inl rfl) rfl (by decide) (R_lenStr (s := x35.Word) Tryz.underlying9 rfl) ?_
    refine LW_v (.inl rfl) rfl (by decide) (R_int (k := .i64) (a := ((IntKind.i64.wrap (1 + ((x35.Owner.size : Int)))))) (b := ((x35.Word.size : Int))) (v := (.int .i64 ((IntKind.i64.wrap (((IntKind.i64.wrap (1 + ((x35.Owner.size : Int))))) + ((x35.Word.size : Int))))))) rfl rfl rfl) ?_
    refine LW_v (.inl rfl) rfl (by decide) (R_int (k := .i64) (a := x47) (b := ((IntKind.i64.wrap (((IntKind.i64.wrap (1 + ((x35.Owner.size : Int))))) + ((x35.Word.size : Int)))))) (v := (.int .i64 ((IntKind.i64.wrap (x47 + ((IntKind.i64.wrap (((IntKind.i64.wrap (1 + ((x35.Owner.size : Int))))) + ((x35.Word.size : Int)))))))))) rfl rfl rfl) ?_
    refine LW_v (.inl rfl) rfl (by decide) (R_assign (v := (.int .i64 ((IntKind.i64.wrap (x47 + ((IntKind.i64.wrap (((IntKind.i64.wrap (1 + ((x35.Owner.size : Int))))) + ((x35.Word.size : Int)))))))))) rfl) ?_
    refine LW_nil ?_
    refine bq_n ?_
    refine sq_n ?_
    replace hST : ST true NoF w _ _ ((b64, Obj.cells ((encRole x35).toArray : Array Value) 47 (0, 0)) :: L57) := hST
    replace hST : ST true NoF w _ _ L57 := hST.sublist (List.Sublist.cons _ (List.Sublist.refl _))
    exact ⟨eI, ((IntKind.i64.wrap (x47 + ((IntKind.i64.wrap (((IntKind.i64.wrap (1 + ((x35.Owner.size : Int))))) + ((x35.Word.size : Int)))))))), _, ⟨rfl, eN⟩, (hST.sublist (List.Sublist.refl _)), rfl, e60, (by rw [hx39]; exact hm58)⟩
  · rintro E W ⟨x47, L57, ⟨eI, eN⟩, hST, e59, e60, hm58⟩
    rw [List.drop_length] at hm58
    rw [m_law22_great_L1] at hm58
    refine sq_n ?_
    refine CW_seq ?_
    refine CW_region ?_
    refine LW_v (.inl rfl) rfl (by decide) (R_move (v := (.int .i64 x47)) e59) ?_
    refine LW_v (.inl rfl) rfl (by decide) (R_int (k := .i64) (a := x47) (b := 500) (v := (.bool ((decide (x47 > 500))))) rfl rfl rfl) ?_
    refine LW_v (.inl rfl) rfl (by decide) (R_assign (v := (.bool ((decide (x47 > 500))))) rfl) ?_
    refine LW_nil ?_
    refine sq_n ?_
    refine CW_ret ?_
    replace hm58 := Option.some.inj hm58; subst hm58
    refine retQ_1 (v := (.bool ((decide (x47 > 500))))) rfl rfl ?_
    exact ⟨rfl, hST.ex⟩
theorem w_slices_Index_Cred (v_a0 : Value) (a0 : List Cred) (a1 : Cred) (r : Int) (w : World) (h_a0 : Sl (Pl encCred) 9 (hp w) v_a0 a0) (hm : m_slices_Index_Cred a0 a1 = some r) :
    Gives true Tryz.prog 186 [v_a0, (.agg (encCred a1).toArray)] w (.int .i64 r) := by
  have hST := ST.start (dd := true) w
  unfold m_slices_Index_Cred at hm
  refine calls_of_CW (n := 19) Tryz.func186 rfl rfl (Nat.le_of_ble_eq_true rfl) ?_
  refine CW_seq ?_
  refine CW_region ?_
  refine LW_e (.inl rfl) rfl (by decide) (E_box (v := (.agg (encCred a1).toArray)) hST rfl (fun W2 b1 hST => ?_))
  refine LW_v (.inl rfl) rfl (by decide) (R_assign (v := (.int .i64 0)) rfl) ?_
  refine LW_nil ?_
  refine sq_n ?_
  refine CW_seq ?_
  refine CW_seq ?_
  refine CW_region ?_
  refine LW_v (.inl rfl) rfl (by decide) (R_move (v := v_a0) rfl) ?_
  refine LW_v (.inl rfl) rfl (by decide) (R_len Tryz.underlying22 rfl h_a0) ?_
  refine LW_v (.inl rfl) rfl (by decide) (R_move (v := (.int .i64 0)) rfl) ?_
  refine LW_nil ?_
  refine sq_n ?_
  refine CW_range (fun i E W => ∃  (L75 : List (Nat × Obj)), (E 8 = .int .i64 (i : Nat) ∧ E 7 = .int .i64 (a0.length : Nat)) ∧ ST true NoF w W (hp w) ((b1, Obj.cells ((encCred a1).toArray : Array Value) 83 (0, 0)) :: L75) ∧ E 0 = v_a0 ∧ E 3 = (.pointer (some ⟨b1, 0, none⟩)) ∧ m_slices_Index_Cred_L1 a1 (a0.drop i) i = some r) a0.length h_a0.len ⟨_, ⟨rfl, rfl⟩, (hST.sublist (List.Sublist.refl _)), rfl, rfl, hm⟩ (by decide) (by decide) (by decide) (fun _ _ _ h => by obtain ⟨_, eIN, _⟩ := h; exact eIN) ?_ ?_
  · rintro i46 E W hi52 ⟨L75, ⟨eI, eN⟩, hST, e77, e78, hm76⟩
    obtain ⟨x47, xs48, hx50, hx49, hx51⟩ := drop_cons hi52
    rw [hx50] at hm76
    rw [m_slices_Index_Cred_L1] at hm76
    refine CW_block ?_
    refine CW_seq ?_
    refine CW_region ?_
    refine LW_v (.inl rfl) rfl (by decide) (R_move (v := (.int .i64 ((i46 : Int)))) eI) ?_
    refine LW_v (.inl rfl) rfl (by decide) (R_assign (v := (.int .i64 ((i46 : Int)))) rfl) ?_
    refine LW_nil ?_
    refine sq_n ?_
    refine CW_seq ?_
    refine PX_start (fun l W => Has (hp w) ((b1, Obj.cells ((encCred a1).toArray : Array Value) 83 (0, 0)) :: []) W) Tryz_mixed ?_
    replace hST := hST.drew
    have hS0 : Has (hp w) ((b1, Obj.cells ((encCred a1).toArray : Array Value) 83 (0, 0)) :: []) _ := hST.has.sub (Sub.refl _) (fun p hq => ((List.mem_cons.1 hq).elim (fun hq => by rw [hq]; exact (.head _)) (fun hq => (absurd hq List.not_mem_nil))))
    refine PX_v 0 rfl (by kernel_rfl) (.inl rfl) rfl (by decide) (fun _ _ h => h) hS0 (fun l W hpd hs => have hS := hs; R_load (v := (.agg (encCred a1).toArray)) e78 (load_boxA hS (.head _) (encCred a1) rfl Tryz.isAgg83 Tryz.sizeOf83)) ?_
    refine PX_v 1 rfl (by kernel_rfl) (.inl rfl) rfl (by decide) (fun _ _ h => h) hS0 (fun _ _ _ _ => R_move (v := v_a0) e77) ?_
    refine PX_v 2 rfl (by kernel_rfl) (.inl rfl) rfl (by decide) (fun _ _ h => h) hS0 (fun _ _ _ _ => R_move (v := (.int .i64 ((i46 : Int)))) rfl) ?_
    refine PX_q 3 rfl (by kernel_rfl) (.inl rfl) rfl (by decide) (fun _ _ h => h) hS0 (R_indexP (enc := encCred) (i := (i46 : Int)) (x0 := x47) Tryz.underlying22 Tryz.sizeOf83 rfl rfl h_a0 (Int.natCast_nonneg _) hx49) (fun p85 hp86 => ?_)
    refine PX_v 4 rfl (by kernel_rfl) (.inl rfl) rfl (by decide) (fun _ _ h => h) hS0 (fun l W hpd hs => have hS := hs; R_load rfl (load_atA hS hp86 Tryz.isAgg83 Tryz.sizeOf83)) ?_
    refine PX_v 5 rfl (by kernel_rfl) (.inl rfl) rfl (by decide) (fun _ _ h => h) hS0 (fun _ _ _ _ => R_eql (a := (encCred a1).toArray) (b := (encCred x47).toArray) rfl rfl (guard_agg Tryz.eqGuardType83) (bin_eql (eqInCred _ a1 x47))) ?_
    refine PX_done (by kernel_rfl) ?_
    refine sq_n ?_
    refine CW_if (b := (beqCred a1 x47)) rfl (fun hb88 => ?_) (fun hb88 => ?_)
    · replace hm76 := if_t hb88 hm76
      refine CW_seq ?_
      refine CW_region ?_
      refine LW_v (.inl rfl) rfl (by decide) (R_move (v := (.int .i64 ((i46 : Int)))) rfl) ?_
      refine LW_v (.inl rfl) rfl (by decide) (R_assign (v := (.int .i64 ((i46 : Int)))) rfl) ?_
      refine LW_nil ?_
      refine sq_n ?_
      replace hST : ST true NoF w _ _ L75 := hST.sublist (List.Sublist.cons _ (List.Sublist.refl _))
      refine CW_ret ?_
      refine bq_r (sq_r (bq_r (sq_r ?_)))
      replace hm76 := Option.some.inj hm76; subst hm76
      refine retQ_1 (v := (.int .i64 ((i46 : Int)))) rfl rfl ?_
      exact ⟨rfl, hST.ex⟩
    · replace hm76 := if_f hb88 hm76
      refine CW_skip ?_
      refine bq_n ?_
      refine sq_n ?_
      exact ⟨eI, _, ⟨rfl, eN⟩, (hST.sublist (List.Sublist.refl _)), e77, e78, (by rw [hx51]; exact hm76)⟩
  · rintro E W ⟨L75, ⟨eI, eN⟩, hST, e77, e78, hm76⟩
    rw [List.drop_length] at hm76
    rw [m_slices_Index_Cred_L1] at hm76
    refine sq_n ?_
    replace hST : ST true NoF w _ _ L75 := hST.sublist (List.Sublist.cons _ (List.Sublist.refl _))
    refine CW_seq ?_
    refine CW_region ?_
    refine LW_v (.inl rfl) rfl (by decide) (R_assign (v := (.int .i64 ((-1)))) rfl) ?_
    refine LW_nil ?_
    refine sq_n ?_
    refine CW_ret ?_
    replace hm76 := Option.some.inj hm76; subst hm76
    refine retQ_1 (v := (.int .i64 ((-1)))) rfl rfl ?_
    exact ⟨rfl, hST.ex⟩
theorem w_slices_Contains_Cred (v_a0 : Value) (a0 : List Cred) (a1 : Cred) (r : Bool) (w : World) (h_a0 : Sl (Pl encCred) 9 (hp w) v_a0 a0) (hm : m_slices_Contains_Cred a0 a1 = some r) :
    Gives true Tryz.prog 145 [v_a0, (.agg (encCred a1).toArray)] w (.bool r) := by
  have hST := ST.start (dd := true) w
  unfold m_slices_Contains_Cred at hm
  refine calls_of_CW (n := 9) Tryz.func145 rfl rfl (Nat.le_of_ble_eq_true rfl) ?_
  refine CW_seq ?_
  refine CW_region ?_
  refine LW_e (.inl rfl) rfl (by decide) (E_box (v := (.agg (encCred a1).toArray)) hST rfl (fun W2 b1 hST => ?_))
  refine LW_v (.inl rfl) rfl (by decide) (R_assign (v := (.bool false)) rfl) ?_
  refine LW_nil ?_
  refine sq_n ?_
  refine CW_seq ?_
  refine CW_region ?_
  refine LW_v (.inl rfl) rfl (by decide) (R_move (v := v_a0) rfl) ?_
  refine LW_v (.inl rfl) rfl (by decide) (R_load (v := (.agg (encCred a1).toArray)) rfl (load_boxA hST.has (.head _) (encCred a1) rfl Tryz.isAgg83 Tryz.sizeOf83)) ?_
  obtain ⟨r3, hr4, hm⟩ := bind_some hm
  refine LW_e (.inl rfl) rfl (by decide) (E_gives (args := [v_a0, (.agg (encCred a1).toArray)]) hST rfl Tryz.call186 (by exact args2 rfl rfl) ((w_slices_Index_Cred v_a0 a0 a1 _ _ (h_a0.mono (Pl.mono _) hST.sub_hp) hr4)) (fun W5 hST => ?_))
  refine LW_v (.inl rfl) rfl (by decide) (R_int (k := .i64) (a := r3) (b := 0) (v := (.bool ((decide (r3 ≥ 0))))) rfl rfl rfl) ?_
  refine LW_v (.inl rfl) rfl (by decide) (R_assign (v := (.bool ((decide (r3 ≥ 0))))) rfl) ?_
  refine LW_nil ?_
  refine sq_n ?_
  replace hST : ST true NoF w _ _ [] := hST.sublist (List.Sublist.cons _ (List.Sublist.refl _))
  refine CW_ret ?_
  replace hm := Option.some.inj hm; subst hm
  refine retQ_1 (v := (.bool ((decide (r3 ≥ 0))))) rfl rfl ?_
  exact ⟨rfl, hST.ex⟩
theorem w_cred_Has (v_a0 : Value) (a0 : List Cred) (a1 : Cred) (r : Bool) (w : World) (h_a0 : Sl (Pl encCred) 9 (hp w) v_a0 a0) (hm : m_cred_Has a0 a1 = some r) :
    Gives true Tryz.prog 99 [v_a0, (.agg (encCred a1).toArray)] w (.bool r) := by
  have hST := ST.start (dd := true) w
  unfold m_cred_Has at hm
  refine calls_of_CW (n := 8) Tryz.func99 rfl rfl (Nat.le_of_ble_eq_true rfl) ?_
  refine CW_seq ?_
  refine CW_region ?_
  refine LW_e (.inl rfl) rfl (by decide) (E_box (v := (.agg (encCred a1).toArray)) hST rfl (fun W2 b1 hST => ?_))
  refine LW_v (.inl rfl) rfl (by decide) (R_assign (v := (.bool false)) rfl) ?_
  refine LW_nil ?_
  refine sq_n ?_
  refine CW_seq ?_
  refine CW_region ?_
  refine LW_v (.inl rfl) rfl (by decide) (R_move (v := v_a0) rfl) ?_
  refine LW_v (.inl rfl) rfl (by decide) (R_load (v := (.agg (encCred a1).toArray)) rfl (load_boxA hST.has (.head _) (encCred a1) rfl Tryz.isAgg83 Tryz.sizeOf83)) ?_
  obtain ⟨r3, hr4, hm⟩ := bind_some hm
  refine LW_e (.inl rfl) rfl (by decide) (E_gives (args := [v_a0, (.agg (encCred a1).toArray)]) hST rfl Tryz.call145 (by exact args2 rfl rfl) ((w_slices_Contains_Cred v_a0 a0 a1 _ _ (h_a0.mono (Pl.mono _) hST.sub_hp) hr4)) (fun W5 hST => ?_))
  refine LW_v (.inl rfl) rfl (by decide) (R_assign (v := (.bool r3)) rfl) ?_
  refine LW_nil ?_
  refine sq_n ?_
  replace hST : ST true NoF w _ _ [] := hST.sublist (List.Sublist.cons _ (List.Sublist.refl _))
  refine CW_ret ?_
  replace hm := Option.some.inj hm; subst hm
  refine retQ_1 (v := (.bool r3)) rfl rfl ?_
  exact ⟨rfl, hST.ex⟩
end Go.Proofs.YtfjdjbdnnoijgaaGreat
