/- A part of the proof that the law GraphEdges answers true for every input of bulk at most 1048576. -/
import Derived.Test.YtfjdjbdnnoijgaaGreatG2W1
set_option linter.all false
set_option linter.unusedSimpArgs false
set_option linter.unusedVariables false
namespace Go.Proofs.YtfjdjbdnnoijgaaGreat
open Go.RowKit
set_option linter.unusedVariables false
set_option linter.unusedSimpArgs false
set_option maxRecDepth 10000
theorem w_graph_Graph_take_w (b_a0 : Nat) (v_a0_all : Value) (a0_all : List Cred) (v_a0_targets : Value) (a0_targets : List (Role × Bool)) (R_a0_targets : List (Nat × Obj)) (v_a0_words : Value) (a0_words : List (ByteArray × Bool)) (R_a0_words : List (Nat × Obj)) (v_a0_relevant : Value) (a0_relevant : List (Cred × Bool)) (R_a0_relevant : List (Nat × Obj)) (a1 : Cred) (r : ((List (Role × Bool)) × (List (ByteArray × Bool)) × (List (Cred × Bool)))) (w : World) {μ0 : Mem} (hH : Held ((b_a0, Obj.cells (#[v_a0_all, v_a0_targets, v_a0_words, v_a0_relevant] : Array Value) 122 (0, 0)) :: (R_a0_targets ++ (R_a0_words ++ (R_a0_relevant ++ [])))) w) (hN : ((((b_a0, Obj.cells (#[v_a0_all, v_a0_targets, v_a0_words, v_a0_relevant] : Array Value) 122 (0, 0)) :: (R_a0_targets ++ (R_a0_words ++ (R_a0_relevant ++ [])))) : List (Nat × Obj)).map (·.1)).Nodup) (hS0 : Sub μ0 (hpx w ((b_a0, Obj.cells (#[v_a0_all, v_a0_targets, v_a0_words, v_a0_relevant] : Array Value) 122 (0, 0)) :: (R_a0_targets ++ (R_a0_words ++ (R_a0_relevant ++ [])))))) (h_a0_all : Sl (Pl encCred) 9 μ0 v_a0_all a0_all) (h_a0_targets : MapRow (fun (x : Role) => (.agg (encRole x).toArray)) (fun (x : Bool) => (Value.bool x)) v_a0_targets a0_targets R_a0_targets) (h_a0_words : MapRow Value.string (fun (x : Bool) => (Value.bool x)) v_a0_words a0_words R_a0_words) (h_a0_relevant : MapRow (fun (x : Cred) => (.agg (encCred x).toArray)) (fun (x : Bool) => (Value.bool x)) v_a0_relevant a0_relevant R_a0_relevant) (hm : m_graph_Graph_take_w a0_all a0_targets a0_words a0_relevant a1 = some r) :
    GivesM Tryz.prog 84 [(.pointer (some ⟨b_a0, 0, none⟩)), (.agg (encCred a1).toArray)] w ((b_a0, Obj.cells (#[v_a0_all, v_a0_targets, v_a0_words, v_a0_relevant] : Array Value) 122 (0, 0)) :: (R_a0_targets ++ (R_a0_words ++ (R_a0_relevant ++ [])))) (fun v L1 W' => ∃ (S1 : List (Nat × Obj)) (S3 : List (Nat × Obj)) (S5 : List (Nat × Obj)), v = (.tuple #[]) ∧ L1 = ((b_a0, Obj.cells (#[v_a0_all, v_a0_targets, v_a0_words, v_a0_relevant] : Array Value) 122 (0, 0)) :: (S1 ++ (S3 ++ (S5 ++ [])))) ∧ MapRow (fun (x : Role) => (.agg (encRole x).toArray)) (fun (x : Bool) => (Value.bool x)) v_a0_targets r.1 S1 ∧ MapRow Value.string (fun (x : Bool) => (Value.bool x)) v_a0_words r.2.1 S3 ∧ MapRow (fun (x : Cred) => (.agg (encCred x).toArray)) (fun (x : Bool) => (Value.bool x)) v_a0_relevant r.2.2 S5) := by
  have hST := (ST.startM hH hN).weak hS0
  unfold m_graph_Graph_take_w at hm
  refine calls_of_CW (n := 34) Tryz.func84 rfl rfl (Nat.le_of_ble_eq_true rfl) ?_
  refine CW_seq ?_
  refine CW_region ?_
  refine LW_e (.inl rfl) rfl (by decide) (E_box (v := (.agg (encCred a1).toArray)) hST rfl (fun W2 b1 hST => ?_))
  refine LW_nil ?_
  refine sq_n ?_
  refine CW_seq ?_
  refine PW_start (Has μ0 ((b1, Obj.cells ((encCred a1).toArray : Array Value) 83 (0, 0)) :: ((b_a0, Obj.cells (#[v_a0_all, v_a0_targets, v_a0_words, v_a0_relevant] : Array Value) 122 (0, 0)) :: (R_a0_targets ++ (R_a0_words ++ []))))) Tryz_mixed ?_
  replace hST := hST.drew
  have hSS : (Has μ0 ((b1, Obj.cells ((encCred a1).toArray : Array Value) 83 (0, 0)) :: ((b_a0, Obj.cells (#[v_a0_all, v_a0_targets, v_a0_words, v_a0_relevant] : Array Value) 122 (0, 0)) :: (R_a0_targets ++ (R_a0_words ++ [])))) _) := ((show ST (keys ((b_a0, Obj.cells (#[v_a0_all, v_a0_targets, v_a0_words, v_a0_relevant] : Array Value) 122 (0, 0)) :: (R_a0_targets ++ (R_a0_words ++ (R_a0_relevant ++ []))))) w _ _ ((b1, Obj.cells ((encCred a1).toArray : Array Value) 83 (0, 0)) :: ((b_a0, Obj.cells (#[v_a0_all, v_a0_targets, v_a0_words, v_a0_relevant] : Array Value) 122 (0, 0)) :: (R_a0_targets ++ (R_a0_words ++ (R_a0_relevant ++ []))))) from hST).has.sub (Sub.refl _) (fun p hq => ((List.mem_cons.1 hq).elim (fun hq => by rw [hq]; exact (.head _)) (fun hq => ((List.mem_cons.1 hq).elim (fun hq => by rw [hq]; exact (.tail _ (.head _))) (fun hq => ((List.mem_append.1 hq).elim (fun hq => (.tail _ (.tail _ (List.mem_append_left _ hq)))) (fun hq => ((List.mem_append.1 hq).elim (fun hq => (.tail _ (.tail _ (List.mem_append_right _ (List.mem_append_left _ hq))))) (fun hq => (absurd hq List.not_mem_nil)))))))))))
  refine PW_v 0 rfl (by kernel_rfl) (by kernel_rfl) (by kernel_rfl) (.inl rfl) rfl (by decide) hSS (fun W hS => R_move (v := (.pointer (some ⟨b_a0, 0, none⟩))) rfl) ?_
  refine PW_v 1 rfl (by kernel_rfl) (by kernel_rfl) (by kernel_rfl) (.inl rfl) rfl (by decide) hSS (fun W hS => R_nilCheck rfl) ?_
  refine PW_v 2 rfl (by kernel_rfl) (by kernel_rfl) (by kernel_rfl) (.inl rfl) rfl (by decide) hSS (fun W hS => R_field fa122_3 rfl) ?_
  refine PW_v 3 rfl (by kernel_rfl) (by kernel_rfl) (by kernel_rfl) (.inl rfl) rfl (by decide) hSS (fun W hS => R_load (v := v_a0_relevant) rfl (load_box1 hS (.tail _ (.head _)) rfl Tryz.isAgg120)) ?_
  refine PW_v 4 rfl (by kernel_rfl) (by kernel_rfl) (by kernel_rfl) (.inl rfl) rfl (by decide) hSS (fun W hS => R_load (v := (.agg (encCred a1).toArray)) rfl (load_boxA hS (.head _) (encCred a1) rfl Tryz.isAgg83 Tryz.sizeOf83)) ?_
  replace hST : ST (keys ((b_a0, Obj.cells (#[v_a0_all, v_a0_targets, v_a0_words, v_a0_relevant] : Array Value) 122 (0, 0)) :: (R_a0_targets ++ (R_a0_words ++ (R_a0_relevant ++ []))))) w _ _ ((b1, Obj.cells ((encCred a1).toArray : Array Value) 83 (0, 0)) :: ((b_a0, Obj.cells (#[v_a0_all, v_a0_targets, v_a0_words, v_a0_relevant] : Array Value) 122 (0, 0)) :: (R_a0_relevant ++ (R_a0_targets ++ (R_a0_words ++ []))))) := hST.perm (permD [[(b1, Obj.cells ((encCred a1).toArray : Array Value) 83 (0, 0))], [(b_a0, Obj.cells (#[v_a0_all, v_a0_targets, v_a0_words, v_a0_relevant] : Array Value) 122 (0, 0))], R_a0_targets, R_a0_words, R_a0_relevant] [0, 1, 2, 3, 4] [0, 1, 4, 2, 3] ([]) (by decide) rfl rfl)
  refine PW_e0 5 rfl (by kernel_rfl) (.inl rfl) rfl (E_mapUpdate (k := a1) (v := true) (vf := (fun (x : Bool) => (Value.bool x))) [_, _] kl83 Tryz.underlying120 hST h_a0_relevant rfl rfl rfl (fun W6 R7 hST hR8 => ?_))
  have hSS : (Has μ0 ((b1, Obj.cells ((encCred a1).toArray : Array Value) 83 (0, 0)) :: ((b_a0, Obj.cells (#[v_a0_all, v_a0_targets, v_a0_words, v_a0_relevant] : Array Value) 122 (0, 0)) :: (R_a0_targets ++ (R_a0_words ++ [])))) _) := ((show ST (keys ((b_a0, Obj.cells (#[v_a0_all, v_a0_targets, v_a0_words, v_a0_relevant] : Array Value) 122 (0, 0)) :: (R_a0_targets ++ (R_a0_words ++ (R_a0_relevant ++ []))))) w _ _ ((b1, Obj.cells ((encCred a1).toArray : Array Value) 83 (0, 0)) :: ((b_a0, Obj.cells (#[v_a0_all, v_a0_targets, v_a0_words, v_a0_relevant] : Array Value) 122 (0, 0)) :: (R7 ++ (R_a0_targets ++ (R_a0_words ++ []))))) from hST).has.sub (Sub.refl _) (fun p hq => ((List.mem_cons.1 hq).elim (fun hq => by rw [hq]; exact (.head _)) (fun hq => ((List.mem_cons.1 hq).elim (fun hq => by rw [hq]; exact (.tail _ (.head _))) (fun hq => ((List.mem_append.1 hq).elim (fun hq => (.tail _ (.tail _ (List.mem_append_right _ (List.mem_append_left _ hq))))) (fun hq => ((List.mem_append.1 hq).elim (fun hq => (.tail _ (.tail _ (List.mem_append_right _ (List.mem_append_right _ (List.mem_append_left _ hq)))))) (fun hq => (absurd hq List.not_mem_nil)))))))))))
  refine ⟨hSS, ?_⟩
  refine PW_done (by kernel_rfl) ?_
  refine sq_n ?_
  refine CW_seq ?_
  refine CW_seq ?_
  refine CW_region ?_
  refine LW_v (.inl rfl) rfl (by decide) (R_load (v := (.agg (encCred a1).toArray)) rfl (load_boxA hST.has (.head _) (encCred a1) rfl Tryz.isAgg83 Tryz.sizeOf83)) ?_
  obtain ⟨r9, hr10, hm⟩ := bind_some hm
  replace hST : ST (keys ((b_a0, Obj.cells (#[v_a0_all, v_a0_targets, v_a0_words, v_a0_relevant] : Array Value) 122 (0, 0)) :: (R_a0_targets ++ (R_a0_words ++ (R_a0_relevant ++ []))))) w _ _ ((b1, Obj.cells ((encCred a1).toArray : Array Value) 83 (0, 0)) :: ((b_a0, Obj.cells (#[v_a0_all, v_a0_targets, v_a0_words, v_a0_relevant] : Array Value) 122 (0, 0)) :: (R7 ++ (R_a0_targets ++ (R_a0_words ++ []))))) := hST
  have hsz := hST.size
  refine LW_e (.inl rfl) rfl (by decide) (E_givesRow (args := [(.agg (encCred a1).toArray)]) [_, _] _ hST rfl Tryz.call86 (by exact args1 rfl) (w_cred_Roles a1 _ _  hr10) (fun W11 v14 μ12 R15 hST hle13 hR16 => ?_))
  replace hST : ST (keys ((b_a0, Obj.cells (#[v_a0_all, v_a0_targets, v_a0_words, v_a0_relevant] : Array Value) 122 (0, 0)) :: (R_a0_targets ++ (R_a0_words ++ (R_a0_relevant ++ []))))) w _ _ ((b1, Obj.cells ((encCred a1).toArray : Array Value) 83 (0, 0)) :: ((b_a0, Obj.cells (#[v_a0_all, v_a0_targets, v_a0_words, v_a0_relevant] : Array Value) 122 (0, 0)) :: (R15 ++ (R7 ++ (R_a0_targets ++ (R_a0_words ++ [])))))) := hST
  obtain ⟨μ19, hST, hle20, hs21⟩ := ST.pubRow (X := [_, _]) hST hR16 lenRole
  simp only [List.cons_append, List.nil_append] at hST
  obtain ⟨_, hg22, hm⟩ := bind_some hm
  refine LW_q (.inl rfl) rfl (by decide) (R_sliceFrom (i := 1) Tryz.underlying23 Tryz.sizeOf47 rfl rfl hs21 (chk_1 hg22) (chk_2 hg22)) (fun v17 hs18 => ?_)
  refine LW_v (.inl rfl) rfl (by decide) (R_len Tryz.underlying23 rfl hs18.1) ?_
  refine LW_v (.inl rfl) rfl (by decide) (R_move (v := (.int .i64 0)) rfl) ?_
  refine LW_nil ?_
  refine sq_n ?_
  replace hST : ST (keys ((b_a0, Obj.cells (#[v_a0_all, v_a0_targets, v_a0_words, v_a0_relevant] : Array Value) 122 (0, 0)) :: (R_a0_targets ++ (R_a0_words ++ (R_a0_relevant ++ []))))) w _ _ ((b1, Obj.cells ((encCred a1).toArray : Array Value) 83 (0, 0)) :: ((b_a0, Obj.cells (#[v_a0_all, v_a0_targets, v_a0_words, v_a0_relevant] : Array Value) 122 (0, 0)) :: (R_a0_targets ++ (R7 ++ (R_a0_words ++ []))))) := hST.perm (permD [[(b1, Obj.cells ((encCred a1).toArray : Array Value) 83 (0, 0))], [(b_a0, Obj.cells (#[v_a0_all, v_a0_targets, v_a0_words, v_a0_relevant] : Array Value) 122 (0, 0))], R7, R_a0_targets] [0, 1, 2, 3] [0, 1, 3, 2] ((R_a0_words ++ [])) (by decide) rfl rfl)
  refine CW_range (fun i E W => ∃ (l99 : List (Role × Bool)) (R101 : List (Nat × Obj)) (L120 : List (Nat × Obj)), (E 15 = .int .i64 (i : Nat) ∧ E 14 = .int .i64 (((r9.drop (Int.toNat 1))).length : Nat)) ∧ ST (keys ((b_a0, Obj.cells (#[v_a0_all, v_a0_targets, v_a0_words, v_a0_relevant] : Array Value) 122 (0, 0)) :: (R_a0_targets ++ (R_a0_words ++ (R_a0_relevant ++ []))))) w W μ19 ((b1, Obj.cells ((encCred a1).toArray : Array Value) 83 (0, 0)) :: ((b_a0, Obj.cells (#[v_a0_all, v_a0_targets, v_a0_words, v_a0_relevant] : Array Value) 122 (0, 0)) :: (R101 ++ (R7 ++ (R_a0_words ++ L120))))) ∧ E 0 = (.pointer (some ⟨b_a0, 0, none⟩)) ∧ E 3 = (.pointer (some ⟨b1, 0, none⟩)) ∧ E 13 = v17 ∧ MapRow (fun (x : Role) => (.agg (encRole x).toArray)) (fun (x : Bool) => (Value.bool x)) v_a0_targets l99 R101 ∧ m_graph_Graph_take_w_L1 a1 a0_words a0_relevant (((r9.drop (Int.toNat 1))).drop i) l99 = some r) ((r9.drop (Int.toNat 1))).length hs18.1.len ⟨a0_targets, R_a0_targets, _, ⟨rfl, rfl⟩, (hST.sublist (List.Sublist.refl _)), rfl, rfl, rfl, h_a0_targets, hm⟩ (by decide) (by decide) (by decide) (fun _ _ _ h => by obtain ⟨_, _, _, eIN, _⟩ := h; exact eIN) ?_ ?_
  · rintro i80 E W hi86 ⟨l99, R101, L120, ⟨eI, eN⟩, hST, e122, e123, e124, hs100, hm121⟩
    obtain ⟨x81, xs82, hx84, hx83, hx85⟩ := drop_cons hi86
    rw [hx84] at hm121
    rw [m_graph_Graph_take_w_L1] at hm121
    refine CW_block ?_
    refine CW_seq ?_
    refine CW_region ?_
    refine LW_q (.inl rfl) rfl (by decide) (R_indexP (enc := encRole) (i := (i80 : Int)) (x0 := x81) Tryz.underlying23 Tryz.sizeOf47 e124 eI hs18.1 (Int.natCast_nonneg _) hx83) (fun p125 hp126 => ?_)
    refine LW_v (.inl rfl) rfl (by decide) (R_load rfl (load_atA hST.has hp126 Tryz.isAgg47 Tryz.sizeOf47)) ?_
    refine LW_e (.inl rfl) rfl (by decide) (E_alloc hST Tryz.zeroValue47 (fun W129 b128 hST => ?_))
    refine LW_e0 (.inl rfl) rfl (E_store [] (.agg (encRole x81).toArray) ((encRole x81).toArray) hST rfl rfl Tryz.sizeOf47 (oneRole x81) (Nat.le_of_ble_eq_true rfl) rfl (fun W130 hST => ?_))
    refine LW_nil ?_
    refine sq_n ?_
    refine PW_start (Has μ19 ((b128, Obj.cells ((encRole x81).toArray : Array Value) 47 (0, 0)) :: ((b1, Obj.cells ((encCred a1).toArray : Array Value) 83 (0, 0)) :: ((b_a0, Obj.cells (#[v_a0_all, v_a0_targets, v_a0_words, v_a0_relevant] : Array Value) 122 (0, 0)) :: (R7 ++ (R_a0_words ++ [])))))) Tryz_mixed ?_
    replace hST := hST.drew
    have hSS : (Has μ19 ((b128, Obj.cells ((encRole x81).toArray : Array Value) 47 (0, 0)) :: ((b1, Obj.cells ((encCred a1).toArray : Array Value) 83 (0, 0)) :: ((b_a0, Obj.cells (#[v_a0_all, v_a0_targets, v_a0_words, v_a0_relevant] : Array Value) 122 (0, 0)) :: (R7 ++ (R_a0_words ++ []))))) _) := ((show ST (keys ((b_a0, Obj.cells (#[v_a0_all, v_a0_targets, v_a0_words, v_a0_relevant] : Array Value) 122 (0, 0)) :: (R_a0_targets ++ (R_a0_words ++ (R_a0_relevant ++ []))))) w _ _ ((b128, Obj.cells ((encRole x81).toArray : Array Value) 47 (0, 0)) :: ((b1, Obj.cells ((encCred a1).toArray : Array Value) 83 (0, 0)) :: ((b_a0, Obj.cells (#[v_a0_all, v_a0_targets, v_a0_words, v_a0_relevant] : Array Value) 122 (0, 0)) :: (R101 ++ (R7 ++ (R_a0_words ++ L120)))))) from hST).has.sub (Sub.refl _) (fun p hq => ((List.mem_cons.1 hq).elim (fun hq => by rw [hq]; exact (.head _)) (fun hq => ((List.mem_cons.1 hq).elim (fun hq => by rw [hq]; exact (.tail _ (.head _))) (fun hq => ((List.mem_cons.1 hq).elim (fun hq => by rw [hq]; exact (.tail _ (.tail _ (.head _)))) (fun hq => ((List.mem_append.1 hq).elim (fun hq => (.tail _ (.tail _ (.tail _ (List.mem_append_right _ (List.mem_append_left _ hq)))))) (fun hq => ((List.mem_append.1 hq).elim (fun hq => (.tail _ (.tail _ (.tail _ (List.mem_append_right _ (List.mem_append_right _ (List.mem_append_left _ hq))))))) (fun hq => (absurd hq List.not_mem_nil)))))))))))))
    refine PW_v 0 rfl (by kernel_rfl) (by kernel_rfl) (by kernel_rfl) (.inl rfl) rfl (by decide) hSS (fun W hS => R_move (v := (.pointer (some ⟨b_a0, 0, none⟩))) e122) ?_
    refine PW_v 1 rfl (by kernel_rfl) (by kernel_rfl) (by kernel_rfl) (.inl rfl) rfl (by decide) hSS (fun W hS => R_nilCheck rfl) ?_
    refine PW_v 2 rfl (by kernel_rfl) (by kernel_rfl) (by kernel_rfl) (.inl rfl) rfl (by decide) hSS (fun W hS => R_field fa122_1 rfl) ?_
    refine PW_v 3 rfl (by kernel_rfl) (by kernel_rfl) (by kernel_rfl) (.inl rfl) rfl (by decide) hSS (fun W hS => R_load (v := v_a0_targets) rfl (load_box1 hS (.tail _ (.tail _ (.head _))) rfl Tryz.isAgg118)) ?_
    refine PW_v 4 rfl (by kernel_rfl) (by kernel_rfl) (by kernel_rfl) (.inl rfl) rfl (by decide) hSS (fun W hS => R_load (v := (.agg (encRole x81).toArray)) rfl (load_boxA hS (.head _) (encRole x81) rfl Tryz.isAgg47 Tryz.sizeOf47)) ?_
    refine PW_e0 5 rfl (by kernel_rfl) (.inl rfl) rfl (E_mapUpdate (k := x81) (v := true) (vf := (fun (x : Bool) => (Value.bool x))) [_, _, _] kl47 Tryz.underlying118 hST hs100 rfl rfl rfl (fun W134 R135 hST hR136 => ?_))
    have hSS : (Has μ19 ((b128, Obj.cells ((encRole x81).toArray : Array Value) 47 (0, 0)) :: ((b1, Obj.cells ((encCred a1).toArray : Array Value) 83 (0, 0)) :: ((b_a0, Obj.cells (#[v_a0_all, v_a0_targets, v_a0_words, v_a0_relevant] : Array Value) 122 (0, 0)) :: (R7 ++ (R_a0_words ++ []))))) _) := ((show ST (keys ((b_a0, Obj.cells (#[v_a0_all, v_a0_targets, v_a0_words, v_a0_relevant] : Array Value) 122 (0, 0)) :: (R_a0_targets ++ (R_a0_words ++ (R_a0_relevant ++ []))))) w _ _ ((b128, Obj.cells ((encRole x81).toArray : Array Value) 47 (0, 0)) :: ((b1, Obj.cells ((encCred a1).toArray : Array Value) 83 (0, 0)) :: ((b_a0, Obj.cells (#[v_a0_all, v_a0_targets, v_a0_words, v_a0_relevant] : Array Value) 122 (0, 0)) :: (R135 ++ (R7 ++ (R_a0_words ++ L120)))))) from hST).has.sub (Sub.refl _) (fun p hq => ((List.mem_cons.1 hq).elim (fun hq => by rw [hq]; exact (.head _)) (fun hq => ((List.mem_cons.1 hq).elim (fun hq => by rw [hq]; exact (.tail _ (.head _))) (fun hq => ((List.mem_cons.1 hq).elim (fun hq => by rw [hq]; exact (.tail _ (.tail _ (.head _)))) (fun hq => ((List.mem_append.1 hq).elim (fun hq => (.tail _ (.tail _ (.tail _ (List.mem_append_right _ (List.mem_append_left _ hq)))))) (fun hq => ((List.mem_append.1 hq).elim (fun hq => (.tail _ (.tail _ (.tail _ (List.mem_append_right _ (List.mem_append_right _ (List.mem_append_left _ hq))))))) (fun hq => (absurd hq List.not_mem_nil)))))))))))))
    refine ⟨hSS, ?_⟩
    refine PW_done (by kernel_rfl) ?_
    refine bq_n ?_
    refine sq_n ?_
    replace hST : ST (keys ((b_a0, Obj.cells (#[v_a0_all, v_a0_targets, v_a0_words, v_a0_relevant] : Array Value) 122 (0, 0)) :: (R_a0_targets ++ (R_a0_words ++ (R_a0_relevant ++ []))))) w _ _ ((b128, Obj.cells ((encRole x81).toArray : Array Value) 47 (0, 0)) :: ((b1, Obj.cells ((encCred a1).toArray : Array Value) 83 (0, 0)) :: ((b_a0, Obj.cells (#[v_a0_all, v_a0_targets, v_a0_words, v_a0_relevant] : Array Value) 122 (0, 0)) :: (R135 ++ (R7 ++ (R_a0_words ++ L120)))))) := hST
    replace hST : ST (keys ((b_a0, Obj.cells (#[v_a0_all, v_a0_targets, v_a0_words, v_a0_relevant] : Array Value) 122 (0, 0)) :: (R_a0_targets ++ (R_a0_words ++ (R_a0_relevant ++ []))))) w _ _ ((b1, Obj.cells ((encCred a1).toArray : Array Value) 83 (0, 0)) :: ((b_a0, Obj.cells (#[v_a0_all, v_a0_targets, v_a0_words, v_a0_relevant] : Array Value) 122 (0, 0)) :: (R135 ++ (R7 ++ (R_a0_words ++ L120))))) := hST.sublist (List.Sublist.cons _ (List.Sublist.refl _))
    exact ⟨eI, ((mput beqRole l99 x81 true)), R135, _, ⟨rfl, eN⟩, (hST.sublist (List.Sublist.refl _)), e122, e123, e124, hR136, (by rw [hx85]; exact hm121)⟩
  · rintro E W ⟨l99, R101, L120, ⟨eI, eN⟩, hST, e122, e123, e124, hs100, hm121⟩
    rw [List.drop_length] at hm121
    rw [m_graph_Graph_take_w_L1] at hm121
    refine sq_n ?_
    refine CW_seq ?_
    refine CW_region ?_
    refine LW_v (.inl rfl) rfl (by decide) (R_field fa83_0 e123) ?_
    refine LW_v (.inl rfl) rfl (by decide) (R_load (v := (.int .i64 a1.Kind)) rfl (load_box1 hST.has (.head _) rfl Tryz.isAgg3)) ?_
    refine LW_v (.inl rfl) rfl (by decide) (R_int (k := .i64) (a := a1.Kind) (b := 3) (v := (.bool ((a1.Kind == 3)))) rfl rfl rfl) ?_
    refine LW_nil ?_
    refine sq_n ?_
    refine CW_if (b := (a1.Kind == 3)) rfl (fun hb137 => ?_) (fun hb137 => ?_)
    · replace hm121 := if_t hb137 hm121
      refine PW_start (Has μ19 ((b1, Obj.cells ((encCred a1).toArray : Array Value) 83 (0, 0)) :: ((b_a0, Obj.cells (#[v_a0_all, v_a0_targets, v_a0_words, v_a0_relevant] : Array Value) 122 (0, 0)) :: (R101 ++ (R7 ++ []))))) Tryz_mixed ?_
      replace hST := hST.drew
      have hSS : (Has μ19 ((b1, Obj.cells ((encCred a1).toArray : Array Value) 83 (0, 0)) :: ((b_a0, Obj.cells (#[v_a0_all, v_a0_targets, v_a0_words, v_a0_relevant] : Array Value) 122 (0, 0)) :: (R101 ++ (R7 ++ [])))) _) := ((show ST (keys ((b_a0, Obj.cells (#[v_a0_all, v_a0_targets, v_a0_words, v_a0_relevant] : Array Value) 122 (0, 0)) :: (R_a0_targets ++ (R_a0_words ++ (R_a0_relevant ++ []))))) w _ _ ((b1, Obj.cells ((encCred a1).toArray : Array Value) 83 (0, 0)) :: ((b_a0, Obj.cells (#[v_a0_all, v_a0_targets, v_a0_words, v_a0_relevant] : Array Value) 122 (0, 0)) :: (R101 ++ (R7 ++ (R_a0_words ++ L120))))) from hST).has.sub (Sub.refl _) (fun p hq => ((List.mem_cons.1 hq).elim (fun hq => by rw [hq]; exact (.head _)) (fun hq => ((List.mem_cons.1 hq).elim (fun hq => by rw [hq]; exact (.tail _ (.head _))) (fun hq => ((List.mem_append.1 hq).elim (fun hq => (.tail _ (.tail _ (List.mem_append_left _ hq)))) (fun hq => ((List.mem_append.1 hq).elim (fun hq => (.tail _ (.tail _ (List.mem_append_right _ (List.mem_append_left _ hq))))) (fun hq => (absurd hq List.not_mem_nil)))))))))))
      refine PW_v 0 rfl (by kernel_rfl) (by kernel_rfl) (by kernel_rfl) (.inl rfl) rfl (by decide) hSS (fun W hS => R_move (v := (.pointer (some ⟨b_a0, 0, none⟩))) e122) ?_
      refine PW_v 1 rfl (by kernel_rfl) (by kernel_rfl) (by kernel_rfl) (.inl rfl) rfl (by decide) hSS (fun W hS => R_nilCheck rfl) ?_
      refine PW_v 2 rfl (by kernel_rfl) (by kernel_rfl) (by kernel_rfl) (.inl rfl) rfl (by decide) hSS (fun W hS => R_field fa122_2 rfl) ?_
      refine PW_v 3 rfl (by kernel_rfl) (by kernel_rfl) (by kernel_rfl) (.inl rfl) rfl (by decide) hSS (fun W hS => R_load (v := v_a0_words) rfl (load_box1 hS (.tail _ (.head _)) rfl Tryz.isAgg119)) ?_
      refine PW_v 4 rfl (by kernel_rfl) (by kernel_rfl) (by kernel_rfl) (.inl rfl) rfl (by decide) hSS (fun W hS => R_field fa83_5 e123) ?_
      refine PW_v 5 rfl (by kernel_rfl) (by kernel_rfl) (by kernel_rfl) (.inl rfl) rfl (by decide) hSS (fun W hS => R_load (v := (.string a1.Word2)) rfl (load_box1 hS (.head _) rfl Tryz.isAgg9)) ?_
      replace hST : ST (keys ((b_a0, Obj.cells (#[v_a0_all, v_a0_targets, v_a0_words, v_a0_relevant] : Array Value) 122 (0, 0)) :: (R_a0_targets ++ (R_a0_words ++ (R_a0_relevant ++ []))))) w _ _ ((b1, Obj.cells ((encCred a1).toArray : Array Value) 83 (0, 0)) :: ((b_a0, Obj.cells (#[v_a0_all, v_a0_targets, v_a0_words, v_a0_relevant] : Array Value) 122 (0, 0)) :: (R_a0_words ++ (R101 ++ (R7 ++ L120))))) := hST.perm (permD [[(b1, Obj.cells ((encCred a1).toArray : Array Value) 83 (0, 0))], [(b_a0, Obj.cells (#[v_a0_all, v_a0_targets, v_a0_words, v_a0_relevant] : Array Value) 122 (0, 0))], R101, R7, R_a0_words] [0, 1, 2, 3, 4] [0, 1, 4, 2, 3] L120 (by decide) rfl rfl)
      refine PW_e0 6 rfl (by kernel_rfl) (.inl rfl) rfl (E_mapUpdate (k := a1.Word2) (v := true) (vf := (fun (x : Bool) => (Value.bool x))) [_, _] kl9 Tryz.underlying119 hST h_a0_words rfl rfl rfl (fun W141 R142 hST hR143 => ?_))
      have hSS : (Has μ19 ((b1, Obj.cells ((encCred a1).toArray : Array Value) 83 (0, 0)) :: ((b_a0, Obj.cells (#[v_a0_all, v_a0_targets, v_a0_words, v_a0_relevant] : Array Value) 122 (0, 0)) :: (R101 ++ (R7 ++ [])))) _) := ((show ST (keys ((b_a0, Obj.cells (#[v_a0_all, v_a0_targets, v_a0_words, v_a0_relevant] : Array Value) 122 (0, 0)) :: (R_a0_targets ++ (R_a0_words ++ (R_a0_relevant ++ []))))) w _ _ ((b1, Obj.cells ((encCred a1).toArray : Array Value) 83 (0, 0)) :: ((b_a0, Obj.cells (#[v_a0_all, v_a0_targets, v_a0_words, v_a0_relevant] : Array Value) 122 (0, 0)) :: (R142 ++ (R101 ++ (R7 ++ L120))))) from hST).has.sub (Sub.refl _) (fun p hq => ((List.mem_cons.1 hq).elim (fun hq => by rw [hq]; exact (.head _)) (fun hq => ((List.mem_cons.1 hq).elim (fun hq => by rw [hq]; exact (.tail _ (.head _))) (fun hq => ((List.mem_append.1 hq).elim (fun hq => (.tail _ (.tail _ (List.mem_append_right _ (List.mem_append_left _ hq))))) (fun hq => ((List.mem_append.1 hq).elim (fun hq => (.tail _ (.tail _ (List.mem_append_right _ (List.mem_append_right _ (List.mem_append_left _ hq)))))) (fun hq => (absurd hq List.not_mem_nil)))))))))))
      refine ⟨hSS, ?_⟩
      refine PW_done (by kernel_rfl) ?_
      refine retQ_n ?_
      replace hm121 := Option.some.inj hm121; subst hm121
      refine retQ_0 rfl ?_
      replace hST : ST (keys ((b_a0, Obj.cells (#[v_a0_all, v_a0_targets, v_a0_words, v_a0_relevant] : Array Value) 122 (0, 0)) :: (R_a0_targets ++ (R_a0_words ++ (R_a0_relevant ++ []))))) w _ _ ((b1, Obj.cells ((encCred a1).toArray : Array Value) 83 (0, 0)) :: ((b_a0, Obj.cells (#[v_a0_all, v_a0_targets, v_a0_words, v_a0_relevant] : Array Value) 122 (0, 0)) :: (R142 ++ (R101 ++ (R7 ++ L120))))) := hST
      exact ⟨_, ((b_a0, Obj.cells (#[v_a0_all, v_a0_targets, v_a0_words, v_a0_relevant] : Array Value) 122 (0, 0)) :: (R101 ++ (R142 ++ (R7 ++ [])))), rfl, (ST.backM (L1 := ((b_a0, Obj.cells (#[v_a0_all, v_a0_targets, v_a0_words, v_a0_relevant] : Array Value) 122 (0, 0)) :: (R101 ++ (R142 ++ (R7 ++ []))))) (by have hh : ST (keys ((b_a0, Obj.cells (#[v_a0_all, v_a0_targets, v_a0_words, v_a0_relevant] : Array Value) 122 (0, 0)) :: (R_a0_targets ++ (R_a0_words ++ (R_a0_relevant ++ []))))) w _ _ ((b_a0, Obj.cells (#[v_a0_all, v_a0_targets, v_a0_words, v_a0_relevant] : Array Value) 122 (0, 0)) :: (R101 ++ (R142 ++ (R7 ++ ((b1, Obj.cells ((encCred a1).toArray : Array Value) 83 (0, 0)) :: L120))))) := hST.perm (permD [[(b1, Obj.cells ((encCred a1).toArray : Array Value) 83 (0, 0))], [(b_a0, Obj.cells (#[v_a0_all, v_a0_targets, v_a0_words, v_a0_relevant] : Array Value) 122 (0, 0))], R142, R101, R7] [0, 1, 2, 3, 4] [1, 3, 2, 4, 0] L120 (by decide) rfl rfl); simpa only [List.append_assoc, List.cons_append, List.nil_append] using hh)), R101, R142, R7, rfl, rfl, hs100, hR143, hR8⟩
    · replace hm121 := if_f hb137 hm121
      refine CW_skip ?_
      refine retQ_n ?_
      replace hm121 := Option.some.inj hm121; subst hm121
      refine retQ_0 rfl ?_
      replace hST : ST (keys ((b_a0, Obj.cells (#[v_a0_all, v_a0_targets, v_a0_words, v_a0_relevant] : Array Value) 122 (0, 0)) :: (R_a0_targets ++ (R_a0_words ++ (R_a0_relevant ++ []))))) w _ _ ((b1, Obj.cells ((encCred a1).toArray : Array Value) 83 (0, 0)) :: ((b_a0, Obj.cells (#[v_a0_all, v_a0_targets, v_a0_words, v_a0_relevant] : Array Value) 122 (0, 0)) :: (R101 ++ (R7 ++ (R_a0_words ++ L120))))) := hST
      exact ⟨_, ((b_a0, Obj.cells (#[v_a0_all, v_a0_targets, v_a0_words, v_a0_relevant] : Array Value) 122 (0, 0)) :: (R101 ++ (R_a0_words ++ (R7 ++ [])))), rfl, (ST.backM (L1 := ((b_a0, Obj.cells (#[v_a0_all, v_a0_targets, v_a0_words, v_a0_relevant] : Array Value) 122 (0, 0)) :: (R101 ++ (R_a0_words ++ (R7 ++ []))))) (by have hh : ST (keys ((b_a0, Obj.cells (#[v_a0_all, v_a0_targets, v_a0_words, v_a0_relevant] : Array Value) 122 (0, 0)) :: (R_a0_targets ++ (R_a0_words ++ (R_a0_relevant ++ []))))) w _ _ ((b_a0, Obj.cells (#[v_a0_all, v_a0_targets, v_a0_words, v_a0_relevant] : Array Value) 122 (0, 0)) :: (R101 ++ (R_a0_words ++ (R7 ++ ((b1, Obj.cells ((encCred a1).toArray : Array Value) 83 (0, 0)) :: L120))))) := hST.perm (permD [[(b1, Obj.cells ((encCred a1).toArray : Array Value) 83 (0, 0))], [(b_a0, Obj.cells (#[v_a0_all, v_a0_targets, v_a0_words, v_a0_relevant] : Array Value) 122 (0, 0))], R101, R7, R_a0_words] [0, 1, 2, 3, 4] [1, 2, 4, 3, 0] L120 (by decide) rfl rfl); simpa only [List.append_assoc, List.cons_append, List.nil_append] using hh)), R101, R_a0_words, R7, rfl, rfl, hs100, h_a0_words, hR8⟩

theorem w_graph_Graph_Want_w (b_a0 : Nat) (v_a0_all : Value) (a0_all : List Cred) (v_a0_targets : Value) (a0_targets : List (Role × Bool)) (R_a0_targets : List (Nat × Obj)) (v_a0_words : Value) (a0_words : List (ByteArray × Bool)) (R_a0_words : List (Nat × Obj)) (v_a0_relevant : Value) (a0_relevant : List (Cred × Bool)) (R_a0_relevant : List (Nat × Obj)) (v_a1 : Value) (a1 : List Role) (r : (Int × (List (Role × Bool)) × (List (ByteArray × Bool)) × (List (Cred × Bool)))) (w : World) {μ0 : Mem} (hH : Held ((b_a0, Obj.cells (#[v_a0_all, v_a0_targets, v_a0_words, v_a0_relevant] : Array Value) 122 (0, 0)) :: (R_a0_targets ++ (R_a0_words ++ (R_a0_relevant ++ [])))) w) (hN : ((((b_a0, Obj.cells (#[v_a0_all, v_a0_targets, v_a0_words, v_a0_relevant] : Array Value) 122 (0, 0)) :: (R_a0_targets ++ (R_a0_words ++ (R_a0_relevant ++ [])))) : List (Nat × Obj)).map (·.1)).Nodup) (hS0 : Sub μ0 (hpx w ((b_a0, Obj.cells (#[v_a0_all, v_a0_targets, v_a0_words, v_a0_relevant] : Array Value) 122 (0, 0)) :: (R_a0_targets ++ (R_a0_words ++ (R_a0_relevant ++ [])))))) (h_a0_all : Sl (Pl encCred) 9 μ0 v_a0_all a0_all) (h_a0_targets : MapRow (fun (x : Role) => (.agg (encRole x).toArray)) (fun (x : Bool) => (Value.bool x)) v_a0_targets a0_targets R_a0_targets) (h_a0_words : MapRow Value.string (fun (x : Bool) => (Value.bool x)) v_a0_words a0_words R_a0_words) (h_a0_relevant : MapRow (fun (x : Cred) => (.agg (encCred x).toArray)) (fun (x : Bool) => (Value.bool x)) v_a0_relevant a0_relevant R_a0_relevant) (h_a1 : Sl (Pl encRole) 2 μ0 v_a1 a1) (hm : m_graph_Graph_Want_w a0_all a0_targets a0_words a0_relevant a1 = some r) :
    GivesM Tryz.prog 26 [(.pointer (some ⟨b_a0, 0, none⟩)), v_a1] w ((b_a0, Obj.cells (#[v_a0_all, v_a0_targets, v_a0_words, v_a0_relevant] : Array Value) 122 (0, 0)) :: (R_a0_targets ++ (R_a0_words ++ (R_a0_relevant ++ [])))) (fun v L1 W' => ∃ (S1 : List (Nat × Obj)) (S3 : List (Nat × Obj)) (S5 : List (Nat × Obj)), v = (.int .i64 (r.1)) ∧ L1 = ((b_a0, Obj.cells (#[v_a0_all, v_a0_targets, v_a0_words, v_a0_relevant] : Array Value) 122 (0, 0)) :: (S1 ++ (S3 ++ (S5 ++ [])))) ∧ MapRow (fun (x : Role) => (.agg (encRole x).toArray)) (fun (x : Bool) => (Value.bool x)) v_a0_targets r.2.1 S1 ∧ MapRow Value.string (fun (x : Bool) => (Value.bool x)) v_a0_words r.2.2.1 S3 ∧ MapRow (fun (x : Cred) => (.agg (encCred x).toArray)) (fun (x : Bool) => (Value.bool x)) v_a0_relevant r.2.2.2 S5) := by
  have hST := (ST.startM hH hN).weak hS0
  unfold m_graph_Graph_Want_w at hm
  refine calls_of_CW (n := 75) Tryz.func26 rfl rfl (Nat.le_of_ble_eq_true rfl) ?_
  refine CW_seq ?_
  refine CW_region ?_
  refine LW_v (.inl rfl) rfl (by decide) (R_assign (v := (.int .i64 0)) rfl) ?_
  refine LW_nil ?_
  refine sq_n ?_
  refine CW_seq ?_
  refine CW_seq ?_
  refine CW_region ?_
  refine LW_v (.inl rfl) rfl (by decide) (R_move (v := (.pointer (some ⟨b_a0, 0, none⟩))) rfl) ?_
  refine LW_v (.inl rfl) rfl (by decide) (R_ptrEqNil Tryz.underlying31 rfl rfl) ?_
  refine LW_nil ?_
  refine sq_n ?_
  refine CW_if_false rfl ?_
  refine CW_skip ?_
  refine sq_n ?_
  refine CW_seq ?_
  refine CW_seq ?_
  refine CW_region ?_
  refine LW_v (.inl rfl) rfl (by decide) (R_move (v := v_a1) rfl) ?_
  obtain ⟨r1, hr2, hm⟩ := bind_some hm
  replace hST : ST (keys ((b_a0, Obj.cells (#[v_a0_all, v_a0_targets, v_a0_words, v_a0_relevant] : Array Value) 122 (0, 0)) :: (R_a0_targets ++ (R_a0_words ++ (R_a0_relevant ++ []))))) w _ _ ((b_a0, Obj.cells (#[v_a0_all, v_a0_targets, v_a0_words, v_a0_relevant] : Array Value) 122 (0, 0)) :: (R_a0_targets ++ (R_a0_words ++ (R_a0_relevant ++ [])))) := hST
  have hsz := hST.size
  refine LW_e (.inl rfl) rfl (by decide) (E_givesRow (args := [v_a1]) [_] _ hST rfl Tryz.call78 (by exact args1 rfl) (w_role_Set v_a1 a1 _ _ (h_a1.mono (Pl.mono _) hST.sub_hp) hr2) (fun W3 v6 μ4 R7 hST hle5 hR8 => ?_))
  refine LW_v (.inl rfl) rfl (by decide) (R_lenRow Tryz.underlying23 rfl hR8) ?_
  refine LW_v (.inl rfl) rfl (by decide) (R_move (v := (.int .i64 0)) rfl) ?_
  refine LW_nil ?_
  refine sq_n ?_
  replace hST : ST (keys ((b_a0, Obj.cells (#[v_a0_all, v_a0_targets, v_a0_words, v_a0_relevant] : Array Value) 122 (0, 0)) :: (R_a0_targets ++ (R_a0_words ++ (R_a0_relevant ++ []))))) w _ _ ((b_a0, Obj.cells (#[v_a0_all, v_a0_targets, v_a0_words, v_a0_relevant] : Array Value) 122 (0, 0)) :: (R_a0_targets ++ (R7 ++ (R_a0_words ++ (R_a0_relevant ++ []))))) := hST.perm (permD [[(b_a0, Obj.cells (#[v_a0_all, v_a0_targets, v_a0_words, v_a0_relevant] : Array Value) 122 (0, 0))], R7, R_a0_targets] [0, 1, 2] [0, 2, 1] ((R_a0_words ++ (R_a0_relevant ++ []))) (by decide) rfl rfl)
  refine CW_range (fun i E W => ∃ (l83 : List (Role × Bool)) (R85 : List (Nat × Obj)) (L103 : List (Nat × Obj)), (E 16 = .int .i64 (i : Nat) ∧ E 15 = .int .i64 (r1.length : Nat)) ∧ ST (keys ((b_a0, Obj.cells (#[v_a0_all, v_a0_targets, v_a0_words, v_a0_relevant] : Array Value) 122 (0, 0)) :: (R_a0_targets ++ (R_a0_words ++ (R_a0_relevant ++ []))))) w W μ4 ((b_a0, Obj.cells (#[v_a0_all, v_a0_targets, v_a0_words, v_a0_relevant] : Array Value) 122 (0, 0)) :: (R85 ++ (R7 ++ (R_a0_words ++ (R_a0_relevant ++ L103))))) ∧ E 0 = (.pointer (some ⟨b_a0, 0, none⟩)) ∧ E 14 = v6 ∧ MapRow (fun (x : Role) => (.agg (encRole x).toArray)) (fun (x : Bool) => (Value.bool x)) v_a0_targets l83 R85 ∧ m_graph_Graph_Want_w_L1 a0_all a0_words a0_relevant (r1.drop i) l83 = some r) r1.length hR8.len ⟨a0_targets, R_a0_targets, _, ⟨rfl, rfl⟩, (hST.sublist (List.Sublist.refl _)), rfl, rfl, h_a0_targets, hm⟩ (by decide) (by decide) (by decide) (fun _ _ _ h => by obtain ⟨_, _, _, eIN, _⟩ := h; exact eIN) ?_ ?_
  · rintro i64 E W hi70 ⟨l83, R85, L103, ⟨eI, eN⟩, hST, e105, e106, hs84, hm104⟩
    obtain ⟨x65, xs66, hx68, hx67, hx69⟩ := drop_cons hi70
    rw [hx68] at hm104
    rw [m_graph_Graph_Want_w_L1] at hm104
    refine CW_block ?_
    refine CW_seq ?_
    refine CW_region ?_
    refine LW_q (.inl rfl) rfl (by decide) (R_indexRow (i := (i64 : Int)) (x0 := x65) Tryz.underlying23 Tryz.sizeOf47 e106 eI hR8 (Int.natCast_nonneg _) hx67) (fun p107 hp108 => ?_)
    refine LW_v (.inl rfl) rfl (by decide) (R_load (v := (.agg (encRole x65).toArray)) rfl (load_ixA hST.has (fun p hq => by simp [hq]) hR8 lenRole hp108 hx67 Tryz.isAgg47 Tryz.sizeOf47)) ?_
    refine LW_e (.inl rfl) rfl (by decide) (E_alloc hST Tryz.zeroValue47 (fun W111 b110 hST => ?_))
    refine LW_e0 (.inl rfl) rfl (E_store [] (.agg (encRole x65).toArray) ((encRole x65).toArray) hST rfl rfl Tryz.sizeOf47 (oneRole x65) (Nat.le_of_ble_eq_true rfl) rfl (fun W112 hST => ?_))
    refine LW_nil ?_
    refine sq_n ?_
    refine PW_start (Has μ4 ((b110, Obj.cells ((encRole x65).toArray : Array Value) 47 (0, 0)) :: ((b_a0, Obj.cells (#[v_a0_all, v_a0_targets, v_a0_words, v_a0_relevant] : Array Value) 122 (0, 0)) :: (R7 ++ (R_a0_words ++ (R_a0_relevant ++ [])))))) Tryz_mixed ?_
    replace hST := hST.drew
    have hSS : (Has μ4 ((b110, Obj.cells ((encRole x65).toArray : Array Value) 47 (0, 0)) :: ((b_a0, Obj.cells (#[v_a0_all, v_a0_targets, v_a0_words, v_a0_relevant] : Array Value) 122 (0, 0)) :: (R7 ++ (R_a0_words ++ (R_a0_relevant ++ []))))) _) := ((show ST (keys ((b_a0, Obj.cells (#[v_a0_all, v_a0_targets, v_a0_words, v_a0_relevant] : Array Value) 122 (0, 0)) :: (R_a0_targets ++ (R_a0_words ++ (R_a0_relevant ++ []))))) w _ _ ((b110, Obj.cells ((encRole x65).toArray : Array Value) 47 (0, 0)) :: ((b_a0, Obj.cells (#[v_a0_all, v_a0_targets, v_a0_words, v_a0_relevant] : Array Value) 122 (0, 0)) :: (R85 ++ (R7 ++ (R_a0_words ++ (R_a0_relevant ++ L103)))))) from hST).has.sub (Sub.refl _) (fun p hq => ((List.mem_cons.1 hq).elim (fun hq => by rw [hq]; exact (.head _)) (fun hq => ((List.mem_cons.1 hq).elim (fun hq => by rw [hq]; exact (.tail _ (.head _))) (fun hq => ((List.mem_append.1 hq).elim (fun hq => (.tail _ (.tail _ (List.mem_append_right _ (List.mem_append_left _ hq))))) (fun hq => ((List.mem_append.1 hq).elim (fun hq => (.tail _ (.tail _ (List.mem_append_right _ (List.mem_append_right _ (List.mem_append_left _ hq)))))) (fun hq => ((List.mem_append.1 hq).elim (fun hq => (.tail _ (.tail _ (List.mem_append_right _ (List.mem_append_right _ (List.mem_append_right _ (List.mem_append_left _ hq))))))) (fun hq => (absurd hq List.not_mem_nil)))))))))))))
    refine PW_v 0 rfl (by kernel_rfl) (by kernel_rfl) (by kernel_rfl) (.inl rfl) rfl (by decide) hSS (fun W hS => R_move (v := (.pointer (some ⟨b_a0, 0, none⟩))) e105) ?_
    refine PW_v 1 rfl (by kernel_rfl) (by kernel_rfl) (by kernel_rfl) (.inl rfl) rfl (by decide) hSS (fun W hS => R_nilCheck rfl) ?_
    refine PW_v 2 rfl (by kernel_rfl) (by kernel_rfl) (by kernel_rfl) (.inl rfl) rfl (by decide) hSS (fun W hS => R_field fa122_1 rfl) ?_
    refine PW_v 3 rfl (by kernel_rfl) (by kernel_rfl) (by kernel_rfl) (.inl rfl) rfl (by decide) hSS (fun W hS => R_load (v := v_a0_targets) rfl (load_box1 hS (.tail _ (.head _)) rfl Tryz.isAgg118)) ?_
    refine PW_v 4 rfl (by kernel_rfl) (by kernel_rfl) (by kernel_rfl) (.inl rfl) rfl (by decide) hSS (fun W hS => R_load (v := (.agg (encRole x65).toArray)) rfl (load_boxA hS (.head _) (encRole x65) rfl Tryz.isAgg47 Tryz.sizeOf47)) ?_
    refine PW_e0 5 rfl (by kernel_rfl) (.inl rfl) rfl (E_mapUpdate (k := x65) (v := true) (vf := (fun (x : Bool) => (Value.bool x))) [_, _] kl47 Tryz.underlying118 hST hs84 rfl rfl rfl (fun W116 R117 hST hR118 => ?_))
    have hSS : (Has μ4 ((b110, Obj.cells ((encRole x65).toArray : Array Value) 47 (0, 0)) :: ((b_a0, Obj.cells (#[v_a0_all, v_a0_targets, v_a0_words, v_a0_relevant] : Array Value) 122 (0, 0)) :: (R7 ++ (R_a0_words ++ (R_a0_relevant ++ []))))) _) := ((show ST (keys ((b_a0, Obj.cells (#[v_a0_all, v_a0_targets, v_a0_words, v_a0_relevant] : Array Value) 122 (0, 0)) :: (R_a0_targets ++ (R_a0_words ++ (R_a0_relevant ++ []))))) w _ _ ((b110, Obj.cells ((encRole x65).toArray : Array Value) 47 (0, 0)) :: ((b_a0, Obj.cells (#[v_a0_all, v_a0_targets, v_a0_words, v_a0_relevant] : Array Value) 122 (0, 0)) :: (R117 ++ (R7 ++ (R_a0_words ++ (R_a0_relevant ++ L103)))))) from hST).has.sub (Sub.refl _) (fun p hq => ((List.mem_cons.1 hq).elim (fun hq => by rw [hq]; exact (.head _)) (fun hq => ((List.mem_cons.1 hq).elim (fun hq => by rw [hq]; exact (.tail _ (.head _))) (fun hq => ((List.mem_append.1 hq).elim (fun hq => (.tail _ (.tail _ (List.mem_append_right _ (List.mem_append_left _ hq))))) (fun hq => ((List.mem_append.1 hq).elim (fun hq => (.tail _ (.tail _ (List.mem_append_right _ (List.mem_append_right _ (List.mem_append_left _ hq)))))) (fun hq => ((List.mem_append.1 hq).elim (fun hq => (.tail _ (.tail _ (List.mem_append_right _ (List.mem_append_right _ (List.mem_append_right _ (List.mem_append_left _ hq))))))) (fun hq => (absurd hq List.not_mem_nil)))))))))))))
    refine ⟨hSS, ?_⟩
    refine PW_done (by kernel_rfl) ?_
    refine bq_n ?_
    refine sq_n ?_
    replace hST : ST (keys ((b_a0, Obj.cells (#[v_a0_all, v_a0_targets, v_a0_words, v_a0_relevant] : Array Value) 122 (0, 0)) :: (R_a0_targets ++ (R_a0_words ++ (R_a0_relevant ++ []))))) w _ _ ((b110, Obj.cells ((encRole x65).toArray : Array Value) 47 (0, 0)) :: ((b_a0, Obj.cells (#[v_a0_all, v_a0_targets, v_a0_words, v_a0_relevant] : Array Value) 122 (0, 0)) :: (R117 ++ (R7 ++ (R_a0_words ++ (R_a0_relevant ++ L103)))))) := hST
    replace hST : ST (keys ((b_a0, Obj.cells (#[v_a0_all, v_a0_targets, v_a0_words, v_a0_relevant] : Array Value) 122 (0, 0)) :: (R_a0_targets ++ (R_a0_words ++ (R_a0_relevant ++ []))))) w _ _ ((b_a0, Obj.cells (#[v_a0_all, v_a0_targets, v_a0_words, v_a0_relevant] : Array Value) 122 (0, 0)) :: (R117 ++ (R7 ++ (R_a0_words ++ (R_a0_relevant ++ L103))))) := hST.sublist (List.Sublist.cons _ (List.Sublist.refl _))
    exact ⟨eI, ((mput beqRole l83 x65 true)), R117, _, ⟨rfl, eN⟩, (hST.sublist (List.Sublist.refl _)), e105, e106, hR118, (by rw [hx69]; exact hm104)⟩
  · rintro E W ⟨l83, R85, L103, ⟨eI, eN⟩, hST, e105, e106, hs84, hm104⟩
    rw [List.drop_length] at hm104
    rw [m_graph_Graph_Want_w_L1] at hm104
    refine sq_n ?_
    replace hST : ST (keys ((b_a0, Obj.cells (#[v_a0_all, v_a0_targets, v_a0_words, v_a0_relevant] : Array Value) 122 (0, 0)) :: (R_a0_targets ++ (R_a0_words ++ (R_a0_relevant ++ []))))) w _ _ ((b_a0, Obj.cells (#[v_a0_all, v_a0_targets, v_a0_words, v_a0_relevant] : Array Value) 122 (0, 0)) :: (R85 ++ (R7 ++ (R_a0_words ++ (R_a0_relevant ++ L103))))) := hST
    replace hST : ST (keys ((b_a0, Obj.cells (#[v_a0_all, v_a0_targets, v_a0_words, v_a0_relevant] : Array Value) 122 (0, 0)) :: (R_a0_targets ++ (R_a0_words ++ (R_a0_relevant ++ []))))) w _ _ ((b_a0, Obj.cells (#[v_a0_all, v_a0_targets, v_a0_words, v_a0_relevant] : Array Value) 122 (0, 0)) :: (R85 ++ (R_a0_words ++ (R_a0_relevant ++ L103)))) := hST.sublist (List.Sublist.cons_cons _ (List.Sublist.append (List.Sublist.refl _) ((List.Sublist.refl _).trans (List.sublist_append_right _ _))))
    refine CW_seq ?_
    refine CW_region ?_
    refine LW_v (.inl rfl) rfl (by decide) (R_move (v := (.pointer (some ⟨b_a0, 0, none⟩))) e105) ?_
    refine LW_v (.inl rfl) rfl (by decide) (R_nilCheck rfl) ?_
    refine LW_v (.inl rfl) rfl (by decide) (R_field fa122_3 rfl) ?_
    refine LW_v (.inl rfl) rfl (by decide) (R_load (v := v_a0_relevant) rfl (load_box1 hST.has (.head _) rfl Tryz.isAgg120)) ?_
    refine LW_v (.inl rfl) rfl (by decide) (R_lenMap (vf := (fun (x : Bool) => (Value.bool x))) (kenc := (fun (x : Cred) => (.agg (encCred x).toArray))) Tryz.underlying120 rfl (h_a0_relevant.at (fun b o hq => hST.has.2 b o (.tail _ (List.mem_append_right _ (List.mem_append_right _ (List.mem_append_left _ hq))))))) ?_
    refine LW_v (.inl rfl) rfl (by decide) (R_assign (v := (.int .i64 ((a0_relevant.length : Int)))) rfl) ?_
    refine LW_nil ?_
    refine sq_n ?_
    refine CW_seq ?_
    refine CW_seq ?_
    refine CW_region ?_
    refine LW_v (.inl rfl) rfl (by decide) (R_assign (v := (.int .i64 ((-1)))) rfl) ?_
    refine LW_nil ?_
    refine sq_n ?_
    obtain ⟨s1397, hm1398, hm1399⟩ := bind_some hm104
    refine CW_cut (fun E W => ∃ (l1383 : List (Role × Bool)) (R1385 : List (Nat × Obj)) (l1386 : List (ByteArray × Bool)) (R1388 : List (Nat × Obj)) (l1389 : List (Cred × Bool)) (R1391 : List (Nat × Obj)) (μ1382 : Mem) (L1392 : List (Nat × Obj)), Sub μ4 μ1382 ∧ ST (keys ((b_a0, Obj.cells (#[v_a0_all, v_a0_targets, v_a0_words, v_a0_relevant] : Array Value) 122 (0, 0)) :: (R_a0_targets ++ (R_a0_words ++ (R_a0_relevant ++ []))))) w W μ1382 ((b_a0, Obj.cells (#[v_a0_all, v_a0_targets, v_a0_words, v_a0_relevant] : Array Value) 122 (0, 0)) :: (R1385 ++ (R1388 ++ (R1391 ++ L1392)))) ∧ E 0 = (.pointer (some ⟨b_a0, 0, none⟩)) ∧ E 7 = (.int .i64 ((a0_relevant.length : Int))) ∧ MapRow (fun (x : Role) => (.agg (encRole x).toArray)) (fun (x : Bool) => (Value.bool x)) v_a0_targets l1383 R1385 ∧ MapRow Value.string (fun (x : Bool) => (Value.bool x)) v_a0_words l1386 R1388 ∧ MapRow (fun (x : Cred) => (.agg (encCred x).toArray)) (fun (x : Bool) => (Value.bool x)) v_a0_relevant l1389 R1391 ∧ some ((IntKind.i64.wrap (((l1389.length : Int)) - ((a0_relevant.length : Int)))), l1383, l1386, l1389) = some r) ?_ ?_
    · refine CW_block (CW_loop (fun m E W => ∃ (x1811 : Int) (l1812 : List (Role × Bool)) (R1814 : List (Nat × Obj)) (l1815 : List (ByteArray × Bool)) (R1817 : List (Nat × Obj)) (l1818 : List (Cred × Bool)) (R1820 : List (Nat × Obj)) (μ1810 : Mem) (L2246 : List (Nat × Obj)), Sub μ4 μ1810 ∧ ST (keys ((b_a0, Obj.cells (#[v_a0_all, v_a0_targets, v_a0_words, v_a0_relevant] : Array Value) 122 (0, 0)) :: (R_a0_targets ++ (R_a0_words ++ (R_a0_relevant ++ []))))) w W μ1810 ((b_a0, Obj.cells (#[v_a0_all, v_a0_targets, v_a0_words, v_a0_relevant] : Array Value) 122 (0, 0)) :: (R1814 ++ (R1817 ++ (R1820 ++ L2246)))) ∧ E 0 = (.pointer (some ⟨b_a0, 0, none⟩)) ∧ E 7 = (.int .i64 ((a0_relevant.length : Int))) ∧ E 8 = (.int .i64 x1811) ∧ MapRow (fun (x : Role) => (.agg (encRole x).toArray)) (fun (x : Bool) => (Value.bool x)) v_a0_targets l1812 R1814 ∧ MapRow Value.string (fun (x : Bool) => (Value.bool x)) v_a0_words l1815 R1817 ∧ MapRow (fun (x : Cred) => (.agg (encCred x).toArray)) (fun (x : Bool) => (Value.bool x)) v_a0_relevant l1818 R1820 ∧ m_graph_Graph_Want_w_L2 a0_all m x1811 l1812 l1815 l1818 = some s1397) FUEL ⟨((-1)), l83, R85, a0_words, R_a0_words, a0_relevant, R_a0_relevant, μ4, _, (Sub.refl _), (hST.sublist (List.Sublist.refl _)), e105, rfl, rfl, hs84, h_a0_words, h_a0_relevant, hm1398⟩ ?_)
      rintro m E W ⟨x1811, l1812, R1814, l1815, R1817, l1818, R1820, μ1810, L2246, hle2249, hST, e2250, e2251, e2252, hs1813, hs1816, hs1819, hm2247⟩
      cases m with
      | zero => rw [m_graph_Graph_Want_w_L2] at hm2247; cases hm2247
      | succ n2248 =>
        rw [m_graph_Graph_Want_w_L2] at hm2247
        refine CW_seq ?_
        refine CW_seq ?_
        refine CW_region ?_
        refine LW_v (.inl rfl) rfl (by decide) (R_move (v := (.int .i64 x1811)) e2252) ?_
        refine LW_v (.inl rfl) rfl (by decide) (R_move (v := (.pointer (some ⟨b_a0, 0, none⟩))) e2250) ?_
        refine LW_v (.inl rfl) rfl (by decide) (R_nilCheck rfl) ?_
        refine LW_v (.inl rfl) rfl (by decide) (R_field fa122_3 rfl) ?_
        refine LW_v (.inl rfl) rfl (by decide) (R_load (v := v_a0_relevant) rfl (load_box1 hST.has (.head _) rfl Tryz.isAgg120)) ?_
        refine LW_v (.inl rfl) rfl (by decide) (R_lenMap (vf := (fun (x : Bool) => (Value.bool x))) (kenc := (fun (x : Cred) => (.agg (encCred x).toArray))) Tryz.underlying120 rfl (hs1819.at (fun b o hq => hST.has.2 b o (.tail _ (List.mem_append_right _ (List.mem_append_right _ (List.mem_append_left _ hq))))))) ?_
        refine LW_v (.inl rfl) rfl (by decide) (R_int (k := .i64) (a := x1811) (b := ((l1818.length : Int))) (v := (.bool ((decide (x1811 < ((l1818.length : Int))))))) rfl rfl rfl) ?_
        refine LW_nil ?_
        refine sq_n ?_
        refine CW_if (b := (decide (x1811 < ((l1818.length : Int))))) rfl (fun hb2253 => ?_) (fun hb2253 => ?_)
        · replace hm2247 := if_t hb2253 hm2247
          refine CW_skip ?_
          refine sq_n ?_
          refine CW_block ?_
          refine CW_seq ?_
          refine CW_region ?_
          refine LW_v (.inl rfl) rfl (by decide) (R_move (v := (.pointer (some ⟨b_a0, 0, none⟩))) e2250) ?_
          refine LW_v (.inl rfl) rfl (by decide) (R_nilCheck rfl) ?_
          refine LW_v (.inl rfl) rfl (by decide) (R_field fa122_3 rfl) ?_
          refine LW_v (.inl rfl) rfl (by decide) (R_load (v := v_a0_relevant) rfl (load_box1 hST.has (.head _) rfl Tryz.isAgg120)) ?_
          refine LW_v (.inl rfl) rfl (by decide) (R_lenMap (vf := (fun (x : Bool) => (Value.bool x))) (kenc := (fun (x : Cred) => (.agg (encCred x).toArray))) Tryz.underlying120 rfl (hs1819.at (fun b o hq => hST.has.2 b o (.tail _ (List.mem_append_right _ (List.mem_append_right _ (List.mem_append_left _ hq))))))) ?_
          refine LW_v (.inl rfl) rfl (by decide) (R_assign (v := (.int .i64 ((l1818.length : Int)))) rfl) ?_
          refine LW_nil ?_
          refine sq_n ?_
          refine CW_seq ?_
          refine CW_region ?_
          refine LW_v (.inl rfl) rfl (by decide) (R_move (v := (.pointer (some ⟨b_a0, 0, none⟩))) e2250) ?_
          refine LW_v (.inl rfl) rfl (by decide) (R_nilCheck rfl) ?_
          refine LW_v (.inl rfl) rfl (by decide) (R_field fa122_0 rfl) ?_
          refine LW_v (.inl rfl) rfl (by decide) (R_load (v := v_a0_all) rfl (load_box1 hST.has (.head _) rfl Tryz.isAgg22)) ?_
          refine LW_v (.inl rfl) rfl (by decide) (R_len Tryz.underlying22 rfl h_a0_all) ?_
          refine LW_v (.inl rfl) rfl (by decide) (R_move (v := (.int .i64 0)) rfl) ?_
          refine LW_nil ?_
          refine sq_n ?_
          refine CW_tail ?_
          obtain ⟨s2465, hm2466, hm2467⟩ := bind_some hm2247
          refine CW_cut (fun E W => ∃ (l2450 : List (Role × Bool)) (R2452 : List (Nat × Obj)) (l2453 : List (ByteArray × Bool)) (R2455 : List (Nat × Obj)) (l2456 : List (Cred × Bool)) (R2458 : List (Nat × Obj)) (μ2449 : Mem) (L2459 : List (Nat × Obj)), Sub μ1810 μ2449 ∧ ST (keys ((b_a0, Obj.cells (#[v_a0_all, v_a0_targets, v_a0_words, v_a0_relevant] : Array Value) 122 (0, 0)) :: (R_a0_targets ++ (R_a0_words ++ (R_a0_relevant ++ []))))) w W μ2449 ((b_a0, Obj.cells (#[v_a0_all, v_a0_targets, v_a0_words, v_a0_relevant] : Array Value) 122 (0, 0)) :: (R2452 ++ (R2455 ++ (R2458 ++ L2459)))) ∧ E 0 = (.pointer (some ⟨b_a0, 0, none⟩)) ∧ E 7 = (.int .i64 ((a0_relevant.length : Int))) ∧ E 8 = (.int .i64 ((l1818.length : Int))) ∧ MapRow (fun (x : Role) => (.agg (encRole x).toArray)) (fun (x : Bool) => (Value.bool x)) v_a0_targets l2450 R2452 ∧ MapRow Value.string (fun (x : Bool) => (Value.bool x)) v_a0_words l2453 R2455 ∧ MapRow (fun (x : Cred) => (.agg (encCred x).toArray)) (fun (x : Bool) => (Value.bool x)) v_a0_relevant l2456 R2458 ∧ (m_graph_Graph_Want_w_L2 a0_all n2248 ((l1818.length : Int)) l2450 l2453 l2456) = some s1397) ?_ ?_
          · refine CW_range (fun i E W => ∃ (l2528 : List (Role × Bool)) (R2530 : List (Nat × Obj)) (l2531 : List (ByteArray × Bool)) (R2533 : List (Nat × Obj)) (l2534 : List (Cred × Bool)) (R2536 : List (Nat × Obj)) (μ2527 : Mem) (L2604 : List (Nat × Obj)), (E 48 = .int .i64 (i : Nat) ∧ E 47 = .int .i64 (a0_all.length : Nat)) ∧ Sub μ1810 μ2527 ∧ ST (keys ((b_a0, Obj.cells (#[v_a0_all, v_a0_targets, v_a0_words, v_a0_relevant] : Array Value) 122 (0, 0)) :: (R_a0_targets ++ (R_a0_words ++ (R_a0_relevant ++ []))))) w W μ2527 ((b_a0, Obj.cells (#[v_a0_all, v_a0_targets, v_a0_words, v_a0_relevant] : Array Value) 122 (0, 0)) :: (R2530 ++ (R2533 ++ (R2536 ++ L2604)))) ∧ E 0 = (.pointer (some ⟨b_a0, 0, none⟩)) ∧ E 7 = (.int .i64 ((a0_relevant.length : Int))) ∧ E 8 = (.int .i64 ((l1818.length : Int))) ∧ E 46 = v_a0_all ∧ MapRow (fun (x : Role) => (.agg (encRole x).toArray)) (fun (x : Bool) => (Value.bool x)) v_a0_targets l2528 R2530 ∧ MapRow Value.string (fun (x : Bool) => (Value.bool x)) v_a0_words l2531 R2533 ∧ MapRow (fun (x : Cred) => (.agg (encCred x).toArray)) (fun (x : Bool) => (Value.bool x)) v_a0_relevant l2534 R2536 ∧ m_graph_Graph_Want_w_L3 a0_all (a0_all.drop i) l2528 l2531 l2534 = some s2465) a0_all.length h_a0_all.len ⟨l1812, R1814, l1815, R1817, l1818, R1820, μ1810, _, ⟨rfl, rfl⟩, (Sub.refl _), (hST.sublist (List.Sublist.refl _)), e2250, e2251, rfl, rfl, hs1813, hs1816, hs1819, hm2466⟩ (by decide) (by decide) (by decide) (fun _ _ _ h => by obtain ⟨_, _, _, _, _, _, _, _, eIN, _⟩ := h; exact eIN) ?_ ?_
            · rintro i2468 E W hi2474 ⟨l2528, R2530, l2531, R2533, l2534, R2536, μ2527, L2604, ⟨eI, eN⟩, hle2606, hST, e2607, e2608, e2609, e2610, hs2529, hs2532, hs2535, hm2605⟩
              obtain ⟨x2469, xs2470, hx2472, hx2471, hx2473⟩ := drop_cons hi2474
              rw [hx2472] at hm2605
              rw [m_graph_Graph_Want_w_L3] at hm2605
              refine CW_block ?_
              refine CW_seq ?_
              refine CW_region ?_
              refine LW_q (.inl rfl) rfl (by decide) (R_indexP (enc := encCred) (i := (i2468 : Int)) (x0 := x2469) Tryz.underlying22 Tryz.sizeOf83 e2610 eI (h_a0_all.mono (Pl.mono _) ((hle5.trans hle2249).trans hle2606)) (Int.natCast_nonneg _) hx2471) (fun p2611 hp2612 => ?_)
              refine LW_v (.inl rfl) rfl (by decide) (R_load rfl (load_atA hST.has hp2612 Tryz.isAgg83 Tryz.sizeOf83)) ?_
              refine LW_e (.inl rfl) rfl (by decide) (E_alloc hST Tryz.zeroValue83 (fun W2615 b2614 hST => ?_))
              refine LW_e0 (.inl rfl) rfl (E_store [] (.agg (encCred x2469).toArray) ((encCred x2469).toArray) hST rfl rfl Tryz.sizeOf83 (oneCred x2469) (Nat.le_of_ble_eq_true rfl) rfl (fun W2616 hST => ?_))
              refine LW_nil ?_
              refine sq_n ?_
              refine CW_seq ?_
              obtain ⟨s2652, hm2653, hm2654⟩ := bind_some hm2605
              refine CW_cut (fun E W => ∃ (x2625 : Bool) (L2626 : List (Nat × Obj)), ST (keys ((b_a0, Obj.cells (#[v_a0_all, v_a0_targets, v_a0_words, v_a0_relevant] : Array Value) 122 (0, 0)) :: (R_a0_targets ++ (R_a0_words ++ (R_a0_relevant ++ []))))) w W μ2527 ((b2614, Obj.cells ((encCred x2469).toArray : Array Value) 83 (0, 0)) :: ((b_a0, Obj.cells (#[v_a0_all, v_a0_targets, v_a0_words, v_a0_relevant] : Array Value) 122 (0, 0)) :: (R2530 ++ (R2533 ++ (R2536 ++ L2626))))) ∧ E 0 = (.pointer (some ⟨b_a0, 0, none⟩)) ∧ E 7 = (.int .i64 ((a0_relevant.length : Int))) ∧ E 8 = (.int .i64 ((l1818.length : Int))) ∧ E 10 = (.pointer (some ⟨b2614, 0, none⟩)) ∧ E 46 = v_a0_all ∧ E 47 = (.int .i64 ((a0_all.length : Int))) ∧ E 48 = (.int .i64 ((i2468 : Int))) ∧ E 63 = (.bool x2625) ∧ (if x2625 then (((m_graph_Graph_take_w a0_all l2528 l2531 l2534 x2469)).bind fun r2637 => (m_graph_Graph_Want_w_L3 a0_all xs2470 r2637.1 r2637.2.1 r2637.2.2)) else (m_graph_Graph_Want_w_L3 a0_all xs2470 l2528 l2531 l2534)) = some s2465) ?_ ?_
              · refine PW_start (Has μ2527 ((b2614, Obj.cells ((encCred x2469).toArray : Array Value) 83 (0, 0)) :: ((b_a0, Obj.cells (#[v_a0_all, v_a0_targets, v_a0_words, v_a0_relevant] : Array Value) 122 (0, 0)) :: (R2530 ++ (R2533 ++ (R2536 ++ [])))))) Tryz_mixed ?_
                replace hST := hST.drew
                have hSS : (Has μ2527 ((b2614, Obj.cells ((encCred x2469).toArray : Array Value) 83 (0, 0)) :: ((b_a0, Obj.cells (#[v_a0_all, v_a0_targets, v_a0_words, v_a0_relevant] : Array Value) 122 (0, 0)) :: (R2530 ++ (R2533 ++ (R2536 ++ []))))) _) := ((show ST (keys ((b_a0, Obj.cells (#[v_a0_all, v_a0_targets, v_a0_words, v_a0_relevant] : Array Value) 122 (0, 0)) :: (R_a0_targets ++ (R_a0_words ++ (R_a0_relevant ++ []))))) w _ _ ((b2614, Obj.cells ((encCred x2469).toArray : Array Value) 83 (0, 0)) :: ((b_a0, Obj.cells (#[v_a0_all, v_a0_targets, v_a0_words, v_a0_relevant] : Array Value) 122 (0, 0)) :: (R2530 ++ (R2533 ++ (R2536 ++ L2604))))) from hST).has.sub (Sub.refl _) (fun p hq => ((List.mem_cons.1 hq).elim (fun hq => by rw [hq]; exact (.head _)) (fun hq => ((List.mem_cons.1 hq).elim (fun hq => by rw [hq]; exact (.tail _ (.head _))) (fun hq => ((List.mem_append.1 hq).elim (fun hq => (.tail _ (.tail _ (List.mem_append_left _ hq)))) (fun hq => ((List.mem_append.1 hq).elim (fun hq => (.tail _ (.tail _ (List.mem_append_right _ (List.mem_append_left _ hq))))) (fun hq => ((List.mem_append.1 hq).elim (fun hq => (.tail _ (.tail _ (List.mem_append_right _ (List.mem_append_right _ (List.mem_append_left _ hq)))))) (fun hq => (absurd hq List.not_mem_nil)))))))))))))
                refine PW_v 0 rfl (by kernel_rfl) (by kernel_rfl) (by kernel_rfl) (.inl rfl) rfl (by decide) hSS (fun W hS => R_move (v := (.pointer (some ⟨b_a0, 0, none⟩))) e2607) ?_
                refine PW_v 1 rfl (by kernel_rfl) (by kernel_rfl) (by kernel_rfl) (.inl rfl) rfl (by decide) hSS (fun W hS => R_nilCheck rfl) ?_
                refine PW_v 2 rfl (by kernel_rfl) (by kernel_rfl) (by kernel_rfl) (.inl rfl) rfl (by decide) hSS (fun W hS => R_field fa122_3 rfl) ?_
                refine PW_v 3 rfl (by kernel_rfl) (by kernel_rfl) (by kernel_rfl) (.inl rfl) rfl (by decide) hSS (fun W hS => R_load (v := v_a0_relevant) rfl (load_box1 hS (.tail _ (.head _)) rfl Tryz.isAgg120)) ?_
                refine PW_v 4 rfl (by kernel_rfl) (by kernel_rfl) (by kernel_rfl) (.inl rfl) rfl (by decide) hSS (fun W hS => R_load (v := (.agg (encCred x2469).toArray)) rfl (load_boxA hS (.head _) (encCred x2469) rfl Tryz.isAgg83 Tryz.sizeOf83)) ?_
                refine PW_v 5 rfl (by kernel_rfl) (by kernel_rfl) (by kernel_rfl) (.inl rfl) rfl (by decide) hSS (fun W hS => R_lookupD (k := x2469) (z := false) (vf := (fun (x : Bool) => (Value.bool x))) kl83 Tryz.underlying120 Tryz.zeroValue4 rfl rfl (hs2535.at (fun b o hq => hS.2 b o (.tail _ (.tail _ (List.mem_append_right _ (List.mem_append_right _ (List.mem_append_left _ hq)))))))) ?_
                refine PW_v 6 rfl (by kernel_rfl) (by kernel_rfl) (by kernel_rfl) (.inl rfl) rfl (by decide) hSS (fun W hS => R_not (b := (mgetD beqCred l2534 x2469 false)) rfl) ?_
                refine PW_v 7 rfl (by kernel_rfl) (by kernel_rfl) (by kernel_rfl) (.inl rfl) rfl (by decide) hSS (fun W hS => R_move (v := (.bool ((!((mgetD beqCred l2534 x2469 false)))))) rfl) ?_
                rcases bool_cases ((!((mgetD beqCred l2534 x2469 false)))) with hb2659 | hb2659
                · replace hm2653 := if_t hb2659 hm2653
                  refine PW_v 8 rfl (by kernel_rfl) (by kernel_rfl) (by kernel_rfl) (.inr ⟨7, true, 59, rfl, rfl, by decide, (congrArg Value.bool hb2659)⟩) rfl (by decide) hSS (fun W hS => R_move (v := (.pointer (some ⟨b_a0, 0, none⟩))) e2607) ?_
                  refine PW_v 9 rfl (by kernel_rfl) (by kernel_rfl) (by kernel_rfl) (.inr ⟨7, true, 59, rfl, rfl, by decide, (congrArg Value.bool hb2659)⟩) rfl (by decide) hSS (fun W hS => R_load (v := (.agg (encCred x2469).toArray)) rfl (load_boxA hS (.head _) (encCred x2469) rfl Tryz.isAgg83 Tryz.sizeOf83)) ?_
                  obtain ⟨r2660, hr2661, hm2653⟩ := bind_some hm2653
                  replace hST : ST (keys ((b_a0, Obj.cells (#[v_a0_all, v_a0_targets, v_a0_words, v_a0_relevant] : Array Value) 122 (0, 0)) :: (R_a0_targets ++ (R_a0_words ++ (R_a0_relevant ++ []))))) w _ _ ((b2614, Obj.cells ((encCred x2469).toArray : Array Value) 83 (0, 0)) :: ((b_a0, Obj.cells (#[v_a0_all, v_a0_targets, v_a0_words, v_a0_relevant] : Array Value) 122 (0, 0)) :: (R2530 ++ (R2533 ++ (R2536 ++ L2604))))) := hST
                  have hsz := hST.size
                  refine PW_e 10 rfl (by kernel_rfl) (.inr ⟨7, true, 59, rfl, rfl, by decide, (congrArg Value.bool hb2659)⟩) rfl (by decide) (E_gives (args := [(.pointer (some ⟨b_a0, 0, none⟩)), (.agg (encCred x2469).toArray)]) hST rfl Tryz.call83 (by exact args2 rfl rfl) (w_graph_Graph_bears b_a0 v_a0_all a0_all v_a0_targets l2528 v_a0_words l2531 v_a0_relevant l2534 x2469 _ _ (h_a0_all.mono (Pl.mono _) (((hle5.trans hle2249).trans hle2606).trans hST.sub_hp)) (hs2529.at (fun b o hq => hST.at_ (.tail _ (.tail _ (List.mem_append_left _ hq))))) (hs2532.at (fun b o hq => hST.at_ (.tail _ (.tail _ (List.mem_append_right _ (List.mem_append_left _ hq)))))) (hs2535.at (fun b o hq => hST.at_ (.tail _ (.tail _ (List.mem_append_right _ (List.mem_append_right _ (List.mem_append_left _ hq))))))) (At.of (hST.at_ (.tail _ (.head _))) _ rfl) hr2661) (fun W2662 hST => ?_))
                  have hSS : (Has μ2527 ((b2614, Obj.cells ((encCred x2469).toArray : Array Value) 83 (0, 0)) :: ((b_a0, Obj.cells (#[v_a0_all, v_a0_targets, v_a0_words, v_a0_relevant] : Array Value) 122 (0, 0)) :: (R2530 ++ (R2533 ++ (R2536 ++ []))))) _) := ((show ST (keys ((b_a0, Obj.cells (#[v_a0_all, v_a0_targets, v_a0_words, v_a0_relevant] : Array Value) 122 (0, 0)) :: (R_a0_targets ++ (R_a0_words ++ (R_a0_relevant ++ []))))) w _ _ ((b2614, Obj.cells ((encCred x2469).toArray : Array Value) 83 (0, 0)) :: ((b_a0, Obj.cells (#[v_a0_all, v_a0_targets, v_a0_words, v_a0_relevant] : Array Value) 122 (0, 0)) :: (R2530 ++ (R2533 ++ (R2536 ++ L2604))))) from hST).has.sub (Sub.refl _) (fun p hq => ((List.mem_cons.1 hq).elim (fun hq => by rw [hq]; exact (.head _)) (fun hq => ((List.mem_cons.1 hq).elim (fun hq => by rw [hq]; exact (.tail _ (.head _))) (fun hq => ((List.mem_append.1 hq).elim (fun hq => (.tail _ (.tail _ (List.mem_append_left _ hq)))) (fun hq => ((List.mem_append.1 hq).elim (fun hq => (.tail _ (.tail _ (List.mem_append_right _ (List.mem_append_left _ hq))))) (fun hq => ((List.mem_append.1 hq).elim (fun hq => (.tail _ (.tail _ (List.mem_append_right _ (List.mem_append_right _ (List.mem_append_left _ hq)))))) (fun hq => (absurd hq List.not_mem_nil)))))))))))))
                  refine ⟨hSS, ?_⟩
                  refine PW_v 11 rfl (by kernel_rfl) (by kernel_rfl) (by kernel_rfl) (.inl rfl) rfl (by decide) hSS (fun W hS => R_pickT (v := (.bool r2660)) (congrArg Value.bool hb2659) rfl) ?_
                  refine PW_done (by kernel_rfl) ?_
                  refine sq_n ?_
                  replace hm2653 := Option.some.inj hm2653; subst hm2653
                  exact ⟨r2660, _, (hST.sublist (List.Sublist.refl _)), e2607, e2608, e2609, rfl, e2610, eN, eI, rfl, hm2654⟩
                · replace hm2653 := if_f hb2659 hm2653
                  refine PW_no 8 rfl (by kernel_rfl) (by kernel_rfl) (by kernel_rfl) rfl rfl (by decide) (congrArg Value.bool hb2659) rfl (by decide) hSS ?_
                  refine PW_no 9 rfl (by kernel_rfl) (by kernel_rfl) (by kernel_rfl) rfl rfl (by decide) (congrArg Value.bool hb2659) rfl (by decide) hSS ?_
                  refine PW_no 10 rfl (by kernel_rfl) (by kernel_rfl) (by kernel_rfl) rfl rfl (by decide) (congrArg Value.bool hb2659) rfl (by decide) hSS ?_
                  refine PW_v 11 rfl (by kernel_rfl) (by kernel_rfl) (by kernel_rfl) (.inl rfl) rfl (by decide) hSS (fun W hS => R_pickF (v := (.bool false)) (congrArg Value.bool hb2659) rfl) ?_
                  refine PW_done (by kernel_rfl) ?_
                  refine sq_n ?_
                  replace hm2653 := Option.some.inj hm2653; subst hm2653
                  exact ⟨false, _, (hST.sublist (List.Sublist.refl _)), e2607, e2608, e2609, rfl, e2610, eN, eI, rfl, hm2654⟩
              · rintro E W ⟨x2625, L2626, hST, e2628, e2629, e2630, e2631, e2632, e2633, e2634, e2635, hm2627⟩
                refine CW_if (b := x2625) e2635 (fun hb2636 => ?_) (fun hb2636 => ?_)
                · replace hm2627 := if_t hb2636 hm2627
                  refine CW_region ?_
                  refine LW_v (.inl rfl) rfl (by decide) (R_move (v := (.pointer (some ⟨b_a0, 0, none⟩))) e2628) ?_
                  refine LW_v (.inl rfl) rfl (by decide) (R_load (v := (.agg (encCred x2469).toArray)) e2631 (load_boxA hST.has (.head _) (encCred x2469) rfl Tryz.isAgg83 Tryz.sizeOf83)) ?_
                  obtain ⟨r2637, hr2638, hm2627⟩ := bind_some hm2627
                  replace hST : ST (keys ((b_a0, Obj.cells (#[v_a0_all, v_a0_targets, v_a0_words, v_a0_relevant] : Array Value) 122 (0, 0)) :: (R_a0_targets ++ (R_a0_words ++ (R_a0_relevant ++ []))))) w _ _ ((b_a0, Obj.cells (#[v_a0_all, v_a0_targets, v_a0_words, v_a0_relevant] : Array Value) 122 (0, 0)) :: (R2530 ++ (R2533 ++ (R2536 ++ ((b2614, Obj.cells ((encCred x2469).toArray : Array Value) 83 (0, 0)) :: L2626))))) := hST.perm (permD [[(b2614, Obj.cells ((encCred x2469).toArray : Array Value) 83 (0, 0))], [(b_a0, Obj.cells (#[v_a0_all, v_a0_targets, v_a0_words, v_a0_relevant] : Array Value) 122 (0, 0))], R2530, R2533, R2536] [0, 1, 2, 3, 4] [1, 2, 3, 4, 0] L2626 (by decide) rfl rfl)
                  have hsz := hST.size
                  refine LW_e (.inl rfl) rfl (by decide) (E_callM (args := [(.pointer (some ⟨b_a0, 0, none⟩)), (.agg (encCred x2469).toArray)]) (caps := #[]) (((b_a0, Obj.cells (#[v_a0_all, v_a0_targets, v_a0_words, v_a0_relevant] : Array Value) 122 (0, 0)) :: (R2530 ++ (R2533 ++ (R2536 ++ []))))) (((b2614, Obj.cells ((encCred x2469).toArray : Array Value) 83 (0, 0)) :: L2626)) hST (by simp only [List.append_assoc, List.cons_append, List.nil_append]; exact List.Perm.refl _) rfl Tryz.call84 (by exact args2 rfl rfl) (fun hH hN hsb hmm => w_graph_Graph_take_w b_a0 v_a0_all a0_all v_a0_targets l2528 R2530 v_a0_words l2531 R2533 v_a0_relevant l2534 R2536 x2469 _ _ hH hN (Sub.refl _) (h_a0_all.mono (Pl.mono _) (((hle5.trans hle2249).trans hle2606).trans hsb)) hs2529 hs2532 hs2535 hr2638) (fun W2639 v2642 μ2640 L2644 hST hle2641 hlift hK2643 => ?_))
                  obtain ⟨S2645, S2647, S2649, hv2651, rfl, hy2646, hy2648, hy2650⟩ := hK2643
                  replace hv2651 := hv2651.symm; subst hv2651
                  simp only [List.append_assoc, List.cons_append, List.nil_append] at hST
                  replace hST : ST (keys ((b_a0, Obj.cells (#[v_a0_all, v_a0_targets, v_a0_words, v_a0_relevant] : Array Value) 122 (0, 0)) :: (R_a0_targets ++ (R_a0_words ++ (R_a0_relevant ++ []))))) w _ _ ((b_a0, Obj.cells (#[v_a0_all, v_a0_targets, v_a0_words, v_a0_relevant] : Array Value) 122 (0, 0)) :: ((b2614, Obj.cells ((encCred x2469).toArray : Array Value) 83 (0, 0)) :: (S2645 ++ (S2647 ++ (S2649 ++ L2626))))) := hST.perm (permD [[(b_a0, Obj.cells (#[v_a0_all, v_a0_targets, v_a0_words, v_a0_relevant] : Array Value) 122 (0, 0))], S2645, S2647, S2649, [(b2614, Obj.cells ((encCred x2469).toArray : Array Value) 83 (0, 0))]] [0, 1, 2, 3, 4] [0, 4, 1, 2, 3] L2626 (by decide) rfl rfl)
                  refine LW_nil ?_
                  refine bq_n ?_
                  refine sq_n ?_
                  replace hST : ST (keys ((b_a0, Obj.cells (#[v_a0_all, v_a0_targets, v_a0_words, v_a0_relevant] : Array Value) 122 (0, 0)) :: (R_a0_targets ++ (R_a0_words ++ (R_a0_relevant ++ []))))) w _ _ ((b_a0, Obj.cells (#[v_a0_all, v_a0_targets, v_a0_words, v_a0_relevant] : Array Value) 122 (0, 0)) :: ((b2614, Obj.cells ((encCred x2469).toArray : Array Value) 83 (0, 0)) :: (S2645 ++ (S2647 ++ (S2649 ++ L2626))))) := hST
                  replace hST : ST (keys ((b_a0, Obj.cells (#[v_a0_all, v_a0_targets, v_a0_words, v_a0_relevant] : Array Value) 122 (0, 0)) :: (R_a0_targets ++ (R_a0_words ++ (R_a0_relevant ++ []))))) w _ _ ((b_a0, Obj.cells (#[v_a0_all, v_a0_targets, v_a0_words, v_a0_relevant] : Array Value) 122 (0, 0)) :: (S2645 ++ (S2647 ++ (S2649 ++ L2626)))) := hST.sublist (List.Sublist.cons_cons _ (List.Sublist.cons _ (List.Sublist.refl _)))
                  exact ⟨e2634, r2637.1, S2645, r2637.2.1, S2647, r2637.2.2, S2649, μ2640, _, ⟨rfl, e2633⟩, (hle2606.trans hle2641), (hST.sublist (List.Sublist.refl _)), e2628, e2629, e2630, e2632, hy2646, hy2648, hy2650, (by rw [hx2473]; exact hm2627)⟩
                · replace hm2627 := if_f hb2636 hm2627
                  refine CW_skip ?_
                  refine bq_n ?_
                  refine sq_n ?_
                  replace hST : ST (keys ((b_a0, Obj.cells (#[v_a0_all, v_a0_targets, v_a0_words, v_a0_relevant] : Array Value) 122 (0, 0)) :: (R_a0_targets ++ (R_a0_words ++ (R_a0_relevant ++ []))))) w _ _ ((b2614, Obj.cells ((encCred x2469).toArray : Array Value) 83 (0, 0)) :: ((b_a0, Obj.cells (#[v_a0_all, v_a0_targets, v_a0_words, v_a0_relevant] : Array Value) 122 (0, 0)) :: (R2530 ++ (R2533 ++ (R2536 ++ L2626))))) := hST
                  replace hST : ST (keys ((b_a0, Obj.cells (#[v_a0_all, v_a0_targets, v_a0_words, v_a0_relevant] : Array Value) 122 (0, 0)) :: (R_a0_targets ++ (R_a0_words ++ (R_a0_relevant ++ []))))) w _ _ ((b_a0, Obj.cells (#[v_a0_all, v_a0_targets, v_a0_words, v_a0_relevant] : Array Value) 122 (0, 0)) :: (R2530 ++ (R2533 ++ (R2536 ++ L2626)))) := hST.sublist (List.Sublist.cons _ (List.Sublist.refl _))
                  exact ⟨e2634, l2528, R2530, l2531, R2533, l2534, R2536, μ2527, _, ⟨rfl, e2633⟩, hle2606, (hST.sublist (List.Sublist.refl _)), e2628, e2629, e2630, e2632, hs2529, hs2532, hs2535, (by rw [hx2473]; exact hm2627)⟩
            · rintro E W ⟨l2528, R2530, l2531, R2533, l2534, R2536, μ2527, L2604, ⟨eI, eN⟩, hle2606, hST, e2607, e2608, e2609, e2610, hs2529, hs2532, hs2535, hm2605⟩
              rw [List.drop_length] at hm2605
              rw [m_graph_Graph_Want_w_L3] at hm2605
              refine sq_n ?_
              replace hm2605 := Option.some.inj hm2605; subst hm2605
              exact ⟨l2528, R2530, l2531, R2533, l2534, R2536, μ2527, _, hle2606, (hST.sublist (List.Sublist.refl _)), e2607, e2608, e2609, hs2529, hs2532, hs2535, hm2467⟩
          · rintro E W ⟨l2450, R2452, l2453, R2455, l2456, R2458, μ2449, L2459, hle2461, hST, e2462, e2463, e2464, hs2451, hs2454, hs2457, hm2460⟩
            refine bq_n ?_
            refine sq_n ?_
            exact ⟨n2248, Nat.lt_succ_self _, ((l1818.length : Int)), l2450, R2452, l2453, R2455, l2456, R2458, μ2449, _, (hle2249.trans hle2461), (hST.sublist (List.Sublist.refl _)), e2462, e2463, e2464, hs2451, hs2454, hs2457, hm2460⟩
        · replace hm2247 := if_f hb2253 hm2247
          refine CW_exit ?_
          refine sq_e (sq_e (bq_e ?_))
          refine sq_n ?_
          replace hm2247 := Option.some.inj hm2247; subst hm2247
          exact ⟨l1812, R1814, l1815, R1817, l1818, R1820, μ1810, _, hle2249, (hST.sublist (List.Sublist.refl _)), e2250, e2251, hs1813, hs1816, hs1819, hm1399⟩
    · rintro E W ⟨l1383, R1385, l1386, R1388, l1389, R1391, μ1382, L1392, hle1394, hST, e1395, e1396, hs1384, hs1387, hs1390, hm1393⟩
      refine CW_seq ?_
      refine CW_region ?_
      refine LW_v (.inl rfl) rfl (by decide) (R_move (v := (.pointer (some ⟨b_a0, 0, none⟩))) e1395) ?_
      refine LW_v (.inl rfl) rfl (by decide) (R_nilCheck rfl) ?_
      refine LW_v (.inl rfl) rfl (by decide) (R_field fa122_3 rfl) ?_
      refine LW_v (.inl rfl) rfl (by decide) (R_load (v := v_a0_relevant) rfl (load_box1 hST.has (.head _) rfl Tryz.isAgg120)) ?_
      refine LW_v (.inl rfl) rfl (by decide) (R_lenMap (vf := (fun (x : Bool) => (Value.bool x))) (kenc := (fun (x : Cred) => (.agg (encCred x).toArray))) Tryz.underlying120 rfl (hs1390.at (fun b o hq => hST.has.2 b o (.tail _ (List.mem_append_right _ (List.mem_append_right _ (List.mem_append_left _ hq))))))) ?_
      refine LW_v (.inl rfl) rfl (by decide) (R_move (v := (.int .i64 ((a0_relevant.length : Int)))) e1396) ?_
      refine LW_v (.inl rfl) rfl (by decide) (R_int (k := .i64) (a := ((l1389.length : Int))) (b := ((a0_relevant.length : Int))) (v := (.int .i64 ((IntKind.i64.wrap (((l1389.length : Int)) - ((a0_relevant.length : Int))))))) rfl rfl rfl) ?_
      refine LW_v (.inl rfl) rfl (by decide) (R_assign (v := (.int .i64 ((IntKind.i64.wrap (((l1389.length : Int)) - ((a0_relevant.length : Int))))))) rfl) ?_
      refine LW_nil ?_
      refine sq_n ?_
      refine CW_ret ?_
      replace hm1393 := Option.some.inj hm1393; subst hm1393
      refine retQ_1 (v := (.int .i64 ((IntKind.i64.wrap (((l1389.length : Int)) - ((a0_relevant.length : Int))))))) rfl rfl ?_
      replace hST : ST (keys ((b_a0, Obj.cells (#[v_a0_all, v_a0_targets, v_a0_words, v_a0_relevant] : Array Value) 122 (0, 0)) :: (R_a0_targets ++ (R_a0_words ++ (R_a0_relevant ++ []))))) w _ _ ((b_a0, Obj.cells (#[v_a0_all, v_a0_targets, v_a0_words, v_a0_relevant] : Array Value) 122 (0, 0)) :: (R1385 ++ (R1388 ++ (R1391 ++ L1392)))) := hST
      exact ⟨_, ((b_a0, Obj.cells (#[v_a0_all, v_a0_targets, v_a0_words, v_a0_relevant] : Array Value) 122 (0, 0)) :: (R1385 ++ (R1388 ++ (R1391 ++ [])))), rfl, (ST.backM (L1 := ((b_a0, Obj.cells (#[v_a0_all, v_a0_targets, v_a0_words, v_a0_relevant] : Array Value) 122 (0, 0)) :: (R1385 ++ (R1388 ++ (R1391 ++ []))))) (by have hh : ST (keys ((b_a0, Obj.cells (#[v_a0_all, v_a0_targets, v_a0_words, v_a0_relevant] : Array Value) 122 (0, 0)) :: (R_a0_targets ++ (R_a0_words ++ (R_a0_relevant ++ []))))) w _ _ ((b_a0, Obj.cells (#[v_a0_all, v_a0_targets, v_a0_words, v_a0_relevant] : Array Value) 122 (0, 0)) :: (R1385 ++ (R1388 ++ (R1391 ++ L1392)))) := hST.perm (List.Perm.refl _); simpa only [List.append_assoc, List.cons_append, List.nil_append] using hh)), R1385, R1388, R1391, rfl, rfl, hs1384, hs1387, hs1390⟩

theorem w_graph_New (v_a0 : Value) (a0 : List Cred) (v_a1 : Value) (a1 : List Role) (r : ((List Cred) × (List (Role × Bool)) × (List (ByteArray × Bool)) × (List (Cred × Bool)))) (w : World) (h_a0 : Sl (Pl encCred) 9 (hp w) v_a0 a0) (h_a1 : Sl (Pl encRole) 2 (hp w) v_a1 a1) (hm : m_graph_New a0 a1 = some r) :
    GivesM Tryz.prog 19 [v_a0, v_a1] w [] (fun v L1 W' => ∃ (b1 : Nat) (y2 : Value) (y5 : Value) (S6 : List (Nat × Obj)) (y8 : Value) (S9 : List (Nat × Obj)) (y11 : Value) (S12 : List (Nat × Obj)), v = (.pointer (some ⟨b1, 0, none⟩)) ∧ L1 = ((b1, Obj.cells (#[y2, y5, y8, y11] : Array Value) 122 (0, 0)) :: (S6 ++ (S9 ++ (S12 ++ [])))) ∧ Sl (Pl encCred) 9 (hpx W' L1) y2 r.1 ∧ Fr w.heap.size y2 ∧ MapRow (fun (x : Role) => (.agg (encRole x).toArray)) (fun (x : Bool) => (Value.bool x)) y5 r.2.1 S6 ∧ MapRow Value.string (fun (x : Bool) => (Value.bool x)) y8 r.2.2.1 S9 ∧ MapRow (fun (x : Cred) => (.agg (encCred x).toArray)) (fun (x : Bool) => (Value.bool x)) y11 r.2.2.2 S12) := by
  have hST := ST.start w
  unfold m_graph_New at hm
  refine calls_of_CW (n := 17) Tryz.func19 rfl rfl (Nat.le_of_ble_eq_true rfl) ?_
  refine CW_seq ?_
  refine CW_region ?_
  refine LW_v (.inl rfl) rfl (by decide) (R_assign (v := (.pointer none)) rfl) ?_
  refine LW_nil ?_
  refine sq_n ?_
  refine CW_seq ?_
  refine CW_region ?_
  refine LW_v (.inl rfl) rfl (by decide) (R_move (v := v_a0) rfl) ?_
  obtain ⟨r1, hr2, hm⟩ := bind_some hm
  replace hST : ST NoF w _ _ [] := hST
  have hsz := hST.size
  refine LW_e (.inl rfl) rfl (by decide) (E_givesRow (args := [v_a0]) [] _ hST rfl Tryz.call77 (by exact args1 rfl) (w_cred_Set v_a0 a0 _ _ (h_a0.mono (Pl.mono _) hST.sub_hp) hr2) (fun W3 v6 μ4 R7 hST hle5 hR8 => ?_))
  refine LW_e (.inl rfl) rfl (by decide) (E_makeMap (P := Tryz.prog) (fun (x : Role) => (.agg (encRole x).toArray)) (fun (x : Bool) => (Value.bool x)) hST (fun W9 v12 R10 hST hR11 => ?_))
  refine LW_e (.inl rfl) rfl (by decide) (E_makeMap (P := Tryz.prog) Value.string (fun (x : Bool) => (Value.bool x)) hST (fun W13 v16 R14 hST hR15 => ?_))
  refine LW_e (.inl rfl) rfl (by decide) (E_makeMap (P := Tryz.prog) (fun (x : Cred) => (.agg (encCred x).toArray)) (fun (x : Bool) => (Value.bool x)) hST (fun W17 v20 R18 hST hR19 => ?_))
  obtain ⟨A21, c22, rfl⟩ := hR8.form
  replace hST : ST NoF w _ _ (R7 ++ (R18 ++ (R14 ++ (R10 ++ [])))) := hST.perm (permD [R18, R14, R10, R7] [0, 1, 2, 3] [3, 0, 1, 2] ([]) (by decide) rfl rfl)
  replace hST : ST NoF w _ _ (R7 ++ (R18 ++ (R14 ++ (R10 ++ [])))) := hST
  have hf26 := hR8.frM hST (fun p hq => (List.mem_append_left _ hq))
  obtain ⟨μ23, hST, hle24, hs25⟩ := ST.pubRow (X := []) hST hR8 lenCred
  simp only [List.cons_append, List.nil_append] at hST
  obtain ⟨m27, rfl⟩ := hR11.form
  obtain ⟨m28, rfl⟩ := hR15.form
  obtain ⟨m29, rfl⟩ := hR19.form
  refine LW_v (.inl rfl) rfl (by decide) (R_build (qs := #[(0, (.slice A21 r1.length c22)), (1, (.map (some m27))), (2, (.map (some m28))), (3, (.map (some m29)))]) (v := (.agg #[(.slice A21 r1.length c22), (.map (some m27)), (.map (some m28)), (.map (some m29))])) (parts4 rfl rfl rfl rfl) (run_build Tryz.zeroValue122 Tryz.underlying122 (pl122 _ Tryz.underlying122) (by kernel_rfl))) ?_
  refine LW_e (.inl rfl) rfl (by decide) (E_box (v := (.agg #[(.slice A21 r1.length c22), (.map (some m27)), (.map (some m28)), (.map (some m29))])) hST rfl (fun W31 b30 hST => ?_))
  refine LW_v (.inl rfl) rfl (by decide) (R_assign (v := (.pointer (some ⟨b30, 0, none⟩))) rfl) ?_
  refine LW_nil ?_
  refine sq_n ?_
  refine CW_seq ?_
  refine CW_region ?_
  refine LW_v (.inl rfl) rfl (by decide) (R_move (v := (.pointer (some ⟨b30, 0, none⟩))) rfl) ?_
  refine LW_v (.inl rfl) rfl (by decide) (R_move (v := v_a1) rfl) ?_
  obtain ⟨r32, hr33, hm⟩ := bind_some hm
  replace hST : ST NoF w _ _ ((b30, Obj.cells (#[(.slice A21 r1.length c22), (.map (some m27)), (.map (some m28)), (.map (some m29))] : Array Value) 122 (0, 0)) :: (R10 ++ (R14 ++ (R18 ++ [])))) := hST.perm (permD [[(b30, Obj.cells (#[(.slice A21 r1.length c22), (.map (some m27)), (.map (some m28)), (.map (some m29))] : Array Value) 122 (0, 0))], R18, R14, R10] [0, 1, 2, 3] [0, 3, 2, 1] ([]) (by decide) rfl rfl)
  have hsz := hST.size
  refine LW_e (.inl rfl) rfl (by decide) (E_callM (args := [(.pointer (some ⟨b30, 0, none⟩)), v_a1]) (caps := #[]) (((b30, Obj.cells (#[(.slice A21 r1.length c22), (.map (some m27)), (.map (some m28)), (.map (some m29))] : Array Value) 122 (0, 0)) :: (R10 ++ (R14 ++ (R18 ++ []))))) ([]) hST (by simp only [List.append_assoc, List.cons_append, List.nil_append]; exact List.Perm.refl _) rfl Tryz.call26 (by exact args2 rfl rfl) (fun hH hN hsb hmm => w_graph_Graph_Want_w b30 (.slice A21 r1.length c22) r1 (.map (some m27)) ([]) R10 (.map (some m28)) ([]) R14 (.map (some m29)) ([]) R18 v_a1 a1 _ _ hH hN (Sub.refl _) (hs25.mono (Pl.mono _) hsb) hR11 hR15 hR19 (h_a1.mono (Pl.mono _) ((hle5.trans hle24).trans hsb)) hr33) (fun W34 v37 μ35 L39 hST hle36 hlift hK38 => ?_))
  obtain ⟨S40, S42, S44, hv46, rfl, hy41, hy43, hy45⟩ := hK38
  replace hv46 := hv46.symm; subst hv46
  simp only [List.append_assoc, List.cons_append, List.nil_append] at hST
  refine LW_nil ?_
  refine sq_n ?_
  refine CW_seq ?_
  refine CW_region ?_
  refine LW_v (.inl rfl) rfl (by decide) (R_move (v := (.pointer (some ⟨b30, 0, none⟩))) rfl) ?_
  refine LW_v (.inl rfl) rfl (by decide) (R_assign (v := (.pointer (some ⟨b30, 0, none⟩))) rfl) ?_
  refine LW_nil ?_
  refine sq_n ?_
  refine CW_ret ?_
  replace hm := Option.some.inj hm; subst hm
  refine retQ_1 (v := (.pointer (some ⟨b30, 0, none⟩))) rfl rfl ?_
  replace hST : ST NoF w _ _ ((b30, Obj.cells (#[(.slice A21 r1.length c22), (.map (some m27)), (.map (some m28)), (.map (some m29))] : Array Value) 122 (0, 0)) :: (S40 ++ (S42 ++ (S44 ++ [])))) := hST
  exact ⟨_, ((b30, Obj.cells (#[(.slice A21 r1.length c22), (.map (some m27)), (.map (some m28)), (.map (some m29))] : Array Value) 122 (0, 0)) :: (S40 ++ (S42 ++ (S44 ++ [])))), rfl, (ST.backL (L1 := ((b30, Obj.cells (#[(.slice A21 r1.length c22), (.map (some m27)), (.map (some m28)), (.map (some m29))] : Array Value) 122 (0, 0)) :: (S40 ++ (S42 ++ (S44 ++ []))))) (by have hh : ST NoF w _ _ ((b30, Obj.cells (#[(.slice A21 r1.length c22), (.map (some m27)), (.map (some m28)), (.map (some m29))] : Array Value) 122 (0, 0)) :: (S40 ++ (S42 ++ (S44 ++ [])))) := hST.perm (List.Perm.refl _); simpa only [List.append_assoc, List.cons_append, List.nil_append] using hh)), b30, (.slice A21 r1.length c22), (.map (some m27)), S40, (.map (some m28)), S42, (.map (some m29)), S44, rfl, rfl, (hs25.mono (Pl.mono _) (hle36.trans (ST.sub_hpx hST (L0 := ((b30, Obj.cells (#[(.slice A21 r1.length c22), (.map (some m27)), (.map (some m28)), (.map (some m29))] : Array Value) 122 (0, 0)) :: (S40 ++ (S42 ++ (S44 ++ []))))) (fun p hp => (List.Perm.mem_iff (show List.Perm (((b30, Obj.cells (#[(.slice A21 r1.length c22), (.map (some m27)), (.map (some m28)), (.map (some m29))] : Array Value) 122 (0, 0)) :: (S40 ++ (S42 ++ (S44 ++ [])))) : List (Nat × Obj)) ((b30, Obj.cells (#[(.slice A21 r1.length c22), (.map (some m27)), (.map (some m28)), (.map (some m29))] : Array Value) 122 (0, 0)) :: (S40 ++ (S42 ++ (S44 ++ [])))) from (List.Perm.refl _))).2 (by have hh := List.mem_append_left ([]) hp; simpa only [List.append_assoc, List.cons_append, List.nil_append] using hh))))), hf26, hy41, hy43, hy45⟩

theorem w_graph_Graph_Edges_w (b_a0 : Nat) (v_a0_all : Value) (a0_all : List Cred) (v_a0_targets : Value) (a0_targets : List (Role × Bool)) (R_a0_targets : List (Nat × Obj)) (v_a0_words : Value) (a0_words : List (ByteArray × Bool)) (R_a0_words : List (Nat × Obj)) (v_a0_relevant : Value) (a0_relevant : List (Cred × Bool)) (R_a0_relevant : List (Nat × Obj)) (r : Unit) (w : World) {μ0 : Mem} (hH : Held ((b_a0, Obj.cells (#[v_a0_all, v_a0_targets, v_a0_words, v_a0_relevant] : Array Value) 122 (0, 0)) :: (R_a0_targets ++ (R_a0_words ++ (R_a0_relevant ++ [])))) w) (hN : ((((b_a0, Obj.cells (#[v_a0_all, v_a0_targets, v_a0_words, v_a0_relevant] : Array Value) 122 (0, 0)) :: (R_a0_targets ++ (R_a0_words ++ (R_a0_relevant ++ [])))) : List (Nat × Obj)).map (·.1)).Nodup) (hS0 : Sub μ0 (hpx w ((b_a0, Obj.cells (#[v_a0_all, v_a0_targets, v_a0_words, v_a0_relevant] : Array Value) 122 (0, 0)) :: (R_a0_targets ++ (R_a0_words ++ (R_a0_relevant ++ [])))))) (h_a0_all : Sl (Pl encCred) 9 μ0 v_a0_all a0_all) (h_a0_targets : MapRow (fun (x : Role) => (.agg (encRole x).toArray)) (fun (x : Bool) => (Value.bool x)) v_a0_targets a0_targets R_a0_targets) (h_a0_words : MapRow Value.string (fun (x : Bool) => (Value.bool x)) v_a0_words a0_words R_a0_words) (h_a0_relevant : MapRow (fun (x : Cred) => (.agg (encCred x).toArray)) (fun (x : Bool) => (Value.bool x)) v_a0_relevant a0_relevant R_a0_relevant) (hm : m_graph_Graph_Edges_w a0_all a0_targets a0_words a0_relevant = some r) :
    GivesM Tryz.prog 28 [(.pointer (some ⟨b_a0, 0, none⟩))] w ((b_a0, Obj.cells (#[v_a0_all, v_a0_targets, v_a0_words, v_a0_relevant] : Array Value) 122 (0, 0)) :: (R_a0_targets ++ (R_a0_words ++ (R_a0_relevant ++ [])))) (fun v L1 W' => ∃ (b1 : Nat), v = (.func (.func 85) #[] #[(.pointer (some ⟨b1, 0, none⟩))]) ∧ L1 = ((b1, Obj.cells (#[(.pointer (some ⟨b_a0, 0, none⟩))] : Array Value) 31 (0, 0)) :: ((b_a0, Obj.cells (#[v_a0_all, v_a0_targets, v_a0_words, v_a0_relevant] : Array Value) 122 (0, 0)) :: (R_a0_targets ++ (R_a0_words ++ (R_a0_relevant ++ [])))))) := by
  have hST := (ST.startM hH hN).weak hS0
  unfold m_graph_Graph_Edges_w at hm
  refine calls_of_CW (n := 4) Tryz.func28 rfl rfl (Nat.le_of_ble_eq_true rfl) ?_
  refine CW_seq ?_
  refine CW_region ?_
  refine LW_e (.inl rfl) rfl (by decide) (E_box (v := (.pointer (some ⟨b_a0, 0, none⟩))) hST rfl (fun W2 b1 hST => ?_))
  refine LW_v (.inl rfl) rfl (by decide) (R_assign (v := .nilFunc) rfl) ?_
  refine LW_nil ?_
  refine sq_n ?_
  refine CW_seq ?_
  refine CW_region ?_
  refine LW_v (.inl rfl) rfl (by decide) (R_makeFuncC (by exact args1 rfl) rfl) ?_
  refine LW_v (.inl rfl) rfl (by decide) (R_assign (v := (.func (.func 85) #[] #[(.pointer (some ⟨b1, 0, none⟩))])) rfl) ?_
  refine LW_nil ?_
  refine sq_n ?_
  refine CW_ret ?_
  replace hm := Option.some.inj hm; subst hm
  refine retQ_1 (v := (.func (.func 85) #[] #[(.pointer (some ⟨b1, 0, none⟩))])) rfl rfl ?_
  replace hST : ST (keys ((b_a0, Obj.cells (#[v_a0_all, v_a0_targets, v_a0_words, v_a0_relevant] : Array Value) 122 (0, 0)) :: (R_a0_targets ++ (R_a0_words ++ (R_a0_relevant ++ []))))) w _ _ ((b1, Obj.cells (#[(.pointer (some ⟨b_a0, 0, none⟩))] : Array Value) 31 (0, 0)) :: ((b_a0, Obj.cells (#[v_a0_all, v_a0_targets, v_a0_words, v_a0_relevant] : Array Value) 122 (0, 0)) :: (R_a0_targets ++ (R_a0_words ++ (R_a0_relevant ++ []))))) := hST
  exact ⟨_, ((b1, Obj.cells (#[(.pointer (some ⟨b_a0, 0, none⟩))] : Array Value) 31 (0, 0)) :: ((b_a0, Obj.cells (#[v_a0_all, v_a0_targets, v_a0_words, v_a0_relevant] : Array Value) 122 (0, 0)) :: (R_a0_targets ++ (R_a0_words ++ (R_a0_relevant ++ []))))), rfl, (ST.backM (L1 := ((b1, Obj.cells (#[(.pointer (some ⟨b_a0, 0, none⟩))] : Array Value) 31 (0, 0)) :: ((b_a0, Obj.cells (#[v_a0_all, v_a0_targets, v_a0_words, v_a0_relevant] : Array Value) 122 (0, 0)) :: (R_a0_targets ++ (R_a0_words ++ (R_a0_relevant ++ [])))))) (by have hh : ST (keys ((b_a0, Obj.cells (#[v_a0_all, v_a0_targets, v_a0_words, v_a0_relevant] : Array Value) 122 (0, 0)) :: (R_a0_targets ++ (R_a0_words ++ (R_a0_relevant ++ []))))) w _ _ ((b1, Obj.cells (#[(.pointer (some ⟨b_a0, 0, none⟩))] : Array Value) 31 (0, 0)) :: ((b_a0, Obj.cells (#[v_a0_all, v_a0_targets, v_a0_words, v_a0_relevant] : Array Value) 122 (0, 0)) :: (R_a0_targets ++ (R_a0_words ++ (R_a0_relevant ++ []))))) := hST.perm (List.Perm.refl _); simpa only [List.append_assoc, List.cons_append, List.nil_append] using hh)), b1, rfl, rfl⟩

theorem w_graph_Graph_Relevant_c1 (a0 : Cred) (b_c0 : Nat) (b_c0q : Nat) (v_c0q_all : Value) (c0q_all : List Cred) (v_c0q_targets : Value) (c0q_targets : List (Role × Bool)) (v_c0q_words : Value) (c0q_words : List (ByteArray × Bool)) (v_c0q_relevant : Value) (c0q_relevant : List (Cred × Bool)) (r : Bool) (w : World) (h_c0q_all : Sl (Pl encCred) 9 (hp w) v_c0q_all c0q_all) (h_c0q_targets : MapAt (fun (x : Role) => (.agg (encRole x).toArray)) (fun (x : Bool) => (Value.bool x)) (hp w) v_c0q_targets c0q_targets) (h_c0q_words : MapAt Value.string (fun (x : Bool) => (Value.bool x)) (hp w) v_c0q_words c0q_words) (h_c0q_relevant : MapAt (fun (x : Cred) => (.agg (encCred x).toArray)) (fun (x : Bool) => (Value.bool x)) (hp w) v_c0q_relevant c0q_relevant) (hA_c0q : At (hp w) (.pointer (some ⟨b_c0q, 0, none⟩)) [v_c0q_all, v_c0q_targets, v_c0q_words, v_c0q_relevant]) (hA_c0 : At (hp w) (.pointer (some ⟨b_c0, 0, none⟩)) [(.pointer (some ⟨b_c0q, 0, none⟩))]) (hm : m_graph_Graph_Relevant_c1 a0 c0q_all c0q_targets c0q_words c0q_relevant = some r) :
    Gives Tryz.prog 82 [(.agg (encCred a0).toArray), (.pointer (some ⟨b_c0, 0, none⟩))] w (.bool r) := by
  have hST := ST.start w
  unfold m_graph_Graph_Relevant_c1 at hm
  refine calls_of_CW (n := 11) Tryz.func82 rfl rfl (Nat.le_of_ble_eq_true rfl) ?_
  refine CW_seq ?_
  refine CW_region ?_
  refine LW_e (.inl rfl) rfl (by decide) (E_box (v := (.agg (encCred a0).toArray)) hST rfl (fun W2 b1 hST => ?_))
  refine LW_v (.inl rfl) rfl (by decide) (R_assign (v := (.bool false)) rfl) ?_
  refine LW_nil ?_
  refine sq_n ?_
  refine CW_seq ?_
  refine PW_start (Has (hp w) ((b1, Obj.cells ((encCred a0).toArray : Array Value) 83 (0, 0)) :: [])) Tryz_mixed ?_
  replace hST := hST.drew
  have hSS : (Has (hp w) ((b1, Obj.cells ((encCred a0).toArray : Array Value) 83 (0, 0)) :: []) _) := ((show ST NoF w _ _ ((b1, Obj.cells ((encCred a0).toArray : Array Value) 83 (0, 0)) :: []) from hST).has.sub (Sub.refl _) (fun p hq => ((List.mem_cons.1 hq).elim (fun hq => by rw [hq]; exact (.head _)) (fun hq => (absurd hq List.not_mem_nil)))))
  refine PW_v 0 rfl (by kernel_rfl) (by kernel_rfl) (by kernel_rfl) (.inl rfl) rfl (by decide) hSS (fun W hS => R_load rfl (load_at1 hS (y := (.pointer (some ⟨b_c0q, 0, none⟩))) hA_c0 Tryz.isAgg31)) ?_
  refine PW_v 1 rfl (by kernel_rfl) (by kernel_rfl) (by kernel_rfl) (.inl rfl) rfl (by decide) hSS (fun W hS => R_nilCheck rfl) ?_
  refine PW_q 2 rfl (by kernel_rfl) (by kernel_rfl) (by kernel_rfl) (.inl rfl) rfl (by decide) hSS (R_fieldAt [v_c0q_relevant] fa122_3 rfl hA_c0q rfl) (fun p6 hp7 => ?_)
  refine PW_v 3 rfl (by kernel_rfl) (by kernel_rfl) (by kernel_rfl) (.inl rfl) rfl (by decide) hSS (fun W hS => R_load rfl (load_at1 hS (y := v_c0q_relevant) hp7 Tryz.isAgg120)) ?_
  refine PW_v 4 rfl (by kernel_rfl) (by kernel_rfl) (by kernel_rfl) (.inl rfl) rfl (by decide) hSS (fun W hS => R_load (v := (.agg (encCred a0).toArray)) rfl (load_boxA hS (.head _) (encCred a0) rfl Tryz.isAgg83 Tryz.sizeOf83)) ?_
  refine PW_v 5 rfl (by kernel_rfl) (by kernel_rfl) (by kernel_rfl) (.inl rfl) rfl (by decide) hSS (fun W hS => R_lookupD (k := a0) (z := false) (vf := (fun (x : Bool) => (Value.bool x))) kl83 Tryz.underlying120 Tryz.zeroValue4 rfl rfl (h_c0q_relevant.mono (fun b o hq => hS.1 b o hq))) ?_
  refine PW_v 6 rfl (by kernel_rfl) (by kernel_rfl) (by kernel_rfl) (.inl rfl) rfl (by decide) hSS (fun W hS => R_not (b := (mgetD beqCred c0q_relevant a0 false)) rfl) ?_
  refine PW_v 7 rfl (by kernel_rfl) (by kernel_rfl) (by kernel_rfl) (.inl rfl) rfl (by decide) hSS (fun W hS => R_assign (v := (.bool ((!((mgetD beqCred c0q_relevant a0 false)))))) rfl) ?_
  refine PW_done (by kernel_rfl) ?_
  refine sq_n ?_
  replace hST : ST NoF w _ _ [] := hST.sublist (List.Sublist.cons _ (List.Sublist.refl _))
  refine CW_ret ?_
  replace hm := Option.some.inj hm; subst hm
  refine retQ_1 (v := (.bool ((!((mgetD beqCred c0q_relevant a0 false)))))) rfl rfl ?_
  exact ⟨rfl, hST.ex⟩

theorem w_graph_Graph_Relevant (b_a0 : Nat) (v_a0_all : Value) (a0_all : List Cred) (v_a0_targets : Value) (a0_targets : List (Role × Bool)) (v_a0_words : Value) (a0_words : List (ByteArray × Bool)) (v_a0_relevant : Value) (a0_relevant : List (Cred × Bool)) (r : List Cred) (w : World) (h_a0_all : Sl (Pl encCred) 9 (hp w) v_a0_all a0_all) (h_a0_targets : MapAt (fun (x : Role) => (.agg (encRole x).toArray)) (fun (x : Bool) => (Value.bool x)) (hp w) v_a0_targets a0_targets) (h_a0_words : MapAt Value.string (fun (x : Bool) => (Value.bool x)) (hp w) v_a0_words a0_words) (h_a0_relevant : MapAt (fun (x : Cred) => (.agg (encCred x).toArray)) (fun (x : Bool) => (Value.bool x)) (hp w) v_a0_relevant a0_relevant) (hA_a0 : At (hp w) (.pointer (some ⟨b_a0, 0, none⟩)) [v_a0_all, v_a0_targets, v_a0_words, v_a0_relevant]) (hm : m_graph_Graph_Relevant a0_all a0_targets a0_words a0_relevant = some r) :
    GivesRow Tryz.prog 25 [(.pointer (some ⟨b_a0, 0, none⟩))] w 83 encCred 9 r := by
  have hST := ST.start w
  unfold m_graph_Graph_Relevant at hm
  refine calls_of_CW (n := 12) Tryz.func25 rfl rfl (Nat.le_of_ble_eq_true rfl) ?_
  refine CW_seq ?_
  refine CW_region ?_
  refine LW_e (.inl rfl) rfl (by decide) (E_box (v := (.pointer (some ⟨b_a0, 0, none⟩))) hST rfl (fun W2 b1 hST => ?_))
  refine LW_v (.inl rfl) rfl (by decide) (R_assign (v := (.slice none 0 0)) rfl) ?_
  refine LW_nil ?_
  refine sq_n ?_
  refine CW_seq ?_
  refine CW_seq ?_
  refine CW_region ?_
  refine LW_v (.inl rfl) rfl (by decide) (R_load (v := (.pointer (some ⟨b_a0, 0, none⟩))) rfl (load_box1 hST.has (.head _) rfl Tryz.isAgg31)) ?_
  refine LW_v (.inl rfl) rfl (by decide) (R_ptrEqNil Tryz.underlying31 rfl rfl) ?_
  refine LW_nil ?_
  refine sq_n ?_
  refine CW_if_false rfl ?_
  refine CW_skip ?_
  refine sq_n ?_
  refine CW_seq ?_
  refine CW_region ?_
  refine LW_v (.inl rfl) rfl (by decide) (R_load (v := (.pointer (some ⟨b_a0, 0, none⟩))) rfl (load_box1 hST.has (.head _) rfl Tryz.isAgg31)) ?_
  refine LW_v (.inl rfl) rfl (by decide) (R_nilCheck rfl) ?_
  refine LW_q (.inl rfl) rfl (by decide) (R_fieldAt [v_a0_all] fa122_0 rfl hA_a0 rfl) (fun p3 hp4 => ?_)
  refine LW_v (.inl rfl) rfl (by decide) (R_load rfl (load_at1 hST.has (y := v_a0_all) hp4 Tryz.isAgg22)) ?_
  obtain ⟨r6, hr7, hm⟩ := bind_some hm
  replace hST : ST NoF w _ _ ((b1, Obj.cells (#[(.pointer (some ⟨b_a0, 0, none⟩))] : Array Value) 31 (0, 0)) :: []) := hST
  have hsz := hST.size
  refine LW_e (.inl rfl) rfl (by decide) (E_givesRow (args := [v_a0_all]) [_] _ hST rfl Tryz.call81 (by exact args1 rfl) (w_slices_Clone_Cred v_a0_all a0_all _ _ (h_a0_all.mono (Pl.mono _) hST.sub_hp) hr7) (fun W8 v11 μ9 R12 hST hle10 hR13 => ?_))
  refine LW_v (.inl rfl) rfl (by decide) (R_makeFuncC (by exact args1 rfl) rfl) ?_
  obtain ⟨r14, hr15, hm⟩ := bind_some hm
  replace hST : ST NoF w _ _ (R12 ++ ((b1, Obj.cells (#[(.pointer (some ⟨b_a0, 0, none⟩))] : Array Value) 31 (0, 0)) :: [])) := hST.perm (permD [[(b1, Obj.cells (#[(.pointer (some ⟨b_a0, 0, none⟩))] : Array Value) 31 (0, 0))], R12] [0, 1] [1, 0] ([]) (by decide) rfl rfl)
  have hsz := hST.size
  refine LW_e (.inl rfl) rfl (by decide) (E_callM (args := [v11, (.func (.func 82) #[] #[(.pointer (some ⟨b1, 0, none⟩))])]) (caps := #[]) ((R12 ++ [])) (((b1, Obj.cells (#[(.pointer (some ⟨b_a0, 0, none⟩))] : Array Value) 31 (0, 0)) :: [])) hST (by simp only [List.append_assoc, List.cons_append, List.nil_append]; exact List.Perm.refl _) rfl Tryz.call80 (by exact args2 rfl rfl) (fun hH hN hsb hmm => w_slices_DeleteFunc_Cred v11 r6 R12 (.func (.func 82) #[] #[(.pointer (some ⟨b1, 0, none⟩))]) (fun (x : Cred) => m_graph_Graph_Relevant_c1 x a0_all a0_targets a0_words a0_relevant) _ _ hH hN (Sub.refl _) hR13 ⟨82, #[(.pointer (some ⟨b1, 0, none⟩))], rfl, Tryz.call82, fun W x r hs hm => w_graph_Graph_Relevant_c1 x b1 b_a0 v_a0_all a0_all v_a0_targets a0_targets v_a0_words a0_words v_a0_relevant a0_relevant r W (h_a0_all.mono (Pl.mono _) ((hle10.trans hsb).trans hs)) (h_a0_targets.mono ((hle10.trans hsb).trans hs)) (h_a0_words.mono ((hle10.trans hsb).trans hs)) (h_a0_relevant.mono ((hle10.trans hsb).trans hs)) (hA_a0.mono ((hle10.trans hsb).trans hs)) (At.of (hs _ _ (hmm _ _ (.head _))) _ rfl) hm⟩ hr15) (fun W16 v19 μ17 L21 hST hle18 hlift hK20 => ?_))
  obtain ⟨y22, S23, hv25, rfl, hy24⟩ := hK20
  replace hv25 := hv25.symm; subst hv25
  simp only [List.append_assoc, List.cons_append, List.nil_append] at hST
  replace hST : ST NoF w _ _ ((b1, Obj.cells (#[(.pointer (some ⟨b_a0, 0, none⟩))] : Array Value) 31 (0, 0)) :: (S23 ++ [])) := hST.perm (permD [S23, [(b1, Obj.cells (#[(.pointer (some ⟨b_a0, 0, none⟩))] : Array Value) 31 (0, 0))]] [0, 1] [1, 0] ([]) (by decide) rfl rfl)
  refine LW_v (.inl rfl) rfl (by decide) (R_assign (v := y22) rfl) ?_
  refine LW_nil ?_
  refine sq_n ?_
  replace hST : ST NoF w _ _ ((b1, Obj.cells (#[(.pointer (some ⟨b_a0, 0, none⟩))] : Array Value) 31 (0, 0)) :: (S23 ++ [])) := hST
  replace hST : ST NoF w _ _ (S23 ++ []) := hST.sublist (List.Sublist.cons _ (List.Sublist.refl _))
  refine CW_ret ?_
  replace hm := Option.some.inj hm; subst hm
  refine retQ_1 (v := y22) rfl rfl ?_
  exact ⟨_, S23, rfl, hST.backRow (fun p hq => by simp [hq]) hy24.nd, hy24⟩

theorem w_graph_Graph_Edges_c1_s {σ0 : Type} (I0 : σ0 → List (Nat × Obj) → Prop) (v_a0 : Value) (f0 : σ0 → ((Role × Role)) → Option (Bool × σ0)) (s0 : σ0) (R_s0 : List (Nat × Obj)) (b_c0 : Nat) (b_c0q : Nat) (v_c0q_all : Value) (c0q_all : List Cred) (v_c0q_targets : Value) (c0q_targets : List (Role × Bool)) (v_c0q_words : Value) (c0q_words : List (ByteArray × Bool)) (v_c0q_relevant : Value) (c0q_relevant : List (Cred × Bool)) (r : σ0) (w : World) {μ0 : Mem} (hH : Held (R_s0 ++ []) w) (hN : (((R_s0 ++ []) : List (Nat × Obj)).map (·.1)).Nodup) (hS0 : Sub μ0 (hpx w (R_s0 ++ []))) (h_a0 : CbsOk Tryz.prog v_a0 μ0 I0 (fun (x : (Role × Role)) => [(.agg (encRole x.1).toArray), (.agg (encRole x.2).toArray)]) (fun (r : Bool) => (.bool r)) f0) (h_s0 : I0 s0 R_s0) (h_c0q_all : Sl (Pl encCred) 9 μ0 v_c0q_all c0q_all) (h_c0q_targets : MapAt (fun (x : Role) => (.agg (encRole x).toArray)) (fun (x : Bool) => (Value.bool x)) μ0 v_c0q_targets c0q_targets) (h_c0q_words : MapAt Value.string (fun (x : Bool) => (Value.bool x)) μ0 v_c0q_words c0q_words) (h_c0q_relevant : MapAt (fun (x : Cred) => (.agg (encCred x).toArray)) (fun (x : Bool) => (Value.bool x)) μ0 v_c0q_relevant c0q_relevant) (hA_c0q : At μ0 (.pointer (some ⟨b_c0q, 0, none⟩)) [v_c0q_all, v_c0q_targets, v_c0q_words, v_c0q_relevant]) (hA_c0 : At μ0 (.pointer (some ⟨b_c0, 0, none⟩)) [(.pointer (some ⟨b_c0q, 0, none⟩))]) (hm : m_graph_Graph_Edges_c1_s f0 s0 c0q_all c0q_targets c0q_words c0q_relevant = some r) :
    GivesM Tryz.prog 85 [v_a0, (.pointer (some ⟨b_c0, 0, none⟩))] w (R_s0 ++ []) (fun v L1 W' => ∃ (S1 : List (Nat × Obj)), v = (.tuple #[]) ∧ L1 = (S1 ++ []) ∧ I0 r S1) := by
  have hST := (ST.startM hH hN).weak hS0
  unfold m_graph_Graph_Edges_c1_s at hm
  refine calls_of_CW (n := 30) Tryz.func85 rfl rfl (Nat.le_of_ble_eq_true rfl) ?_
  refine CW_seq ?_
  refine CW_region ?_
  refine LW_v (.inl rfl) rfl (by decide) (R_load rfl (load_at1 hST.has (y := (.pointer (some ⟨b_c0q, 0, none⟩))) hA_c0 Tryz.isAgg31)) ?_
  obtain ⟨r1, hr2, hm⟩ := bind_some hm
  replace hST : ST (keys (R_s0 ++ [])) w _ _ (R_s0 ++ []) := hST
  have hsz := hST.size
  refine LW_e (.inl rfl) rfl (by decide) (E_givesRow (args := [(.pointer (some ⟨b_c0q, 0, none⟩))]) [] _ hST rfl Tryz.call25 (by exact args1 rfl) (w_graph_Graph_Relevant b_c0q v_c0q_all c0q_all v_c0q_targets c0q_targets v_c0q_words c0q_words v_c0q_relevant c0q_relevant _ _ (h_c0q_all.mono (Pl.mono _) hST.sub_hp) (h_c0q_targets.mono hST.sub_hp) (h_c0q_words.mono hST.sub_hp) (h_c0q_relevant.mono hST.sub_hp) (hA_c0q.mono hST.sub_hp) hr2) (fun W3 v6 μ4 R7 hST hle5 hR8 => ?_))
  refine LW_v (.inl rfl) rfl (by decide) (R_lenRow Tryz.underlying22 rfl hR8) ?_
  refine LW_v (.inl rfl) rfl (by decide) (R_move (v := (.int .i64 0)) rfl) ?_
  refine LW_nil ?_
  refine sq_n ?_
  refine CW_tail ?_
  replace hST : ST (keys (R_s0 ++ [])) w _ _ (R_s0 ++ (R7 ++ [])) := hST.perm (permD [R7, R_s0] [0, 1] [1, 0] ([]) (by decide) rfl rfl)
  refine CW_range (fun i E W => ∃ (s764 : σ0) (R766 : List (Nat × Obj)) (μ763 : Mem) (L955 : List (Nat × Obj)), (E 10 = .int .i64 (i : Nat) ∧ E 9 = .int .i64 (r1.length : Nat)) ∧ Sub μ4 μ763 ∧ ST (keys (R_s0 ++ [])) w W μ763 (R766 ++ (R7 ++ L955)) ∧ E 0 = v_a0 ∧ E 8 = v6 ∧ I0 s764 R766 ∧ m_graph_Graph_Edges_c1_s_L1 f0 (r1.drop i) s764 = some r) r1.length hR8.len ⟨s0, R_s0, μ4, _, ⟨rfl, rfl⟩, (Sub.refl _), (hST.sublist (List.Sublist.refl _)), rfl, rfl, h_s0, hm⟩ (by decide) (by decide) (by decide) (fun _ _ _ h => by obtain ⟨_, _, _, _, eIN, _⟩ := h; exact eIN) ?_ ?_
  · rintro i575 E W hi581 ⟨s764, R766, μ763, L955, ⟨eI, eN⟩, hle957, hST, e958, e959, hs765, hm956⟩
    obtain ⟨x576, xs577, hx579, hx578, hx580⟩ := drop_cons hi581
    rw [hx579] at hm956
    rw [m_graph_Graph_Edges_c1_s_L1] at hm956
    refine CW_block ?_
    refine CW_seq ?_
    refine CW_region ?_
    refine LW_q (.inl rfl) rfl (by decide) (R_indexRow (i := (i575 : Int)) (x0 := x576) Tryz.underlying22 Tryz.sizeOf83 e959 eI hR8 (Int.natCast_nonneg _) hx578) (fun p960 hp961 => ?_)
    refine LW_v (.inl rfl) rfl (by decide) (R_load (v := (.agg (encCred x576).toArray)) rfl (load_ixA hST.has (fun p hq => by simp [hq]) hR8 lenCred hp961 hx578 Tryz.isAgg83 Tryz.sizeOf83)) ?_
    refine LW_e (.inl rfl) rfl (by decide) (E_alloc hST Tryz.zeroValue83 (fun W964 b963 hST => ?_))
    refine LW_e0 (.inl rfl) rfl (E_store [] (.agg (encCred x576).toArray) ((encCred x576).toArray) hST rfl rfl Tryz.sizeOf83 (oneCred x576) (Nat.le_of_ble_eq_true rfl) rfl (fun W965 hST => ?_))
    refine LW_nil ?_
    refine sq_n ?_
    refine CW_seq ?_
    refine CW_region ?_
    refine LW_v (.inl rfl) rfl (by decide) (R_load (v := (.agg (encCred x576).toArray)) rfl (load_boxA hST.has (.head _) (encCred x576) rfl Tryz.isAgg83 Tryz.sizeOf83)) ?_
    obtain ⟨r966, hr967, hm956⟩ := bind_some hm956
    replace hST : ST (keys (R_s0 ++ [])) w _ _ ((b963, Obj.cells ((encCred x576).toArray : Array Value) 83 (0, 0)) :: (R766 ++ (R7 ++ L955))) := hST
    have hsz := hST.size
    refine LW_e (.inl rfl) rfl (by decide) (E_givesRow (args := [(.agg (encCred x576).toArray)]) [_] _ hST rfl Tryz.call86 (by exact args1 rfl) (w_cred_Roles x576 _ _  hr967) (fun W968 v971 μ969 R972 hST hle970 hR973 => ?_))
    replace hST : ST (keys (R_s0 ++ [])) w _ _ ((b963, Obj.cells ((encCred x576).toArray : Array Value) 83 (0, 0)) :: (R972 ++ (R766 ++ (R7 ++ L955)))) := hST
    obtain ⟨μ976, hST, hle977, hs978⟩ := ST.pubRow (X := [_]) hST hR973 lenRole
    simp only [List.cons_append, List.nil_append] at hST
    obtain ⟨_, hg979, hm956⟩ := bind_some hm956
    refine LW_q (.inl rfl) rfl (by decide) (R_sliceFrom (i := 1) Tryz.underlying23 Tryz.sizeOf47 rfl rfl hs978 (chk_1 hg979) (chk_2 hg979)) (fun v974 hs975 => ?_)
    refine LW_v (.inl rfl) rfl (by decide) (R_len Tryz.underlying23 rfl hs975.1) ?_
    refine LW_v (.inl rfl) rfl (by decide) (R_move (v := (.int .i64 0)) rfl) ?_
    refine LW_nil ?_
    refine sq_n ?_
    refine CW_tail ?_
    obtain ⟨s1064, hm1065, hm1066⟩ := bind_some hm956
    refine CW_cut (fun E W => ∃ (s1054 : σ0) (R1056 : List (Nat × Obj)) (μ1053 : Mem) (L1057 : List (Nat × Obj)), Sub μ976 μ1053 ∧ ST (keys (R_s0 ++ [])) w W μ1053 (R1056 ++ (R7 ++ L1057)) ∧ E 0 = v_a0 ∧ E 8 = v6 ∧ E 9 = (.int .i64 ((r1.length : Int))) ∧ E 10 = (.int .i64 ((i575 : Int))) ∧ I0 s1054 R1056 ∧ (m_graph_Graph_Edges_c1_s_L1 f0 xs577 s1054) = some r) ?_ ?_
    · refine CW_range (fun i E W => ∃ (s1089 : σ0) (R1091 : List (Nat × Obj)) (μ1088 : Mem) (L1117 : List (Nat × Obj)), (E 18 = .int .i64 (i : Nat) ∧ E 17 = .int .i64 (((r966.drop (Int.toNat 1))).length : Nat)) ∧ Sub μ976 μ1088 ∧ ST (keys (R_s0 ++ [])) w W μ1088 ((b963, Obj.cells ((encCred x576).toArray : Array Value) 83 (0, 0)) :: (R1091 ++ (R7 ++ L1117))) ∧ E 0 = v_a0 ∧ E 4 = (.pointer (some ⟨b963, 0, none⟩)) ∧ E 8 = v6 ∧ E 9 = (.int .i64 ((r1.length : Int))) ∧ E 10 = (.int .i64 ((i575 : Int))) ∧ E 16 = v974 ∧ I0 s1089 R1091 ∧ m_graph_Graph_Edges_c1_s_L2 f0 x576 (((r966.drop (Int.toNat 1))).drop i) s1089 = some s1064) ((r966.drop (Int.toNat 1))).length hs975.1.len ⟨s764, R766, μ976, _, ⟨rfl, rfl⟩, (Sub.refl _), (hST.sublist (List.Sublist.refl _)), e958, rfl, e959, eN, eI, rfl, hs765, hm1065⟩ (by decide) (by decide) (by decide) (fun _ _ _ h => by obtain ⟨_, _, _, _, eIN, _⟩ := h; exact eIN) ?_ ?_
      · rintro i1067 E W hi1073 ⟨s1089, R1091, μ1088, L1117, ⟨eI, eN⟩, hle1119, hST, e1120, e1121, e1122, e1123, e1124, e1125, hs1090, hm1118⟩
        obtain ⟨x1068, xs1069, hx1071, hx1070, hx1072⟩ := drop_cons hi1073
        rw [hx1071] at hm1118
        rw [m_graph_Graph_Edges_c1_s_L2] at hm1118
        refine CW_block ?_
        refine CW_seq ?_
        refine CW_region ?_
        refine LW_q (.inl rfl) rfl (by decide) (R_indexP (enc := encRole) (i := (i1067 : Int)) (x0 := x1068) Tryz.underlying23 Tryz.sizeOf47 e1125 eI (hs975.1.mono (Pl.mono _) hle1119) (Int.natCast_nonneg _) hx1070) (fun p1126 hp1127 => ?_)
        refine LW_v (.inl rfl) rfl (by decide) (R_load rfl (load_atA hST.has hp1127 Tryz.isAgg47 Tryz.sizeOf47)) ?_
        refine LW_e (.inl rfl) rfl (by decide) (E_alloc hST Tryz.zeroValue47 (fun W1130 b1129 hST => ?_))
        refine LW_e0 (.inl rfl) rfl (E_store [] (.agg (encRole x1068).toArray) ((encRole x1068).toArray) hST rfl rfl Tryz.sizeOf47 (oneRole x1068) (Nat.le_of_ble_eq_true rfl) rfl (fun W1131 hST => ?_))
        refine LW_nil ?_
        refine sq_n ?_
        refine CW_seq ?_
        refine CW_region ?_
        refine LW_v (.inl rfl) rfl (by decide) (R_move (v := v_a0) e1120) ?_
        refine LW_v (.inl rfl) rfl (by decide) (R_field fa83_1 e1121) ?_
        refine LW_v (.inl rfl) rfl (by decide) (R_load (v := (.agg (encRole x576.Head).toArray)) rfl (load_boxA hST.has (.tail _ (.head _)) (encRole x576.Head) rfl Tryz.isAgg47 Tryz.sizeOf47)) ?_
        refine LW_v (.inl rfl) rfl (by decide) (R_load (v := (.agg (encRole x1068).toArray)) rfl (load_boxA hST.has (.head _) (encRole x1068) rfl Tryz.isAgg47 Tryz.sizeOf47)) ?_
        obtain ⟨r1132, hr1133, hm1118⟩ := bind_some hm1118
        refine LW_e (.inl rfl) rfl (by decide) (E_cbs s1089 ((x576.Head, x1068)) (((b1129, Obj.cells ((encRole x1068).toArray : Array Value) 47 (0, 0)) :: ((b963, Obj.cells ((encCred x576).toArray : Array Value) 83 (0, 0)) :: (R7 ++ L1117)))) hST (permD [[(b1129, Obj.cells ((encRole x1068).toArray : Array Value) 47 (0, 0))], [(b963, Obj.cells ((encCred x576).toArray : Array Value) 83 (0, 0))], R1091] [0, 1, 2] [2, 0, 1] ((R7 ++ L1117)) (by decide) rfl rfl) h_a0 ((((hle5.trans hle957).trans hle970).trans hle977).trans hle1119) hs1090 rfl (args2 rfl rfl) hr1133 (fun W1134 μ1135 R1137 hST hle1136 hI1138 => ?_))
        replace hST : ST (keys (R_s0 ++ [])) w _ _ ((b1129, Obj.cells ((encRole x1068).toArray : Array Value) 47 (0, 0)) :: ((b963, Obj.cells ((encCred x576).toArray : Array Value) 83 (0, 0)) :: (R1137 ++ (R7 ++ L1117)))) := hST.perm (permD [R1137, [(b1129, Obj.cells ((encRole x1068).toArray : Array Value) 47 (0, 0))], [(b963, Obj.cells ((encCred x576).toArray : Array Value) 83 (0, 0))]] [0, 1, 2] [1, 2, 0] ((R7 ++ L1117)) (by decide) rfl rfl)
        refine LW_v (.inl rfl) rfl (by decide) (R_not (b := r1132.1) rfl) ?_
        refine LW_nil ?_
        refine sq_n ?_
        replace hST : ST (keys (R_s0 ++ [])) w _ _ ((b1129, Obj.cells ((encRole x1068).toArray : Array Value) 47 (0, 0)) :: ((b963, Obj.cells ((encCred x576).toArray : Array Value) 83 (0, 0)) :: (R1137 ++ (R7 ++ L1117)))) := hST
        replace hST : ST (keys (R_s0 ++ [])) w _ _ ((b963, Obj.cells ((encCred x576).toArray : Array Value) 83 (0, 0)) :: (R1137 ++ (R7 ++ L1117))) := hST.sublist (List.Sublist.cons _ (List.Sublist.refl _))
        refine CW_if (b := (!r1132.1)) rfl (fun hb1139 => ?_) (fun hb1139 => ?_)
        · replace hm1118 := if_t hb1139 hm1118
          refine CW_ret ?_
          refine bq_r (sq_r (bq_r (sq_r (bq_r (sq_r (bq_r (sq_r ?_)))))))
          replace hm1118 := Option.some.inj hm1118; subst hm1118
          replace hm1066 : some r1132.2 = some r := hm1066
          replace hm1066 := Option.some.inj hm1066; subst hm1066
          refine retQ_0 rfl ?_
          replace hST : ST (keys (R_s0 ++ [])) w _ _ ((b963, Obj.cells ((encCred x576).toArray : Array Value) 83 (0, 0)) :: (R1137 ++ (R7 ++ L1117))) := hST
          exact ⟨_, (R1137 ++ []), rfl, (ST.backM (L1 := (R1137 ++ [])) (by have hh : ST (keys (R_s0 ++ [])) w _ _ (R1137 ++ ((b963, Obj.cells ((encCred x576).toArray : Array Value) 83 (0, 0)) :: (R7 ++ L1117))) := hST.perm (permD [[(b963, Obj.cells ((encCred x576).toArray : Array Value) 83 (0, 0))], R1137] [0, 1] [1, 0] ((R7 ++ L1117)) (by decide) rfl rfl); simpa only [List.append_assoc, List.cons_append, List.nil_append] using hh)), R1137, rfl, rfl, hI1138⟩
        · replace hm1118 := if_f hb1139 hm1118
          refine CW_skip ?_
          refine bq_n ?_
          refine sq_n ?_
          exact ⟨eI, r1132.2, R1137, μ1135, _, ⟨rfl, eN⟩, (hle1119.trans hle1136), (hST.sublist (List.Sublist.refl _)), e1120, e1121, e1122, e1123, e1124, e1125, hI1138, (by rw [hx1072]; exact hm1118)⟩
      · rintro E W ⟨s1089, R1091, μ1088, L1117, ⟨eI, eN⟩, hle1119, hST, e1120, e1121, e1122, e1123, e1124, e1125, hs1090, hm1118⟩
        rw [List.drop_length] at hm1118
        rw [m_graph_Graph_Edges_c1_s_L2] at hm1118
        refine sq_n ?_
        replace hm1118 := Option.some.inj hm1118; subst hm1118
        exact ⟨s1089, R1091, μ1088, _, hle1119, (hST.sublist (List.Sublist.cons _ (List.Sublist.refl _))), e1120, e1122, e1123, e1124, hs1090, hm1066⟩
    · rintro E W ⟨s1054, R1056, μ1053, L1057, hle1059, hST, e1060, e1061, e1062, e1063, hs1055, hm1058⟩
      refine bq_n ?_
      refine sq_n ?_
      exact ⟨e1063, s1054, R1056, μ1053, _, ⟨rfl, e1062⟩, (((hle957.trans hle970).trans hle977).trans hle1059), (hST.sublist (List.Sublist.refl _)), e1060, e1061, hs1055, (by rw [hx580]; exact hm1058)⟩
  · rintro E W ⟨s764, R766, μ763, L955, ⟨eI, eN⟩, hle957, hST, e958, e959, hs765, hm956⟩
    rw [List.drop_length] at hm956
    rw [m_graph_Graph_Edges_c1_s_L1] at hm956
    refine sq_n ?_
    replace hST : ST (keys (R_s0 ++ [])) w _ _ (R766 ++ (R7 ++ L955)) := hST
    replace hST : ST (keys (R_s0 ++ [])) w _ _ (R766 ++ L955) := hST.sublist (List.Sublist.append (List.Sublist.refl _) ((List.Sublist.refl _).trans (List.sublist_append_right _ _)))
    refine retQ_n ?_
    replace hm956 := Option.some.inj hm956; subst hm956
    refine retQ_0 rfl ?_
    replace hST : ST (keys (R_s0 ++ [])) w _ _ (R766 ++ L955) := hST
    exact ⟨_, (R766 ++ []), rfl, (ST.backM (L1 := (R766 ++ [])) (by have hh : ST (keys (R_s0 ++ [])) w _ _ (R766 ++ L955) := hST.perm (List.Perm.refl _); simpa only [List.append_assoc, List.cons_append, List.nil_append] using hh)), R766, rfl, rfl, hs765⟩

theorem w_law22_first_c1_w (a0 : Role) (a1 : Role) (b_c0 : Nat) (c0 : Int) (b_c1 : Nat) (c1 : Role) (b_c2 : Nat) (c2 : Role) (r : (Bool × Int)) (w : World) {μ0 : Mem} (hH : Held ((b_c0, Obj.cells (#[(.int .i64 c0)] : Array Value) 3 (0, 0)) :: ((b_c1, Obj.cells ((encRole c1).toArray : Array Value) 47 (0, 0)) :: ((b_c2, Obj.cells ((encRole c2).toArray : Array Value) 47 (0, 0)) :: []))) w) (hN : ((((b_c0, Obj.cells (#[(.int .i64 c0)] : Array Value) 3 (0, 0)) :: ((b_c1, Obj.cells ((encRole c1).toArray : Array Value) 47 (0, 0)) :: ((b_c2, Obj.cells ((encRole c2).toArray : Array Value) 47 (0, 0)) :: []))) : List (Nat × Obj)).map (·.1)).Nodup) (hS0 : Sub μ0 (hpx w ((b_c0, Obj.cells (#[(.int .i64 c0)] : Array Value) 3 (0, 0)) :: ((b_c1, Obj.cells ((encRole c1).toArray : Array Value) 47 (0, 0)) :: ((b_c2, Obj.cells ((encRole c2).toArray : Array Value) 47 (0, 0)) :: [])))))  (hm : m_law22_first_c1_w a0 a1 c0 c1 c2 = some r) :
    GivesM Tryz.prog 71 [(.agg (encRole a0).toArray), (.agg (encRole a1).toArray), (.pointer (some ⟨b_c0, 0, none⟩)), (.pointer (some ⟨b_c1, 0, none⟩)), (.pointer (some ⟨b_c2, 0, none⟩))] w ((b_c0, Obj.cells (#[(.int .i64 c0)] : Array Value) 3 (0, 0)) :: ((b_c1, Obj.cells ((encRole c1).toArray : Array Value) 47 (0, 0)) :: ((b_c2, Obj.cells ((encRole c2).toArray : Array Value) 47 (0, 0)) :: []))) (fun v L1 W' => v = (.bool (r.1)) ∧ L1 = ((b_c0, Obj.cells (#[(.int .i64 (r.2))] : Array Value) 3 (0, 0)) :: ((b_c1, Obj.cells ((encRole c1).toArray : Array Value) 47 (0, 0)) :: ((b_c2, Obj.cells ((encRole c2).toArray : Array Value) 47 (0, 0)) :: [])))) := by
  have hST := (ST.startM hH hN).weak hS0
  unfold m_law22_first_c1_w at hm
  refine calls_of_CW (n := 18) Tryz.func71 rfl rfl (Nat.le_of_ble_eq_true rfl) ?_
  refine CW_seq ?_
  refine CW_region ?_
  refine LW_e (.inl rfl) rfl (by decide) (E_box (v := (.agg (encRole a0).toArray)) hST rfl (fun W2 b1 hST => ?_))
  refine LW_e (.inl rfl) rfl (by decide) (E_box (v := (.agg (encRole a1).toArray)) hST rfl (fun W4 b3 hST => ?_))
  refine LW_v (.inl rfl) rfl (by decide) (R_assign (v := (.bool false)) rfl) ?_
  refine LW_nil ?_
  refine sq_n ?_
  refine CW_seq ?_
  refine CW_region ?_
  refine LW_v (.inl rfl) rfl (by decide) (R_load (v := (.int .i64 c0)) rfl (load_box1 hST.has (.tail _ (.tail _ (.head _))) rfl Tryz.isAgg3)) ?_
  refine LW_v (.inl rfl) rfl (by decide) (R_int (k := .i64) (a := c0) (b := 1) (v := (.int .i64 ((IntKind.i64.wrap (c0 + 1))))) rfl rfl rfl) ?_
  refine LW_e0 (.inl rfl) rfl (E_store [_, _] (.int .i64 ((IntKind.i64.wrap (c0 + 1)))) (#[(.int .i64 ((IntKind.i64.wrap (c0 + 1))))]) hST rfl rfl Tryz.sizeOf3 (oneI _ ((IntKind.i64.wrap (c0 + 1)))) (Nat.le_of_ble_eq_true rfl) rfl (fun W5 hST => ?_))
  refine LW_nil ?_
  refine sq_n ?_
  refine CW_seq ?_
  obtain ⟨s11, hm12, hm13⟩ := bind_some hm
  refine CW_cut (fun E W => ∃ (x7 : Bool) (L8 : List (Nat × Obj)), ST (keys ((b_c0, Obj.cells (#[(.int .i64 c0)] : Array Value) 3 (0, 0)) :: ((b_c1, Obj.cells ((encRole c1).toArray : Array Value) 47 (0, 0)) :: ((b_c2, Obj.cells ((encRole c2).toArray : Array Value) 47 (0, 0)) :: [])))) w W μ0 ((b_c0, Obj.cells (#[(.int .i64 ((IntKind.i64.wrap (c0 + 1))))] : Array Value) 3 (0, 0)) :: ((b_c1, Obj.cells ((encRole c1).toArray : Array Value) 47 (0, 0)) :: ((b_c2, Obj.cells ((encRole c2).toArray : Array Value) 47 (0, 0)) :: L8))) ∧ E 7 = (.bool x7) ∧ some (x7, (IntKind.i64.wrap (c0 + 1))) = some r) ?_ ?_
  · refine CW_region ?_
    refine LW_v (.inl rfl) rfl (by decide) (R_load (v := (.agg (encRole a0).toArray)) rfl (load_boxA hST.has (.tail _ (.head _)) (encRole a0) rfl Tryz.isAgg47 Tryz.sizeOf47)) ?_
    refine LW_v (.inl rfl) rfl (by decide) (R_load (v := (.agg (encRole c1).toArray)) rfl (load_boxA hST.has (.tail _ (.tail _ (.tail _ (.head _)))) (encRole c1) rfl Tryz.isAgg47 Tryz.sizeOf47)) ?_
    refine LW_v (.inl rfl) rfl (by decide) (R_eql (a := (encRole a0).toArray) (b := (encRole c1).toArray) rfl rfl (guard_agg Tryz.eqGuardType47) (bin_eql (eqInRole _ a0 c1))) ?_
    refine LW_v (.inl rfl) rfl (by decide) (R_move (v := (.bool ((beqRole a0 c1)))) rfl) ?_
    rcases bool_cases ((beqRole a0 c1)) with hb14 | hb14
    · replace hm12 := if_t hb14 hm12
      refine LW_v (.inr ⟨3, true, 13, rfl, rfl, by decide, (congrArg Value.bool hb14)⟩) rfl (by decide) (R_load (v := (.agg (encRole a1).toArray)) rfl (load_boxA hST.has (.head _) (encRole a1) rfl Tryz.isAgg47 Tryz.sizeOf47)) ?_
      refine LW_v (.inr ⟨3, true, 13, rfl, rfl, by decide, (congrArg Value.bool hb14)⟩) rfl (by decide) (R_load (v := (.agg (encRole c2).toArray)) rfl (load_boxA hST.has (.tail _ (.tail _ (.tail _ (.tail _ (.head _))))) (encRole c2) rfl Tryz.isAgg47 Tryz.sizeOf47)) ?_
      refine LW_v (.inr ⟨3, true, 13, rfl, rfl, by decide, (congrArg Value.bool hb14)⟩) rfl (by decide) (R_eql (a := (encRole a1).toArray) (b := (encRole c2).toArray) rfl rfl (guard_agg Tryz.eqGuardType47) (bin_eql (eqInRole _ a1 c2))) ?_
      refine LW_v (.inl rfl) rfl (by decide) (R_pickT (v := (.bool ((beqRole a1 c2)))) (congrArg Value.bool hb14) rfl) ?_
      refine LW_v (.inl rfl) rfl (by decide) (R_assign (v := (.bool ((beqRole a1 c2)))) rfl) ?_
      refine LW_nil ?_
      refine sq_n ?_
      replace hm12 := Option.some.inj hm12; subst hm12
      exact ⟨((beqRole a1 c2)), _, (hST.sublist (List.Sublist.cons _ (List.Sublist.cons _ (List.Sublist.refl _)))), rfl, hm13⟩
    · replace hm12 := if_f hb14 hm12
      refine LW_no rfl (by decide) rfl rfl (by decide) (congrArg Value.bool hb14) ?_
      refine LW_no rfl (by decide) rfl rfl (by decide) (congrArg Value.bool hb14) ?_
      refine LW_no rfl (by decide) rfl rfl (by decide) (congrArg Value.bool hb14) ?_
      refine LW_v (.inl rfl) rfl (by decide) (R_pickF (v := (.bool false)) (congrArg Value.bool hb14) rfl) ?_
      refine LW_v (.inl rfl) rfl (by decide) (R_assign (v := (.bool false)) rfl) ?_
      refine LW_nil ?_
      refine sq_n ?_
      replace hm12 := Option.some.inj hm12; subst hm12
      exact ⟨false, _, (hST.sublist (List.Sublist.cons _ (List.Sublist.cons _ (List.Sublist.refl _)))), rfl, hm13⟩
  · rintro E W ⟨x7, L8, hST, e10, hm9⟩
    refine CW_ret ?_
    replace hm9 := Option.some.inj hm9; subst hm9
    refine retQ_1 (v := (.bool x7)) rfl e10 ?_
    replace hST : ST (keys ((b_c0, Obj.cells (#[(.int .i64 c0)] : Array Value) 3 (0, 0)) :: ((b_c1, Obj.cells ((encRole c1).toArray : Array Value) 47 (0, 0)) :: ((b_c2, Obj.cells ((encRole c2).toArray : Array Value) 47 (0, 0)) :: [])))) w _ _ ((b_c0, Obj.cells (#[(.int .i64 ((IntKind.i64.wrap (c0 + 1))))] : Array Value) 3 (0, 0)) :: ((b_c1, Obj.cells ((encRole c1).toArray : Array Value) 47 (0, 0)) :: ((b_c2, Obj.cells ((encRole c2).toArray : Array Value) 47 (0, 0)) :: L8))) := hST
    exact ⟨_, ((b_c0, Obj.cells (#[(.int .i64 ((IntKind.i64.wrap (c0 + 1))))] : Array Value) 3 (0, 0)) :: ((b_c1, Obj.cells ((encRole c1).toArray : Array Value) 47 (0, 0)) :: ((b_c2, Obj.cells ((encRole c2).toArray : Array Value) 47 (0, 0)) :: []))), rfl, (ST.backM (L1 := ((b_c0, Obj.cells (#[(.int .i64 ((IntKind.i64.wrap (c0 + 1))))] : Array Value) 3 (0, 0)) :: ((b_c1, Obj.cells ((encRole c1).toArray : Array Value) 47 (0, 0)) :: ((b_c2, Obj.cells ((encRole c2).toArray : Array Value) 47 (0, 0)) :: [])))) (by have hh : ST (keys ((b_c0, Obj.cells (#[(.int .i64 c0)] : Array Value) 3 (0, 0)) :: ((b_c1, Obj.cells ((encRole c1).toArray : Array Value) 47 (0, 0)) :: ((b_c2, Obj.cells ((encRole c2).toArray : Array Value) 47 (0, 0)) :: [])))) w _ _ ((b_c0, Obj.cells (#[(.int .i64 ((IntKind.i64.wrap (c0 + 1))))] : Array Value) 3 (0, 0)) :: ((b_c1, Obj.cells ((encRole c1).toArray : Array Value) 47 (0, 0)) :: ((b_c2, Obj.cells ((encRole c2).toArray : Array Value) 47 (0, 0)) :: L8))) := hST.perm (List.Perm.refl _); simpa only [List.append_assoc, List.cons_append, List.nil_append] using hh)), rfl, rfl⟩

theorem w_graph_Graph_Targets (b_a0 : Nat) (v_a0_all : Value) (a0_all : List Cred) (v_a0_targets : Value) (a0_targets : List (Role × Bool)) (v_a0_words : Value) (a0_words : List (ByteArray × Bool)) (v_a0_relevant : Value) (a0_relevant : List (Cred × Bool)) (r : List Role) (w : World) (h_a0_all : Sl (Pl encCred) 9 (hp w) v_a0_all a0_all) (h_a0_targets : MapAt (fun (x : Role) => (.agg (encRole x).toArray)) (fun (x : Bool) => (Value.bool x)) (hp w) v_a0_targets a0_targets) (h_a0_words : MapAt Value.string (fun (x : Bool) => (Value.bool x)) (hp w) v_a0_words a0_words) (h_a0_relevant : MapAt (fun (x : Cred) => (.agg (encCred x).toArray)) (fun (x : Bool) => (Value.bool x)) (hp w) v_a0_relevant a0_relevant) (hA_a0 : At (hp w) (.pointer (some ⟨b_a0, 0, none⟩)) [v_a0_all, v_a0_targets, v_a0_words, v_a0_relevant]) (hm : m_graph_Graph_Targets a0_all a0_targets a0_words a0_relevant = some r) :
    GivesRow Tryz.prog 21 [(.pointer (some ⟨b_a0, 0, none⟩))] w 47 encRole 2 r := by
  have hST := ST.start w
  unfold m_graph_Graph_Targets at hm
  refine calls_of_CW (n := 22) Tryz.func21 rfl rfl (Nat.le_of_ble_eq_true rfl) ?_
  refine CW_seq ?_
  refine CW_region ?_
  refine LW_v (.inl rfl) rfl (by decide) (R_assign (v := (.slice none 0 0)) rfl) ?_
  refine LW_nil ?_
  refine sq_n ?_
  refine CW_seq ?_
  refine CW_seq ?_
  refine CW_region ?_
  refine LW_v (.inl rfl) rfl (by decide) (R_move (v := (.pointer (some ⟨b_a0, 0, none⟩))) rfl) ?_
  refine LW_v (.inl rfl) rfl (by decide) (R_ptrEqNil Tryz.underlying31 rfl rfl) ?_
  refine LW_nil ?_
  refine sq_n ?_
  refine CW_if_false rfl ?_
  refine CW_skip ?_
  refine sq_n ?_
  refine CW_seq ?_
  refine CW_region ?_
  refine LW_v (.inl rfl) rfl (by decide) (R_assign (v := (.slice none 0 0)) rfl) ?_
  refine LW_nil ?_
  refine sq_n ?_
  refine CW_seq ?_
  refine CW_seq ?_
  refine CW_region ?_
  refine LW_v (.inl rfl) rfl (by decide) (R_move (v := (.pointer (some ⟨b_a0, 0, none⟩))) rfl) ?_
  refine LW_v (.inl rfl) rfl (by decide) (R_nilCheck rfl) ?_
  refine LW_q (.inl rfl) rfl (by decide) (R_fieldAt [v_a0_targets] fa122_1 rfl hA_a0 rfl) (fun p1 hp2 => ?_)
  refine LW_v (.inl rfl) rfl (by decide) (R_load rfl (load_at1 hST.has (y := v_a0_targets) hp2 Tryz.isAgg118)) ?_
  refine LW_e (.inl rfl) rfl (by decide) (E_rangeM (M := (hp w)) Tryz.underlying118 hST rfl h_a0_targets (fun b o hb => hST.mem b o hb) (fun W4 v5 R6 hST hI7 => ?_))
  refine LW_nil ?_
  refine sq_n ?_
  refine CW_block (CW_loop (fun m E W => ∃ (v89 : Value) (l90 : List Role) (R92 : List (Nat × Obj)) (L75 : List (Nat × Obj)) (lf68 : List (Role × Bool)) (R69 : List (Nat × Obj)), m = lf68.length ∧ ST NoF w W (hp w) (R92 ++ (R69 ++ L75)) ∧ E 3 = v89 ∧ E 11 = v5 ∧ Iter (fun (x : Role) => (.agg (encRole x).toArray)) (fun (x : Bool) => (Value.bool x)) (hp w) v5 lf68 R69 ∧ Row 47 encRole 2 v89 l90 R92 ∧ (∀ o : List (Role × Bool), o.Perm lf68 → m_graph_Graph_Targets_L1 o l90 = some r)) _ ⟨(.slice none 0 0), ([]), [], [], a0_targets, R6, rfl, (hST.sublist (List.Sublist.refl _)), rfl, rfl, hI7, (Row.nil _ _ _), (allOrders_spec hm)⟩ ?_)
  rintro m E W ⟨v89, l90, R92, L75, lf68, R69, rfl, hST, e109, eit, hI70, hs91, hm76⟩
  refine CW_seq (CW_region (LW_e (.inl rfl) rfl (by decide) (E_nextM ([] ++ (R92)) (by simpa only [List.append_assoc, List.cons_append, List.nil_append, List.singleton_append] using hST) (fun b o hb => hST.mem b o hb) hI70 eit (fun hend => ?_) (fun W77 R73 p66 lf72 hp74 hST hA71 => ?_))))
  · subst hend
    replace hm76 := hm76 [] (List.Perm.refl _)
    rw [m_graph_Graph_Targets_L1] at hm76
    refine LW_v (.inl rfl) rfl (by decide) (R_extract (v := .bool false) rfl rfl) (LW_nil (sq_n (CW_seq ?_)))
    refine CW_if_false rfl (CW_exit (sq_e (sq_e (bq_e ?_))))
    refine sq_n ?_
    refine CW_seq ?_
    refine CW_region ?_
    refine LW_v (.inl rfl) rfl (by decide) (R_move (v := v89) e109) ?_
    obtain ⟨r124, hr125, hm76⟩ := bind_some hm76
    replace hST : ST NoF w _ _ (R92 ++ (R69 ++ L75)) := hST
    have hsz := hST.size
    refine LW_e (.inl rfl) rfl (by decide) (E_givesRow (args := [v89]) [] _ hST rfl Tryz.call78 (by exact args1 rfl) (w_role_Set v89 l90 _ _ (hs91.sl lenRole (fun b o hq => hST.at_ (List.mem_append_left _ hq))) hr125) (fun W126 v129 μ127 R130 hST hle128 hR131 => ?_))
    refine LW_v (.inl rfl) rfl (by decide) (R_assign (v := v129) rfl) ?_
    refine LW_nil ?_
    refine sq_n ?_
    replace hST : ST NoF w _ _ (R130 ++ (R92 ++ (R69 ++ L75))) := hST
    replace hST : ST NoF w _ _ (R130 ++ (R69 ++ L75)) := hST.sublist (List.Sublist.append (List.Sublist.refl _) ((List.Sublist.refl _).trans (List.sublist_append_right _ _)))
    refine CW_ret ?_
    replace hm76 := Option.some.inj hm76; subst hm76
    refine retQ_1 (v := v129) rfl rfl ?_
    exact ⟨_, R130, rfl, hST.backRow (fun p hq => by simp [hq]) hR131.nd, hR131⟩
  · try simp only [List.append_assoc, List.cons_append, List.nil_append] at hST
    replace hST : ST NoF w _ _ (R92 ++ (R73 ++ L75)) := hST
    obtain ⟨s110, hm111, hm112⟩ := bind_all (Q := fun o => List.Perm o lf72) (s := ((((appB 32 l90 ([p66.1]))).bind fun l118 => some l118) : Option (List Role))) (f := (fun o => fun l90 => m_graph_Graph_Targets_L1 o l90)) (t := r) lf72 (List.Perm.refl _) (fun o ho => by have hh := hm76 (p66 :: o) ((List.Perm.cons p66 ho).trans hp74.symm); rw [m_graph_Graph_Targets_L1] at hh; exact hh)
    refine LW_v (.inl rfl) rfl (by decide) (R_extract (v := .bool true) rfl rfl) (LW_nil (sq_n (CW_seq ?_)))
    refine CW_if_true rfl (CW_skip (sq_n (CW_block ?_)))
    refine CW_seq ?_
    refine CW_region ?_
    refine LW_v (.inl rfl) rfl (by decide) (R_entryM (fun q hq => (hST.box q.1 q.2 (List.mem_append_right _ (List.mem_append_left _ hq))).1) (fun b o hb => hST.mem b o hb) hA71 eit) ?_
    refine LW_v (.inl rfl) rfl (by decide) (R_extract (v := (.agg (encRole p66.1).toArray)) rfl rfl) ?_
    refine LW_e (.inl rfl) rfl (by decide) (E_alloc hST Tryz.zeroValue47 (fun W114 b113 hST => ?_))
    refine LW_e0 (.inl rfl) rfl (E_store [] (.agg (encRole p66.1).toArray) ((encRole p66.1).toArray) hST rfl rfl Tryz.sizeOf47 (oneRole p66.1) (Nat.le_of_ble_eq_true rfl) rfl (fun W115 hST => ?_))
    refine LW_nil ?_
    refine sq_n ?_
    refine CW_region ?_
    refine LW_v (.inl rfl) rfl (by decide) (R_move (v := v89) e109) ?_
    refine LW_v (.inl rfl) rfl (by decide) (R_load (v := (.agg (encRole p66.1).toArray)) rfl (load_boxA hST.has (.head _) (encRole p66.1) rfl Tryz.isAgg47 Tryz.sizeOf47)) ?_
    refine LW_e (.inl rfl) rfl (by decide) (E_buildSlice (qs := #[(0, (.agg (encRole p66.1).toArray))]) (cs := (encRole p66.1).toArray) hST (parts1 rfl) (run_lit [(.agg (encRole p66.1).toArray)] Tryz.underlying23 Tryz.sizeOf47 Tryz.zeroValue47 (by decide) rfl (by intro v hv; simp only [List.mem_cons, List.not_mem_nil, or_false] at hv; rcases hv with rfl <;> rfl) rfl rfl) (fun W117 b116 hST => ?_))
    obtain ⟨l118, hb119, hm111⟩ := bind_some hm111
    refine LW_e (.inl rfl) rfl (by decide) (E_append (enc := encRole) (v := v89) (vs := (.slice (some ⟨b116, 0, none⟩) 1 1)) (R := R92) [_, _] hST lenRole (by decide) oneRole Tryz.underlying23 info47.1 info47.2.1 rfl info47.2.2.1 info47.2.2.2 rfl rfl hs91 (Sl.lit (enc := encRole) (l := [p66.1]) lenRole rfl (Nat.le_of_ble_eq_true rfl) rfl (hST.at_ (.head _))) hb119 (fun W120 v123 R121 hST hR122 => ?_))
    refine LW_v (.inl rfl) rfl (by decide) (R_assign (v := v123) rfl) ?_
    refine LW_nil ?_
    refine bq_n ?_
    refine sq_n ?_
    replace hST : ST NoF w _ _ ((b116, Obj.cells ((encRole p66.1).toArray : Array Value) 47 (0, 0)) :: ((b113, Obj.cells ((encRole p66.1).toArray : Array Value) 47 (0, 0)) :: (R121 ++ (R73 ++ L75)))) := hST
    replace hST : ST NoF w _ _ (R121 ++ (R73 ++ L75)) := hST.sublist (List.Sublist.cons _ (List.Sublist.cons _ (List.Sublist.refl _)))
    replace hm111 := Option.some.inj hm111; subst hm111
    exact ⟨_, by simp [hp74.length_eq], v123, l118, R121, _, lf72, R73, rfl, (hST.sublist (List.Sublist.refl _)), rfl, eit, hA71.iter, hR122, hm112⟩

theorem w_sortS135 (v_a0 : Value) (a0 : List ByteArray) (R_a0 : List (Nat × Obj)) (r : List ByteArray) (w : World) {μ0 : Mem} (hH : Held (R_a0 ++ []) w) (hN : (((R_a0 ++ []) : List (Nat × Obj)).map (·.1)).Nodup) (hS0 : Sub μ0 (hpx w (R_a0 ++ []))) (h_a0 : Row 9 encS 1 v_a0 a0 R_a0) (hm : sortS a0 = some r) :
    GivesM Tryz.prog 135 [v_a0] w (R_a0 ++ []) (fun v L1 W' => ∃ (S : List (Nat × Obj)), v = (.tuple #[]) ∧ L1 = (S ++ []) ∧ Row 9 encS 1 v_a0 r S) := sortS_gives (P := Tryz.prog) (ρ := ren135) lay135 hH h_a0 hm

theorem w_slices_Compact_string (v_a0 : Value) (a0 : List ByteArray) (R_a0 : List (Nat × Obj)) (r : List ByteArray) (w : World) {μ0 : Mem} (hH : Held (R_a0 ++ []) w) (hN : (((R_a0 ++ []) : List (Nat × Obj)).map (·.1)).Nodup) (hS0 : Sub μ0 (hpx w (R_a0 ++ []))) (h_a0 : Row 9 encS 1 v_a0 a0 R_a0) (hm : m_slices_Compact_string a0 = some r) :
    GivesM Tryz.prog 136 [v_a0] w (R_a0 ++ []) (fun v L1 W' => ∃ (y1 : Value) (S2 : List (Nat × Obj)), v = y1 ∧ L1 = (S2 ++ []) ∧ Row 9 encS 1 y1 r S2) := by
  have hST := (ST.startM hH hN).weak hS0
  unfold m_slices_Compact_string at hm
  refine calls_of_CW (n := 61) Tryz.func136 rfl rfl (Nat.le_of_ble_eq_true rfl) ?_
  refine CW_seq ?_
  refine CW_region ?_
  refine LW_v (.inl rfl) rfl (by decide) (R_assign (v := (.slice none 0 0)) rfl) ?_
  refine LW_nil ?_
  refine sq_n ?_
  refine CW_seq ?_
  refine CW_seq ?_
  refine CW_region ?_
  refine LW_v (.inl rfl) rfl (by decide) (R_move (v := v_a0) rfl) ?_
  refine LW_v (.inl rfl) rfl (by decide) (R_lenRow Tryz.underlying27 rfl h_a0) ?_
  refine LW_v (.inl rfl) rfl (by decide) (R_int (k := .i64) (a := ((a0.length : Int))) (b := 2) (v := (.bool ((decide (((a0.length : Int)) < 2))))) rfl rfl rfl) ?_
  refine LW_nil ?_
  refine sq_n ?_
  refine CW_if (b := (decide (((a0.length : Int)) < 2))) rfl (fun hb1 => ?_) (fun hb1 => ?_)
  · replace hm := if_t hb1 hm
    refine CW_seq ?_
    refine CW_region ?_
    refine LW_v (.inl rfl) rfl (by decide) (R_move (v := v_a0) rfl) ?_
    refine LW_v (.inl rfl) rfl (by decide) (R_assign (v := v_a0) rfl) ?_
    refine LW_nil ?_
    refine sq_n ?_
    refine CW_ret ?_
    refine sq_r ?_
    replace hm := Option.some.inj hm; subst hm
    refine retQ_1 (v := v_a0) rfl rfl ?_
    replace hST : ST (keys (R_a0 ++ [])) w _ _ (R_a0 ++ []) := hST
    exact ⟨_, (R_a0 ++ []), rfl, (ST.backM (L1 := (R_a0 ++ [])) (by have hh : ST (keys (R_a0 ++ [])) w _ _ (R_a0 ++ []) := hST.perm (List.Perm.refl _); simpa only [List.append_assoc, List.cons_append, List.nil_append] using hh)), v_a0, R_a0, rfl, rfl, h_a0⟩
  · replace hm := if_f hb1 hm
    refine CW_skip ?_
    refine sq_n ?_
    refine CW_seq ?_
    refine CW_seq ?_
    refine CW_region ?_
    refine LW_v (.inl rfl) rfl (by decide) (R_assign (v := (.int .i64 1)) rfl) ?_
    refine LW_nil ?_
    refine sq_n ?_
    refine CW_block (CW_loop (fun m E W => ∃ (x2371 : Int) (L2965 : List (Nat × Obj)), ST (keys (R_a0 ++ [])) w W μ0 (R_a0 ++ L2965) ∧ E 0 = v_a0 ∧ E 3 = (.int .i64 x2371) ∧ m_slices_Compact_string_L1 a0 m x2371 = some r) FUEL ⟨1, _, (hST.sublist (List.Sublist.refl _)), rfl, rfl, hm⟩ ?_)
    rintro m E W ⟨x2371, L2965, hST, e2968, e2969, hm2966⟩
    cases m with
    | zero => rw [m_slices_Compact_string_L1] at hm2966; cases hm2966
    | succ n2967 =>
      rw [m_slices_Compact_string_L1] at hm2966
      refine CW_seq ?_
      refine CW_seq ?_
      refine CW_region ?_
      refine LW_v (.inl rfl) rfl (by decide) (R_move (v := (.int .i64 x2371)) e2969) ?_
      refine LW_v (.inl rfl) rfl (by decide) (R_move (v := v_a0) e2968) ?_
      refine LW_v (.inl rfl) rfl (by decide) (R_lenRow Tryz.underlying27 rfl h_a0) ?_
      refine LW_v (.inl rfl) rfl (by decide) (R_int (k := .i64) (a := x2371) (b := ((a0.length : Int))) (v := (.bool ((decide (x2371 < ((a0.length : Int))))))) rfl rfl rfl) ?_
      refine LW_nil ?_
      refine sq_n ?_
      refine CW_if (b := (decide (x2371 < ((a0.length : Int))))) rfl (fun hb2970 => ?_) (fun hb2970 => ?_)
      · replace hm2966 := if_t hb2970 hm2966
        refine CW_skip ?_
        refine sq_n ?_
        refine CW_seq ?_
        refine CW_block ?_
        refine CW_seq ?_
        refine PW_start (Has μ0 (R_a0 ++ [])) Tryz_mixed ?_
        replace hST := hST.drew
        have hSS : (Has μ0 (R_a0 ++ []) _) := ((show ST (keys (R_a0 ++ [])) w _ _ (R_a0 ++ L2965) from hST).has.sub (Sub.refl _) (fun p hq => ((List.mem_append.1 hq).elim (fun hq => (List.mem_append_left _ hq)) (fun hq => (absurd hq List.not_mem_nil)))))
        refine PW_v 0 rfl (by kernel_rfl) (by kernel_rfl) (by kernel_rfl) (.inl rfl) rfl (by decide) hSS (fun W hS => R_move (v := v_a0) e2968) ?_
        refine PW_v 1 rfl (by kernel_rfl) (by kernel_rfl) (by kernel_rfl) (.inl rfl) rfl (by decide) hSS (fun W hS => R_move (v := (.int .i64 x2371)) e2969) ?_
        obtain ⟨x2984, hx2985, hm2966⟩ := bind_some hm2966
        refine PW_q 2 rfl (by kernel_rfl) (by kernel_rfl) (by kernel_rfl) (.inl rfl) rfl (by decide) hSS (R_indexRow (i := x2371) (x0 := x2984) Tryz.underlying27 Tryz.sizeOf9 rfl rfl h_a0 (idx_nonneg hx2985) (idx_get hx2985)) (fun p2981 hp2982 => ?_)
        refine PW_v 3 rfl (by kernel_rfl) (by kernel_rfl) (by kernel_rfl) (.inl rfl) rfl (by decide) hSS (fun W hS => R_load (v := (.string x2984)) rfl (load_ix1 hS (fun p hq => by simp [hq]) h_a0 (fun _ => rfl) hp2982 (idx_get hx2985) (y := (.string x2984)) rfl Tryz.isAgg9)) ?_
        refine PW_v 4 rfl (by kernel_rfl) (by kernel_rfl) (by kernel_rfl) (.inl rfl) rfl (by decide) hSS (fun W hS => R_move (v := v_a0) e2968) ?_
        refine PW_v 5 rfl (by kernel_rfl) (by kernel_rfl) (by kernel_rfl) (.inl rfl) rfl (by decide) hSS (fun W hS => R_move (v := (.int .i64 x2371)) e2969) ?_
        refine PW_v 6 rfl (by kernel_rfl) (by kernel_rfl) (by kernel_rfl) (.inl rfl) rfl (by decide) hSS (fun W hS => R_int (k := .i64) (a := x2371) (b := 1) (v := (.int .i64 ((IntKind.i64.wrap (x2371 - 1))))) rfl rfl rfl) ?_
        obtain ⟨x2989, hx2990, hm2966⟩ := bind_some hm2966
        refine PW_q 7 rfl (by kernel_rfl) (by kernel_rfl) (by kernel_rfl) (.inl rfl) rfl (by decide) hSS (R_indexRow (i := (IntKind.i64.wrap (x2371 - 1))) (x0 := x2989) Tryz.underlying27 Tryz.sizeOf9 rfl rfl h_a0 (idx_nonneg hx2990) (idx_get hx2990)) (fun p2986 hp2987 => ?_)
        refine PW_v 8 rfl (by kernel_rfl) (by kernel_rfl) (by kernel_rfl) (.inl rfl) rfl (by decide) hSS (fun W hS => R_load (v := (.string x2989)) rfl (load_ix1 hS (fun p hq => by simp [hq]) h_a0 (fun _ => rfl) hp2987 (idx_get hx2990) (y := (.string x2989)) rfl Tryz.isAgg9)) ?_
        refine PW_v 9 rfl (by kernel_rfl) (by kernel_rfl) (by kernel_rfl) (.inl rfl) rfl (by decide) hSS (fun W hS => R_str (a := x2984) (b := x2989) (v := (.bool ((beqS x2984 x2989)))) rfl rfl rfl) ?_
        refine PW_done (by kernel_rfl) ?_
        refine sq_n ?_
        refine CW_if (b := (beqS x2984 x2989)) rfl (fun hb2991 => ?_) (fun hb2991 => ?_)
        · replace hm2966 := if_t hb2991 hm2966
          refine CW_seq ?_
          refine CW_region ?_
          refine LW_v (.inl rfl) rfl (by decide) (R_move (v := v_a0) e2968) ?_
          refine LW_v (.inl rfl) rfl (by decide) (R_move (v := (.int .i64 x2371)) e2969) ?_
          obtain ⟨_, hg2994, hm2966⟩ := bind_some hm2966
          refine LW_q (.inl rfl) rfl (by decide) (R_sliceTail (i := x2371) Tryz.underlying27 Tryz.sizeOf9 rfl rfl h_a0 (chk_1 hg2994) (chk_2 hg2994)) (fun v2992 hs2993 => ?_)
          refine LW_v (.inl rfl) rfl (by decide) (R_assign (v := v2992) rfl) ?_
          refine LW_nil ?_
          refine sq_n ?_
          refine CW_seq ?_
          refine CW_seq ?_
          refine CW_region ?_
          refine LW_v (.inl rfl) rfl (by decide) (R_assign (v := (.int .i64 1)) rfl) ?_
          refine LW_nil ?_
          refine sq_n ?_
          obtain ⟨s3285, hm3286, hm3287⟩ := bind_some hm2966
          refine CW_cut (fun E W => ∃ (l3268 : List ByteArray) (R3270 : List (Nat × Obj)) (x3271 : Int) (L3272 : List (Nat × Obj)), ST (keys (R_a0 ++ [])) w W μ0 (R3270 ++ L3272) ∧ E 0 = v_a0 ∧ E 3 = (.int .i64 x3271) ∧ Row 9 encS 1 v_a0 l3268 R3270 ∧ (((chk (decide (0 ≤ x3271) && decide (x3271 ≤ (l3268.length : Int))))).bind fun _ => (((chk (decide (0 ≤ x3271) && decide (x3271 ≤ (((clearT l3268 (Int.toNat x3271) zS)).length : Int))))).bind fun _ => some (((clearT l3268 (Int.toNat x3271) zS)).take (Int.toNat x3271)))) = some r) ?_ ?_
          · refine CW_block (CW_loop (fun m E W => ∃ (l3372 : List ByteArray) (R3374 : List (Nat × Obj)) (x3375 : Int) (x3376 : Int) (L3470 : List (Nat × Obj)), ST (keys (R_a0 ++ [])) w W μ0 (R3374 ++ L3470) ∧ E 0 = v_a0 ∧ E 3 = (.int .i64 x3375) ∧ E 4 = v2992 ∧ E 5 = (.int .i64 x3376) ∧ Row 9 encS 1 v_a0 l3372 R3374 ∧ m_slices_Compact_string_L2 x2371 m l3372 x3375 x3376 = some s3285) FUEL ⟨a0, R_a0, x2371, 1, _, (hST.sublist (List.Sublist.refl _)), e2968, e2969, rfl, rfl, h_a0, hm3286⟩ ?_)
            rintro m E W ⟨l3372, R3374, x3375, x3376, L3470, hST, e3473, e3474, e3475, e3476, hs3373, hm3471⟩
            cases m with
            | zero => rw [m_slices_Compact_string_L2] at hm3471; cases hm3471
            | succ n3472 =>
              rw [m_slices_Compact_string_L2] at hm3471
              refine CW_seq ?_
              refine CW_seq ?_
              refine CW_region ?_
              refine LW_v (.inl rfl) rfl (by decide) (R_move (v := (.int .i64 x3376)) e3476) ?_
              refine LW_v (.inl rfl) rfl (by decide) (R_move (v := v2992) e3475) ?_
              refine LW_v (.inl rfl) rfl (by decide) (R_lenTail Tryz.underlying27 rfl hs2993 hs3373) ?_
              refine LW_v (.inl rfl) rfl (by decide) (R_int (k := .i64) (a := x3376) (b := (((l3372.length - (Int.toNat x2371) : Nat) : Int))) (v := (.bool ((decide (x3376 < (((l3372.length - (Int.toNat x2371) : Nat) : Int))))))) rfl rfl rfl) ?_
              refine LW_nil ?_
              refine sq_n ?_
              refine CW_if (b := (decide (x3376 < (((l3372.length - (Int.toNat x2371) : Nat) : Int))))) rfl (fun hb3477 => ?_) (fun hb3477 => ?_)
              · replace hm3471 := if_t hb3477 hm3471
                refine CW_skip ?_
                refine sq_n ?_
                refine CW_seq ?_
                obtain ⟨s3523, hm3524, hm3525⟩ := bind_some hm3471
                refine CW_cut (fun E W => ∃ (l3513 : List ByteArray) (R3515 : List (Nat × Obj)) (x3516 : Int) (L3517 : List (Nat × Obj)), ST (keys (R_a0 ++ [])) w W μ0 (R3515 ++ L3517) ∧ E 0 = v_a0 ∧ E 3 = (.int .i64 x3516) ∧ E 4 = v2992 ∧ E 5 = (.int .i64 x3376) ∧ Row 9 encS 1 v_a0 l3513 R3515 ∧ (m_slices_Compact_string_L2 x2371 n3472 l3513 x3516 ((IntKind.i64.wrap (x3376 + 1)))) = some s3285) ?_ ?_
                · refine CW_block ?_
                  refine CW_seq ?_
                  refine PW_start (Has μ0 (R3374 ++ [])) Tryz_mixed ?_
                  replace hST := hST.drew
                  have hSS : (Has μ0 (R3374 ++ []) _) := ((show ST (keys (R_a0 ++ [])) w _ _ (R3374 ++ L3470) from hST).has.sub (Sub.refl _) (fun p hq => ((List.mem_append.1 hq).elim (fun hq => (List.mem_append_left _ hq)) (fun hq => (absurd hq List.not_mem_nil)))))
                  refine PW_v 0 rfl (by kernel_rfl) (by kernel_rfl) (by kernel_rfl) (.inl rfl) rfl (by decide) hSS (fun W hS => R_move (v := v2992) e3475) ?_
                  refine PW_v 1 rfl (by kernel_rfl) (by kernel_rfl) (by kernel_rfl) (.inl rfl) rfl (by decide) hSS (fun W hS => R_move (v := (.int .i64 x3376)) e3476) ?_
                  obtain ⟨x3539, hx3540, hm3524⟩ := bind_some hm3524
                  refine PW_q 2 rfl (by kernel_rfl) (by kernel_rfl) (by kernel_rfl) (.inl rfl) rfl (by decide) hSS (R_indexTail (i := x3376) (x0 := x3539) Tryz.underlying27 Tryz.sizeOf9 rfl rfl hs3373 hs2993 (idx_nonneg hx3540) (idx_get hx3540)) (fun p3536 hp3537 => ?_)
                  refine PW_v 3 rfl (by kernel_rfl) (by kernel_rfl) (by kernel_rfl) (.inl rfl) rfl (by decide) hSS (fun W hS => R_load (v := (.string x3539)) rfl (load_ix1 hS (fun p hq => by simp [hq]) hs3373 (fun _ => rfl) hp3537 (tail_get (idx_get hx3540)) (y := (.string x3539)) rfl Tryz.isAgg9)) ?_
                  refine PW_v 4 rfl (by kernel_rfl) (by kernel_rfl) (by kernel_rfl) (.inl rfl) rfl (by decide) hSS (fun W hS => R_move (v := v2992) e3475) ?_
                  refine PW_v 5 rfl (by kernel_rfl) (by kernel_rfl) (by kernel_rfl) (.inl rfl) rfl (by decide) hSS (fun W hS => R_move (v := (.int .i64 x3376)) e3476) ?_
                  refine PW_v 6 rfl (by kernel_rfl) (by kernel_rfl) (by kernel_rfl) (.inl rfl) rfl (by decide) hSS (fun W hS => R_int (k := .i64) (a := x3376) (b := 1) (v := (.int .i64 ((IntKind.i64.wrap (x3376 - 1))))) rfl rfl rfl) ?_
                  obtain ⟨x3544, hx3545, hm3524⟩ := bind_some hm3524
                  refine PW_q 7 rfl (by kernel_rfl) (by kernel_rfl) (by kernel_rfl) (.inl rfl) rfl (by decide) hSS (R_indexTail (i := (IntKind.i64.wrap (x3376 - 1))) (x0 := x3544) Tryz.underlying27 Tryz.sizeOf9 rfl rfl hs3373 hs2993 (idx_nonneg hx3545) (idx_get hx3545)) (fun p3541 hp3542 => ?_)
                  refine PW_v 8 rfl (by kernel_rfl) (by kernel_rfl) (by kernel_rfl) (.inl rfl) rfl (by decide) hSS (fun W hS => R_load (v := (.string x3544)) rfl (load_ix1 hS (fun p hq => by simp [hq]) hs3373 (fun _ => rfl) hp3542 (tail_get (idx_get hx3545)) (y := (.string x3544)) rfl Tryz.isAgg9)) ?_
                  refine PW_v 9 rfl (by kernel_rfl) (by kernel_rfl) (by kernel_rfl) (.inl rfl) rfl (by decide) hSS (fun W hS => R_str (a := x3539) (b := x3544) (v := (.bool ((!(beqS x3539 x3544))))) rfl rfl rfl) ?_
                  refine PW_done (by kernel_rfl) ?_
                  refine sq_n ?_
                  refine CW_if (b := (!(beqS x3539 x3544))) rfl (fun hb3546 => ?_) (fun hb3546 => ?_)
                  · replace hm3524 := if_t hb3546 hm3524
                    refine CW_seq ?_
                    refine CW_region ?_
                    refine LW_v (.inl rfl) rfl (by decide) (R_move (v := v_a0) e3473) ?_
                    refine LW_v (.inl rfl) rfl (by decide) (R_move (v := (.int .i64 x3375)) e3474) ?_
                    refine LW_v (.inl rfl) rfl (by decide) (R_move (v := v2992) e3475) ?_
                    refine LW_v (.inl rfl) rfl (by decide) (R_move (v := (.int .i64 x3376)) e3476) ?_
                    obtain ⟨x3550, hx3551, hm3524⟩ := bind_some hm3524
                    refine LW_q (.inl rfl) rfl (by decide) (R_indexTail (i := x3376) (x0 := x3550) Tryz.underlying27 Tryz.sizeOf9 rfl rfl hs3373 hs2993 (idx_nonneg hx3551) (idx_get hx3551)) (fun p3547 hp3548 => ?_)
                    refine LW_v (.inl rfl) rfl (by decide) (R_load (v := (.string x3550)) rfl (load_ix1 hST.has (fun p hq => by simp [hq]) hs3373 (fun _ => rfl) hp3548 (tail_get (idx_get hx3551)) (y := (.string x3550)) rfl Tryz.isAgg9)) ?_
                    obtain ⟨x3555, hx3556, hm3524⟩ := bind_some hm3524
                    refine LW_q (.inl rfl) rfl (by decide) (R_indexRow (i := x3375) (x0 := x3555) Tryz.underlying27 Tryz.sizeOf9 rfl rfl hs3373 (idx_nonneg hx3556) (idx_get hx3556)) (fun p3552 hp3553 => ?_)
                    refine LW_e0 (.inl rfl) rfl (E_storeRow (u := (.string x3550)) (x1 := x3550) [] hST hs3373 (fun _ => rfl) oneS rfl rfl rfl hp3553 (idx_get hx3556) Tryz.sizeOf9 (fun W3557 R3558 hST hR3559 => ?_))
                    refine LW_nil ?_
                    refine sq_n ?_
                    refine CW_region ?_
                    refine LW_v (.inl rfl) rfl (by decide) (R_move (v := (.int .i64 x3375)) e3474) ?_
                    refine LW_v (.inl rfl) rfl (by decide) (R_int (k := .i64) (a := x3375) (b := 1) (v := (.int .i64 ((IntKind.i64.wrap (x3375 + 1))))) rfl rfl rfl) ?_
                    refine LW_v (.inl rfl) rfl (by decide) (R_assign (v := (.int .i64 ((IntKind.i64.wrap (x3375 + 1))))) rfl) ?_
                    refine LW_nil ?_
                    refine bq_n ?_
                    refine sq_n ?_
                    replace hm3524 := Option.some.inj hm3524; subst hm3524
                    exact ⟨((l3372.set (Int.toNat x3375) x3550)), R3558, ((IntKind.i64.wrap (x3375 + 1))), _, (hST.sublist (List.Sublist.refl _)), e3473, rfl, e3475, e3476, hR3559, hm3525⟩
                  · replace hm3524 := if_f hb3546 hm3524
                    refine CW_skip ?_
                    refine bq_n ?_
                    refine sq_n ?_
                    replace hm3524 := Option.some.inj hm3524; subst hm3524
                    exact ⟨l3372, R3374, x3375, _, (hST.sublist (List.Sublist.refl _)), e3473, e3474, e3475, e3476, hs3373, hm3525⟩
                · rintro E W ⟨l3513, R3515, x3516, L3517, hST, e3519, e3520, e3521, e3522, hs3514, hm3518⟩
                  refine CW_region ?_
                  refine LW_v (.inl rfl) rfl (by decide) (R_move (v := (.int .i64 x3376)) e3522) ?_
                  refine LW_v (.inl rfl) rfl (by decide) (R_int (k := .i64) (a := x3376) (b := 1) (v := (.int .i64 ((IntKind.i64.wrap (x3376 + 1))))) rfl rfl rfl) ?_
                  refine LW_v (.inl rfl) rfl (by decide) (R_assign (v := (.int .i64 ((IntKind.i64.wrap (x3376 + 1))))) rfl) ?_
                  refine LW_nil ?_
                  refine sq_n ?_
                  exact ⟨n3472, Nat.lt_succ_self _, l3513, R3515, x3516, ((IntKind.i64.wrap (x3376 + 1))), _, (hST.sublist (List.Sublist.refl _)), e3519, e3520, e3521, rfl, hs3514, hm3518⟩
              · replace hm3471 := if_f hb3477 hm3471
                refine CW_exit ?_
                refine sq_e (sq_e (bq_e ?_))
                refine sq_n ?_
                replace hm3471 := Option.some.inj hm3471; subst hm3471
                exact ⟨l3372, R3374, x3375, _, (hST.sublist (List.Sublist.refl _)), e3473, e3474, hs3373, hm3287⟩
          · rintro E W ⟨l3268, R3270, x3271, L3272, hST, e3274, e3275, hs3269, hm3273⟩
            refine CW_seq ?_
            refine CW_region ?_
            refine LW_v (.inl rfl) rfl (by decide) (R_move (v := v_a0) e3274) ?_
            refine LW_v (.inl rfl) rfl (by decide) (R_move (v := (.int .i64 x3271)) e3275) ?_
            obtain ⟨_, hg3278, hm3273⟩ := bind_some hm3273
            refine LW_q (.inl rfl) rfl (by decide) (R_sliceTail (i := x3271) Tryz.underlying27 Tryz.sizeOf9 rfl rfl hs3269 (chk_1 hg3278) (chk_2 hg3278)) (fun v3276 hs3277 => ?_)
            refine LW_e0 (.inl rfl) rfl (E_clearTail (z := zS) [] hST hs3269 (fun _ => rfl) oneS Tryz.underlying27 Tryz.zeroValue9 hs3277 rfl rfl (fun W3279 R3280 hST hR3281 => ?_))
            refine LW_nil ?_
            refine sq_n ?_
            refine CW_seq ?_
            refine CW_region ?_
            refine LW_v (.inl rfl) rfl (by decide) (R_move (v := v_a0) e3274) ?_
            refine LW_v (.inl rfl) rfl (by decide) (R_move (v := (.int .i64 x3271)) e3275) ?_
            obtain ⟨_, hg3284, hm3273⟩ := bind_some hm3273
            refine LW_q (.inl rfl) rfl (by decide) (R_sliceTo (i := x3271) Tryz.underlying27 Tryz.sizeOf9 rfl rfl hR3281 (fun _ => rfl) (chk_1 hg3284) (chk_2 hg3284)) (fun v3282 hs3283 => ?_)
            refine LW_v (.inl rfl) rfl (by decide) (R_assign (v := v3282) rfl) ?_
            refine LW_nil ?_
            refine sq_n ?_
            refine CW_ret ?_
            refine bq_r (sq_r (sq_r (bq_r (sq_r ?_))))
            replace hm3273 := Option.some.inj hm3273; subst hm3273
            refine retQ_1 (v := v3282) rfl rfl ?_
            replace hST : ST (keys (R_a0 ++ [])) w _ _ (R3280 ++ L3272) := hST
            exact ⟨_, (R3280 ++ []), rfl, (ST.backM (L1 := (R3280 ++ [])) (by have hh : ST (keys (R_a0 ++ [])) w _ _ (R3280 ++ L3272) := hST.perm (List.Perm.refl _); simpa only [List.append_assoc, List.cons_append, List.nil_append] using hh)), v3282, R3280, rfl, rfl, hs3283⟩
        · replace hm2966 := if_f hb2991 hm2966
          refine CW_skip ?_
          refine bq_n ?_
          refine sq_n ?_
          refine CW_region ?_
          refine LW_v (.inl rfl) rfl (by decide) (R_move (v := (.int .i64 x2371)) e2969) ?_
          refine LW_v (.inl rfl) rfl (by decide) (R_int (k := .i64) (a := x2371) (b := 1) (v := (.int .i64 ((IntKind.i64.wrap (x2371 + 1))))) rfl rfl rfl) ?_
          refine LW_v (.inl rfl) rfl (by decide) (R_assign (v := (.int .i64 ((IntKind.i64.wrap (x2371 + 1))))) rfl) ?_
          refine LW_nil ?_
          refine sq_n ?_
          exact ⟨n2967, Nat.lt_succ_self _, ((IntKind.i64.wrap (x2371 + 1))), _, (hST.sublist (List.Sublist.refl _)), e2968, rfl, hm2966⟩
      · replace hm2966 := if_f hb2970 hm2966
        refine CW_exit ?_
        refine sq_e (sq_e (bq_e ?_))
        refine sq_n ?_
        refine CW_seq ?_
        refine CW_region ?_
        refine LW_v (.inl rfl) rfl (by decide) (R_move (v := v_a0) e2968) ?_
        refine LW_v (.inl rfl) rfl (by decide) (R_assign (v := v_a0) rfl) ?_
        refine LW_nil ?_
        refine sq_n ?_
        refine CW_ret ?_
        replace hm2966 := Option.some.inj hm2966; subst hm2966
        refine retQ_1 (v := v_a0) rfl rfl ?_
        replace hST : ST (keys (R_a0 ++ [])) w _ _ (R_a0 ++ L2965) := hST
        exact ⟨_, (R_a0 ++ []), rfl, (ST.backM (L1 := (R_a0 ++ [])) (by have hh : ST (keys (R_a0 ++ [])) w _ _ (R_a0 ++ L2965) := hST.perm (List.Perm.refl _); simpa only [List.append_assoc, List.cons_append, List.nil_append] using hh)), v_a0, R_a0, rfl, rfl, h_a0⟩

theorem w_name_Set (v_a0 : Value) (a0 : List ByteArray) (r : List ByteArray) (w : World) (h_a0 : Sl (Pl encS) 1 (hp w) v_a0 a0) (hm : m_name_Set a0 = some r) :
    GivesRow Tryz.prog 79 [v_a0] w 9 encS 1 r := by
  have hST := ST.start w
  unfold m_name_Set at hm
  refine calls_of_CW (n := 23) Tryz.func79 rfl rfl (Nat.le_of_ble_eq_true rfl) ?_
  refine CW_seq ?_
  refine CW_region ?_
  refine LW_v (.inl rfl) rfl (by decide) (R_assign (v := (.slice none 0 0)) rfl) ?_
  refine LW_nil ?_
  refine sq_n ?_
  refine CW_seq ?_
  refine CW_region ?_
  refine LW_v (.inl rfl) rfl (by decide) (R_assign (v := (.slice none 0 0)) rfl) ?_
  refine LW_nil ?_
  refine sq_n ?_
  refine CW_seq ?_
  refine CW_seq ?_
  refine CW_region ?_
  refine LW_v (.inl rfl) rfl (by decide) (R_move (v := v_a0) rfl) ?_
  refine LW_v (.inl rfl) rfl (by decide) (R_len Tryz.underlying27 rfl h_a0) ?_
  refine LW_v (.inl rfl) rfl (by decide) (R_move (v := (.int .i64 0)) rfl) ?_
  refine LW_nil ?_
  refine sq_n ?_
  refine CW_range (fun i E W => ∃ (v89 : Value) (l90 : List ByteArray) (R92 : List (Nat × Obj)) (L114 : List (Nat × Obj)), (E 8 = .int .i64 (i : Nat) ∧ E 7 = .int .i64 (a0.length : Nat)) ∧ ST NoF w W (hp w) (R92 ++ L114) ∧ E 3 = v89 ∧ E 6 = v_a0 ∧ Row 9 encS 1 v89 l90 R92 ∧ m_name_Set_L1 (a0.drop i) l90 = some r) a0.length h_a0.len ⟨(.slice none 0 0), ([]), [], _, ⟨rfl, rfl⟩, (hST.sublist (List.Sublist.refl _)), rfl, rfl, (Row.nil _ _ _), hm⟩ (by decide) (by decide) (by decide) (fun _ _ _ h => by obtain ⟨_, _, _, _, eIN, _⟩ := h; exact eIN) ?_ ?_
  · rintro i67 E W hi73 ⟨v89, l90, R92, L114, ⟨eI, eN⟩, hST, e116, e117, hs91, hm115⟩
    obtain ⟨x68, xs69, hx71, hx70, hx72⟩ := drop_cons hi73
    rw [hx71] at hm115
    rw [m_name_Set_L1] at hm115
    refine CW_block ?_
    refine CW_seq ?_
    refine CW_region ?_
    refine LW_q (.inl rfl) rfl (by decide) (R_indexP (enc := encS) (i := (i67 : Int)) (x0 := x68) Tryz.underlying27 Tryz.sizeOf9 e117 eI h_a0 (Int.natCast_nonneg _) hx70) (fun p118 hp119 => ?_)
    refine LW_v (.inl rfl) rfl (by decide) (R_load rfl (load_at1 hST.has (y := (.string x68)) hp119 Tryz.isAgg9)) ?_
    refine LW_v (.inl rfl) rfl (by decide) (R_assign (v := (.string x68)) rfl) ?_
    refine LW_nil ?_
    refine sq_n ?_
    refine CW_seq ?_
    refine CW_region ?_
    refine LW_v (.inl rfl) rfl (by decide) (R_move (v := (.string x68)) rfl) ?_
    obtain ⟨r121, hr122, hm115⟩ := bind_some hm115
    replace hST : ST NoF w _ _ (R92 ++ L114) := hST
    have hsz := hST.size
    refine LW_e (.inl rfl) rfl (by decide) (E_gives (args := [(.string x68)]) hST rfl Tryz.call134 (by exact args1 rfl) (w_name_Right x68 _ _  hr122) (fun W123 hST => ?_))
    refine LW_nil ?_
    refine sq_n ?_
    refine CW_if (b := r121) rfl (fun hb124 => ?_) (fun hb124 => ?_)
    · replace hm115 := if_t hb124 hm115
      refine CW_region ?_
      refine LW_v (.inl rfl) rfl (by decide) (R_move (v := v89) e116) ?_
      refine LW_v (.inl rfl) rfl (by decide) (R_move (v := (.string x68)) rfl) ?_
      refine LW_e (.inl rfl) rfl (by decide) (E_buildSlice (qs := #[(0, (.string x68))]) (cs := [(.string x68)].toArray) hST (parts1 rfl) (run_lit [(.string x68)] Tryz.underlying27 Tryz.sizeOf9 Tryz.zeroValue9 (by decide) rfl (by intro v hv; simp only [List.mem_cons, List.not_mem_nil, or_false] at hv; rcases hv with rfl <;> rfl) rfl rfl) (fun W126 b125 hST => ?_))
      obtain ⟨l127, hb128, hm115⟩ := bind_some hm115
      refine LW_e (.inl rfl) rfl (by decide) (E_append (enc := encS) (v := v89) (vs := (.slice (some ⟨b125, 0, none⟩) 1 1)) (R := R92) [_] hST (fun _ => rfl) (by decide) oneS Tryz.underlying27 info9.1 info9.2.1 rfl info9.2.2.1 info9.2.2.2 rfl rfl hs91 (Sl.lit (enc := encS) (l := [x68]) (fun _ => rfl) rfl (Nat.le_of_ble_eq_true rfl) rfl (hST.at_ (.head _))) hb128 (fun W129 v132 R130 hST hR131 => ?_))
      refine LW_v (.inl rfl) rfl (by decide) (R_assign (v := v132) rfl) ?_
      refine LW_nil ?_
      refine bq_n ?_
      refine sq_n ?_
      replace hST : ST NoF w _ _ ((b125, Obj.cells ([(.string x68)].toArray : Array Value) 9 (0, 0)) :: (R130 ++ L114)) := hST
      replace hST : ST NoF w _ _ (R130 ++ L114) := hST.sublist (List.Sublist.cons _ (List.Sublist.refl _))
      exact ⟨eI, v132, l127, R130, _, ⟨rfl, eN⟩, (hST.sublist (List.Sublist.refl _)), rfl, e117, hR131, (by rw [hx72]; exact hm115)⟩
    · replace hm115 := if_f hb124 hm115
      refine CW_skip ?_
      refine bq_n ?_
      refine sq_n ?_
      exact ⟨eI, v89, l90, R92, _, ⟨rfl, eN⟩, (hST.sublist (List.Sublist.refl _)), e116, e117, hs91, (by rw [hx72]; exact hm115)⟩
  · rintro E W ⟨v89, l90, R92, L114, ⟨eI, eN⟩, hST, e116, e117, hs91, hm115⟩
    rw [List.drop_length] at hm115
    rw [m_name_Set_L1] at hm115
    refine sq_n ?_
    refine CW_seq ?_
    refine CW_region ?_
    refine LW_v (.inl rfl) rfl (by decide) (R_move (v := v89) e116) ?_
    obtain ⟨r133, hr134, hm115⟩ := bind_some hm115
    replace hST : ST NoF w _ _ (R92 ++ L114) := hST.perm (List.Perm.refl _)
    have hsz := hST.size
    refine LW_e (.inl rfl) rfl (by decide) (E_callM (args := [v89]) (caps := #[]) ((R92 ++ [])) L114 hST (by simp only [List.append_assoc, List.cons_append, List.nil_append]; exact List.Perm.refl _) rfl Tryz.call135 (by exact args1 rfl) (fun hH hN hsb hmm => w_sortS135 v89 l90 R92 _ _ hH hN (Sub.refl _) hs91 hr134) (fun W135 v138 μ136 L140 hST hle137 hlift hK139 => ?_))
    obtain ⟨S141, hv143, rfl, hy142⟩ := hK139
    replace hv143 := hv143.symm; subst hv143
    simp only [List.append_assoc, List.cons_append, List.nil_append] at hST
    refine LW_nil ?_
    refine sq_n ?_
    refine CW_seq ?_
    refine CW_region ?_
    refine LW_v (.inl rfl) rfl (by decide) (R_move (v := v89) e116) ?_
    obtain ⟨r144, hr145, hm115⟩ := bind_some hm115
    replace hST : ST NoF w _ _ (S141 ++ L114) := hST.perm (List.Perm.refl _)
    have hsz := hST.size
    refine LW_e (.inl rfl) rfl (by decide) (E_callM (args := [v89]) (caps := #[]) ((S141 ++ [])) L114 hST (by simp only [List.append_assoc, List.cons_append, List.nil_append]; exact List.Perm.refl _) rfl Tryz.call136 (by exact args1 rfl) (fun hH hN hsb hmm => w_slices_Compact_string v89 r133 S141 _ _ hH hN (Sub.refl _) hy142 hr145) (fun W146 v149 μ147 L151 hST hle148 hlift hK150 => ?_))
    obtain ⟨y152, S153, hv155, rfl, hy154⟩ := hK150
    replace hv155 := hv155.symm; subst hv155
    simp only [List.append_assoc, List.cons_append, List.nil_append] at hST
    refine LW_v (.inl rfl) rfl (by decide) (R_assign (v := y152) rfl) ?_
    refine LW_nil ?_
    refine sq_n ?_
    refine CW_ret ?_
    replace hm115 := Option.some.inj hm115; subst hm115
    refine retQ_1 (v := y152) rfl rfl ?_
    exact ⟨_, S153, rfl, hST.backRow (fun p hq => by simp [hq]) hy154.nd, hy154⟩

theorem w_graph_Graph_Words (b_a0 : Nat) (v_a0_all : Value) (a0_all : List Cred) (v_a0_targets : Value) (a0_targets : List (Role × Bool)) (v_a0_words : Value) (a0_words : List (ByteArray × Bool)) (v_a0_relevant : Value) (a0_relevant : List (Cred × Bool)) (r : List ByteArray) (w : World) (h_a0_all : Sl (Pl encCred) 9 (hp w) v_a0_all a0_all) (h_a0_targets : MapAt (fun (x : Role) => (.agg (encRole x).toArray)) (fun (x : Bool) => (Value.bool x)) (hp w) v_a0_targets a0_targets) (h_a0_words : MapAt Value.string (fun (x : Bool) => (Value.bool x)) (hp w) v_a0_words a0_words) (h_a0_relevant : MapAt (fun (x : Cred) => (.agg (encCred x).toArray)) (fun (x : Bool) => (Value.bool x)) (hp w) v_a0_relevant a0_relevant) (hA_a0 : At (hp w) (.pointer (some ⟨b_a0, 0, none⟩)) [v_a0_all, v_a0_targets, v_a0_words, v_a0_relevant]) (hm : m_graph_Graph_Words a0_all a0_targets a0_words a0_relevant = some r) :
    GivesRow Tryz.prog 23 [(.pointer (some ⟨b_a0, 0, none⟩))] w 9 encS 1 r := by
  have hST := ST.start w
  unfold m_graph_Graph_Words at hm
  refine calls_of_CW (n := 22) Tryz.func23 rfl rfl (Nat.le_of_ble_eq_true rfl) ?_
  refine CW_seq ?_
  refine CW_region ?_
  refine LW_v (.inl rfl) rfl (by decide) (R_assign (v := (.slice none 0 0)) rfl) ?_
  refine LW_nil ?_
  refine sq_n ?_
  refine CW_seq ?_
  refine CW_seq ?_
  refine CW_region ?_
  refine LW_v (.inl rfl) rfl (by decide) (R_move (v := (.pointer (some ⟨b_a0, 0, none⟩))) rfl) ?_
  refine LW_v (.inl rfl) rfl (by decide) (R_ptrEqNil Tryz.underlying31 rfl rfl) ?_
  refine LW_nil ?_
  refine sq_n ?_
  refine CW_if_false rfl ?_
  refine CW_skip ?_
  refine sq_n ?_
  refine CW_seq ?_
  refine CW_region ?_
  refine LW_v (.inl rfl) rfl (by decide) (R_assign (v := (.slice none 0 0)) rfl) ?_
  refine LW_nil ?_
  refine sq_n ?_
  refine CW_seq ?_
  refine CW_seq ?_
  refine CW_region ?_
  refine LW_v (.inl rfl) rfl (by decide) (R_move (v := (.pointer (some ⟨b_a0, 0, none⟩))) rfl) ?_
  refine LW_v (.inl rfl) rfl (by decide) (R_nilCheck rfl) ?_
  refine LW_q (.inl rfl) rfl (by decide) (R_fieldAt [v_a0_words] fa122_2 rfl hA_a0 rfl) (fun p1 hp2 => ?_)
  refine LW_v (.inl rfl) rfl (by decide) (R_load rfl (load_at1 hST.has (y := v_a0_words) hp2 Tryz.isAgg119)) ?_
  refine LW_e (.inl rfl) rfl (by decide) (E_rangeM (M := (hp w)) Tryz.underlying119 hST rfl h_a0_words (fun b o hb => hST.mem b o hb) (fun W4 v5 R6 hST hI7 => ?_))
  refine LW_nil ?_
  refine sq_n ?_
  refine CW_block (CW_loop (fun m E W => ∃ (v77 : Value) (l78 : List ByteArray) (R80 : List (Nat × Obj)) (L66 : List (Nat × Obj)) (lf59 : List (ByteArray × Bool)) (R60 : List (Nat × Obj)), m = lf59.length ∧ ST NoF w W (hp w) (R80 ++ (R60 ++ L66)) ∧ E 3 = v77 ∧ E 11 = v5 ∧ Iter Value.string (fun (x : Bool) => (Value.bool x)) (hp w) v5 lf59 R60 ∧ Row 9 encS 1 v77 l78 R80 ∧ (∀ o : List (ByteArray × Bool), o.Perm lf59 → m_graph_Graph_Words_L1 o l78 = some r)) _ ⟨(.slice none 0 0), ([]), [], [], a0_words, R6, rfl, (hST.sublist (List.Sublist.refl _)), rfl, rfl, hI7, (Row.nil _ _ _), (allOrders_spec hm)⟩ ?_)
  rintro m E W ⟨v77, l78, R80, L66, lf59, R60, rfl, hST, e94, eit, hI61, hs79, hm67⟩
  refine CW_seq (CW_region (LW_e (.inl rfl) rfl (by decide) (E_nextM ([] ++ (R80)) (by simpa only [List.append_assoc, List.cons_append, List.nil_append, List.singleton_append] using hST) (fun b o hb => hST.mem b o hb) hI61 eit (fun hend => ?_) (fun W68 R64 p57 lf63 hp65 hST hA62 => ?_))))
  · subst hend
    replace hm67 := hm67 [] (List.Perm.refl _)
    rw [m_graph_Graph_Words_L1] at hm67
    refine LW_v (.inl rfl) rfl (by decide) (R_extract (v := .bool false) rfl rfl) (LW_nil (sq_n (CW_seq ?_)))
    refine CW_if_false rfl (CW_exit (sq_e (sq_e (bq_e ?_))))
    refine sq_n ?_
    refine CW_seq ?_
    refine CW_region ?_
    refine LW_v (.inl rfl) rfl (by decide) (R_move (v := v77) e94) ?_
    obtain ⟨r106, hr107, hm67⟩ := bind_some hm67
    replace hST : ST NoF w _ _ (R80 ++ (R60 ++ L66)) := hST
    have hsz := hST.size
    refine LW_e (.inl rfl) rfl (by decide) (E_givesRow (args := [v77]) [] _ hST rfl Tryz.call79 (by exact args1 rfl) (w_name_Set v77 l78 _ _ (hs79.sl (fun _ => rfl) (fun b o hq => hST.at_ (List.mem_append_left _ hq))) hr107) (fun W108 v111 μ109 R112 hST hle110 hR113 => ?_))
    refine LW_v (.inl rfl) rfl (by decide) (R_assign (v := v111) rfl) ?_
    refine LW_nil ?_
    refine sq_n ?_
    replace hST : ST NoF w _ _ (R112 ++ (R80 ++ (R60 ++ L66))) := hST
    replace hST : ST NoF w _ _ (R112 ++ (R60 ++ L66)) := hST.sublist (List.Sublist.append (List.Sublist.refl _) ((List.Sublist.refl _).trans (List.sublist_append_right _ _)))
    refine CW_ret ?_
    replace hm67 := Option.some.inj hm67; subst hm67
    refine retQ_1 (v := v111) rfl rfl ?_
    exact ⟨_, R112, rfl, hST.backRow (fun p hq => by simp [hq]) hR113.nd, hR113⟩
  · try simp only [List.append_assoc, List.cons_append, List.nil_append] at hST
    replace hST : ST NoF w _ _ (R80 ++ (R64 ++ L66)) := hST
    obtain ⟨s95, hm96, hm97⟩ := bind_all (Q := fun o => List.Perm o lf63) (s := ((((appB 16 l78 ([p57.1]))).bind fun l100 => some l100) : Option (List ByteArray))) (f := (fun o => fun l78 => m_graph_Graph_Words_L1 o l78)) (t := r) lf63 (List.Perm.refl _) (fun o ho => by have hh := hm67 (p57 :: o) ((List.Perm.cons p57 ho).trans hp65.symm); rw [m_graph_Graph_Words_L1] at hh; exact hh)
    refine LW_v (.inl rfl) rfl (by decide) (R_extract (v := .bool true) rfl rfl) (LW_nil (sq_n (CW_seq ?_)))
    refine CW_if_true rfl (CW_skip (sq_n (CW_block ?_)))
    refine CW_seq ?_
    refine CW_region ?_
    refine LW_v (.inl rfl) rfl (by decide) (R_entryM (fun q hq => (hST.box q.1 q.2 (List.mem_append_right _ (List.mem_append_left _ hq))).1) (fun b o hb => hST.mem b o hb) hA62 eit) ?_
    refine LW_v (.inl rfl) rfl (by decide) (R_extract (v := (.string p57.1)) rfl rfl) ?_
    refine LW_v (.inl rfl) rfl (by decide) (R_assign (v := (.string p57.1)) rfl) ?_
    refine LW_nil ?_
    refine sq_n ?_
    refine CW_region ?_
    refine LW_v (.inl rfl) rfl (by decide) (R_move (v := v77) e94) ?_
    refine LW_v (.inl rfl) rfl (by decide) (R_move (v := (.string p57.1)) rfl) ?_
    refine LW_e (.inl rfl) rfl (by decide) (E_buildSlice (qs := #[(0, (.string p57.1))]) (cs := [(.string p57.1)].toArray) hST (parts1 rfl) (run_lit [(.string p57.1)] Tryz.underlying27 Tryz.sizeOf9 Tryz.zeroValue9 (by decide) rfl (by intro v hv; simp only [List.mem_cons, List.not_mem_nil, or_false] at hv; rcases hv with rfl <;> rfl) rfl rfl) (fun W99 b98 hST => ?_))
    obtain ⟨l100, hb101, hm96⟩ := bind_some hm96
    refine LW_e (.inl rfl) rfl (by decide) (E_append (enc := encS) (v := v77) (vs := (.slice (some ⟨b98, 0, none⟩) 1 1)) (R := R80) [_] hST (fun _ => rfl) (by decide) oneS Tryz.underlying27 info9.1 info9.2.1 rfl info9.2.2.1 info9.2.2.2 rfl rfl hs79 (Sl.lit (enc := encS) (l := [p57.1]) (fun _ => rfl) rfl (Nat.le_of_ble_eq_true rfl) rfl (hST.at_ (.head _))) hb101 (fun W102 v105 R103 hST hR104 => ?_))
    refine LW_v (.inl rfl) rfl (by decide) (R_assign (v := v105) rfl) ?_
    refine LW_nil ?_
    refine bq_n ?_
    refine sq_n ?_
    replace hST : ST NoF w _ _ ((b98, Obj.cells ([(.string p57.1)].toArray : Array Value) 9 (0, 0)) :: (R103 ++ (R64 ++ L66))) := hST
    replace hST : ST NoF w _ _ (R103 ++ (R64 ++ L66)) := hST.sublist (List.Sublist.cons _ (List.Sublist.refl _))
    replace hm96 := Option.some.inj hm96; subst hm96
    exact ⟨_, by simp [hp65.length_eq], v105, l100, R103, _, lf63, R64, rfl, (hST.sublist (List.Sublist.refl _)), rfl, eit, hA62.iter, hR104, hm97⟩

theorem w_law22_first  (r : Bool) (w : World)  (hm : m_law22_first  = some r) :
    Gives Tryz.prog 15 [] w (.bool r) := by
  have hST := ST.start w
  unfold m_law22_first at hm
  refine calls_of_CW (n := 69) Tryz.func15 rfl rfl (Nat.le_of_ble_eq_true rfl) ?_
  refine CW_seq ?_
  refine CW_region ?_
  refine LW_v (.inl rfl) rfl (by decide) (R_assign (v := (.bool false)) rfl) ?_
  refine LW_nil ?_
  refine sq_n ?_
  refine CW_seq ?_
  refine CW_region ?_
  refine LW_v (.inl rfl) rfl (by decide) (R_build (qs := #[(0, (.string ((⟨#[97]⟩ : ByteArray)))), (1, (.string ((⟨#[114]⟩ : ByteArray))))]) (v := (.agg (encRole ((⟨(⟨#[97]⟩ : ByteArray), (⟨#[114]⟩ : ByteArray)⟩ : Role))).toArray)) (parts2 rfl rfl) (run_build Tryz.zeroValue47 Tryz.underlying47 (pl47 _ Tryz.underlying47) (by kernel_rfl))) ?_
  refine LW_v (.inl rfl) rfl (by decide) (R_build (qs := #[(0, (.string ((⟨#[98]⟩ : ByteArray)))), (1, (.string ((⟨#[115]⟩ : ByteArray))))]) (v := (.agg (encRole ((⟨(⟨#[98]⟩ : ByteArray), (⟨#[115]⟩ : ByteArray)⟩ : Role))).toArray)) (parts2 rfl rfl) (run_build Tryz.zeroValue47 Tryz.underlying47 (pl47 _ Tryz.underlying47) (by kernel_rfl))) ?_
  refine LW_e (.inl rfl) rfl (by decide) (E_alloc hST Tryz.zeroValue47 (fun W2 b1 hST => ?_))
  refine LW_e (.inl rfl) rfl (by decide) (E_alloc hST Tryz.zeroValue47 (fun W4 b3 hST => ?_))
  refine LW_e0 (.inl rfl) rfl (E_store [_] (.agg (encRole ((⟨(⟨#[97]⟩ : ByteArray), (⟨#[114]⟩ : ByteArray)⟩ : Role))).toArray) ((encRole ((⟨(⟨#[97]⟩ : ByteArray), (⟨#[114]⟩ : ByteArray)⟩ : Role))).toArray) hST rfl rfl Tryz.sizeOf47 (oneRole ((⟨(⟨#[97]⟩ : ByteArray), (⟨#[114]⟩ : ByteArray)⟩ : Role))) (Nat.le_of_ble_eq_true rfl) rfl (fun W5 hST => ?_))
  refine LW_e0 (.inl rfl) rfl (E_store [] (.agg (encRole ((⟨(⟨#[98]⟩ : ByteArray), (⟨#[115]⟩ : ByteArray)⟩ : Role))).toArray) ((encRole ((⟨(⟨#[98]⟩ : ByteArray), (⟨#[115]⟩ : ByteArray)⟩ : Role))).toArray) hST rfl rfl Tryz.sizeOf47 (oneRole ((⟨(⟨#[98]⟩ : ByteArray), (⟨#[115]⟩ : ByteArray)⟩ : Role))) (Nat.le_of_ble_eq_true rfl) rfl (fun W6 hST => ?_))
  refine LW_nil ?_
  refine sq_n ?_
  refine CW_seq ?_
  refine CW_region ?_
  refine LW_v (.inl rfl) rfl (by decide) (R_load (v := (.agg (encRole ((⟨(⟨#[97]⟩ : ByteArray), (⟨#[114]⟩ : ByteArray)⟩ : Role))).toArray)) rfl (load_boxA hST.has (.tail _ (.head _)) (encRole ((⟨(⟨#[97]⟩ : ByteArray), (⟨#[114]⟩ : ByteArray)⟩ : Role))) rfl Tryz.isAgg47 Tryz.sizeOf47)) ?_
  refine LW_v (.inl rfl) rfl (by decide) (R_load (v := (.agg (encRole ((⟨(⟨#[98]⟩ : ByteArray), (⟨#[115]⟩ : ByteArray)⟩ : Role))).toArray)) rfl (load_boxA hST.has (.head _) (encRole ((⟨(⟨#[98]⟩ : ByteArray), (⟨#[115]⟩ : ByteArray)⟩ : Role))) rfl Tryz.isAgg47 Tryz.sizeOf47)) ?_
  refine LW_v (.inl rfl) rfl (by decide) (R_build (qs := #[(0, (.int .i64 2)), (1, (.agg (encRole ((⟨(⟨#[97]⟩ : ByteArray), (⟨#[114]⟩ : ByteArray)⟩ : Role))).toArray)), (3, (.agg (encRole ((⟨(⟨#[98]⟩ : ByteArray), (⟨#[115]⟩ : ByteArray)⟩ : Role))).toArray))]) (v := (.agg (encCred ((⟨2, (⟨(⟨#[97]⟩ : ByteArray), (⟨#[114]⟩ : ByteArray)⟩ : Role), zS, (⟨(⟨#[98]⟩ : ByteArray), (⟨#[115]⟩ : ByteArray)⟩ : Role), (⟨zS, zS⟩ : Role), zS⟩ : Cred))).toArray)) (parts3 rfl rfl rfl) (run_build Tryz.zeroValue83 Tryz.underlying83 (pl83 _ Tryz.underlying83) (by kernel_rfl))) ?_
  refine LW_v (.inl rfl) rfl (by decide) (R_build (qs := #[(0, (.string ((⟨#[99]⟩ : ByteArray)))), (1, (.string ((⟨#[116]⟩ : ByteArray))))]) (v := (.agg (encRole ((⟨(⟨#[99]⟩ : ByteArray), (⟨#[116]⟩ : ByteArray)⟩ : Role))).toArray)) (parts2 rfl rfl) (run_build Tryz.zeroValue47 Tryz.underlying47 (pl47 _ Tryz.underlying47) (by kernel_rfl))) ?_
  refine LW_v (.inl rfl) rfl (by decide) (R_build (qs := #[(0, (.int .i64 1)), (1, (.agg (encRole ((⟨(⟨#[99]⟩ : ByteArray), (⟨#[116]⟩ : ByteArray)⟩ : Role))).toArray)), (2, (.string ((⟨#[100]⟩ : ByteArray))))]) (v := (.agg (encCred ((⟨1, (⟨(⟨#[99]⟩ : ByteArray), (⟨#[116]⟩ : ByteArray)⟩ : Role), (⟨#[100]⟩ : ByteArray), (⟨zS, zS⟩ : Role), (⟨zS, zS⟩ : Role), zS⟩ : Cred))).toArray)) (parts3 rfl rfl rfl) (run_build Tryz.zeroValue83 Tryz.underlying83 (pl83 _ Tryz.underlying83) (by kernel_rfl))) ?_
  refine LW_e (.inl rfl) rfl (by decide) (E_buildSlice (qs := #[(0, (.agg (encCred ((⟨2, (⟨(⟨#[97]⟩ : ByteArray), (⟨#[114]⟩ : ByteArray)⟩ : Role), zS, (⟨(⟨#[98]⟩ : ByteArray), (⟨#[115]⟩ : ByteArray)⟩ : Role), (⟨zS, zS⟩ : Role), zS⟩ : Cred))).toArray)), (1, (.agg (encCred ((⟨1, (⟨(⟨#[99]⟩ : ByteArray), (⟨#[116]⟩ : ByteArray)⟩ : Role), (⟨#[100]⟩ : ByteArray), (⟨zS, zS⟩ : Role), (⟨zS, zS⟩ : Role), zS⟩ : Cred))).toArray))]) (cs := #[(.int .i64 2), (.string (((⟨(⟨#[97]⟩ : ByteArray), (⟨#[114]⟩ : ByteArray)⟩ : Role)).Owner)), (.string (((⟨(⟨#[97]⟩ : ByteArray), (⟨#[114]⟩ : ByteArray)⟩ : Role)).Word)), (.string zS), (.string (((⟨(⟨#[98]⟩ : ByteArray), (⟨#[115]⟩ : ByteArray)⟩ : Role)).Owner)), (.string (((⟨(⟨#[98]⟩ : ByteArray), (⟨#[115]⟩ : ByteArray)⟩ : Role)).Word)), (.string (((⟨zS, zS⟩ : Role)).Owner)), (.string (((⟨zS, zS⟩ : Role)).Word)), (.string zS), (.int .i64 1), (.string (((⟨(⟨#[99]⟩ : ByteArray), (⟨#[116]⟩ : ByteArray)⟩ : Role)).Owner)), (.string (((⟨(⟨#[99]⟩ : ByteArray), (⟨#[116]⟩ : ByteArray)⟩ : Role)).Word)), (.string ((⟨#[100]⟩ : ByteArray))), (.string (((⟨zS, zS⟩ : Role)).Owner)), (.string (((⟨zS, zS⟩ : Role)).Word)), (.string (((⟨zS, zS⟩ : Role)).Owner)), (.string (((⟨zS, zS⟩ : Role)).Word)), (.string zS)]) hST (parts2 rfl rfl) (run_lit [(.agg (encCred ((⟨2, (⟨(⟨#[97]⟩ : ByteArray), (⟨#[114]⟩ : ByteArray)⟩ : Role), zS, (⟨(⟨#[98]⟩ : ByteArray), (⟨#[115]⟩ : ByteArray)⟩ : Role), (⟨zS, zS⟩ : Role), zS⟩ : Cred))).toArray), (.agg (encCred ((⟨1, (⟨(⟨#[99]⟩ : ByteArray), (⟨#[116]⟩ : ByteArray)⟩ : Role), (⟨#[100]⟩ : ByteArray), (⟨zS, zS⟩ : Role), (⟨zS, zS⟩ : Role), zS⟩ : Cred))).toArray)] Tryz.underlying22 Tryz.sizeOf83 Tryz.zeroValue83 (by decide) rfl (by intro v hv; simp only [List.mem_cons, List.not_mem_nil, or_false] at hv; rcases hv with rfl | rfl <;> rfl) rfl rfl) (fun W8 b7 hST => ?_))
  refine LW_v (.inl rfl) rfl (by decide) (R_assign (v := (.slice (some ⟨b7, 0, none⟩) 2 2)) rfl) ?_
  refine LW_nil ?_
  refine sq_n ?_
  refine CW_seq ?_
  refine CW_region ?_
  refine LW_v (.inl rfl) rfl (by decide) (R_move (v := (.slice (some ⟨b7, 0, none⟩) 2 2)) rfl) ?_
  refine LW_v (.inl rfl) rfl (by decide) (R_load (v := (.agg (encRole ((⟨(⟨#[97]⟩ : ByteArray), (⟨#[114]⟩ : ByteArray)⟩ : Role))).toArray)) rfl (load_boxA hST.has (.tail _ (.tail _ (.head _))) (encRole ((⟨(⟨#[97]⟩ : ByteArray), (⟨#[114]⟩ : ByteArray)⟩ : Role))) rfl Tryz.isAgg47 Tryz.sizeOf47)) ?_
  refine LW_e (.inl rfl) rfl (by decide) (E_buildSlice (qs := #[(0, (.agg (encRole ((⟨(⟨#[97]⟩ : ByteArray), (⟨#[114]⟩ : ByteArray)⟩ : Role))).toArray))]) (cs := (encRole ((⟨(⟨#[97]⟩ : ByteArray), (⟨#[114]⟩ : ByteArray)⟩ : Role))).toArray) hST (parts1 rfl) (run_lit [(.agg (encRole ((⟨(⟨#[97]⟩ : ByteArray), (⟨#[114]⟩ : ByteArray)⟩ : Role))).toArray)] Tryz.underlying23 Tryz.sizeOf47 Tryz.zeroValue47 (by decide) rfl (by intro v hv; simp only [List.mem_cons, List.not_mem_nil, or_false] at hv; rcases hv with rfl <;> rfl) rfl rfl) (fun W10 b9 hST => ?_))
  obtain ⟨r11, hr12, hm⟩ := bind_some hm
  replace hST : ST NoF w _ _ ((b9, Obj.cells ((encRole ((⟨(⟨#[97]⟩ : ByteArray), (⟨#[114]⟩ : ByteArray)⟩ : Role))).toArray : Array Value) 47 (0, 0)) :: ((b7, Obj.cells (#[(.int .i64 2), (.string (((⟨(⟨#[97]⟩ : ByteArray), (⟨#[114]⟩ : ByteArray)⟩ : Role)).Owner)), (.string (((⟨(⟨#[97]⟩ : ByteArray), (⟨#[114]⟩ : ByteArray)⟩ : Role)).Word)), (.string zS), (.string (((⟨(⟨#[98]⟩ : ByteArray), (⟨#[115]⟩ : ByteArray)⟩ : Role)).Owner)), (.string (((⟨(⟨#[98]⟩ : ByteArray), (⟨#[115]⟩ : ByteArray)⟩ : Role)).Word)), (.string (((⟨zS, zS⟩ : Role)).Owner)), (.string (((⟨zS, zS⟩ : Role)).Word)), (.string zS), (.int .i64 1), (.string (((⟨(⟨#[99]⟩ : ByteArray), (⟨#[116]⟩ : ByteArray)⟩ : Role)).Owner)), (.string (((⟨(⟨#[99]⟩ : ByteArray), (⟨#[116]⟩ : ByteArray)⟩ : Role)).Word)), (.string ((⟨#[100]⟩ : ByteArray))), (.string (((⟨zS, zS⟩ : Role)).Owner)), (.string (((⟨zS, zS⟩ : Role)).Word)), (.string (((⟨zS, zS⟩ : Role)).Owner)), (.string (((⟨zS, zS⟩ : Role)).Word)), (.string zS)] : Array Value) 83 (0, 0)) :: ((b3, Obj.cells ((encRole ((⟨(⟨#[98]⟩ : ByteArray), (⟨#[115]⟩ : ByteArray)⟩ : Role))).toArray : Array Value) 47 (0, 0)) :: ((b1, Obj.cells ((encRole ((⟨(⟨#[97]⟩ : ByteArray), (⟨#[114]⟩ : ByteArray)⟩ : Role))).toArray : Array Value) 47 (0, 0)) :: [])))) := hST
  have hsz := hST.size
  refine LW_e (.inl rfl) rfl (by decide) (E_callM (args := [(.slice (some ⟨b7, 0, none⟩) 2 2), (.slice (some ⟨b9, 0, none⟩) 1 1)]) (caps := #[]) [] (((b9, Obj.cells ((encRole ((⟨(⟨#[97]⟩ : ByteArray), (⟨#[114]⟩ : ByteArray)⟩ : Role))).toArray : Array Value) 47 (0, 0)) :: ((b7, Obj.cells (#[(.int .i64 2), (.string (((⟨(⟨#[97]⟩ : ByteArray), (⟨#[114]⟩ : ByteArray)⟩ : Role)).Owner)), (.string (((⟨(⟨#[97]⟩ : ByteArray), (⟨#[114]⟩ : ByteArray)⟩ : Role)).Word)), (.string zS), (.string (((⟨(⟨#[98]⟩ : ByteArray), (⟨#[115]⟩ : ByteArray)⟩ : Role)).Owner)), (.string (((⟨(⟨#[98]⟩ : ByteArray), (⟨#[115]⟩ : ByteArray)⟩ : Role)).Word)), (.string (((⟨zS, zS⟩ : Role)).Owner)), (.string (((⟨zS, zS⟩ : Role)).Word)), (.string zS), (.int .i64 1), (.string (((⟨(⟨#[99]⟩ : ByteArray), (⟨#[116]⟩ : ByteArray)⟩ : Role)).Owner)), (.string (((⟨(⟨#[99]⟩ : ByteArray), (⟨#[116]⟩ : ByteArray)⟩ : Role)).Word)), (.string ((⟨#[100]⟩ : ByteArray))), (.string (((⟨zS, zS⟩ : Role)).Owner)), (.string (((⟨zS, zS⟩ : Role)).Word)), (.string (((⟨zS, zS⟩ : Role)).Owner)), (.string (((⟨zS, zS⟩ : Role)).Word)), (.string zS)] : Array Value) 83 (0, 0)) :: ((b3, Obj.cells ((encRole ((⟨(⟨#[98]⟩ : ByteArray), (⟨#[115]⟩ : ByteArray)⟩ : Role))).toArray : Array Value) 47 (0, 0)) :: ((b1, Obj.cells ((encRole ((⟨(⟨#[97]⟩ : ByteArray), (⟨#[114]⟩ : ByteArray)⟩ : Role))).toArray : Array Value) 47 (0, 0)) :: []))))) hST (List.Perm.refl _) rfl Tryz.call19 (by exact args2 rfl rfl) (fun _ _ _ _ => w_graph_New (.slice (some ⟨b7, 0, none⟩) 2 2) ([(⟨2, (⟨(⟨#[97]⟩ : ByteArray), (⟨#[114]⟩ : ByteArray)⟩ : Role), zS, (⟨(⟨#[98]⟩ : ByteArray), (⟨#[115]⟩ : ByteArray)⟩ : Role), (⟨zS, zS⟩ : Role), zS⟩ : Cred), (⟨1, (⟨(⟨#[99]⟩ : ByteArray), (⟨#[116]⟩ : ByteArray)⟩ : Role), (⟨#[100]⟩ : ByteArray), (⟨zS, zS⟩ : Role), (⟨zS, zS⟩ : Role), zS⟩ : Cred)]) (.slice (some ⟨b9, 0, none⟩) 1 1) ([(⟨(⟨#[97]⟩ : ByteArray), (⟨#[114]⟩ : ByteArray)⟩ : Role)]) _ _ (Sl.lit (enc := encCred) (l := [(⟨2, (⟨(⟨#[97]⟩ : ByteArray), (⟨#[114]⟩ : ByteArray)⟩ : Role), zS, (⟨(⟨#[98]⟩ : ByteArray), (⟨#[115]⟩ : ByteArray)⟩ : Role), (⟨zS, zS⟩ : Role), zS⟩ : Cred), (⟨1, (⟨(⟨#[99]⟩ : ByteArray), (⟨#[116]⟩ : ByteArray)⟩ : Role), (⟨#[100]⟩ : ByteArray), (⟨zS, zS⟩ : Role), (⟨zS, zS⟩ : Role), zS⟩ : Cred)]) lenCred rfl (Nat.le_of_ble_eq_true rfl) rfl (hST.at_ (.tail _ (.head _)))) (Sl.lit (enc := encRole) (l := [(⟨(⟨#[97]⟩ : ByteArray), (⟨#[114]⟩ : ByteArray)⟩ : Role)]) lenRole rfl (Nat.le_of_ble_eq_true rfl) rfl (hST.at_ (.head _))) hr12) (fun W13 v16 μ14 L18 hST hle15 hlift hK17 => ?_))
  obtain ⟨b19, y20, y24, S25, y27, S28, y30, S31, hv33, rfl, hy21, hf22, hy26, hy29, hy32⟩ := hK17
  replace hv33 := hv33.symm; subst hv33
  have hs23 := hy21.lift hf22 hlift
  replace hf22 := hf22.mono hsz
  simp only [List.append_assoc, List.cons_append, List.nil_append] at hST
  replace hST : ST NoF w _ _ ((b19, Obj.cells (#[y20, y24, y27, y30] : Array Value) 122 (0, 0)) :: ((b9, Obj.cells ((encRole ((⟨(⟨#[97]⟩ : ByteArray), (⟨#[114]⟩ : ByteArray)⟩ : Role))).toArray : Array Value) 47 (0, 0)) :: ((b7, Obj.cells (#[(.int .i64 2), (.string (((⟨(⟨#[97]⟩ : ByteArray), (⟨#[114]⟩ : ByteArray)⟩ : Role)).Owner)), (.string (((⟨(⟨#[97]⟩ : ByteArray), (⟨#[114]⟩ : ByteArray)⟩ : Role)).Word)), (.string zS), (.string (((⟨(⟨#[98]⟩ : ByteArray), (⟨#[115]⟩ : ByteArray)⟩ : Role)).Owner)), (.string (((⟨(⟨#[98]⟩ : ByteArray), (⟨#[115]⟩ : ByteArray)⟩ : Role)).Word)), (.string (((⟨zS, zS⟩ : Role)).Owner)), (.string (((⟨zS, zS⟩ : Role)).Word)), (.string zS), (.int .i64 1), (.string (((⟨(⟨#[99]⟩ : ByteArray), (⟨#[116]⟩ : ByteArray)⟩ : Role)).Owner)), (.string (((⟨(⟨#[99]⟩ : ByteArray), (⟨#[116]⟩ : ByteArray)⟩ : Role)).Word)), (.string ((⟨#[100]⟩ : ByteArray))), (.string (((⟨zS, zS⟩ : Role)).Owner)), (.string (((⟨zS, zS⟩ : Role)).Word)), (.string (((⟨zS, zS⟩ : Role)).Owner)), (.string (((⟨zS, zS⟩ : Role)).Word)), (.string zS)] : Array Value) 83 (0, 0)) :: ((b3, Obj.cells ((encRole ((⟨(⟨#[98]⟩ : ByteArray), (⟨#[115]⟩ : ByteArray)⟩ : Role))).toArray : Array Value) 47 (0, 0)) :: ((b1, Obj.cells ((encRole ((⟨(⟨#[97]⟩ : ByteArray), (⟨#[114]⟩ : ByteArray)⟩ : Role))).toArray : Array Value) 47 (0, 0)) :: (S25 ++ (S28 ++ (S31 ++ [])))))))) := hST.perm (permD [[(b19, Obj.cells (#[y20, y24, y27, y30] : Array Value) 122 (0, 0))], S25, S28, S31, [(b9, Obj.cells ((encRole ((⟨(⟨#[97]⟩ : ByteArray), (⟨#[114]⟩ : ByteArray)⟩ : Role))).toArray : Array Value) 47 (0, 0))], [(b7, Obj.cells (#[(.int .i64 2), (.string (((⟨(⟨#[97]⟩ : ByteArray), (⟨#[114]⟩ : ByteArray)⟩ : Role)).Owner)), (.string (((⟨(⟨#[97]⟩ : ByteArray), (⟨#[114]⟩ : ByteArray)⟩ : Role)).Word)), (.string zS), (.string (((⟨(⟨#[98]⟩ : ByteArray), (⟨#[115]⟩ : ByteArray)⟩ : Role)).Owner)), (.string (((⟨(⟨#[98]⟩ : ByteArray), (⟨#[115]⟩ : ByteArray)⟩ : Role)).Word)), (.string (((⟨zS, zS⟩ : Role)).Owner)), (.string (((⟨zS, zS⟩ : Role)).Word)), (.string zS), (.int .i64 1), (.string (((⟨(⟨#[99]⟩ : ByteArray), (⟨#[116]⟩ : ByteArray)⟩ : Role)).Owner)), (.string (((⟨(⟨#[99]⟩ : ByteArray), (⟨#[116]⟩ : ByteArray)⟩ : Role)).Word)), (.string ((⟨#[100]⟩ : ByteArray))), (.string (((⟨zS, zS⟩ : Role)).Owner)), (.string (((⟨zS, zS⟩ : Role)).Word)), (.string (((⟨zS, zS⟩ : Role)).Owner)), (.string (((⟨zS, zS⟩ : Role)).Word)), (.string zS)] : Array Value) 83 (0, 0))], [(b3, Obj.cells ((encRole ((⟨(⟨#[98]⟩ : ByteArray), (⟨#[115]⟩ : ByteArray)⟩ : Role))).toArray : Array Value) 47 (0, 0))], [(b1, Obj.cells ((encRole ((⟨(⟨#[97]⟩ : ByteArray), (⟨#[114]⟩ : ByteArray)⟩ : Role))).toArray : Array Value) 47 (0, 0))]] [0, 1, 2, 3, 4, 5, 6, 7] [0, 4, 5, 6, 7, 1, 2, 3] ([]) (by decide) rfl rfl)
  refine LW_v (.inl rfl) rfl (by decide) (R_assign (v := (.pointer (some ⟨b19, 0, none⟩))) rfl) ?_
  refine LW_nil ?_
  refine sq_n ?_
  replace hST : ST NoF w _ _ ((b19, Obj.cells (#[y20, y24, y27, y30] : Array Value) 122 (0, 0)) :: ((b9, Obj.cells ((encRole ((⟨(⟨#[97]⟩ : ByteArray), (⟨#[114]⟩ : ByteArray)⟩ : Role))).toArray : Array Value) 47 (0, 0)) :: ((b7, Obj.cells (#[(.int .i64 2), (.string (((⟨(⟨#[97]⟩ : ByteArray), (⟨#[114]⟩ : ByteArray)⟩ : Role)).Owner)), (.string (((⟨(⟨#[97]⟩ : ByteArray), (⟨#[114]⟩ : ByteArray)⟩ : Role)).Word)), (.string zS), (.string (((⟨(⟨#[98]⟩ : ByteArray), (⟨#[115]⟩ : ByteArray)⟩ : Role)).Owner)), (.string (((⟨(⟨#[98]⟩ : ByteArray), (⟨#[115]⟩ : ByteArray)⟩ : Role)).Word)), (.string (((⟨zS, zS⟩ : Role)).Owner)), (.string (((⟨zS, zS⟩ : Role)).Word)), (.string zS), (.int .i64 1), (.string (((⟨(⟨#[99]⟩ : ByteArray), (⟨#[116]⟩ : ByteArray)⟩ : Role)).Owner)), (.string (((⟨(⟨#[99]⟩ : ByteArray), (⟨#[116]⟩ : ByteArray)⟩ : Role)).Word)), (.string ((⟨#[100]⟩ : ByteArray))), (.string (((⟨zS, zS⟩ : Role)).Owner)), (.string (((⟨zS, zS⟩ : Role)).Word)), (.string (((⟨zS, zS⟩ : Role)).Owner)), (.string (((⟨zS, zS⟩ : Role)).Word)), (.string zS)] : Array Value) 83 (0, 0)) :: ((b3, Obj.cells ((encRole ((⟨(⟨#[98]⟩ : ByteArray), (⟨#[115]⟩ : ByteArray)⟩ : Role))).toArray : Array Value) 47 (0, 0)) :: ((b1, Obj.cells ((encRole ((⟨(⟨#[97]⟩ : ByteArray), (⟨#[114]⟩ : ByteArray)⟩ : Role))).toArray : Array Value) 47 (0, 0)) :: (S25 ++ (S28 ++ (S31 ++ [])))))))) := hST
  replace hST : ST NoF w _ _ ((b19, Obj.cells (#[y20, y24, y27, y30] : Array Value) 122 (0, 0)) :: ((b7, Obj.cells (#[(.int .i64 2), (.string (((⟨(⟨#[97]⟩ : ByteArray), (⟨#[114]⟩ : ByteArray)⟩ : Role)).Owner)), (.string (((⟨(⟨#[97]⟩ : ByteArray), (⟨#[114]⟩ : ByteArray)⟩ : Role)).Word)), (.string zS), (.string (((⟨(⟨#[98]⟩ : ByteArray), (⟨#[115]⟩ : ByteArray)⟩ : Role)).Owner)), (.string (((⟨(⟨#[98]⟩ : ByteArray), (⟨#[115]⟩ : ByteArray)⟩ : Role)).Word)), (.string (((⟨zS, zS⟩ : Role)).Owner)), (.string (((⟨zS, zS⟩ : Role)).Word)), (.string zS), (.int .i64 1), (.string (((⟨(⟨#[99]⟩ : ByteArray), (⟨#[116]⟩ : ByteArray)⟩ : Role)).Owner)), (.string (((⟨(⟨#[99]⟩ : ByteArray), (⟨#[116]⟩ : ByteArray)⟩ : Role)).Word)), (.string ((⟨#[100]⟩ : ByteArray))), (.string (((⟨zS, zS⟩ : Role)).Owner)), (.string (((⟨zS, zS⟩ : Role)).Word)), (.string (((⟨zS, zS⟩ : Role)).Owner)), (.string (((⟨zS, zS⟩ : Role)).Word)), (.string zS)] : Array Value) 83 (0, 0)) :: ((b3, Obj.cells ((encRole ((⟨(⟨#[98]⟩ : ByteArray), (⟨#[115]⟩ : ByteArray)⟩ : Role))).toArray : Array Value) 47 (0, 0)) :: ((b1, Obj.cells ((encRole ((⟨(⟨#[97]⟩ : ByteArray), (⟨#[114]⟩ : ByteArray)⟩ : Role))).toArray : Array Value) 47 (0, 0)) :: (S25 ++ (S28 ++ (S31 ++ []))))))) := hST.sublist (List.Sublist.cons_cons _ (List.Sublist.cons _ (List.Sublist.refl _)))
  refine CW_seq ?_
  refine CW_region ?_
  refine LW_e (.inl rfl) rfl (by decide) (E_alloc hST Tryz.zeroValue3 (fun W35 b34 hST => ?_))
  refine LW_e0 (.inl rfl) rfl (E_store [] (.int .i64 0) (#[(.int .i64 0)]) hST rfl rfl Tryz.sizeOf3 (oneI _ 0) (Nat.le_of_ble_eq_true rfl) rfl (fun W36 hST => ?_))
  refine LW_nil ?_
  refine sq_n ?_
  refine CW_seq ?_
  refine CW_seq ?_
  refine CW_region ?_
  refine LW_v (.inl rfl) rfl (by decide) (R_move (v := (.pointer (some ⟨b19, 0, none⟩))) rfl) ?_
  obtain ⟨r58, hr59, hm⟩ := bind_some hm
  replace hST : ST NoF w _ _ ((b19, Obj.cells (#[y20, y24, y27, y30] : Array Value) 122 (0, 0)) :: (S25 ++ (S28 ++ (S31 ++ ((b34, Obj.cells (#[(.int .i64 0)] : Array Value) 3 (0, 0)) :: ((b7, Obj.cells (#[(.int .i64 2), (.string (((⟨(⟨#[97]⟩ : ByteArray), (⟨#[114]⟩ : ByteArray)⟩ : Role)).Owner)), (.string (((⟨(⟨#[97]⟩ : ByteArray), (⟨#[114]⟩ : ByteArray)⟩ : Role)).Word)), (.string zS), (.string (((⟨(⟨#[98]⟩ : ByteArray), (⟨#[115]⟩ : ByteArray)⟩ : Role)).Owner)), (.string (((⟨(⟨#[98]⟩ : ByteArray), (⟨#[115]⟩ : ByteArray)⟩ : Role)).Word)), (.string (((⟨zS, zS⟩ : Role)).Owner)), (.string (((⟨zS, zS⟩ : Role)).Word)), (.string zS), (.int .i64 1), (.string (((⟨(⟨#[99]⟩ : ByteArray), (⟨#[116]⟩ : ByteArray)⟩ : Role)).Owner)), (.string (((⟨(⟨#[99]⟩ : ByteArray), (⟨#[116]⟩ : ByteArray)⟩ : Role)).Word)), (.string ((⟨#[100]⟩ : ByteArray))), (.string (((⟨zS, zS⟩ : Role)).Owner)), (.string (((⟨zS, zS⟩ : Role)).Word)), (.string (((⟨zS, zS⟩ : Role)).Owner)), (.string (((⟨zS, zS⟩ : Role)).Word)), (.string zS)] : Array Value) 83 (0, 0)) :: ((b3, Obj.cells ((encRole ((⟨(⟨#[98]⟩ : ByteArray), (⟨#[115]⟩ : ByteArray)⟩ : Role))).toArray : Array Value) 47 (0, 0)) :: ((b1, Obj.cells ((encRole ((⟨(⟨#[97]⟩ : ByteArray), (⟨#[114]⟩ : ByteArray)⟩ : Role))).toArray : Array Value) 47 (0, 0)) :: [])))))))) := hST.perm (permD [[(b34, Obj.cells (#[(.int .i64 0)] : Array Value) 3 (0, 0))], [(b19, Obj.cells (#[y20, y24, y27, y30] : Array Value) 122 (0, 0))], [(b7, Obj.cells (#[(.int .i64 2), (.string (((⟨(⟨#[97]⟩ : ByteArray), (⟨#[114]⟩ : ByteArray)⟩ : Role)).Owner)), (.string (((⟨(⟨#[97]⟩ : ByteArray), (⟨#[114]⟩ : ByteArray)⟩ : Role)).Word)), (.string zS), (.string (((⟨(⟨#[98]⟩ : ByteArray), (⟨#[115]⟩ : ByteArray)⟩ : Role)).Owner)), (.string (((⟨(⟨#[98]⟩ : ByteArray), (⟨#[115]⟩ : ByteArray)⟩ : Role)).Word)), (.string (((⟨zS, zS⟩ : Role)).Owner)), (.string (((⟨zS, zS⟩ : Role)).Word)), (.string zS), (.int .i64 1), (.string (((⟨(⟨#[99]⟩ : ByteArray), (⟨#[116]⟩ : ByteArray)⟩ : Role)).Owner)), (.string (((⟨(⟨#[99]⟩ : ByteArray), (⟨#[116]⟩ : ByteArray)⟩ : Role)).Word)), (.string ((⟨#[100]⟩ : ByteArray))), (.string (((⟨zS, zS⟩ : Role)).Owner)), (.string (((⟨zS, zS⟩ : Role)).Word)), (.string (((⟨zS, zS⟩ : Role)).Owner)), (.string (((⟨zS, zS⟩ : Role)).Word)), (.string zS)] : Array Value) 83 (0, 0))], [(b3, Obj.cells ((encRole ((⟨(⟨#[98]⟩ : ByteArray), (⟨#[115]⟩ : ByteArray)⟩ : Role))).toArray : Array Value) 47 (0, 0))], [(b1, Obj.cells ((encRole ((⟨(⟨#[97]⟩ : ByteArray), (⟨#[114]⟩ : ByteArray)⟩ : Role))).toArray : Array Value) 47 (0, 0))], S25, S28, S31] [0, 1, 2, 3, 4, 5, 6, 7] [1, 5, 6, 7, 0, 2, 3, 4] ([]) (by decide) rfl rfl)
  have hsz := hST.size
  refine LW_e (.inl rfl) rfl (by decide) (E_callM (args := [(.pointer (some ⟨b19, 0, none⟩))]) (caps := #[]) (((b19, Obj.cells (#[y20, y24, y27, y30] : Array Value) 122 (0, 0)) :: (S25 ++ (S28 ++ (S31 ++ []))))) (((b34, Obj.cells (#[(.int .i64 0)] : Array Value) 3 (0, 0)) :: ((b7, Obj.cells (#[(.int .i64 2), (.string (((⟨(⟨#[97]⟩ : ByteArray), (⟨#[114]⟩ : ByteArray)⟩ : Role)).Owner)), (.string (((⟨(⟨#[97]⟩ : ByteArray), (⟨#[114]⟩ : ByteArray)⟩ : Role)).Word)), (.string zS), (.string (((⟨(⟨#[98]⟩ : ByteArray), (⟨#[115]⟩ : ByteArray)⟩ : Role)).Owner)), (.string (((⟨(⟨#[98]⟩ : ByteArray), (⟨#[115]⟩ : ByteArray)⟩ : Role)).Word)), (.string (((⟨zS, zS⟩ : Role)).Owner)), (.string (((⟨zS, zS⟩ : Role)).Word)), (.string zS), (.int .i64 1), (.string (((⟨(⟨#[99]⟩ : ByteArray), (⟨#[116]⟩ : ByteArray)⟩ : Role)).Owner)), (.string (((⟨(⟨#[99]⟩ : ByteArray), (⟨#[116]⟩ : ByteArray)⟩ : Role)).Word)), (.string ((⟨#[100]⟩ : ByteArray))), (.string (((⟨zS, zS⟩ : Role)).Owner)), (.string (((⟨zS, zS⟩ : Role)).Word)), (.string (((⟨zS, zS⟩ : Role)).Owner)), (.string (((⟨zS, zS⟩ : Role)).Word)), (.string zS)] : Array Value) 83 (0, 0)) :: ((b3, Obj.cells ((encRole ((⟨(⟨#[98]⟩ : ByteArray), (⟨#[115]⟩ : ByteArray)⟩ : Role))).toArray : Array Value) 47 (0, 0)) :: ((b1, Obj.cells ((encRole ((⟨(⟨#[97]⟩ : ByteArray), (⟨#[114]⟩ : ByteArray)⟩ : Role))).toArray : Array Value) 47 (0, 0)) :: []))))) hST (by simp only [List.append_assoc, List.cons_append, List.nil_append]; exact List.Perm.refl _) rfl Tryz.call28 (by exact args1 rfl) (fun hH hN hsb hmm => w_graph_Graph_Edges_w b19 y20 r11.1 y24 r11.2.1 S25 y27 r11.2.2.1 S28 y30 r11.2.2.2 S31 _ _ hH hN (Sub.refl _) (hs23.mono (Pl.mono _) hsb) hy26 hy29 hy32 hr59) (fun W60 v63 μ61 L65 hST hle62 hlift hK64 => ?_))
  obtain ⟨b66, hv67, rfl⟩ := hK64
  replace hv67 := hv67.symm; subst hv67
  simp only [List.append_assoc, List.cons_append, List.nil_append] at hST
  replace hST : ST NoF w _ _ ((b66, Obj.cells (#[(.pointer (some ⟨b19, 0, none⟩))] : Array Value) 31 (0, 0)) :: ((b19, Obj.cells (#[y20, y24, y27, y30] : Array Value) 122 (0, 0)) :: ((b34, Obj.cells (#[(.int .i64 0)] : Array Value) 3 (0, 0)) :: ((b7, Obj.cells (#[(.int .i64 2), (.string (((⟨(⟨#[97]⟩ : ByteArray), (⟨#[114]⟩ : ByteArray)⟩ : Role)).Owner)), (.string (((⟨(⟨#[97]⟩ : ByteArray), (⟨#[114]⟩ : ByteArray)⟩ : Role)).Word)), (.string zS), (.string (((⟨(⟨#[98]⟩ : ByteArray), (⟨#[115]⟩ : ByteArray)⟩ : Role)).Owner)), (.string (((⟨(⟨#[98]⟩ : ByteArray), (⟨#[115]⟩ : ByteArray)⟩ : Role)).Word)), (.string (((⟨zS, zS⟩ : Role)).Owner)), (.string (((⟨zS, zS⟩ : Role)).Word)), (.string zS), (.int .i64 1), (.string (((⟨(⟨#[99]⟩ : ByteArray), (⟨#[116]⟩ : ByteArray)⟩ : Role)).Owner)), (.string (((⟨(⟨#[99]⟩ : ByteArray), (⟨#[116]⟩ : ByteArray)⟩ : Role)).Word)), (.string ((⟨#[100]⟩ : ByteArray))), (.string (((⟨zS, zS⟩ : Role)).Owner)), (.string (((⟨zS, zS⟩ : Role)).Word)), (.string (((⟨zS, zS⟩ : Role)).Owner)), (.string (((⟨zS, zS⟩ : Role)).Word)), (.string zS)] : Array Value) 83 (0, 0)) :: ((b3, Obj.cells ((encRole ((⟨(⟨#[98]⟩ : ByteArray), (⟨#[115]⟩ : ByteArray)⟩ : Role))).toArray : Array Value) 47 (0, 0)) :: ((b1, Obj.cells ((encRole ((⟨(⟨#[97]⟩ : ByteArray), (⟨#[114]⟩ : ByteArray)⟩ : Role))).toArray : Array Value) 47 (0, 0)) :: (S25 ++ (S28 ++ (S31 ++ []))))))))) := hST.perm (permD [[(b66, Obj.cells (#[(.pointer (some ⟨b19, 0, none⟩))] : Array Value) 31 (0, 0))], [(b19, Obj.cells (#[y20, y24, y27, y30] : Array Value) 122 (0, 0))], S25, S28, S31, [(b34, Obj.cells (#[(.int .i64 0)] : Array Value) 3 (0, 0))], [(b7, Obj.cells (#[(.int .i64 2), (.string (((⟨(⟨#[97]⟩ : ByteArray), (⟨#[114]⟩ : ByteArray)⟩ : Role)).Owner)), (.string (((⟨(⟨#[97]⟩ : ByteArray), (⟨#[114]⟩ : ByteArray)⟩ : Role)).Word)), (.string zS), (.string (((⟨(⟨#[98]⟩ : ByteArray), (⟨#[115]⟩ : ByteArray)⟩ : Role)).Owner)), (.string (((⟨(⟨#[98]⟩ : ByteArray), (⟨#[115]⟩ : ByteArray)⟩ : Role)).Word)), (.string (((⟨zS, zS⟩ : Role)).Owner)), (.string (((⟨zS, zS⟩ : Role)).Word)), (.string zS), (.int .i64 1), (.string (((⟨(⟨#[99]⟩ : ByteArray), (⟨#[116]⟩ : ByteArray)⟩ : Role)).Owner)), (.string (((⟨(⟨#[99]⟩ : ByteArray), (⟨#[116]⟩ : ByteArray)⟩ : Role)).Word)), (.string ((⟨#[100]⟩ : ByteArray))), (.string (((⟨zS, zS⟩ : Role)).Owner)), (.string (((⟨zS, zS⟩ : Role)).Word)), (.string (((⟨zS, zS⟩ : Role)).Owner)), (.string (((⟨zS, zS⟩ : Role)).Word)), (.string zS)] : Array Value) 83 (0, 0))], [(b3, Obj.cells ((encRole ((⟨(⟨#[98]⟩ : ByteArray), (⟨#[115]⟩ : ByteArray)⟩ : Role))).toArray : Array Value) 47 (0, 0))], [(b1, Obj.cells ((encRole ((⟨(⟨#[97]⟩ : ByteArray), (⟨#[114]⟩ : ByteArray)⟩ : Role))).toArray : Array Value) 47 (0, 0))]] [0, 1, 2, 3, 4, 5, 6, 7, 8] [0, 1, 5, 6, 7, 8, 2, 3, 4] ([]) (by decide) rfl rfl)
  refine LW_v (.inl rfl) rfl (by decide) (R_assign (v := (.func (.func 85) #[] #[(.pointer (some ⟨b66, 0, none⟩))])) rfl) ?_
  refine LW_nil ?_
  refine sq_n ?_
  refine CW_seq ?_
  refine CW_region ?_
  refine LW_v (.inl rfl) rfl (by decide) (R_move (v := (.func (.func 85) #[] #[(.pointer (some ⟨b66, 0, none⟩))])) rfl) ?_
  refine LW_v (.inl rfl) rfl (by decide) (R_funcNeNil Tryz.underlying44 rfl rfl) ?_
  refine LW_nil ?_
  refine sq_n ?_
  refine CW_if_true rfl ?_
  refine CW_region ?_
  refine LW_v (.inl rfl) rfl (by decide) (R_move (v := (.func (.func 85) #[] #[(.pointer (some ⟨b66, 0, none⟩))])) rfl) ?_
  refine LW_v (.inl rfl) rfl (by decide) (R_makeFuncC (by exact args3 rfl rfl rfl) rfl) ?_
  obtain ⟨r68, hr69, hm⟩ := bind_some hm
  replace hST : ST NoF w _ _ ((b34, Obj.cells (#[(.int .i64 0)] : Array Value) 3 (0, 0)) :: ((b1, Obj.cells ((encRole ((⟨(⟨#[97]⟩ : ByteArray), (⟨#[114]⟩ : ByteArray)⟩ : Role))).toArray : Array Value) 47 (0, 0)) :: ((b3, Obj.cells ((encRole ((⟨(⟨#[98]⟩ : ByteArray), (⟨#[115]⟩ : ByteArray)⟩ : Role))).toArray : Array Value) 47 (0, 0)) :: ((b66, Obj.cells (#[(.pointer (some ⟨b19, 0, none⟩))] : Array Value) 31 (0, 0)) :: ((b19, Obj.cells (#[y20, y24, y27, y30] : Array Value) 122 (0, 0)) :: ((b7, Obj.cells (#[(.int .i64 2), (.string (((⟨(⟨#[97]⟩ : ByteArray), (⟨#[114]⟩ : ByteArray)⟩ : Role)).Owner)), (.string (((⟨(⟨#[97]⟩ : ByteArray), (⟨#[114]⟩ : ByteArray)⟩ : Role)).Word)), (.string zS), (.string (((⟨(⟨#[98]⟩ : ByteArray), (⟨#[115]⟩ : ByteArray)⟩ : Role)).Owner)), (.string (((⟨(⟨#[98]⟩ : ByteArray), (⟨#[115]⟩ : ByteArray)⟩ : Role)).Word)), (.string (((⟨zS, zS⟩ : Role)).Owner)), (.string (((⟨zS, zS⟩ : Role)).Word)), (.string zS), (.int .i64 1), (.string (((⟨(⟨#[99]⟩ : ByteArray), (⟨#[116]⟩ : ByteArray)⟩ : Role)).Owner)), (.string (((⟨(⟨#[99]⟩ : ByteArray), (⟨#[116]⟩ : ByteArray)⟩ : Role)).Word)), (.string ((⟨#[100]⟩ : ByteArray))), (.string (((⟨zS, zS⟩ : Role)).Owner)), (.string (((⟨zS, zS⟩ : Role)).Word)), (.string (((⟨zS, zS⟩ : Role)).Owner)), (.string (((⟨zS, zS⟩ : Role)).Word)), (.string zS)] : Array Value) 83 (0, 0)) :: (S25 ++ (S28 ++ (S31 ++ []))))))))) := hST.perm (permD [[(b66, Obj.cells (#[(.pointer (some ⟨b19, 0, none⟩))] : Array Value) 31 (0, 0))], [(b19, Obj.cells (#[y20, y24, y27, y30] : Array Value) 122 (0, 0))], [(b34, Obj.cells (#[(.int .i64 0)] : Array Value) 3 (0, 0))], [(b7, Obj.cells (#[(.int .i64 2), (.string (((⟨(⟨#[97]⟩ : ByteArray), (⟨#[114]⟩ : ByteArray)⟩ : Role)).Owner)), (.string (((⟨(⟨#[97]⟩ : ByteArray), (⟨#[114]⟩ : ByteArray)⟩ : Role)).Word)), (.string zS), (.string (((⟨(⟨#[98]⟩ : ByteArray), (⟨#[115]⟩ : ByteArray)⟩ : Role)).Owner)), (.string (((⟨(⟨#[98]⟩ : ByteArray), (⟨#[115]⟩ : ByteArray)⟩ : Role)).Word)), (.string (((⟨zS, zS⟩ : Role)).Owner)), (.string (((⟨zS, zS⟩ : Role)).Word)), (.string zS), (.int .i64 1), (.string (((⟨(⟨#[99]⟩ : ByteArray), (⟨#[116]⟩ : ByteArray)⟩ : Role)).Owner)), (.string (((⟨(⟨#[99]⟩ : ByteArray), (⟨#[116]⟩ : ByteArray)⟩ : Role)).Word)), (.string ((⟨#[100]⟩ : ByteArray))), (.string (((⟨zS, zS⟩ : Role)).Owner)), (.string (((⟨zS, zS⟩ : Role)).Word)), (.string (((⟨zS, zS⟩ : Role)).Owner)), (.string (((⟨zS, zS⟩ : Role)).Word)), (.string zS)] : Array Value) 83 (0, 0))], [(b3, Obj.cells ((encRole ((⟨(⟨#[98]⟩ : ByteArray), (⟨#[115]⟩ : ByteArray)⟩ : Role))).toArray : Array Value) 47 (0, 0))], [(b1, Obj.cells ((encRole ((⟨(⟨#[97]⟩ : ByteArray), (⟨#[114]⟩ : ByteArray)⟩ : Role))).toArray : Array Value) 47 (0, 0))]] [0, 1, 2, 3, 4, 5] [2, 5, 4, 0, 1, 3] ((S25 ++ (S28 ++ (S31 ++ [])))) (by decide) rfl rfl)
  have hsz := hST.size
  refine LW_e (.inl rfl) rfl (by decide) (E_callM (args := [(.func (.func 71) #[] #[(.pointer (some ⟨b34, 0, none⟩)), (.pointer (some ⟨b1, 0, none⟩)), (.pointer (some ⟨b3, 0, none⟩))])]) (caps := #[(.pointer (some ⟨b66, 0, none⟩))]) ((((b34, Obj.cells (#[(.int .i64 0)] : Array Value) 3 (0, 0)) :: ((b1, Obj.cells ((encRole ((⟨(⟨#[97]⟩ : ByteArray), (⟨#[114]⟩ : ByteArray)⟩ : Role))).toArray : Array Value) 47 (0, 0)) :: ((b3, Obj.cells ((encRole ((⟨(⟨#[98]⟩ : ByteArray), (⟨#[115]⟩ : ByteArray)⟩ : Role))).toArray : Array Value) 47 (0, 0)) :: []))) ++ [])) (((b66, Obj.cells (#[(.pointer (some ⟨b19, 0, none⟩))] : Array Value) 31 (0, 0)) :: ((b19, Obj.cells (#[y20, y24, y27, y30] : Array Value) 122 (0, 0)) :: ((b7, Obj.cells (#[(.int .i64 2), (.string (((⟨(⟨#[97]⟩ : ByteArray), (⟨#[114]⟩ : ByteArray)⟩ : Role)).Owner)), (.string (((⟨(⟨#[97]⟩ : ByteArray), (⟨#[114]⟩ : ByteArray)⟩ : Role)).Word)), (.string zS), (.string (((⟨(⟨#[98]⟩ : ByteArray), (⟨#[115]⟩ : ByteArray)⟩ : Role)).Owner)), (.string (((⟨(⟨#[98]⟩ : ByteArray), (⟨#[115]⟩ : ByteArray)⟩ : Role)).Word)), (.string (((⟨zS, zS⟩ : Role)).Owner)), (.string (((⟨zS, zS⟩ : Role)).Word)), (.string zS), (.int .i64 1), (.string (((⟨(⟨#[99]⟩ : ByteArray), (⟨#[116]⟩ : ByteArray)⟩ : Role)).Owner)), (.string (((⟨(⟨#[99]⟩ : ByteArray), (⟨#[116]⟩ : ByteArray)⟩ : Role)).Word)), (.string ((⟨#[100]⟩ : ByteArray))), (.string (((⟨zS, zS⟩ : Role)).Owner)), (.string (((⟨zS, zS⟩ : Role)).Word)), (.string (((⟨zS, zS⟩ : Role)).Owner)), (.string (((⟨zS, zS⟩ : Role)).Word)), (.string zS)] : Array Value) 83 (0, 0)) :: (S25 ++ (S28 ++ (S31 ++ []))))))) hST (by simp only [List.append_assoc, List.cons_append, List.nil_append]; exact List.Perm.refl _) rfl Tryz.call85 (by exact args1 rfl) (fun hH hN hsb hmm => w_graph_Graph_Edges_c1_s (fun (s : Int) (R : List (Nat × Obj)) => R = ((b34, Obj.cells (#[(.int .i64 (s))] : Array Value) 3 (0, 0)) :: ((b1, Obj.cells ((encRole ((⟨(⟨#[97]⟩ : ByteArray), (⟨#[114]⟩ : ByteArray)⟩ : Role))).toArray : Array Value) 47 (0, 0)) :: ((b3, Obj.cells ((encRole ((⟨(⟨#[98]⟩ : ByteArray), (⟨#[115]⟩ : ByteArray)⟩ : Role))).toArray : Array Value) 47 (0, 0)) :: [])))) (.func (.func 71) #[] #[(.pointer (some ⟨b34, 0, none⟩)), (.pointer (some ⟨b1, 0, none⟩)), (.pointer (some ⟨b3, 0, none⟩))]) (fun (s : Int) (x : (Role × Role)) => m_law22_first_c1_w x.1 x.2 s ((⟨(⟨#[97]⟩ : ByteArray), (⟨#[114]⟩ : ByteArray)⟩ : Role)) ((⟨(⟨#[98]⟩ : ByteArray), (⟨#[115]⟩ : ByteArray)⟩ : Role))) 0 (((b34, Obj.cells (#[(.int .i64 0)] : Array Value) 3 (0, 0)) :: ((b1, Obj.cells ((encRole ((⟨(⟨#[97]⟩ : ByteArray), (⟨#[114]⟩ : ByteArray)⟩ : Role))).toArray : Array Value) 47 (0, 0)) :: ((b3, Obj.cells ((encRole ((⟨(⟨#[98]⟩ : ByteArray), (⟨#[115]⟩ : ByteArray)⟩ : Role))).toArray : Array Value) 47 (0, 0)) :: [])))) b66 b19 y20 r11.1 y24 r11.2.1 y27 r11.2.2.1 y30 r11.2.2.2 _ _ hH hN (Sub.refl _) ⟨71, #[(.pointer (some ⟨b34, 0, none⟩)), (.pointer (some ⟨b1, 0, none⟩)), (.pointer (some ⟨b3, 0, none⟩))], rfl, Tryz.call71, fun W s x r R hs hI hH hN hm => by
      obtain ⟨rfl⟩ := hI
      refine GivesM.mono (w_law22_first_c1_w x.1 x.2 b34 s b1 ((⟨(⟨#[97]⟩ : ByteArray), (⟨#[114]⟩ : ByteArray)⟩ : Role)) b3 ((⟨(⟨#[98]⟩ : ByteArray), (⟨#[115]⟩ : ByteArray)⟩ : Role)) r W hH hN hs  hm) ?_
      rintro v L1 W' ⟨rfl, rfl⟩
      exact ⟨rfl, rfl⟩⟩ rfl (hs23.mono (Pl.mono _) (hle62.trans hsb)) (hy26.at (fun b o hq => hmm b o (.tail _ (.tail _ (.tail _ (List.mem_append_left _ hq)))))) (hy29.at (fun b o hq => hmm b o (.tail _ (.tail _ (.tail _ (List.mem_append_right _ (List.mem_append_left _ hq))))))) (hy32.at (fun b o hq => hmm b o (.tail _ (.tail _ (.tail _ (List.mem_append_right _ (List.mem_append_right _ (List.mem_append_left _ hq)))))))) (At.of (hmm _ _ (.tail _ (.head _))) _ rfl) (At.of (hmm _ _ (.head _)) _ rfl) hr69) (fun W70 v73 μ71 L75 hST hle72 hlift hK74 => ?_))
  obtain ⟨S76, hv78, rfl, hy77⟩ := hK74
  replace hv78 := hv78.symm; subst hv78
  obtain rfl := hy77
  simp only [List.append_assoc, List.cons_append, List.nil_append] at hST
  refine LW_nil ?_
  refine sq_n ?_
  replace hST : ST NoF w _ _ ((b34, Obj.cells (#[(.int .i64 (r68))] : Array Value) 3 (0, 0)) :: ((b1, Obj.cells ((encRole ((⟨(⟨#[97]⟩ : ByteArray), (⟨#[114]⟩ : ByteArray)⟩ : Role))).toArray : Array Value) 47 (0, 0)) :: ((b3, Obj.cells ((encRole ((⟨(⟨#[98]⟩ : ByteArray), (⟨#[115]⟩ : ByteArray)⟩ : Role))).toArray : Array Value) 47 (0, 0)) :: ((b66, Obj.cells (#[(.pointer (some ⟨b19, 0, none⟩))] : Array Value) 31 (0, 0)) :: ((b19, Obj.cells (#[y20, y24, y27, y30] : Array Value) 122 (0, 0)) :: ((b7, Obj.cells (#[(.int .i64 2), (.string (((⟨(⟨#[97]⟩ : ByteArray), (⟨#[114]⟩ : ByteArray)⟩ : Role)).Owner)), (.string (((⟨(⟨#[97]⟩ : ByteArray), (⟨#[114]⟩ : ByteArray)⟩ : Role)).Word)), (.string zS), (.string (((⟨(⟨#[98]⟩ : ByteArray), (⟨#[115]⟩ : ByteArray)⟩ : Role)).Owner)), (.string (((⟨(⟨#[98]⟩ : ByteArray), (⟨#[115]⟩ : ByteArray)⟩ : Role)).Word)), (.string (((⟨zS, zS⟩ : Role)).Owner)), (.string (((⟨zS, zS⟩ : Role)).Word)), (.string zS), (.int .i64 1), (.string (((⟨(⟨#[99]⟩ : ByteArray), (⟨#[116]⟩ : ByteArray)⟩ : Role)).Owner)), (.string (((⟨(⟨#[99]⟩ : ByteArray), (⟨#[116]⟩ : ByteArray)⟩ : Role)).Word)), (.string ((⟨#[100]⟩ : ByteArray))), (.string (((⟨zS, zS⟩ : Role)).Owner)), (.string (((⟨zS, zS⟩ : Role)).Word)), (.string (((⟨zS, zS⟩ : Role)).Owner)), (.string (((⟨zS, zS⟩ : Role)).Word)), (.string zS)] : Array Value) 83 (0, 0)) :: (S25 ++ (S28 ++ (S31 ++ []))))))))) := hST
  replace hST : ST NoF w _ _ ((b34, Obj.cells (#[(.int .i64 (r68))] : Array Value) 3 (0, 0)) :: ((b1, Obj.cells ((encRole ((⟨(⟨#[97]⟩ : ByteArray), (⟨#[114]⟩ : ByteArray)⟩ : Role))).toArray : Array Value) 47 (0, 0)) :: ((b19, Obj.cells (#[y20, y24, y27, y30] : Array Value) 122 (0, 0)) :: ((b7, Obj.cells (#[(.int .i64 2), (.string (((⟨(⟨#[97]⟩ : ByteArray), (⟨#[114]⟩ : ByteArray)⟩ : Role)).Owner)), (.string (((⟨(⟨#[97]⟩ : ByteArray), (⟨#[114]⟩ : ByteArray)⟩ : Role)).Word)), (.string zS), (.string (((⟨(⟨#[98]⟩ : ByteArray), (⟨#[115]⟩ : ByteArray)⟩ : Role)).Owner)), (.string (((⟨(⟨#[98]⟩ : ByteArray), (⟨#[115]⟩ : ByteArray)⟩ : Role)).Word)), (.string (((⟨zS, zS⟩ : Role)).Owner)), (.string (((⟨zS, zS⟩ : Role)).Word)), (.string zS), (.int .i64 1), (.string (((⟨(⟨#[99]⟩ : ByteArray), (⟨#[116]⟩ : ByteArray)⟩ : Role)).Owner)), (.string (((⟨(⟨#[99]⟩ : ByteArray), (⟨#[116]⟩ : ByteArray)⟩ : Role)).Word)), (.string ((⟨#[100]⟩ : ByteArray))), (.string (((⟨zS, zS⟩ : Role)).Owner)), (.string (((⟨zS, zS⟩ : Role)).Word)), (.string (((⟨zS, zS⟩ : Role)).Owner)), (.string (((⟨zS, zS⟩ : Role)).Word)), (.string zS)] : Array Value) 83 (0, 0)) :: (S25 ++ (S28 ++ (S31 ++ []))))))) := hST.sublist (List.Sublist.cons_cons _ (List.Sublist.cons_cons _ (List.Sublist.cons _ (List.Sublist.cons _ (List.Sublist.refl _)))))
  refine CW_seq ?_
  obtain ⟨s160, hm161, hm162⟩ := bind_some hm
  refine CW_cut (fun E W => ∃ (x155 : Bool) (μ154 : Mem) (L156 : List (Nat × Obj)), Sub μ71 μ154 ∧ ST NoF w W μ154 L156 ∧ E 0 = (.bool x155) ∧ some x155 = some r) ?_ ?_
  · refine CW_region ?_
    refine LW_v (.inl rfl) rfl (by decide) (R_move (v := (.pointer (some ⟨b19, 0, none⟩))) rfl) ?_
    obtain ⟨r163, hr164, hm161⟩ := bind_some hm161
    replace hST : ST NoF w _ _ ((b34, Obj.cells (#[(.int .i64 (r68))] : Array Value) 3 (0, 0)) :: ((b1, Obj.cells ((encRole ((⟨(⟨#[97]⟩ : ByteArray), (⟨#[114]⟩ : ByteArray)⟩ : Role))).toArray : Array Value) 47 (0, 0)) :: ((b19, Obj.cells (#[y20, y24, y27, y30] : Array Value) 122 (0, 0)) :: ((b7, Obj.cells (#[(.int .i64 2), (.string (((⟨(⟨#[97]⟩ : ByteArray), (⟨#[114]⟩ : ByteArray)⟩ : Role)).Owner)), (.string (((⟨(⟨#[97]⟩ : ByteArray), (⟨#[114]⟩ : ByteArray)⟩ : Role)).Word)), (.string zS), (.string (((⟨(⟨#[98]⟩ : ByteArray), (⟨#[115]⟩ : ByteArray)⟩ : Role)).Owner)), (.string (((⟨(⟨#[98]⟩ : ByteArray), (⟨#[115]⟩ : ByteArray)⟩ : Role)).Word)), (.string (((⟨zS, zS⟩ : Role)).Owner)), (.string (((⟨zS, zS⟩ : Role)).Word)), (.string zS), (.int .i64 1), (.string (((⟨(⟨#[99]⟩ : ByteArray), (⟨#[116]⟩ : ByteArray)⟩ : Role)).Owner)), (.string (((⟨(⟨#[99]⟩ : ByteArray), (⟨#[116]⟩ : ByteArray)⟩ : Role)).Word)), (.string ((⟨#[100]⟩ : ByteArray))), (.string (((⟨zS, zS⟩ : Role)).Owner)), (.string (((⟨zS, zS⟩ : Role)).Word)), (.string (((⟨zS, zS⟩ : Role)).Owner)), (.string (((⟨zS, zS⟩ : Role)).Word)), (.string zS)] : Array Value) 83 (0, 0)) :: (S25 ++ (S28 ++ (S31 ++ []))))))) := hST
    have hsz := hST.size
    refine LW_e (.inl rfl) rfl (by decide) (E_givesRow (args := [(.pointer (some ⟨b19, 0, none⟩))]) [_, _, _, _] _ hST rfl Tryz.call21 (by exact args1 rfl) (w_graph_Graph_Targets b19 y20 r11.1 y24 r11.2.1 y27 r11.2.2.1 y30 r11.2.2.2 _ _ (hs23.mono (Pl.mono _) ((hle62.trans hle72).trans hST.sub_hp)) (hy26.at (fun b o hq => hST.at_ (.tail _ (.tail _ (.tail _ (.tail _ (List.mem_append_left _ hq))))))) (hy29.at (fun b o hq => hST.at_ (.tail _ (.tail _ (.tail _ (.tail _ (List.mem_append_right _ (List.mem_append_left _ hq)))))))) (hy32.at (fun b o hq => hST.at_ (.tail _ (.tail _ (.tail _ (.tail _ (List.mem_append_right _ (List.mem_append_right _ (List.mem_append_left _ hq))))))))) (At.of (hST.at_ (.tail _ (.tail _ (.head _)))) _ rfl) hr164) (fun W165 v168 μ166 R169 hST hle167 hR170 => ?_))
    refine LW_v (.inl rfl) rfl (by decide) (R_lenRow Tryz.underlying23 rfl hR170) ?_
    refine LW_v (.inl rfl) rfl (by decide) (R_int (k := .i64) (a := ((r163.length : Int))) (b := 2) (v := (.bool ((((r163.length : Int)) == 2)))) rfl rfl rfl) ?_
    refine LW_v (.inl rfl) rfl (by decide) (R_move (v := (.bool ((((r163.length : Int)) == 2)))) rfl) ?_
    rcases bool_cases ((((r163.length : Int)) == 2)) with hb171 | hb171
    · replace hm161 := if_t hb171 hm161
      refine LW_v (.inr ⟨4, true, 30, rfl, rfl, by decide, (congrArg Value.bool hb171)⟩) rfl (by decide) (R_move (v := (.pointer (some ⟨b19, 0, none⟩))) rfl) ?_
      obtain ⟨r172, hr173, hm161⟩ := bind_some hm161
      replace hST : ST NoF w _ _ ((b34, Obj.cells (#[(.int .i64 (r68))] : Array Value) 3 (0, 0)) :: ((b1, Obj.cells ((encRole ((⟨(⟨#[97]⟩ : ByteArray), (⟨#[114]⟩ : ByteArray)⟩ : Role))).toArray : Array Value) 47 (0, 0)) :: ((b19, Obj.cells (#[y20, y24, y27, y30] : Array Value) 122 (0, 0)) :: ((b7, Obj.cells (#[(.int .i64 2), (.string (((⟨(⟨#[97]⟩ : ByteArray), (⟨#[114]⟩ : ByteArray)⟩ : Role)).Owner)), (.string (((⟨(⟨#[97]⟩ : ByteArray), (⟨#[114]⟩ : ByteArray)⟩ : Role)).Word)), (.string zS), (.string (((⟨(⟨#[98]⟩ : ByteArray), (⟨#[115]⟩ : ByteArray)⟩ : Role)).Owner)), (.string (((⟨(⟨#[98]⟩ : ByteArray), (⟨#[115]⟩ : ByteArray)⟩ : Role)).Word)), (.string (((⟨zS, zS⟩ : Role)).Owner)), (.string (((⟨zS, zS⟩ : Role)).Word)), (.string zS), (.int .i64 1), (.string (((⟨(⟨#[99]⟩ : ByteArray), (⟨#[116]⟩ : ByteArray)⟩ : Role)).Owner)), (.string (((⟨(⟨#[99]⟩ : ByteArray), (⟨#[116]⟩ : ByteArray)⟩ : Role)).Word)), (.string ((⟨#[100]⟩ : ByteArray))), (.string (((⟨zS, zS⟩ : Role)).Owner)), (.string (((⟨zS, zS⟩ : Role)).Word)), (.string (((⟨zS, zS⟩ : Role)).Owner)), (.string (((⟨zS, zS⟩ : Role)).Word)), (.string zS)] : Array Value) 83 (0, 0)) :: (R169 ++ (S25 ++ (S28 ++ (S31 ++ [])))))))) := hST
      have hsz := hST.size
      refine LW_e (.inr ⟨4, true, 30, rfl, rfl, by decide, (congrArg Value.bool hb171)⟩) rfl (by decide) (E_givesRow (args := [(.pointer (some ⟨b19, 0, none⟩))]) [_, _, _, _] _ hST rfl Tryz.call23 (by exact args1 rfl) (w_graph_Graph_Words b19 y20 r11.1 y24 r11.2.1 y27 r11.2.2.1 y30 r11.2.2.2 _ _ (hs23.mono (Pl.mono _) (((hle62.trans hle72).trans hle167).trans hST.sub_hp)) (hy26.at (fun b o hq => hST.at_ (.tail _ (.tail _ (.tail _ (.tail _ (List.mem_append_right _ (List.mem_append_left _ hq)))))))) (hy29.at (fun b o hq => hST.at_ (.tail _ (.tail _ (.tail _ (.tail _ (List.mem_append_right _ (List.mem_append_right _ (List.mem_append_left _ hq))))))))) (hy32.at (fun b o hq => hST.at_ (.tail _ (.tail _ (.tail _ (.tail _ (List.mem_append_right _ (List.mem_append_right _ (List.mem_append_right _ (List.mem_append_left _ hq)))))))))) (At.of (hST.at_ (.tail _ (.tail _ (.head _)))) _ rfl) hr173) (fun W174 v177 μ175 R178 hST hle176 hR179 => ?_))
      refine LW_v (.inr ⟨4, true, 30, rfl, rfl, by decide, (congrArg Value.bool hb171)⟩) rfl (by decide) (R_lenRow Tryz.underlying27 rfl hR179) ?_
      refine LW_v (.inr ⟨4, true, 30, rfl, rfl, by decide, (congrArg Value.bool hb171)⟩) rfl (by decide) (R_int (k := .i64) (a := ((r172.length : Int))) (b := 0) (v := (.bool ((((r172.length : Int)) == 0)))) rfl rfl rfl) ?_
      refine LW_v (.inl rfl) rfl (by decide) (R_pickT (v := (.bool ((((r172.length : Int)) == 0)))) (congrArg Value.bool hb171) rfl) ?_
      refine LW_v (.inl rfl) rfl (by decide) (R_move (v := (.bool ((((r172.length : Int)) == 0)))) rfl) ?_
      rcases bool_cases ((((r172.length : Int)) == 0)) with hb180 | hb180
      · replace hm161 := if_t hb180 hm161
        refine LW_v (.inr ⟨10, true, 36, rfl, rfl, by decide, (congrArg Value.bool hb180)⟩) rfl (by decide) (R_move (v := (.pointer (some ⟨b19, 0, none⟩))) rfl) ?_
        obtain ⟨r181, hr182, hm161⟩ := bind_some hm161
        replace hST : ST NoF w _ _ ((b34, Obj.cells (#[(.int .i64 (r68))] : Array Value) 3 (0, 0)) :: ((b1, Obj.cells ((encRole ((⟨(⟨#[97]⟩ : ByteArray), (⟨#[114]⟩ : ByteArray)⟩ : Role))).toArray : Array Value) 47 (0, 0)) :: ((b19, Obj.cells (#[y20, y24, y27, y30] : Array Value) 122 (0, 0)) :: ((b7, Obj.cells (#[(.int .i64 2), (.string (((⟨(⟨#[97]⟩ : ByteArray), (⟨#[114]⟩ : ByteArray)⟩ : Role)).Owner)), (.string (((⟨(⟨#[97]⟩ : ByteArray), (⟨#[114]⟩ : ByteArray)⟩ : Role)).Word)), (.string zS), (.string (((⟨(⟨#[98]⟩ : ByteArray), (⟨#[115]⟩ : ByteArray)⟩ : Role)).Owner)), (.string (((⟨(⟨#[98]⟩ : ByteArray), (⟨#[115]⟩ : ByteArray)⟩ : Role)).Word)), (.string (((⟨zS, zS⟩ : Role)).Owner)), (.string (((⟨zS, zS⟩ : Role)).Word)), (.string zS), (.int .i64 1), (.string (((⟨(⟨#[99]⟩ : ByteArray), (⟨#[116]⟩ : ByteArray)⟩ : Role)).Owner)), (.string (((⟨(⟨#[99]⟩ : ByteArray), (⟨#[116]⟩ : ByteArray)⟩ : Role)).Word)), (.string ((⟨#[100]⟩ : ByteArray))), (.string (((⟨zS, zS⟩ : Role)).Owner)), (.string (((⟨zS, zS⟩ : Role)).Word)), (.string (((⟨zS, zS⟩ : Role)).Owner)), (.string (((⟨zS, zS⟩ : Role)).Word)), (.string zS)] : Array Value) 83 (0, 0)) :: (R178 ++ (R169 ++ (S25 ++ (S28 ++ (S31 ++ []))))))))) := hST
        have hsz := hST.size
        refine LW_e (.inr ⟨10, true, 36, rfl, rfl, by decide, (congrArg Value.bool hb180)⟩) rfl (by decide) (E_givesRow (args := [(.pointer (some ⟨b19, 0, none⟩))]) [_, _, _, _] _ hST rfl Tryz.call25 (by exact args1 rfl) (w_graph_Graph_Relevant b19 y20 r11.1 y24 r11.2.1 y27 r11.2.2.1 y30 r11.2.2.2 _ _ (hs23.mono (Pl.mono _) ((((hle62.trans hle72).trans hle167).trans hle176).trans hST.sub_hp)) (hy26.at (fun b o hq => hST.at_ (.tail _ (.tail _ (.tail _ (.tail _ (List.mem_append_right _ (List.mem_append_right _ (List.mem_append_left _ hq))))))))) (hy29.at (fun b o hq => hST.at_ (.tail _ (.tail _ (.tail _ (.tail _ (List.mem_append_right _ (List.mem_append_right _ (List.mem_append_right _ (List.mem_append_left _ hq)))))))))) (hy32.at (fun b o hq => hST.at_ (.tail _ (.tail _ (.tail _ (.tail _ (List.mem_append_right _ (List.mem_append_right _ (List.mem_append_right _ (List.mem_append_right _ (List.mem_append_left _ hq))))))))))) (At.of (hST.at_ (.tail _ (.tail _ (.head _)))) _ rfl) hr182) (fun W183 v186 μ184 R187 hST hle185 hR188 => ?_))
        refine LW_v (.inr ⟨10, true, 36, rfl, rfl, by decide, (congrArg Value.bool hb180)⟩) rfl (by decide) (R_lenRow Tryz.underlying22 rfl hR188) ?_
        refine LW_v (.inr ⟨10, true, 36, rfl, rfl, by decide, (congrArg Value.bool hb180)⟩) rfl (by decide) (R_int (k := .i64) (a := ((r181.length : Int))) (b := 1) (v := (.bool ((((r181.length : Int)) == 1)))) rfl rfl rfl) ?_
        refine LW_v (.inl rfl) rfl (by decide) (R_pickT (v := (.bool ((((r181.length : Int)) == 1)))) (congrArg Value.bool hb180) rfl) ?_
        refine LW_v (.inl rfl) rfl (by decide) (R_move (v := (.bool ((((r181.length : Int)) == 1)))) rfl) ?_
        rcases bool_cases ((((r181.length : Int)) == 1)) with hb189 | hb189
        · replace hm161 := if_t hb189 hm161
          refine LW_v (.inr ⟨16, true, 42, rfl, rfl, by decide, (congrArg Value.bool hb189)⟩) rfl (by decide) (R_load (v := (.int .i64 r68)) rfl (load_box1 hST.has (.head _) rfl Tryz.isAgg3)) ?_
          refine LW_v (.inr ⟨16, true, 42, rfl, rfl, by decide, (congrArg Value.bool hb189)⟩) rfl (by decide) (R_int (k := .i64) (a := r68) (b := 1) (v := (.bool ((r68 == 1)))) rfl rfl rfl) ?_
          refine LW_v (.inl rfl) rfl (by decide) (R_pickT (v := (.bool ((r68 == 1)))) (congrArg Value.bool hb189) rfl) ?_
          refine LW_v (.inl rfl) rfl (by decide) (R_move (v := (.bool ((r68 == 1)))) rfl) ?_
          rcases bool_cases ((r68 == 1)) with hb190 | hb190
          · replace hm161 := if_t hb190 hm161
            refine LW_v (.inr ⟨20, true, 46, rfl, rfl, by decide, (congrArg Value.bool hb190)⟩) rfl (by decide) (R_move (v := (.pointer (some ⟨b19, 0, none⟩))) rfl) ?_
            refine LW_v (.inr ⟨20, true, 46, rfl, rfl, by decide, (congrArg Value.bool hb190)⟩) rfl (by decide) (R_move (v := (.slice (some ⟨b7, 0, none⟩) 2 2)) rfl) ?_
            refine LW_v (.inr ⟨20, true, 46, rfl, rfl, by decide, (congrArg Value.bool hb190)⟩) rfl (by decide) (R_indexLit (i := 1) Tryz.underlying22 Tryz.sizeOf83 rfl rfl (by decide) (by decide) rfl) ?_
            refine LW_v (.inr ⟨20, true, 46, rfl, rfl, by decide, (congrArg Value.bool hb190)⟩) rfl (by decide) (R_field fa83_1 rfl) ?_
            refine LW_v (.inr ⟨20, true, 46, rfl, rfl, by decide, (congrArg Value.bool hb190)⟩) rfl (by decide) (R_load (v := (.agg (encRole ((⟨(⟨#[99]⟩ : ByteArray), (⟨#[116]⟩ : ByteArray)⟩ : Role))).toArray)) rfl (load_boxA hST.has (.tail _ (.tail _ (.tail _ (.head _)))) (encRole ((⟨(⟨#[99]⟩ : ByteArray), (⟨#[116]⟩ : ByteArray)⟩ : Role))) rfl Tryz.isAgg47 Tryz.sizeOf47)) ?_
            refine LW_e (.inr ⟨20, true, 46, rfl, rfl, by decide, (congrArg Value.bool hb190)⟩) rfl (by decide) (E_buildSlice (qs := #[(0, (.agg (encRole ((⟨(⟨#[99]⟩ : ByteArray), (⟨#[116]⟩ : ByteArray)⟩ : Role))).toArray))]) (cs := (encRole ((⟨(⟨#[99]⟩ : ByteArray), (⟨#[116]⟩ : ByteArray)⟩ : Role))).toArray) hST (parts1 rfl) (run_lit [(.agg (encRole ((⟨(⟨#[99]⟩ : ByteArray), (⟨#[116]⟩ : ByteArray)⟩ : Role))).toArray)] Tryz.underlying23 Tryz.sizeOf47 Tryz.zeroValue47 (by decide) rfl (by intro v hv; simp only [List.mem_cons, List.not_mem_nil, or_false] at hv; rcases hv with rfl <;> rfl) rfl rfl) (fun W195 b194 hST => ?_))
            obtain ⟨r196, hr197, hm161⟩ := bind_some hm161
            replace hST : ST NoF w _ _ ((b19, Obj.cells (#[y20, y24, y27, y30] : Array Value) 122 (0, 0)) :: (S25 ++ (S28 ++ (S31 ++ ((b194, Obj.cells ((encRole ((⟨(⟨#[99]⟩ : ByteArray), (⟨#[116]⟩ : ByteArray)⟩ : Role))).toArray : Array Value) 47 (0, 0)) :: ((b34, Obj.cells (#[(.int .i64 (r68))] : Array Value) 3 (0, 0)) :: ((b1, Obj.cells ((encRole ((⟨(⟨#[97]⟩ : ByteArray), (⟨#[114]⟩ : ByteArray)⟩ : Role))).toArray : Array Value) 47 (0, 0)) :: ((b7, Obj.cells (#[(.int .i64 2), (.string (((⟨(⟨#[97]⟩ : ByteArray), (⟨#[114]⟩ : ByteArray)⟩ : Role)).Owner)), (.string (((⟨(⟨#[97]⟩ : ByteArray), (⟨#[114]⟩ : ByteArray)⟩ : Role)).Word)), (.string zS), (.string (((⟨(⟨#[98]⟩ : ByteArray), (⟨#[115]⟩ : ByteArray)⟩ : Role)).Owner)), (.string (((⟨(⟨#[98]⟩ : ByteArray), (⟨#[115]⟩ : ByteArray)⟩ : Role)).Word)), (.string (((⟨zS, zS⟩ : Role)).Owner)), (.string (((⟨zS, zS⟩ : Role)).Word)), (.string zS), (.int .i64 1), (.string (((⟨(⟨#[99]⟩ : ByteArray), (⟨#[116]⟩ : ByteArray)⟩ : Role)).Owner)), (.string (((⟨(⟨#[99]⟩ : ByteArray), (⟨#[116]⟩ : ByteArray)⟩ : Role)).Word)), (.string ((⟨#[100]⟩ : ByteArray))), (.string (((⟨zS, zS⟩ : Role)).Owner)), (.string (((⟨zS, zS⟩ : Role)).Word)), (.string (((⟨zS, zS⟩ : Role)).Owner)), (.string (((⟨zS, zS⟩ : Role)).Word)), (.string zS)] : Array Value) 83 (0, 0)) :: (R187 ++ (R178 ++ (R169 ++ []))))))))))) := hST.perm (permD [[(b194, Obj.cells ((encRole ((⟨(⟨#[99]⟩ : ByteArray), (⟨#[116]⟩ : ByteArray)⟩ : Role))).toArray : Array Value) 47 (0, 0))], [(b34, Obj.cells (#[(.int .i64 (r68))] : Array Value) 3 (0, 0))], [(b1, Obj.cells ((encRole ((⟨(⟨#[97]⟩ : ByteArray), (⟨#[114]⟩ : ByteArray)⟩ : Role))).toArray : Array Value) 47 (0, 0))], [(b19, Obj.cells (#[y20, y24, y27, y30] : Array Value) 122 (0, 0))], [(b7, Obj.cells (#[(.int .i64 2), (.string (((⟨(⟨#[97]⟩ : ByteArray), (⟨#[114]⟩ : ByteArray)⟩ : Role)).Owner)), (.string (((⟨(⟨#[97]⟩ : ByteArray), (⟨#[114]⟩ : ByteArray)⟩ : Role)).Word)), (.string zS), (.string (((⟨(⟨#[98]⟩ : ByteArray), (⟨#[115]⟩ : ByteArray)⟩ : Role)).Owner)), (.string (((⟨(⟨#[98]⟩ : ByteArray), (⟨#[115]⟩ : ByteArray)⟩ : Role)).Word)), (.string (((⟨zS, zS⟩ : Role)).Owner)), (.string (((⟨zS, zS⟩ : Role)).Word)), (.string zS), (.int .i64 1), (.string (((⟨(⟨#[99]⟩ : ByteArray), (⟨#[116]⟩ : ByteArray)⟩ : Role)).Owner)), (.string (((⟨(⟨#[99]⟩ : ByteArray), (⟨#[116]⟩ : ByteArray)⟩ : Role)).Word)), (.string ((⟨#[100]⟩ : ByteArray))), (.string (((⟨zS, zS⟩ : Role)).Owner)), (.string (((⟨zS, zS⟩ : Role)).Word)), (.string (((⟨zS, zS⟩ : Role)).Owner)), (.string (((⟨zS, zS⟩ : Role)).Word)), (.string zS)] : Array Value) 83 (0, 0))], R187, R178, R169, S25, S28, S31] [0, 1, 2, 3, 4, 5, 6, 7, 8, 9, 10] [3, 8, 9, 10, 0, 1, 2, 4, 5, 6, 7] ([]) (by decide) rfl rfl)
            have hsz := hST.size
            refine LW_e (.inr ⟨20, true, 46, rfl, rfl, by decide, (congrArg Value.bool hb190)⟩) rfl (by decide) (E_callM (args := [(.pointer (some ⟨b19, 0, none⟩)), (.slice (some ⟨b194, 0, none⟩) 1 1)]) (caps := #[]) (((b19, Obj.cells (#[y20, y24, y27, y30] : Array Value) 122 (0, 0)) :: (S25 ++ (S28 ++ (S31 ++ []))))) (((b194, Obj.cells ((encRole ((⟨(⟨#[99]⟩ : ByteArray), (⟨#[116]⟩ : ByteArray)⟩ : Role))).toArray : Array Value) 47 (0, 0)) :: ((b34, Obj.cells (#[(.int .i64 (r68))] : Array Value) 3 (0, 0)) :: ((b1, Obj.cells ((encRole ((⟨(⟨#[97]⟩ : ByteArray), (⟨#[114]⟩ : ByteArray)⟩ : Role))).toArray : Array Value) 47 (0, 0)) :: ((b7, Obj.cells (#[(.int .i64 2), (.string (((⟨(⟨#[97]⟩ : ByteArray), (⟨#[114]⟩ : ByteArray)⟩ : Role)).Owner)), (.string (((⟨(⟨#[97]⟩ : ByteArray), (⟨#[114]⟩ : ByteArray)⟩ : Role)).Word)), (.string zS), (.string (((⟨(⟨#[98]⟩ : ByteArray), (⟨#[115]⟩ : ByteArray)⟩ : Role)).Owner)), (.string (((⟨(⟨#[98]⟩ : ByteArray), (⟨#[115]⟩ : ByteArray)⟩ : Role)).Word)), (.string (((⟨zS, zS⟩ : Role)).Owner)), (.string (((⟨zS, zS⟩ : Role)).Word)), (.string zS), (.int .i64 1), (.string (((⟨(⟨#[99]⟩ : ByteArray), (⟨#[116]⟩ : ByteArray)⟩ : Role)).Owner)), (.string (((⟨(⟨#[99]⟩ : ByteArray), (⟨#[116]⟩ : ByteArray)⟩ : Role)).Word)), (.string ((⟨#[100]⟩ : ByteArray))), (.string (((⟨zS, zS⟩ : Role)).Owner)), (.string (((⟨zS, zS⟩ : Role)).Word)), (.string (((⟨zS, zS⟩ : Role)).Owner)), (.string (((⟨zS, zS⟩ : Role)).Word)), (.string zS)] : Array Value) 83 (0, 0)) :: (R187 ++ (R178 ++ (R169 ++ [])))))))) hST (by simp only [List.append_assoc, List.cons_append, List.nil_append]; exact List.Perm.refl _) rfl Tryz.call26 (by exact args2 rfl rfl) (fun hH hN hsb hmm => w_graph_Graph_Want_w b19 y20 r11.1 y24 r11.2.1 S25 y27 r11.2.2.1 S28 y30 r11.2.2.2 S31 (.slice (some ⟨b194, 0, none⟩) 1 1) ([(⟨(⟨#[99]⟩ : ByteArray), (⟨#[116]⟩ : ByteArray)⟩ : Role)]) _ _ hH hN (Sub.refl _) (hs23.mono (Pl.mono _) (((((hle62.trans hle72).trans hle167).trans hle176).trans hle185).trans hsb)) hy26 hy29 hy32 (Sl.lit (enc := encRole) (l := [(⟨(⟨#[99]⟩ : ByteArray), (⟨#[116]⟩ : ByteArray)⟩ : Role)]) lenRole rfl (Nat.le_of_ble_eq_true rfl) rfl (hmm _ _ (.head _))) hr197) (fun W198 v201 μ199 L203 hST hle200 hlift hK202 => ?_))
            obtain ⟨S204, S206, S208, hv210, rfl, hy205, hy207, hy209⟩ := hK202
            replace hv210 := hv210.symm; subst hv210
            simp only [List.append_assoc, List.cons_append, List.nil_append] at hST
            replace hST : ST NoF w _ _ ((b19, Obj.cells (#[y20, y24, y27, y30] : Array Value) 122 (0, 0)) :: ((b194, Obj.cells ((encRole ((⟨(⟨#[99]⟩ : ByteArray), (⟨#[116]⟩ : ByteArray)⟩ : Role))).toArray : Array Value) 47 (0, 0)) :: ((b34, Obj.cells (#[(.int .i64 (r68))] : Array Value) 3 (0, 0)) :: ((b1, Obj.cells ((encRole ((⟨(⟨#[97]⟩ : ByteArray), (⟨#[114]⟩ : ByteArray)⟩ : Role))).toArray : Array Value) 47 (0, 0)) :: ((b7, Obj.cells (#[(.int .i64 2), (.string (((⟨(⟨#[97]⟩ : ByteArray), (⟨#[114]⟩ : ByteArray)⟩ : Role)).Owner)), (.string (((⟨(⟨#[97]⟩ : ByteArray), (⟨#[114]⟩ : ByteArray)⟩ : Role)).Word)), (.string zS), (.string (((⟨(⟨#[98]⟩ : ByteArray), (⟨#[115]⟩ : ByteArray)⟩ : Role)).Owner)), (.string (((⟨(⟨#[98]⟩ : ByteArray), (⟨#[115]⟩ : ByteArray)⟩ : Role)).Word)), (.string (((⟨zS, zS⟩ : Role)).Owner)), (.string (((⟨zS, zS⟩ : Role)).Word)), (.string zS), (.int .i64 1), (.string (((⟨(⟨#[99]⟩ : ByteArray), (⟨#[116]⟩ : ByteArray)⟩ : Role)).Owner)), (.string (((⟨(⟨#[99]⟩ : ByteArray), (⟨#[116]⟩ : ByteArray)⟩ : Role)).Word)), (.string ((⟨#[100]⟩ : ByteArray))), (.string (((⟨zS, zS⟩ : Role)).Owner)), (.string (((⟨zS, zS⟩ : Role)).Word)), (.string (((⟨zS, zS⟩ : Role)).Owner)), (.string (((⟨zS, zS⟩ : Role)).Word)), (.string zS)] : Array Value) 83 (0, 0)) :: (S204 ++ (S206 ++ (S208 ++ (R187 ++ (R178 ++ (R169 ++ []))))))))))) := hST.perm (permD [[(b19, Obj.cells (#[y20, y24, y27, y30] : Array Value) 122 (0, 0))], S204, S206, S208, [(b194, Obj.cells ((encRole ((⟨(⟨#[99]⟩ : ByteArray), (⟨#[116]⟩ : ByteArray)⟩ : Role))).toArray : Array Value) 47 (0, 0))], [(b34, Obj.cells (#[(.int .i64 (r68))] : Array Value) 3 (0, 0))], [(b1, Obj.cells ((encRole ((⟨(⟨#[97]⟩ : ByteArray), (⟨#[114]⟩ : ByteArray)⟩ : Role))).toArray : Array Value) 47 (0, 0))], [(b7, Obj.cells (#[(.int .i64 2), (.string (((⟨(⟨#[97]⟩ : ByteArray), (⟨#[114]⟩ : ByteArray)⟩ : Role)).Owner)), (.string (((⟨(⟨#[97]⟩ : ByteArray), (⟨#[114]⟩ : ByteArray)⟩ : Role)).Word)), (.string zS), (.string (((⟨(⟨#[98]⟩ : ByteArray), (⟨#[115]⟩ : ByteArray)⟩ : Role)).Owner)), (.string (((⟨(⟨#[98]⟩ : ByteArray), (⟨#[115]⟩ : ByteArray)⟩ : Role)).Word)), (.string (((⟨zS, zS⟩ : Role)).Owner)), (.string (((⟨zS, zS⟩ : Role)).Word)), (.string zS), (.int .i64 1), (.string (((⟨(⟨#[99]⟩ : ByteArray), (⟨#[116]⟩ : ByteArray)⟩ : Role)).Owner)), (.string (((⟨(⟨#[99]⟩ : ByteArray), (⟨#[116]⟩ : ByteArray)⟩ : Role)).Word)), (.string ((⟨#[100]⟩ : ByteArray))), (.string (((⟨zS, zS⟩ : Role)).Owner)), (.string (((⟨zS, zS⟩ : Role)).Word)), (.string (((⟨zS, zS⟩ : Role)).Owner)), (.string (((⟨zS, zS⟩ : Role)).Word)), (.string zS)] : Array Value) 83 (0, 0))]] [0, 1, 2, 3, 4, 5, 6, 7] [0, 4, 5, 6, 7, 1, 2, 3] ((R187 ++ (R178 ++ (R169 ++ [])))) (by decide) rfl rfl)
            refine LW_v (.inr ⟨20, true, 46, rfl, rfl, by decide, (congrArg Value.bool hb190)⟩) rfl (by decide) (R_int (k := .i64) (a := r196.1) (b := 1) (v := (.bool ((r196.1 == 1)))) rfl rfl rfl) ?_
            refine LW_v (.inl rfl) rfl (by decide) (R_pickT (v := (.bool ((r196.1 == 1)))) (congrArg Value.bool hb190) rfl) ?_
            refine LW_v (.inl rfl) rfl (by decide) (R_move (v := (.bool ((r196.1 == 1)))) rfl) ?_
            rcases bool_cases ((r196.1 == 1)) with hb211 | hb211
            · replace hm161 := if_t hb211 hm161
              refine LW_v (.inr ⟨30, true, 56, rfl, rfl, by decide, (congrArg Value.bool hb211)⟩) rfl (by decide) (R_move (v := (.pointer (some ⟨b19, 0, none⟩))) rfl) ?_
              obtain ⟨r212, hr213, hm161⟩ := bind_some hm161
              replace hST : ST NoF w _ _ ((b19, Obj.cells (#[y20, y24, y27, y30] : Array Value) 122 (0, 0)) :: ((b194, Obj.cells ((encRole ((⟨(⟨#[99]⟩ : ByteArray), (⟨#[116]⟩ : ByteArray)⟩ : Role))).toArray : Array Value) 47 (0, 0)) :: ((b34, Obj.cells (#[(.int .i64 (r68))] : Array Value) 3 (0, 0)) :: ((b1, Obj.cells ((encRole ((⟨(⟨#[97]⟩ : ByteArray), (⟨#[114]⟩ : ByteArray)⟩ : Role))).toArray : Array Value) 47 (0, 0)) :: ((b7, Obj.cells (#[(.int .i64 2), (.string (((⟨(⟨#[97]⟩ : ByteArray), (⟨#[114]⟩ : ByteArray)⟩ : Role)).Owner)), (.string (((⟨(⟨#[97]⟩ : ByteArray), (⟨#[114]⟩ : ByteArray)⟩ : Role)).Word)), (.string zS), (.string (((⟨(⟨#[98]⟩ : ByteArray), (⟨#[115]⟩ : ByteArray)⟩ : Role)).Owner)), (.string (((⟨(⟨#[98]⟩ : ByteArray), (⟨#[115]⟩ : ByteArray)⟩ : Role)).Word)), (.string (((⟨zS, zS⟩ : Role)).Owner)), (.string (((⟨zS, zS⟩ : Role)).Word)), (.string zS), (.int .i64 1), (.string (((⟨(⟨#[99]⟩ : ByteArray), (⟨#[116]⟩ : ByteArray)⟩ : Role)).Owner)), (.string (((⟨(⟨#[99]⟩ : ByteArray), (⟨#[116]⟩ : ByteArray)⟩ : Role)).Word)), (.string ((⟨#[100]⟩ : ByteArray))), (.string (((⟨zS, zS⟩ : Role)).Owner)), (.string (((⟨zS, zS⟩ : Role)).Word)), (.string (((⟨zS, zS⟩ : Role)).Owner)), (.string (((⟨zS, zS⟩ : Role)).Word)), (.string zS)] : Array Value) 83 (0, 0)) :: (S204 ++ (S206 ++ (S208 ++ (R187 ++ (R178 ++ (R169 ++ []))))))))))) := hST
              have hsz := hST.size
              refine LW_e (.inr ⟨30, true, 56, rfl, rfl, by decide, (congrArg Value.bool hb211)⟩) rfl (by decide) (E_givesRow (args := [(.pointer (some ⟨b19, 0, none⟩))]) [_, _, _, _, _] _ hST rfl Tryz.call25 (by exact args1 rfl) (w_graph_Graph_Relevant b19 y20 r11.1 y24 r196.2.1 y27 r196.2.2.1 y30 r196.2.2.2 _ _ (hs23.mono (Pl.mono _) ((((((hle62.trans hle72).trans hle167).trans hle176).trans hle185).trans hle200).trans hST.sub_hp)) (hy205.at (fun b o hq => hST.at_ (.tail _ (.tail _ (.tail _ (.tail _ (.tail _ (List.mem_append_left _ hq)))))))) (hy207.at (fun b o hq => hST.at_ (.tail _ (.tail _ (.tail _ (.tail _ (.tail _ (List.mem_append_right _ (List.mem_append_left _ hq))))))))) (hy209.at (fun b o hq => hST.at_ (.tail _ (.tail _ (.tail _ (.tail _ (.tail _ (List.mem_append_right _ (List.mem_append_right _ (List.mem_append_left _ hq)))))))))) (At.of (hST.at_ (.head _)) _ rfl) hr213) (fun W214 v217 μ215 R218 hST hle216 hR219 => ?_))
              refine LW_v (.inr ⟨30, true, 56, rfl, rfl, by decide, (congrArg Value.bool hb211)⟩) rfl (by decide) (R_lenRow Tryz.underlying22 rfl hR219) ?_
              refine LW_v (.inr ⟨30, true, 56, rfl, rfl, by decide, (congrArg Value.bool hb211)⟩) rfl (by decide) (R_int (k := .i64) (a := ((r212.length : Int))) (b := 2) (v := (.bool ((((r212.length : Int)) == 2)))) rfl rfl rfl) ?_
              refine LW_v (.inl rfl) rfl (by decide) (R_pickT (v := (.bool ((((r212.length : Int)) == 2)))) (congrArg Value.bool hb211) rfl) ?_
              refine LW_v (.inl rfl) rfl (by decide) (R_move (v := (.bool ((((r212.length : Int)) == 2)))) rfl) ?_
              rcases bool_cases ((((r212.length : Int)) == 2)) with hb220 | hb220
              · replace hm161 := if_t hb220 hm161
                refine LW_v (.inr ⟨36, true, 62, rfl, rfl, by decide, (congrArg Value.bool hb220)⟩) rfl (by decide) (R_move (v := (.pointer (some ⟨b19, 0, none⟩))) rfl) ?_
                refine LW_v (.inr ⟨36, true, 62, rfl, rfl, by decide, (congrArg Value.bool hb220)⟩) rfl (by decide) (R_load (v := (.agg (encRole ((⟨(⟨#[97]⟩ : ByteArray), (⟨#[114]⟩ : ByteArray)⟩ : Role))).toArray)) rfl (load_boxA hST.has (.tail _ (.tail _ (.tail _ (.head _)))) (encRole ((⟨(⟨#[97]⟩ : ByteArray), (⟨#[114]⟩ : ByteArray)⟩ : Role))) rfl Tryz.isAgg47 Tryz.sizeOf47)) ?_
                refine LW_e (.inr ⟨36, true, 62, rfl, rfl, by decide, (congrArg Value.bool hb220)⟩) rfl (by decide) (E_buildSlice (qs := #[(0, (.agg (encRole ((⟨(⟨#[97]⟩ : ByteArray), (⟨#[114]⟩ : ByteArray)⟩ : Role))).toArray))]) (cs := (encRole ((⟨(⟨#[97]⟩ : ByteArray), (⟨#[114]⟩ : ByteArray)⟩ : Role))).toArray) hST (parts1 rfl) (run_lit [(.agg (encRole ((⟨(⟨#[97]⟩ : ByteArray), (⟨#[114]⟩ : ByteArray)⟩ : Role))).toArray)] Tryz.underlying23 Tryz.sizeOf47 Tryz.zeroValue47 (by decide) rfl (by intro v hv; simp only [List.mem_cons, List.not_mem_nil, or_false] at hv; rcases hv with rfl <;> rfl) rfl rfl) (fun W222 b221 hST => ?_))
                obtain ⟨r223, hr224, hm161⟩ := bind_some hm161
                replace hST : ST NoF w _ _ ((b19, Obj.cells (#[y20, y24, y27, y30] : Array Value) 122 (0, 0)) :: (S204 ++ (S206 ++ (S208 ++ ((b221, Obj.cells ((encRole ((⟨(⟨#[97]⟩ : ByteArray), (⟨#[114]⟩ : ByteArray)⟩ : Role))).toArray : Array Value) 47 (0, 0)) :: ((b194, Obj.cells ((encRole ((⟨(⟨#[99]⟩ : ByteArray), (⟨#[116]⟩ : ByteArray)⟩ : Role))).toArray : Array Value) 47 (0, 0)) :: ((b34, Obj.cells (#[(.int .i64 (r68))] : Array Value) 3 (0, 0)) :: ((b1, Obj.cells ((encRole ((⟨(⟨#[97]⟩ : ByteArray), (⟨#[114]⟩ : ByteArray)⟩ : Role))).toArray : Array Value) 47 (0, 0)) :: ((b7, Obj.cells (#[(.int .i64 2), (.string (((⟨(⟨#[97]⟩ : ByteArray), (⟨#[114]⟩ : ByteArray)⟩ : Role)).Owner)), (.string (((⟨(⟨#[97]⟩ : ByteArray), (⟨#[114]⟩ : ByteArray)⟩ : Role)).Word)), (.string zS), (.string (((⟨(⟨#[98]⟩ : ByteArray), (⟨#[115]⟩ : ByteArray)⟩ : Role)).Owner)), (.string (((⟨(⟨#[98]⟩ : ByteArray), (⟨#[115]⟩ : ByteArray)⟩ : Role)).Word)), (.string (((⟨zS, zS⟩ : Role)).Owner)), (.string (((⟨zS, zS⟩ : Role)).Word)), (.string zS), (.int .i64 1), (.string (((⟨(⟨#[99]⟩ : ByteArray), (⟨#[116]⟩ : ByteArray)⟩ : Role)).Owner)), (.string (((⟨(⟨#[99]⟩ : ByteArray), (⟨#[116]⟩ : ByteArray)⟩ : Role)).Word)), (.string ((⟨#[100]⟩ : ByteArray))), (.string (((⟨zS, zS⟩ : Role)).Owner)), (.string (((⟨zS, zS⟩ : Role)).Word)), (.string (((⟨zS, zS⟩ : Role)).Owner)), (.string (((⟨zS, zS⟩ : Role)).Word)), (.string zS)] : Array Value) 83 (0, 0)) :: (R218 ++ (R187 ++ (R178 ++ (R169 ++ []))))))))))))) := hST.perm (permD [[(b221, Obj.cells ((encRole ((⟨(⟨#[97]⟩ : ByteArray), (⟨#[114]⟩ : ByteArray)⟩ : Role))).toArray : Array Value) 47 (0, 0))], [(b19, Obj.cells (#[y20, y24, y27, y30] : Array Value) 122 (0, 0))], [(b194, Obj.cells ((encRole ((⟨(⟨#[99]⟩ : ByteArray), (⟨#[116]⟩ : ByteArray)⟩ : Role))).toArray : Array Value) 47 (0, 0))], [(b34, Obj.cells (#[(.int .i64 (r68))] : Array Value) 3 (0, 0))], [(b1, Obj.cells ((encRole ((⟨(⟨#[97]⟩ : ByteArray), (⟨#[114]⟩ : ByteArray)⟩ : Role))).toArray : Array Value) 47 (0, 0))], [(b7, Obj.cells (#[(.int .i64 2), (.string (((⟨(⟨#[97]⟩ : ByteArray), (⟨#[114]⟩ : ByteArray)⟩ : Role)).Owner)), (.string (((⟨(⟨#[97]⟩ : ByteArray), (⟨#[114]⟩ : ByteArray)⟩ : Role)).Word)), (.string zS), (.string (((⟨(⟨#[98]⟩ : ByteArray), (⟨#[115]⟩ : ByteArray)⟩ : Role)).Owner)), (.string (((⟨(⟨#[98]⟩ : ByteArray), (⟨#[115]⟩ : ByteArray)⟩ : Role)).Word)), (.string (((⟨zS, zS⟩ : Role)).Owner)), (.string (((⟨zS, zS⟩ : Role)).Word)), (.string zS), (.int .i64 1), (.string (((⟨(⟨#[99]⟩ : ByteArray), (⟨#[116]⟩ : ByteArray)⟩ : Role)).Owner)), (.string (((⟨(⟨#[99]⟩ : ByteArray), (⟨#[116]⟩ : ByteArray)⟩ : Role)).Word)), (.string ((⟨#[100]⟩ : ByteArray))), (.string (((⟨zS, zS⟩ : Role)).Owner)), (.string (((⟨zS, zS⟩ : Role)).Word)), (.string (((⟨zS, zS⟩ : Role)).Owner)), (.string (((⟨zS, zS⟩ : Role)).Word)), (.string zS)] : Array Value) 83 (0, 0))], R218, S204, S206, S208] [0, 1, 2, 3, 4, 5, 6, 7, 8, 9] [1, 7, 8, 9, 0, 2, 3, 4, 5, 6] ((R187 ++ (R178 ++ (R169 ++ [])))) (by decide) rfl rfl)
                have hsz := hST.size
                refine LW_e (.inr ⟨36, true, 62, rfl, rfl, by decide, (congrArg Value.bool hb220)⟩) rfl (by decide) (E_callM (args := [(.pointer (some ⟨b19, 0, none⟩)), (.slice (some ⟨b221, 0, none⟩) 1 1)]) (caps := #[]) (((b19, Obj.cells (#[y20, y24, y27, y30] : Array Value) 122 (0, 0)) :: (S204 ++ (S206 ++ (S208 ++ []))))) (((b221, Obj.cells ((encRole ((⟨(⟨#[97]⟩ : ByteArray), (⟨#[114]⟩ : ByteArray)⟩ : Role))).toArray : Array Value) 47 (0, 0)) :: ((b194, Obj.cells ((encRole ((⟨(⟨#[99]⟩ : ByteArray), (⟨#[116]⟩ : ByteArray)⟩ : Role))).toArray : Array Value) 47 (0, 0)) :: ((b34, Obj.cells (#[(.int .i64 (r68))] : Array Value) 3 (0, 0)) :: ((b1, Obj.cells ((encRole ((⟨(⟨#[97]⟩ : ByteArray), (⟨#[114]⟩ : ByteArray)⟩ : Role))).toArray : Array Value) 47 (0, 0)) :: ((b7, Obj.cells (#[(.int .i64 2), (.string (((⟨(⟨#[97]⟩ : ByteArray), (⟨#[114]⟩ : ByteArray)⟩ : Role)).Owner)), (.string (((⟨(⟨#[97]⟩ : ByteArray), (⟨#[114]⟩ : ByteArray)⟩ : Role)).Word)), (.string zS), (.string (((⟨(⟨#[98]⟩ : ByteArray), (⟨#[115]⟩ : ByteArray)⟩ : Role)).Owner)), (.string (((⟨(⟨#[98]⟩ : ByteArray), (⟨#[115]⟩ : ByteArray)⟩ : Role)).Word)), (.string (((⟨zS, zS⟩ : Role)).Owner)), (.string (((⟨zS, zS⟩ : Role)).Word)), (.string zS), (.int .i64 1), (.string (((⟨(⟨#[99]⟩ : ByteArray), (⟨#[116]⟩ : ByteArray)⟩ : Role)).Owner)), (.string (((⟨(⟨#[99]⟩ : ByteArray), (⟨#[116]⟩ : ByteArray)⟩ : Role)).Word)), (.string ((⟨#[100]⟩ : ByteArray))), (.string (((⟨zS, zS⟩ : Role)).Owner)), (.string (((⟨zS, zS⟩ : Role)).Word)), (.string (((⟨zS, zS⟩ : Role)).Owner)), (.string (((⟨zS, zS⟩ : Role)).Word)), (.string zS)] : Array Value) 83 (0, 0)) :: (R218 ++ (R187 ++ (R178 ++ (R169 ++ [])))))))))) hST (by simp only [List.append_assoc, List.cons_append, List.nil_append]; exact List.Perm.refl _) rfl Tryz.call26 (by exact args2 rfl rfl) (fun hH hN hsb hmm => w_graph_Graph_Want_w b19 y20 r11.1 y24 r196.2.1 S204 y27 r196.2.2.1 S206 y30 r196.2.2.2 S208 (.slice (some ⟨b221, 0, none⟩) 1 1) ([(⟨(⟨#[97]⟩ : ByteArray), (⟨#[114]⟩ : ByteArray)⟩ : Role)]) _ _ hH hN (Sub.refl _) (hs23.mono (Pl.mono _) (((((((hle62.trans hle72).trans hle167).trans hle176).trans hle185).trans hle200).trans hle216).trans hsb)) hy205 hy207 hy209 (Sl.lit (enc := encRole) (l := [(⟨(⟨#[97]⟩ : ByteArray), (⟨#[114]⟩ : ByteArray)⟩ : Role)]) lenRole rfl (Nat.le_of_ble_eq_true rfl) rfl (hmm _ _ (.head _))) hr224) (fun W225 v228 μ226 L230 hST hle227 hlift hK229 => ?_))
                obtain ⟨S231, S233, S235, hv237, rfl, hy232, hy234, hy236⟩ := hK229
                replace hv237 := hv237.symm; subst hv237
                simp only [List.append_assoc, List.cons_append, List.nil_append] at hST
                replace hST : ST NoF w _ _ ((b19, Obj.cells (#[y20, y24, y27, y30] : Array Value) 122 (0, 0)) :: ((b221, Obj.cells ((encRole ((⟨(⟨#[97]⟩ : ByteArray), (⟨#[114]⟩ : ByteArray)⟩ : Role))).toArray : Array Value) 47 (0, 0)) :: ((b194, Obj.cells ((encRole ((⟨(⟨#[99]⟩ : ByteArray), (⟨#[116]⟩ : ByteArray)⟩ : Role))).toArray : Array Value) 47 (0, 0)) :: ((b34, Obj.cells (#[(.int .i64 (r68))] : Array Value) 3 (0, 0)) :: ((b1, Obj.cells ((encRole ((⟨(⟨#[97]⟩ : ByteArray), (⟨#[114]⟩ : ByteArray)⟩ : Role))).toArray : Array Value) 47 (0, 0)) :: ((b7, Obj.cells (#[(.int .i64 2), (.string (((⟨(⟨#[97]⟩ : ByteArray), (⟨#[114]⟩ : ByteArray)⟩ : Role)).Owner)), (.string (((⟨(⟨#[97]⟩ : ByteArray), (⟨#[114]⟩ : ByteArray)⟩ : Role)).Word)), (.string zS), (.string (((⟨(⟨#[98]⟩ : ByteArray), (⟨#[115]⟩ : ByteArray)⟩ : Role)).Owner)), (.string (((⟨(⟨#[98]⟩ : ByteArray), (⟨#[115]⟩ : ByteArray)⟩ : Role)).Word)), (.string (((⟨zS, zS⟩ : Role)).Owner)), (.string (((⟨zS, zS⟩ : Role)).Word)), (.string zS), (.int .i64 1), (.string (((⟨(⟨#[99]⟩ : ByteArray), (⟨#[116]⟩ : ByteArray)⟩ : Role)).Owner)), (.string (((⟨(⟨#[99]⟩ : ByteArray), (⟨#[116]⟩ : ByteArray)⟩ : Role)).Word)), (.string ((⟨#[100]⟩ : ByteArray))), (.string (((⟨zS, zS⟩ : Role)).Owner)), (.string (((⟨zS, zS⟩ : Role)).Word)), (.string (((⟨zS, zS⟩ : Role)).Owner)), (.string (((⟨zS, zS⟩ : Role)).Word)), (.string zS)] : Array Value) 83 (0, 0)) :: (S231 ++ (S233 ++ (S235 ++ (R218 ++ (R187 ++ (R178 ++ (R169 ++ []))))))))))))) := hST.perm (permD [[(b19, Obj.cells (#[y20, y24, y27, y30] : Array Value) 122 (0, 0))], S231, S233, S235, [(b221, Obj.cells ((encRole ((⟨(⟨#[97]⟩ : ByteArray), (⟨#[114]⟩ : ByteArray)⟩ : Role))).toArray : Array Value) 47 (0, 0))], [(b194, Obj.cells ((encRole ((⟨(⟨#[99]⟩ : ByteArray), (⟨#[116]⟩ : ByteArray)⟩ : Role))).toArray : Array Value) 47 (0, 0))], [(b34, Obj.cells (#[(.int .i64 (r68))] : Array Value) 3 (0, 0))], [(b1, Obj.cells ((encRole ((⟨(⟨#[97]⟩ : ByteArray), (⟨#[114]⟩ : ByteArray)⟩ : Role))).toArray : Array Value) 47 (0, 0))], [(b7, Obj.cells (#[(.int .i64 2), (.string (((⟨(⟨#[97]⟩ : ByteArray), (⟨#[114]⟩ : ByteArray)⟩ : Role)).Owner)), (.string (((⟨(⟨#[97]⟩ : ByteArray), (⟨#[114]⟩ : ByteArray)⟩ : Role)).Word)), (.string zS), (.string (((⟨(⟨#[98]⟩ : ByteArray), (⟨#[115]⟩ : ByteArray)⟩ : Role)).Owner)), (.string (((⟨(⟨#[98]⟩ : ByteArray), (⟨#[115]⟩ : ByteArray)⟩ : Role)).Word)), (.string (((⟨zS, zS⟩ : Role)).Owner)), (.string (((⟨zS, zS⟩ : Role)).Word)), (.string zS), (.int .i64 1), (.string (((⟨(⟨#[99]⟩ : ByteArray), (⟨#[116]⟩ : ByteArray)⟩ : Role)).Owner)), (.string (((⟨(⟨#[99]⟩ : ByteArray), (⟨#[116]⟩ : ByteArray)⟩ : Role)).Word)), (.string ((⟨#[100]⟩ : ByteArray))), (.string (((⟨zS, zS⟩ : Role)).Owner)), (.string (((⟨zS, zS⟩ : Role)).Word)), (.string (((⟨zS, zS⟩ : Role)).Owner)), (.string (((⟨zS, zS⟩ : Role)).Word)), (.string zS)] : Array Value) 83 (0, 0))]] [0, 1, 2, 3, 4, 5, 6, 7, 8] [0, 4, 5, 6, 7, 8, 1, 2, 3] ((R218 ++ (R187 ++ (R178 ++ (R169 ++ []))))) (by decide) rfl rfl)
                refine LW_v (.inr ⟨36, true, 62, rfl, rfl, by decide, (congrArg Value.bool hb220)⟩) rfl (by decide) (R_int (k := .i64) (a := r223.1) (b := 0) (v := (.bool ((r223.1 == 0)))) rfl rfl rfl) ?_
                refine LW_v (.inl rfl) rfl (by decide) (R_pickT (v := (.bool ((r223.1 == 0)))) (congrArg Value.bool hb220) rfl) ?_
                refine LW_v (.inl rfl) rfl (by decide) (R_assign (v := (.bool ((r223.1 == 0)))) rfl) ?_
                refine LW_nil ?_
                refine sq_n ?_
                replace hm161 := Option.some.inj hm161; subst hm161
                exact ⟨((r223.1 == 0)), μ226, _, (((((hle167.trans hle176).trans hle185).trans hle200).trans hle216).trans hle227), (hST.sublist (List.Sublist.cons _ (List.Sublist.cons _ (List.Sublist.cons _ (List.Sublist.cons _ (List.Sublist.cons _ (List.Sublist.cons _ ((((((((List.Sublist.refl _).trans (List.sublist_append_right _ _)).trans (List.sublist_append_right _ _)).trans (List.sublist_append_right _ _)).trans (List.sublist_append_right _ _)).trans (List.sublist_append_right _ _)).trans (List.sublist_append_right _ _)).trans (List.sublist_append_right _ _))))))))), rfl, hm162⟩
              · replace hm161 := if_f hb220 hm161
                refine LW_no rfl (by decide) rfl rfl (by decide) (congrArg Value.bool hb220) ?_
                refine LW_no rfl (by decide) rfl rfl (by decide) (congrArg Value.bool hb220) ?_
                refine LW_no rfl (by decide) rfl rfl (by decide) (congrArg Value.bool hb220) ?_
                refine LW_no rfl (by decide) rfl rfl (by decide) (congrArg Value.bool hb220) ?_
                refine LW_no rfl (by decide) rfl rfl (by decide) (congrArg Value.bool hb220) ?_
                refine LW_v (.inl rfl) rfl (by decide) (R_pickF (v := (.bool false)) (congrArg Value.bool hb220) rfl) ?_
                refine LW_v (.inl rfl) rfl (by decide) (R_assign (v := (.bool false)) rfl) ?_
                refine LW_nil ?_
                refine sq_n ?_
                replace hm161 := Option.some.inj hm161; subst hm161
                exact ⟨false, μ215, _, ((((hle167.trans hle176).trans hle185).trans hle200).trans hle216), (hST.sublist (List.Sublist.cons _ (List.Sublist.cons _ (List.Sublist.cons _ (List.Sublist.cons _ (List.Sublist.cons _ ((((((((List.Sublist.refl _).trans (List.sublist_append_right _ _)).trans (List.sublist_append_right _ _)).trans (List.sublist_append_right _ _)).trans (List.sublist_append_right _ _)).trans (List.sublist_append_right _ _)).trans (List.sublist_append_right _ _)).trans (List.sublist_append_right _ _)))))))), rfl, hm162⟩
            · replace hm161 := if_f hb211 hm161
              refine LW_no rfl (by decide) rfl rfl (by decide) (congrArg Value.bool hb211) ?_
              refine LW_no rfl (by decide) rfl rfl (by decide) (congrArg Value.bool hb211) ?_
              refine LW_no rfl (by decide) rfl rfl (by decide) (congrArg Value.bool hb211) ?_
              refine LW_no rfl (by decide) rfl rfl (by decide) (congrArg Value.bool hb211) ?_
              refine LW_v (.inl rfl) rfl (by decide) (R_pickF (v := (.bool false)) (congrArg Value.bool hb211) rfl) ?_
              refine LW_v (.inl rfl) rfl (by decide) (R_move (v := (.bool false)) rfl) ?_
              refine LW_no rfl (by decide) rfl rfl (by decide) rfl ?_
              refine LW_no rfl (by decide) rfl rfl (by decide) rfl ?_
              refine LW_no rfl (by decide) rfl rfl (by decide) rfl ?_
              refine LW_no rfl (by decide) rfl rfl (by decide) rfl ?_
              refine LW_no rfl (by decide) rfl rfl (by decide) rfl ?_
              refine LW_v (.inl rfl) rfl (by decide) (R_pickF (v := (.bool false)) rfl rfl) ?_
              refine LW_v (.inl rfl) rfl (by decide) (R_assign (v := (.bool false)) rfl) ?_
              refine LW_nil ?_
              refine sq_n ?_
              replace hm161 := Option.some.inj hm161; subst hm161
              exact ⟨false, μ199, _, (((hle167.trans hle176).trans hle185).trans hle200), (hST.sublist (List.Sublist.cons _ (List.Sublist.cons _ (List.Sublist.cons _ (List.Sublist.cons _ (List.Sublist.cons _ (((((((List.Sublist.refl _).trans (List.sublist_append_right _ _)).trans (List.sublist_append_right _ _)).trans (List.sublist_append_right _ _)).trans (List.sublist_append_right _ _)).trans (List.sublist_append_right _ _)).trans (List.sublist_append_right _ _)))))))), rfl, hm162⟩
          · replace hm161 := if_f hb190 hm161
            refine LW_no rfl (by decide) rfl rfl (by decide) (congrArg Value.bool hb190) ?_
            refine LW_no rfl (by decide) rfl rfl (by decide) (congrArg Value.bool hb190) ?_
            refine LW_no rfl (by decide) rfl rfl (by decide) (congrArg Value.bool hb190) ?_
            refine LW_no rfl (by decide) rfl rfl (by decide) (congrArg Value.bool hb190) ?_
            refine LW_no rfl (by decide) rfl rfl (by decide) (congrArg Value.bool hb190) ?_
            refine LW_no rfl (by decide) rfl rfl (by decide) (congrArg Value.bool hb190) ?_
            refine LW_no rfl (by decide) rfl rfl (by decide) (congrArg Value.bool hb190) ?_
            refine LW_no rfl (by decide) rfl rfl (by decide) (congrArg Value.bool hb190) ?_
            refine LW_v (.inl rfl) rfl (by decide) (R_pickF (v := (.bool false)) (congrArg Value.bool hb190) rfl) ?_
            refine LW_v (.inl rfl) rfl (by decide) (R_move (v := (.bool false)) rfl) ?_
            refine LW_no rfl (by decide) rfl rfl (by decide) rfl ?_
            refine LW_no rfl (by decide) rfl rfl (by decide) rfl ?_
            refine LW_no rfl (by decide) rfl rfl (by decide) rfl ?_
            refine LW_no rfl (by decide) rfl rfl (by decide) rfl ?_
            refine LW_v (.inl rfl) rfl (by decide) (R_pickF (v := (.bool false)) rfl rfl) ?_
            refine LW_v (.inl rfl) rfl (by decide) (R_move (v := (.bool false)) rfl) ?_
            refine LW_no rfl (by decide) rfl rfl (by decide) rfl ?_
            refine LW_no rfl (by decide) rfl rfl (by decide) rfl ?_
            refine LW_no rfl (by decide) rfl rfl (by decide) rfl ?_
            refine LW_no rfl (by decide) rfl rfl (by decide) rfl ?_
            refine LW_no rfl (by decide) rfl rfl (by decide) rfl ?_
            refine LW_v (.inl rfl) rfl (by decide) (R_pickF (v := (.bool false)) rfl rfl) ?_
            refine LW_v (.inl rfl) rfl (by decide) (R_assign (v := (.bool false)) rfl) ?_
            refine LW_nil ?_
            refine sq_n ?_
            replace hm161 := Option.some.inj hm161; subst hm161
            exact ⟨false, μ184, _, ((hle167.trans hle176).trans hle185), (hST.sublist (List.Sublist.cons _ (List.Sublist.cons _ (List.Sublist.cons _ (List.Sublist.cons _ (((((((List.Sublist.refl _).trans (List.sublist_append_right _ _)).trans (List.sublist_append_right _ _)).trans (List.sublist_append_right _ _)).trans (List.sublist_append_right _ _)).trans (List.sublist_append_right _ _)).trans (List.sublist_append_right _ _))))))), rfl, hm162⟩
        · replace hm161 := if_f hb189 hm161
          refine LW_no rfl (by decide) rfl rfl (by decide) (congrArg Value.bool hb189) ?_
          refine LW_no rfl (by decide) rfl rfl (by decide) (congrArg Value.bool hb189) ?_
          refine LW_v (.inl rfl) rfl (by decide) (R_pickF (v := (.bool false)) (congrArg Value.bool hb189) rfl) ?_
          refine LW_v (.inl rfl) rfl (by decide) (R_move (v := (.bool false)) rfl) ?_
          refine LW_no rfl (by decide) rfl rfl (by decide) rfl ?_
          refine LW_no rfl (by decide) rfl rfl (by decide) rfl ?_
          refine LW_no rfl (by decide) rfl rfl (by decide) rfl ?_
          refine LW_no rfl (by decide) rfl rfl (by decide) rfl ?_
          refine LW_no rfl (by decide) rfl rfl (by decide) rfl ?_
          refine LW_no rfl (by decide) rfl rfl (by decide) rfl ?_
          refine LW_no rfl (by decide) rfl rfl (by decide) rfl ?_
          refine LW_no rfl (by decide) rfl rfl (by decide) rfl ?_
          refine LW_v (.inl rfl) rfl (by decide) (R_pickF (v := (.bool false)) rfl rfl) ?_
          refine LW_v (.inl rfl) rfl (by decide) (R_move (v := (.bool false)) rfl) ?_
          refine LW_no rfl (by decide) rfl rfl (by decide) rfl ?_
          refine LW_no rfl (by decide) rfl rfl (by decide) rfl ?_
          refine LW_no rfl (by decide) rfl rfl (by decide) rfl ?_
          refine LW_no rfl (by decide) rfl rfl (by decide) rfl ?_
          refine LW_v (.inl rfl) rfl (by decide) (R_pickF (v := (.bool false)) rfl rfl) ?_
          refine LW_v (.inl rfl) rfl (by decide) (R_move (v := (.bool false)) rfl) ?_
          refine LW_no rfl (by decide) rfl rfl (by decide) rfl ?_
          refine LW_no rfl (by decide) rfl rfl (by decide) rfl ?_
          refine LW_no rfl (by decide) rfl rfl (by decide) rfl ?_
          refine LW_no rfl (by decide) rfl rfl (by decide) rfl ?_
          refine LW_no rfl (by decide) rfl rfl (by decide) rfl ?_
          refine LW_v (.inl rfl) rfl (by decide) (R_pickF (v := (.bool false)) rfl rfl) ?_
          refine LW_v (.inl rfl) rfl (by decide) (R_assign (v := (.bool false)) rfl) ?_
          refine LW_nil ?_
          refine sq_n ?_
          replace hm161 := Option.some.inj hm161; subst hm161
          exact ⟨false, μ184, _, ((hle167.trans hle176).trans hle185), (hST.sublist (List.Sublist.cons _ (List.Sublist.cons _ (List.Sublist.cons _ (List.Sublist.cons _ (((((((List.Sublist.refl _).trans (List.sublist_append_right _ _)).trans (List.sublist_append_right _ _)).trans (List.sublist_append_right _ _)).trans (List.sublist_append_right _ _)).trans (List.sublist_append_right _ _)).trans (List.sublist_append_right _ _))))))), rfl, hm162⟩
      · replace hm161 := if_f hb180 hm161
        refine LW_no rfl (by decide) rfl rfl (by decide) (congrArg Value.bool hb180) ?_
        refine LW_no rfl (by decide) rfl rfl (by decide) (congrArg Value.bool hb180) ?_
        refine LW_no rfl (by decide) rfl rfl (by decide) (congrArg Value.bool hb180) ?_
        refine LW_no rfl (by decide) rfl rfl (by decide) (congrArg Value.bool hb180) ?_
        refine LW_v (.inl rfl) rfl (by decide) (R_pickF (v := (.bool false)) (congrArg Value.bool hb180) rfl) ?_
        refine LW_v (.inl rfl) rfl (by decide) (R_move (v := (.bool false)) rfl) ?_
        refine LW_no rfl (by decide) rfl rfl (by decide) rfl ?_
        refine LW_no rfl (by decide) rfl rfl (by decide) rfl ?_
        refine LW_v (.inl rfl) rfl (by decide) (R_pickF (v := (.bool false)) rfl rfl) ?_
        refine LW_v (.inl rfl) rfl (by decide) (R_move (v := (.bool false)) rfl) ?_
        refine LW_no rfl (by decide) rfl rfl (by decide) rfl ?_
        refine LW_no rfl (by decide) rfl rfl (by decide) rfl ?_
        refine LW_no rfl (by decide) rfl rfl (by decide) rfl ?_
        refine LW_no rfl (by decide) rfl rfl (by decide) rfl ?_
        refine LW_no rfl (by decide) rfl rfl (by decide) rfl ?_
        refine LW_no rfl (by decide) rfl rfl (by decide) rfl ?_
        refine LW_no rfl (by decide) rfl rfl (by decide) rfl ?_
        refine LW_no rfl (by decide) rfl rfl (by decide) rfl ?_
        refine LW_v (.inl rfl) rfl (by decide) (R_pickF (v := (.bool false)) rfl rfl) ?_
        refine LW_v (.inl rfl) rfl (by decide) (R_move (v := (.bool false)) rfl) ?_
        refine LW_no rfl (by decide) rfl rfl (by decide) rfl ?_
        refine LW_no rfl (by decide) rfl rfl (by decide) rfl ?_
        refine LW_no rfl (by decide) rfl rfl (by decide) rfl ?_
        refine LW_no rfl (by decide) rfl rfl (by decide) rfl ?_
        refine LW_v (.inl rfl) rfl (by decide) (R_pickF (v := (.bool false)) rfl rfl) ?_
        refine LW_v (.inl rfl) rfl (by decide) (R_move (v := (.bool false)) rfl) ?_
        refine LW_no rfl (by decide) rfl rfl (by decide) rfl ?_
        refine LW_no rfl (by decide) rfl rfl (by decide) rfl ?_
        refine LW_no rfl (by decide) rfl rfl (by decide) rfl ?_
        refine LW_no rfl (by decide) rfl rfl (by decide) rfl ?_
        refine LW_no rfl (by decide) rfl rfl (by decide) rfl ?_
        refine LW_v (.inl rfl) rfl (by decide) (R_pickF (v := (.bool false)) rfl rfl) ?_
        refine LW_v (.inl rfl) rfl (by decide) (R_assign (v := (.bool false)) rfl) ?_
        refine LW_nil ?_
        refine sq_n ?_
        replace hm161 := Option.some.inj hm161; subst hm161
        exact ⟨false, μ175, _, (hle167.trans hle176), (hST.sublist (List.Sublist.cons _ (List.Sublist.cons _ (List.Sublist.cons _ (List.Sublist.cons _ ((((((List.Sublist.refl _).trans (List.sublist_append_right _ _)).trans (List.sublist_append_right _ _)).trans (List.sublist_append_right _ _)).trans (List.sublist_append_right _ _)).trans (List.sublist_append_right _ _))))))), rfl, hm162⟩
    · replace hm161 := if_f hb171 hm161
      refine LW_no rfl (by decide) rfl rfl (by decide) (congrArg Value.bool hb171) ?_
      refine LW_no rfl (by decide) rfl rfl (by decide) (congrArg Value.bool hb171) ?_
      refine LW_no rfl (by decide) rfl rfl (by decide) (congrArg Value.bool hb171) ?_
      refine LW_no rfl (by decide) rfl rfl (by decide) (congrArg Value.bool hb171) ?_
      refine LW_v (.inl rfl) rfl (by decide) (R_pickF (v := (.bool false)) (congrArg Value.bool hb171) rfl) ?_
      refine LW_v (.inl rfl) rfl (by decide) (R_move (v := (.bool false)) rfl) ?_
      refine LW_no rfl (by decide) rfl rfl (by decide) rfl ?_
      refine LW_no rfl (by decide) rfl rfl (by decide) rfl ?_
      refine LW_no rfl (by decide) rfl rfl (by decide) rfl ?_
      refine LW_no rfl (by decide) rfl rfl (by decide) rfl ?_
      refine LW_v (.inl rfl) rfl (by decide) (R_pickF (v := (.bool false)) rfl rfl) ?_
      refine LW_v (.inl rfl) rfl (by decide) (R_move (v := (.bool false)) rfl) ?_
      refine LW_no rfl (by decide) rfl rfl (by decide) rfl ?_
      refine LW_no rfl (by decide) rfl rfl (by decide) rfl ?_
      refine LW_v (.inl rfl) rfl (by decide) (R_pickF (v := (.bool false)) rfl rfl) ?_
      refine LW_v (.inl rfl) rfl (by decide) (R_move (v := (.bool false)) rfl) ?_
      refine LW_no rfl (by decide) rfl rfl (by decide) rfl ?_
      refine LW_no rfl (by decide) rfl rfl (by decide) rfl ?_
      refine LW_no rfl (by decide) rfl rfl (by decide) rfl ?_
      refine LW_no rfl (by decide) rfl rfl (by decide) rfl ?_
      refine LW_no rfl (by decide) rfl rfl (by decide) rfl ?_
      refine LW_no rfl (by decide) rfl rfl (by decide) rfl ?_
      refine LW_no rfl (by decide) rfl rfl (by decide) rfl ?_
      refine LW_no rfl (by decide) rfl rfl (by decide) rfl ?_
      refine LW_v (.inl rfl) rfl (by decide) (R_pickF (v := (.bool false)) rfl rfl) ?_
      refine LW_v (.inl rfl) rfl (by decide) (R_move (v := (.bool false)) rfl) ?_
      refine LW_no rfl (by decide) rfl rfl (by decide) rfl ?_
      refine LW_no rfl (by decide) rfl rfl (by decide) rfl ?_
      refine LW_no rfl (by decide) rfl rfl (by decide) rfl ?_
      refine LW_no rfl (by decide) rfl rfl (by decide) rfl ?_
      refine LW_v (.inl rfl) rfl (by decide) (R_pickF (v := (.bool false)) rfl rfl) ?_
      refine LW_v (.inl rfl) rfl (by decide) (R_move (v := (.bool false)) rfl) ?_
      refine LW_no rfl (by decide) rfl rfl (by decide) rfl ?_
      refine LW_no rfl (by decide) rfl rfl (by decide) rfl ?_
      refine LW_no rfl (by decide) rfl rfl (by decide) rfl ?_
      refine LW_no rfl (by decide) rfl rfl (by decide) rfl ?_
      refine LW_no rfl (by decide) rfl rfl (by decide) rfl ?_
      refine LW_v (.inl rfl) rfl (by decide) (R_pickF (v := (.bool false)) rfl rfl) ?_
      refine LW_v (.inl rfl) rfl (by decide) (R_assign (v := (.bool false)) rfl) ?_
      refine LW_nil ?_
      refine sq_n ?_
      replace hm161 := Option.some.inj hm161; subst hm161
      exact ⟨false, μ166, _, hle167, (hST.sublist (List.Sublist.cons _ (List.Sublist.cons _ (List.Sublist.cons _ (List.Sublist.cons _ (((((List.Sublist.refl _).trans (List.sublist_append_right _ _)).trans (List.sublist_append_right _ _)).trans (List.sublist_append_right _ _)).trans (List.sublist_append_right _ _))))))), rfl, hm162⟩
  · rintro E W ⟨x155, μ154, L156, hle158, hST, e159, hm157⟩
    refine CW_ret ?_
    replace hm157 := Option.some.inj hm157; subst hm157
    refine retQ_1 (v := (.bool x155)) rfl e159 ?_
    exact ⟨rfl, hST.ex⟩

theorem w_law05_Great (v_a0 : Value) (a0 : List Cred) (r : Int) (w : World) (h_a0 : Sl (Pl encCred) 9 (hp w) v_a0 a0) (hm : m_law05_Great a0 = some r) :
    Gives Tryz.prog 16 [v_a0] w (.int .i64 r) := by
  have hST := ST.start w
  unfold m_law05_Great at hm
  refine calls_of_CW (n := 54) Tryz.func16 rfl rfl (Nat.le_of_ble_eq_true rfl) ?_
  refine CW_seq ?_
  refine CW_region ?_
  refine LW_v (.inl rfl) rfl (by decide) (R_assign (v := (.int .i64 0)) rfl) ?_
  refine LW_nil ?_
  refine sq_n ?_
  refine CW_seq ?_
  refine CW_region ?_
  refine LW_v (.inl rfl) rfl (by decide) (R_assign (v := (.int .i64 0)) rfl) ?_
  refine LW_nil ?_
  refine sq_n ?_
  refine CW_seq ?_
  refine CW_seq ?_
  refine CW_region ?_
  refine LW_v (.inl rfl) rfl (by decide) (R_move (v := v_a0) rfl) ?_
  refine LW_v (.inl rfl) rfl (by decide) (R_len Tryz.underlying22 rfl h_a0) ?_
  refine LW_v (.inl rfl) rfl (by decide) (R_move (v := (.int .i64 0)) rfl) ?_
  refine LW_nil ?_
  refine sq_n ?_
  refine CW_range (fun i E W => ∃ (x47 : Int) (L57 : List (Nat × Obj)), (E 8 = .int .i64 (i : Nat) ∧ E 7 = .int .i64 (a0.length : Nat)) ∧ ST NoF w W (hp w) L57 ∧ E 3 = (.int .i64 x47) ∧ E 6 = v_a0 ∧ m_law05_Great_L1 (a0.drop i) x47 = some r) a0.length h_a0.len ⟨0, _, ⟨rfl, rfl⟩, (hST.sublist (List.Sublist.refl _)), rfl, rfl, hm⟩ (by decide) (by decide) (by decide) (fun _ _ _ h => by obtain ⟨_, _, eIN, _⟩ := h; exact eIN) ?_ ?_
  · rintro i34 E W hi40 ⟨x47, L57, ⟨eI, eN⟩, hST, e59, e60, hm58⟩
    obtain ⟨x35, xs36, hx38, hx37, hx39⟩ := drop_cons hi40
    rw [hx38] at hm58
    rw [m_law05_Great_L1] at hm58
    refine CW_block ?_
    refine CW_seq ?_
    refine CW_region ?_
    refine LW_q (.inl rfl) rfl (by decide) (R_indexP (enc := encCred) (i := (i34 : Int)) (x0 := x35) Tryz.underlying22 Tryz.sizeOf83 e60 eI h_a0 (Int.natCast_nonneg _) hx37) (fun p61 hp62 => ?_)
    refine LW_v (.inl rfl) rfl (by decide) (R_load rfl (load_atA hST.has hp62 Tryz.isAgg83 Tryz.sizeOf83)) ?_
    refine LW_e (.inl rfl) rfl (by decide) (E_alloc hST Tryz.zeroValue83 (fun W65 b64 hST => ?_))
    refine LW_e0 (.inl rfl) rfl (E_store [] (.agg (encCred x35).toArray) ((encCred x35).toArray) hST rfl rfl Tryz.sizeOf83 (oneCred x35) (Nat.le_of_ble_eq_true rfl) rfl (fun W66 hST => ?_))
    refine LW_nil ?_
    refine sq_n ?_
    refine CW_region ?_
    refine LW_v (.inl rfl) rfl (by decide) (R_move (v := (.int .i64 x47)) e59) ?_
    refine LW_v (.inl rfl) rfl (by decide) (R_field fa83_1 rfl) ?_
    refine LW_v (.inl rfl) rfl (by decide) (R_field fa47_0 rfl) ?_
    refine LW_v (.inl rfl) rfl (by decide) (R_load (v := (.string x35.Head.Owner)) rfl (load_box1 hST.has (.head _) rfl Tryz.isAgg9)) ?_
    refine LW_v (.inl rfl) rfl (by decide) (R_lenStr (s := x35.Head.Owner) Tryz.underlying9 rfl) ?_
    refine LW_v (.inl rfl) rfl (by decide) (R_int (k := .i64) (a := 20) (b := ((x35.Head.Owner.size : Int))) (v := (.int .i64 ((IntKind.i64.wrap (20 + ((x35.Head.Owner.size : Int))))))) rfl rfl rfl) ?_
    refine LW_v (.inl rfl) rfl (by decide) (R_field fa83_1 rfl) ?_
    refine LW_v (.inl rfl) rfl (by decide) (R_field fa47_1 rfl) ?_
    refine LW_v (.inl rfl) rfl (by decide) (R_load (v := (.string x35.Head.Word)) rfl (load_box1 hST.has (.head _) rfl Tryz.isAgg9)) ?_
    refine LW_v (.inl rfl) rfl (by decide) (R_lenStr (s := x35.Head.Word) Tryz.underlying9 rfl) ?_
    refine LW_v (.inl rfl) rfl (by decide) (R_int (k := .i64) (a := ((IntKind.i64.wrap (20 + ((x35.Head.Owner.size : Int)))))) (b := ((x35.Head.Word.size : Int))) (v := (.int .i64 ((IntKind.i64.wrap (((IntKind.i64.wrap (20 + ((x35.Head.Owner.size : Int))))) + ((x35.Head.Word.size : Int))))))) rfl rfl rfl) ?_
    refine LW_v (.inl rfl) rfl (by decide) (R_field fa83_2 rfl) ?_
    refine LW_v (.inl rfl) rfl (by decide) (R_load (v := (.string x35.Who)) rfl (load_box1 hST.has (.head _) rfl Tryz.isAgg9)) ?_
    refine LW_v (.inl rfl) rfl (by decide) (R_lenStr (s := x35.Who) Tryz.underlying9 rfl) ?_
    refine LW_v (.inl rfl) rfl (by decide) (R_int (k := .i64) (a := ((IntKind.i64.wrap (((IntKind.i64.wrap (20 + ((x35.Head.Owner.size : Int))))) + ((x35.Head.Word.size : Int)))))) (b := ((x35.Who.size : Int))) (v := (.int .i64 ((IntKind.i64.wrap (((IntKind.i64.wrap (((IntKind.i64.wrap (20 + ((x35.Head.Owner.size : Int))))) + ((x35.Head.Word.size : Int))))) + ((x35.Who.size : Int))))))) rfl rfl rfl) ?_
    refine LW_v (.inl rfl) rfl (by decide) (R_field fa83_3 rfl) ?_
    refine LW_v (.inl rfl) rfl (by decide) (R_field fa47_0 rfl) ?_
    refine LW_v (.inl rfl) rfl (by decide) (R_load (v := (.string x35.B.Owner)) rfl (load_box1 hST.has (.head _) rfl Tryz.isAgg9)) ?_
    refine LW_v (.inl rfl) rfl (by decide) (R_lenStr (s := x35.B.Owner) Tryz.underlying9 rfl) ?_
    refine LW_v (.inl rfl) rfl (by decide) (R_int (k := .i64) (a := ((IntKind.i64.wrap (((IntKind.i64.wrap (((IntKind.i64.wrap (20 + ((x35.Head.Owner.size : Int))))) + ((x35.Head.Word.size : Int))))) + ((x35.Who.size : Int)))))) (b := ((x35.B.Owner.size : Int))) (v := (.int .i64 ((IntKind.i64.wrap (((IntKind.i64.wrap (((IntKind.i64.wrap (((IntKind.i64.wrap (20 + ((x35.Head.Owner.size : Int))))) + ((x35.Head.Word.size : Int))))) + ((x35.Who.size : Int))))) + ((x35.B.Owner.size : Int))))))) rfl rfl rfl) ?_
    refine LW_v (.inl rfl) rfl (by decide) (R_field fa83_3 rfl) ?_
    refine LW_v (.inl rfl) rfl (by decide) (R_field fa47_1 rfl) ?_
    refine LW_v (.inl rfl) rfl (by decide) (R_load (v := (.string x35.B.Word)) rfl (load_box1 hST.has (.head _) rfl Tryz.isAgg9)) ?_
    refine LW_v (.inl rfl) rfl (by decide) (R_lenStr (s := x35.B.Word) Tryz.underlying9 rfl) ?_
    refine LW_v (.inl rfl) rfl (by decide) (R_int (k := .i64) (a := ((IntKind.i64.wrap (((IntKind.i64.wrap (((IntKind.i64.wrap (((IntKind.i64.wrap (20 + ((x35.Head.Owner.size : Int))))) + ((x35.Head.Word.size : Int))))) + ((x35.Who.size : Int))))) + ((x35.B.Owner.size : Int)))))) (b := ((x35.B.Word.size : Int))) (v := (.int .i64 ((IntKind.i64.wrap (((IntKind.i64.wrap (((IntKind.i64.wrap (((IntKind.i64.wrap (((IntKind.i64.wrap (20 + ((x35.Head.Owner.size : Int))))) + ((x35.Head.Word.size : Int))))) + ((x35.Who.size : Int))))) + ((x35.B.Owner.size : Int))))) + ((x35.B.Word.size : Int))))))) rfl rfl rfl) ?_
    refine LW_v (.inl rfl) rfl (by decide) (R_field fa83_4 rfl) ?_
    refine LW_v (.inl rfl) rfl (by decide) (R_field fa47_0 rfl) ?_
    refine LW_v (.inl rfl) rfl (by decide) (R_load (v := (.string x35.C.Owner)) rfl (load_box1 hST.has (.head _) rfl Tryz.isAgg9)) ?_
    refine LW_v (.inl rfl) rfl (by decide) (R_lenStr (s := x35.C.Owner) Tryz.underlying9 rfl) ?_
    refine LW_v (.inl rfl) rfl (by decide) (R_int (k := .i64) (a := ((IntKind.i64.wrap (((IntKind.i64.wrap (((IntKind.i64.wrap (((IntKind.i64.wrap (((IntKind.i64.wrap (20 + ((x35.Head.Owner.size : Int))))) + ((x35.Head.Word.size : Int))))) + ((x35.Who.size : Int))))) + ((x35.B.Owner.size : Int))))) + ((x35.B.Word.size : Int)))))) (b := ((x35.C.Owner.size : Int))) (v := (.int .i64 ((IntKind.i64.wrap (((IntKind.i64.wrap (((IntKind.i64.wrap (((IntKind.i64.wrap (((IntKind.i64.wrap (((IntKind.i64.wrap (20 + ((x35.Head.Owner.size : Int))))) + ((x35.Head.Word.size : Int))))) + ((x35.Who.size : Int))))) + ((x35.B.Owner.size : Int))))) + ((x35.B.Word.size : Int))))) + ((x35.C.Owner.size : Int))))))) rfl rfl rfl) ?_
    refine LW_v (.inl rfl) rfl (by decide) (R_field fa83_4 rfl) ?_
    refine LW_v (.inl rfl) rfl (by decide) (R_field fa47_1 rfl) ?_
    refine LW_v (.inl rfl) rfl (by decide) (R_load (v := (.string x35.C.Word)) rfl (load_box1 hST.has (.head _) rfl Tryz.isAgg9)) ?_
    refine LW_v (.inl rfl) rfl (by decide) (R_lenStr (s := x35.C.Word) Tryz.underlying9 rfl) ?_
    refine LW_v (.inl rfl) rfl (by decide) (R_int (k := .i64) (a := ((IntKind.i64.wrap (((IntKind.i64.wrap (((IntKind.i64.wrap (((IntKind.i64.wrap (((IntKind.i64.wrap (((IntKind.i64.wrap (20 + ((x35.Head.Owner.size : Int))))) + ((x35.Head.Word.size : Int))))) + ((x35.Who.size : Int))))) + ((x35.B.Owner.size : Int))))) + ((x35.B.Word.size : Int))))) + ((x35.C.Owner.size : Int)))))) (b := ((x35.C.Word.size : Int))) (v := (.int .i64 ((IntKind.i64.wrap (((IntKind.i64.wrap (((IntKind.i64.wrap (((IntKind.i64.wrap (((IntKind.i64.wrap (((IntKind.i64.wrap (((IntKind.i64.wrap (20 + ((x35.Head.Owner.size : Int))))) + ((x35.Head.Word.size : Int))))) + ((x35.Who.size : Int))))) + ((x35.B.Owner.size : Int))))) + ((x35.B.Word.size : Int))))) + ((x35.C.Owner.size : Int))))) + ((x35.C.Word.size : Int))))))) rfl rfl rfl) ?_
    refine LW_v (.inl rfl) rfl (by decide) (R_field fa83_5 rfl) ?_
    refine LW_v (.inl rfl) rfl (by decide) (R_load (v := (.string x35.Word2)) rfl (load_box1 hST.has (.head _) rfl Tryz.isAgg9)) ?_
    refine LW_v (.inl rfl) rfl (by decide) (R_lenStr (s := x35.Word2) Tryz.underlying9 rfl) ?_
    refine LW_v (.inl rfl) rfl (by decide) (R_int (k := .i64) (a := ((IntKind.i64.wrap (((IntKind.i64.wrap (((IntKind.i64.wrap (((IntKind.i64.wrap (((IntKind.i64.wrap (((IntKind.i64.wrap (((IntKind.i64.wrap (20 + ((x35.Head.Owner.size : Int))))) + ((x35.Head.Word.size : Int))))) + ((x35.Who.size : Int))))) + ((x35.B.Owner.size : Int))))) + ((x35.B.Word.size : Int))))) + ((x35.C.Owner.size : Int))))) + ((x35.C.Word.size : Int)))))) (b := ((x35.Word2.size : Int))) (v := (.int .i64 ((IntKind.i64.wrap (((IntKind.i64.wrap (((IntKind.i64.wrap (((IntKind.i64.wrap (((IntKind.i64.wrap (((IntKind.i64.wrap (((IntKind.i64.wrap (((IntKind.i64.wrap (20 + ((x35.Head.Owner.size : Int))))) + ((x35.Head.Word.size : Int))))) + ((x35.Who.size : Int))))) + ((x35.B.Owner.size : Int))))) + ((x35.B.Word.size : Int))))) + ((x35.C.Owner.size : Int))))) + ((x35.C.Word.size : Int))))) + ((x35.Word2.size : Int))))))) rfl rfl rfl) ?_
    refine LW_v (.inl rfl) rfl (by decide) (R_int (k := .i64) (a := x47) (b := ((IntKind.i64.wrap (((IntKind.i64.wrap (((IntKind.i64.wrap (((IntKind.i64.wrap (((IntKind.i64.wrap (((IntKind.i64.wrap (((IntKind.i64.wrap (((IntKind.i64.wrap (20 + ((x35.Head.Owner.size : Int))))) + ((x35.Head.Word.size : Int))))) + ((x35.Who.size : Int))))) + ((x35.B.Owner.size : Int))))) + ((x35.B.Word.size : Int))))) + ((x35.C.Owner.size : Int))))) + ((x35.C.Word.size : Int))))) + ((x35.Word2.size : Int)))))) (v := (.int .i64 ((IntKind.i64.wrap (x47 + ((IntKind.i64.wrap (((IntKind.i64.wrap (((IntKind.i64.wrap (((IntKind.i64.wrap (((IntKind.i64.wrap (((IntKind.i64.wrap (((IntKind.i64.wrap (((IntKind.i64.wrap (20 + ((x35.Head.Owner.size : Int))))) + ((x35.Head.Word.size : Int))))) + ((x35.Who.size : Int))))) + ((x35.B.Owner.size : Int))))) + ((x35.B.Word.size : Int))))) + ((x35.C.Owner.size : Int))))) + ((x35.C.Word.size : Int))))) + ((x35.Word2.size : Int)))))))))) rfl rfl rfl) ?_
    refine LW_v (.inl rfl) rfl (by decide) (R_assign (v := (.int .i64 ((IntKind.i64.wrap (x47 + ((IntKind.i64.wrap (((IntKind.i64.wrap (((IntKind.i64.wrap (((IntKind.i64.wrap (((IntKind.i64.wrap (((IntKind.i64.wrap (((IntKind.i64.wrap (((IntKind.i64.wrap (20 + ((x35.Head.Owner.size : Int))))) + ((x35.Head.Word.size : Int))))) + ((x35.Who.size : Int))))) + ((x35.B.Owner.size : Int))))) + ((x35.B.Word.size : Int))))) + ((x35.C.Owner.size : Int))))) + ((x35.C.Word.size : Int))))) + ((x35.Word2.size : Int)))))))))) rfl) ?_
    refine LW_nil ?_
    refine bq_n ?_
    refine sq_n ?_
    replace hST : ST NoF w _ _ L57 := hST.sublist (List.Sublist.cons _ (List.Sublist.refl _))
    exact ⟨eI, ((IntKind.i64.wrap (x47 + ((IntKind.i64.wrap (((IntKind.i64.wrap (((IntKind.i64.wrap (((IntKind.i64.wrap (((IntKind.i64.wrap (((IntKind.i64.wrap (((IntKind.i64.wrap (((IntKind.i64.wrap (20 + ((x35.Head.Owner.size : Int))))) + ((x35.Head.Word.size : Int))))) + ((x35.Who.size : Int))))) + ((x35.B.Owner.size : Int))))) + ((x35.B.Word.size : Int))))) + ((x35.C.Owner.size : Int))))) + ((x35.C.Word.size : Int))))) + ((x35.Word2.size : Int)))))))), _, ⟨rfl, eN⟩, (hST.sublist (List.Sublist.refl _)), rfl, e60, (by rw [hx39]; exact hm58)⟩
  · rintro E W ⟨x47, L57, ⟨eI, eN⟩, hST, e59, e60, hm58⟩
    rw [List.drop_length] at hm58
    rw [m_law05_Great_L1] at hm58
    refine sq_n ?_
    refine CW_seq ?_
    refine CW_region ?_
    refine LW_v (.inl rfl) rfl (by decide) (R_move (v := (.int .i64 x47)) e59) ?_
    refine LW_v (.inl rfl) rfl (by decide) (R_assign (v := (.int .i64 x47)) rfl) ?_
    refine LW_nil ?_
    refine sq_n ?_
    refine CW_ret ?_
    replace hm58 := Option.some.inj hm58; subst hm58
    refine retQ_1 (v := (.int .i64 x47)) rfl rfl ?_
    exact ⟨rfl, hST.ex⟩

theorem w_law22_great (v_a0 : Value) (a0 : List Role) (r : Bool) (w : World) (h_a0 : Sl (Pl encRole) 2 (hp w) v_a0 a0) (hm : m_law22_great a0 = some r) :
    Gives Tryz.prog 17 [v_a0] w (.bool r) := by
  have hST := ST.start w
  unfold m_law22_great at hm
  refine calls_of_CW (n := 25) Tryz.func17 rfl rfl (Nat.le_of_ble_eq_true rfl) ?_
  refine CW_seq ?_
  refine CW_region ?_
  refine LW_v (.inl rfl) rfl (by decide) (R_assign (v := (.bool false)) rfl) ?_
  refine LW_nil ?_
  refine sq_n ?_
  refine CW_seq ?_
  refine CW_region ?_
  refine LW_v (.inl rfl) rfl (by decide) (R_assign (v := (.int .i64 0)) rfl) ?_
  refine LW_nil ?_
  refine sq_n ?_
  refine CW_seq ?_
  refine CW_seq ?_
  refine CW_region ?_
  refine LW_v (.inl rfl) rfl (by decide) (R_move (v := v_a0) rfl) ?_
  refine LW_v (.inl rfl) rfl (by decide) (R_len Tryz.underlying23 rfl h_a0) ?_
  refine LW_v (.inl rfl) rfl (by decide) (R_move (v := (.int .i64 0)) rfl) ?_
  refine LW_nil ?_
  refine sq_n ?_
  refine CW_range (fun i E W => ∃ (x47 : Int) (L57 : List (Nat × Obj)), (E 8 = .int .i64 (i : Nat) ∧ E 7 = .int .i64 (a0.length : Nat)) ∧ ST NoF w W (hp w) L57 ∧ E 3 = (.int .i64 x47) ∧ E 6 = v_a0 ∧ m_law22_great_L1 (a0.drop i) x47 = some r) a0.length h_a0.len ⟨0, _, ⟨rfl, rfl⟩, (hST.sublist (List.Sublist.refl _)), rfl, rfl, hm⟩ (by decide) (by decide) (by decide) (fun _ _ _ h => by obtain ⟨_, _, eIN, _⟩ := h; exact eIN) ?_ ?_
  · rintro i34 E W hi40 ⟨x47, L57, ⟨eI, eN⟩, hST, e59, e60, hm58⟩
    obtain ⟨x35, xs36, hx38, hx37, hx39⟩ := drop_cons hi40
    rw [hx38] at hm58
    rw [m_law22_great_L1] at hm58
    refine CW_block ?_
    refine CW_seq ?_
    refine CW_region ?_
    refine LW_q (.inl rfl) rfl (by decide) (R_indexP (enc := encRole) (i := (i34 : Int)) (x0 := x35) Tryz.underlying23 Tryz.sizeOf47 e60 eI h_a0 (Int.natCast_nonneg _) hx37) (fun p61 hp62 => ?_)
    refine LW_v (.inl rfl) rfl (by decide) (R_load rfl (load_atA hST.has hp62 Tryz.isAgg47 Tryz.sizeOf47)) ?_
    refine LW_e (.inl rfl) rfl (by decide) (E_alloc hST Tryz.zeroValue47 (fun W65 b64 hST => ?_))
    refine LW_e0 (.inl rfl) rfl (E_store [] (.agg (encRole x35).toArray) ((encRole x35).toArray) hST rfl rfl Tryz.sizeOf47 (oneRole x35) (Nat.le_of_ble_eq_true rfl) rfl (fun W66 hST => ?_))
    refine LW_nil ?_
    refine sq_n ?_
    refine CW_region ?_
    refine LW_v (.inl rfl) rfl (by decide) (R_move (v := (.int .i64 x47)) e59) ?_
    refine LW_v (.inl rfl) rfl (by decide) (R_field fa47_0 rfl) ?_
    refine LW_v (.inl rfl) rfl (by decide) (R_load (v := (.string x35.Owner)) rfl (load_box1 hST.has (.head _) rfl Tryz.isAgg9)) ?_
    refine LW_v (.inl rfl) rfl (by decide) (R_lenStr (s := x35.Owner) Tryz.underlying9 rfl) ?_
    refine LW_v (.inl rfl) rfl (by decide) (R_int (k := .i64) (a := 1) (b := ((x35.Owner.size : Int))) (v := (.int .i64 ((IntKind.i64.wrap (1 + ((x35.Owner.size : Int))))))) rfl rfl rfl) ?_
    refine LW_v (.inl rfl) rfl (by decide) (R_field fa47_1 rfl) ?_
    refine LW_v (.inl rfl) rfl (by decide) (R_load (v := (.string x35.Word)) rfl (load_box1 hST.has (.head _) rfl Tryz.isAgg9)) ?_
    refine LW_v (.inl rfl) rfl (by decide) (R_lenStr (s := x35.Word) Tryz.underlying9 rfl) ?_
    refine LW_v (.inl rfl) rfl (by decide) (R_int (k := .i64) (a := ((IntKind.i64.wrap (1 + ((x35.Owner.size : Int)))))) (b := ((x35.Word.size : Int))) (v := (.int .i64 ((IntKind.i64.wrap (((IntKind.i64.wrap (1 + ((x35.Owner.size : Int))))) + ((x35.Word.size : Int))))))) rfl rfl rfl) ?_
    refine LW_v (.inl rfl) rfl (by decide) (R_int (k := .i64) (a := x47) (b := ((IntKind.i64.wrap (((IntKind.i64.wrap (1 + ((x35.Owner.size : Int))))) + ((x35.Word.size : Int)))))) (v := (.int .i64 ((IntKind.i64.wrap (x47 + ((IntKind.i64.wrap (((IntKind.i64.wrap (1 + ((x35.Owner.size : Int))))) + ((x35.Word.size : Int)))))))))) rfl rfl rfl) ?_
    refine LW_v (.inl rfl) rfl (by decide) (R_assign (v := (.int .i64 ((IntKind.i64.wrap (x47 + ((IntKind.i64.wrap (((IntKind.i64.wrap (1 + ((x35.Owner.size : Int))))) + ((x35.Word.size : Int)))))))))) rfl) ?_
    refine LW_nil ?_
    refine bq_n ?_
    refine sq_n ?_
    replace hST : ST NoF w _ _ L57 := hST.sublist (List.Sublist.cons _ (List.Sublist.refl _))
    exact ⟨eI, ((IntKind.i64.wrap (x47 + ((IntKind.i64.wrap (((IntKind.i64.wrap (1 + ((x35.Owner.size : Int))))) + ((x35.Word.size : Int)))))))), _, ⟨rfl, eN⟩, (hST.sublist (List.Sublist.refl _)), rfl, e60, (by rw [hx39]; exact hm58)⟩
  · rintro E W ⟨x47, L57, ⟨eI, eN⟩, hST, e59, e60, hm58⟩
    rw [List.drop_length] at hm58
    rw [m_law22_great_L1] at hm58
    refine sq_n ?_
    refine CW_seq ?_
    refine CW_region ?_
    refine LW_v (.inl rfl) rfl (by decide) (R_move (v := (.int .i64 x47)) e59) ?_
    refine LW_v (.inl rfl) rfl (by decide) (R_int (k := .i64) (a := x47) (b := 500) (v := (.bool ((decide (x47 > 500))))) rfl rfl rfl) ?_
    refine LW_v (.inl rfl) rfl (by decide) (R_assign (v := (.bool ((decide (x47 > 500))))) rfl) ?_
    refine LW_nil ?_
    refine sq_n ?_
    refine CW_ret ?_
    replace hm58 := Option.some.inj hm58; subst hm58
    refine retQ_1 (v := (.bool ((decide (x47 > 500))))) rfl rfl ?_
    exact ⟨rfl, hST.ex⟩

end Go.Proofs.YtfjdjbdnnoijgaaGreat
