/- a part of a proof of GraphHolds -/
import Derived.Test.YtfjdjbdnnoijgaaGreatG8W2
set_option linter.all false
namespace Go.Proofs.YtfjdjbdnnoijgaaGreat
open Go.RowKit
set_option maxRecDepth 10000
theorem w_model_Model_note_w (b_a0 : Nat) (v_a0_in_ : Value) (a0_in_ : List (Role × (List (ByteArray × Bool)))) (R_a0_in_ : List (Nat × Obj)) (v_a0_creds : Value) (a0_creds : List Cred) (R_a0_creds : List (Nat × Obj)) (v_a0_uses : Value) (a0_uses : List (Role × (List Cred))) (R_a0_uses : List (Nat × Obj)) (v_a0_words : Value) (a0_words : List (ByteArray × (List Cred))) (R_a0_words : List (Nat × Obj)) (v_a0_todo : Value) (a0_todo : List Fact) (R_a0_todo : List (Nat × Obj)) (a0_n : Int) (a1 : Cred) (r : ((List Cred) × (List (Role × (List Cred))) × (List (ByteArray × (List Cred))))) (w : World) {μ0 : Mem} (hH : Held ((b_a0, Obj.cells (#[v_a0_in_, v_a0_creds, v_a0_uses, v_a0_words, v_a0_todo, (.int .i64 a0_n)] : Array Value) 134 (0, 0)) :: (R_a0_in_ ++ (R_a0_creds ++ (R_a0_uses ++ (R_a0_words ++ (R_a0_todo ++ [])))))) w) (hN : ((((b_a0, Obj.cells (#[v_a0_in_, v_a0_creds, v_a0_uses, v_a0_words, v_a0_todo, (.int .i64 a0_n)] : Array Value) 134 (0, 0)) :: (R_a0_in_ ++ (R_a0_creds ++ (R_a0_uses ++ (R_a0_words ++ (R_a0_todo ++ [])))))) : List (Nat × Obj)).map (·.1)).Nodup) (hS0 : Sub μ0 (hpx w ((b_a0, Obj.cells (#[v_a0_in_, v_a0_creds, v_a0_uses, v_a0_words, v_a0_todo, (.int .i64 a0_n)] : Array Value) 134 (0, 0)) :: (R_a0_in_ ++ (R_a0_creds ++ (R_a0_uses ++ (R_a0_words ++ (R_a0_todo ++ [])))))))) (h_a0_in_ : DeepE (fun (x : Role) => (.agg (encRole x).toArray)) (MapRow Value.string (fun (x : Bool) => (Value.bool x))) v_a0_in_ a0_in_ R_a0_in_) (h_a0_creds : Row 83 encCred 9 v_a0_creds a0_creds R_a0_creds) (h_a0_uses : DeepE (fun (x : Role) => (.agg (encRole x).toArray)) (Row 83 encCred 9) v_a0_uses a0_uses R_a0_uses) (h_a0_words : DeepE Value.string (Row 83 encCred 9) v_a0_words a0_words R_a0_words) (h_a0_todo : Que 78 encFact 3 v_a0_todo a0_todo R_a0_todo) (hm : m_model_Model_note_w a0_in_ a0_creds a0_uses a0_words a0_todo a0_n a1 = some r) :
    GivesM true Tryz.prog 100 [(.pointer (some ⟨b_a0, 0, none⟩)), (.agg (encCred a1).toArray)] w ((b_a0, Obj.cells (#[v_a0_in_, v_a0_creds, v_a0_uses, v_a0_words, v_a0_todo, (.int .i64 a0_n)] : Array Value) 134 (0, 0)) :: (R_a0_in_ ++ (R_a0_creds ++ (R_a0_uses ++ (R_a0_words ++ (R_a0_todo ++ [])))))) (fun v L1 W' => ∃ (y1 : Value) (S2 : List (Nat × Obj)) (S4 : List (Nat × Obj)) (S6 : List (Nat × Obj)), v = (.tuple #[]) ∧ L1 = ((b_a0, Obj.cells (#[v_a0_in_, y1, v_a0_uses, v_a0_words, v_a0_todo, (.int .i64 a0_n)] : Array Value) 134 (0, 0)) :: (R_a0_in_ ++ (S2 ++ (S4 ++ (S6 ++ (R_a0_todo ++ [])))))) ∧ Row 83 encCred 9 y1 r.1 S2 ∧ DeepE (fun (x : Role) => (.agg (encRole x).toArray)) (Row 83 encCred 9) v_a0_uses r.2.1 S4 ∧ DeepE Value.string (Row 83 encCred 9) v_a0_words r.2.2 S6) := by
  have hST := (ST.startM (dd := true) hH hN).weak hS0
  unfold m_model_Model_note_w at hm
  refine calls_of_CW (n := 55) Tryz.func100 rfl rfl (Nat.le_of_ble_eq_true rfl) ?_
  refine CW_seq ?_
  refine CW_region ?_
  refine LW_e (.inl rfl) rfl (by decide) (E_box (v := (.agg (encCred a1).toArray)) hST rfl (fun W2 b1 hST => ?_))
  refine LW_nil ?_
  refine sq_n ?_
  refine CW_seq ?_
  refine PX_start (fun l W => Has μ0 ((b1, Obj.cells ((encCred a1).toArray : Array Value) 83 (0, 0)) :: []) W ∧ (l.getD 10 true = false → Has μ0 ((b_a0, Obj.cells (#[v_a0_in_, v_a0_creds, v_a0_uses, v_a0_words, v_a0_todo, (.int .i64 a0_n)] : Array Value) 134 (0, 0)) :: []) W)) Tryz_mixed ?_
  replace hST := hST.drew
  have hS0 : Has μ0 ((b1, Obj.cells ((encCred a1).toArray : Array Value) 83 (0, 0)) :: []) _ := hST.has.sub (Sub.refl _) (fun p hq => ((List.mem_cons.1 hq).elim (fun hq => by rw [hq]; exact (.head _)) (fun hq => (absurd hq List.not_mem_nil))))
  have hS1 : Has μ0 ((b_a0, Obj.cells (#[v_a0_in_, v_a0_creds, v_a0_uses, v_a0_words, v_a0_todo, (.int .i64 a0_n)] : Array Value) 134 (0, 0)) :: []) _ := hST.has.sub (Sub.refl _) (fun p hq => ((List.mem_cons.1 hq).elim (fun hq => by rw [hq]; exact (.tail _ (.head _))) (fun hq => (absurd hq List.not_mem_nil))))
  refine PX_v 0 rfl (by kernel_rfl) (.inl rfl) rfl (by decide) (fun _ _ h => ⟨h.1, til (by rfl) h.2⟩) ⟨hS0, fun _ => hS1⟩ (fun _ _ _ _ => R_move (v := (.pointer (some ⟨b_a0, 0, none⟩))) rfl) ?_
  refine PX_v 1 rfl (by kernel_rfl) (.inl rfl) rfl (by decide) (fun _ _ h => ⟨h.1, til (by rfl) h.2⟩) ⟨hS0, fun _ => hS1⟩ (fun _ _ _ _ => R_move (v := (.pointer (some ⟨b_a0, 0, none⟩))) rfl) ?_
  refine PX_v 2 rfl (by kernel_rfl) (.inl rfl) rfl (by decide) (fun _ _ h => ⟨h.1, til (by rfl) h.2⟩) ⟨hS0, fun _ => hS1⟩ (fun _ _ _ _ => R_nilCheck rfl) ?_
  refine PX_v 3 rfl (by kernel_rfl) (.inl rfl) rfl (by decide) (fun _ _ h => ⟨h.1, til (by rfl) h.2⟩) ⟨hS0, fun _ => hS1⟩ (fun _ _ _ _ => R_field fa134_1 rfl) ?_
  refine PX_v 4 rfl (by kernel_rfl) (.inl rfl) rfl (by decide) (fun _ _ h => ⟨h.1, til (by rfl) h.2⟩) ⟨hS0, fun _ => hS1⟩ (fun l W hpd hs => have hS := (hs.2 (hpd.bar 10 [4] (by kernel_rfl) rfl)); R_load (v := v_a0_creds) rfl (load_box1 hS (.head _) rfl Tryz.isAgg22)) ?_
  refine PX_v 5 rfl (by kernel_rfl) (.inl rfl) rfl (by decide) (fun _ _ h => ⟨h.1, til (by rfl) h.2⟩) ⟨hS0, fun _ => hS1⟩ (fun l W hpd hs => have hS := hs.1; R_load (v := (.agg (encCred a1).toArray)) rfl (load_boxA hS (.head _) (encCred a1) rfl Tryz.isAgg83 Tryz.sizeOf83)) ?_
  refine PX_e 6 rfl (by kernel_rfl) (.inl rfl) rfl (by decide) (E_buildSlice (qs := #[(0, (.agg (encCred a1).toArray))]) (cs := (encCred a1).toArray) hST (parts1 rfl) (run_lit [(.agg (encCred a1).toArray)] Tryz.underlying22 Tryz.sizeOf83 Tryz.zeroValue83 (by decide) rfl (by intro v hv; simp only [List.mem_cons, List.not_mem_nil, or_false] at hv; rcases hv with rfl <;> rfl) rfl rfl) (fun W26 b25 hST => ?_))
  have hS0 : Has μ0 ((b1, Obj.cells ((encCred a1).toArray : Array Value) 83 (0, 0)) :: []) _ := hST.has.sub (Sub.refl _) (fun p hq => ((List.mem_cons.1 hq).elim (fun hq => by rw [hq]; exact (.tail _ (.head _))) (fun hq => (absurd hq List.not_mem_nil))))
  have hS1 : Has μ0 ((b_a0, Obj.cells (#[v_a0_in_, v_a0_creds, v_a0_uses, v_a0_words, v_a0_todo, (.int .i64 a0_n)] : Array Value) 134 (0, 0)) :: []) _ := hST.has.sub (Sub.refl _) (fun p hq => ((List.mem_cons.1 hq).elim (fun hq => by rw [hq]; exact (.tail _ (.tail _ (.head _)))) (fun hq => (absurd hq List.not_mem_nil))))
  refine ⟨⟨hS0, fun _ => hS1⟩, ?_⟩
  replace hST : ST true (keys ((b_a0, Obj.cells (#[v_a0_in_, v_a0_creds, v_a0_uses, v_a0_words, v_a0_todo, (.int .i64 a0_n)] : Array Value) 134 (0, 0)) :: (R_a0_in_ ++ (R_a0_creds ++ (R_a0_uses ++ (R_a0_words ++ (R_a0_todo ++ []))))))) w _ _ ((b25, Obj.cells ((encCred a1).toArray : Array Value) 83 (0, 0)) :: ((b1, Obj.cells ((encCred a1).toArray : Array Value) 83 (0, 0)) :: ((b_a0, Obj.cells (#[v_a0_in_, v_a0_creds, v_a0_uses, v_a0_words, v_a0_todo, (.int .i64 a0_n)] : Array Value) 134 (0, 0)) :: (R_a0_creds ++ (R_a0_in_ ++ (R_a0_uses ++ (R_a0_words ++ (R_a0_todo ++ [])))))))) := hST.perm (permD [[(b25, Obj.cells ((encCred a1).toArray : Array Value) 83 (0, 0))], [(b1, Obj.cells ((encCred a1).toArray : Array Value) 83 (0, 0))], [(b_a0, Obj.cells (#[v_a0_in_, v_a0_creds, v_a0_uses, v_a0_words, v_a0_todo, (.int .i64 a0_n)] : Array Value) 134 (0, 0))], R_a0_in_, R_a0_creds] [0, 1, 2, 3, 4] [0, 1, 2, 4, 3] ((R_a0_uses ++ (R_a0_words ++ (R_a0_todo ++ [])))) (by decide) rfl rfl)
  obtain ⟨l27, hb28, hm⟩ := bind_some hm
  refine PX_e 7 rfl (by kernel_rfl) (.inl rfl) rfl (by decide) (E_append (enc := encCred) (v := v_a0_creds) (vs := (.slice (some ⟨b25, 0, none⟩) 1 1)) (R := R_a0_creds) [_, _, _] hST lenCred (by decide) oneCred Tryz.underlying22 info83.1 info83.2.1 rfl info83.2.2.1 info83.2.2.2 rfl rfl h_a0_creds (Sl.lit (enc := encCred) (l := [a1]) lenCred rfl (Nat.le_of_ble_eq_true rfl) rfl (hST.at_ (.head _))) hb28 (fun W29 v32 R30 hST hR31 => ?_))
  replace hST : ST true (keys ((b_a0, Obj.cells (#[v_a0_in_, v_a0_creds, v_a0_uses, v_a0_words, v_a0_todo, (.int .i64 a0_n)] : Array Value) 134 (0, 0)) :: (R_a0_in_ ++ (R_a0_creds ++ (R_a0_uses ++ (R_a0_words ++ (R_a0_todo ++ []))))))) w _ _ ((b25, Obj.cells ((encCred a1).toArray : Array Value) 83 (0, 0)) :: ((b1, Obj.cells ((encCred a1).toArray : Array Value) 83 (0, 0)) :: ((b_a0, Obj.cells (#[v_a0_in_, v_a0_creds, v_a0_uses, v_a0_words, v_a0_todo, (.int .i64 a0_n)] : Array Value) 134 (0, 0)) :: (R30 ++ (R_a0_in_ ++ (R_a0_uses ++ (R_a0_words ++ (R_a0_todo ++ [])))))))) := hST
  have hS0 : Has μ0 ((b1, Obj.cells ((encCred a1).toArray : Array Value) 83 (0, 0)) :: []) _ := hST.has.sub (Sub.refl _) (fun p hq => ((List.mem_cons.1 hq).elim (fun hq => by rw [hq]; exact (.tail _ (.head _))) (fun hq => (absurd hq List.not_mem_nil))))
  have hS1 : Has μ0 ((b_a0, Obj.cells (#[v_a0_in_, v_a0_creds, v_a0_uses, v_a0_words, v_a0_todo, (.int .i64 a0_n)] : Array Value) 134 (0, 0)) :: []) _ := hST.has.sub (Sub.refl _) (fun p hq => ((List.mem_cons.1 hq).elim (fun hq => by rw [hq]; exact (.tail _ (.tail _ (.head _)))) (fun hq => (absurd hq List.not_mem_nil))))
  refine ⟨⟨hS0, fun _ => hS1⟩, ?_⟩
  refine PX_v 8 rfl (by kernel_rfl) (.inl rfl) rfl (by decide) (fun _ _ h => ⟨h.1, til (by rfl) h.2⟩) ⟨hS0, fun _ => hS1⟩ (fun _ _ _ _ => R_nilCheck rfl) ?_
  refine PX_v 9 rfl (by kernel_rfl) (.inl rfl) rfl (by decide) (fun _ _ h => ⟨h.1, til (by rfl) h.2⟩) ⟨hS0, fun _ => hS1⟩ (fun _ _ _ _ => R_field fa134_1 rfl) ?_
  obtain ⟨A33, c34, rfl⟩ := hR31.form
  refine PX_e0 10 rfl (by kernel_rfl) (.inl rfl) rfl (E_store [_, _] (.slice A33 l27.length c34) (#[v_a0_in_, (.slice A33 l27.length c34), v_a0_uses, v_a0_words, v_a0_todo, (.int .i64 a0_n)]) hST rfl rfl Tryz.sizeOf22 (by simp [Value.cells, Value.oneCell']) (Nat.le_of_ble_eq_true rfl) rfl (fun W35 hST => ?_))
  replace hST : ST true (keys ((b_a0, Obj.cells (#[v_a0_in_, v_a0_creds, v_a0_uses, v_a0_words, v_a0_todo, (.int .i64 a0_n)] : Array Value) 134 (0, 0)) :: (R_a0_in_ ++ (R_a0_creds ++ (R_a0_uses ++ (R_a0_words ++ (R_a0_todo ++ []))))))) w _ _ ((b25, Obj.cells ((encCred a1).toArray : Array Value) 83 (0, 0)) :: ((b1, Obj.cells ((encCred a1).toArray : Array Value) 83 (0, 0)) :: ((b_a0, Obj.cells (#[v_a0_in_, (.slice A33 l27.length c34), v_a0_uses, v_a0_words, v_a0_todo, (.int .i64 a0_n)] : Array Value) 134 (0, 0)) :: (R30 ++ (R_a0_in_ ++ (R_a0_uses ++ (R_a0_words ++ (R_a0_todo ++ [])))))))) := hST
  have hS0 : Has μ0 ((b1, Obj.cells ((encCred a1).toArray : Array Value) 83 (0, 0)) :: []) _ := hST.has.sub (Sub.refl _) (fun p hq => ((List.mem_cons.1 hq).elim (fun hq => by rw [hq]; exact (.tail _ (.head _))) (fun hq => (absurd hq List.not_mem_nil))))
  refine ⟨⟨hS0, fun h => ffl (by kernel_rfl) h⟩, ?_⟩
  refine PX_done (by kernel_rfl) ?_
  refine sq_n ?_
  replace hST : ST true (keys ((b_a0, Obj.cells (#[v_a0_in_, v_a0_creds, v_a0_uses, v_a0_words, v_a0_todo, (.int .i64 a0_n)] : Array Value) 134 (0, 0)) :: (R_a0_in_ ++ (R_a0_creds ++ (R_a0_uses ++ (R_a0_words ++ (R_a0_todo ++ []))))))) w _ _ ((b1, Obj.cells ((encCred a1).toArray : Array Value) 83 (0, 0)) :: ((b_a0, Obj.cells (#[v_a0_in_, (.slice A33 l27.length c34), v_a0_uses, v_a0_words, v_a0_todo, (.int .i64 a0_n)] : Array Value) 134 (0, 0)) :: (R30 ++ (R_a0_in_ ++ (R_a0_uses ++ (R_a0_words ++ (R_a0_todo ++ []))))))) := hST.sublist (List.Sublist.cons _ (List.Sublist.refl _))
  refine CW_seq ?_
  refine CW_seq ?_
  refine CW_region ?_
  refine LW_v (.inl rfl) rfl (by decide) (R_load (v := (.agg (encCred a1).toArray)) rfl (load_boxA hST.has (.head _) (encCred a1) rfl Tryz.isAgg83 Tryz.sizeOf83)) ?_
  obtain ⟨r36, hr37, hm⟩ := bind_some hm
  refine LW_e (.inl rfl) rfl (by decide) (E_givesRow (args := [(.agg (encCred a1).toArray)]) [_, _] _ hST rfl Tryz.call86 (by exact args1 rfl) ((w_cred_Roles a1 _ _  hr37)) (fun W38 v41 μ39 R42 hST hle40 hR43 => ?_))
  replace hST : ST true (keys ((b_a0, Obj.cells (#[v_a0_in_, v_a0_creds, v_a0_uses, v_a0_words, v_a0_todo, (.int .i64 a0_n)] : Array Value) 134 (0, 0)) :: (R_a0_in_ ++ (R_a0_creds ++ (R_a0_uses ++ (R_a0_words ++ (R_a0_todo ++ []))))))) w _ _ ((b1, Obj.cells ((encCred a1).toArray : Array Value) 83 (0, 0)) :: ((b_a0, Obj.cells (#[v_a0_in_, (.slice A33 l27.length c34), v_a0_uses, v_a0_words, v_a0_todo, (.int .i64 a0_n)] : Array Value) 134 (0, 0)) :: (R42 ++ (R30 ++ (R_a0_in_ ++ (R_a0_uses ++ (R_a0_words ++ (R_a0_todo ++ [])))))))) := hST
  obtain ⟨μ46, hST, hle47, hs48⟩ := ST.pubRow (X := [_, _]) hST hR43 lenRole
  simp only [List.cons_append, List.nil_append] at hST
  obtain ⟨_, hg49, hm⟩ := bind_some hm
  refine LW_q (.inl rfl) rfl (by decide) (R_sliceFrom (i := 1) Tryz.underlying23 Tryz.sizeOf47 rfl rfl hs48 (chk_1 hg49) (chk_2 hg49)) (fun v44 hs45 => ?_)
  refine LW_v (.inl rfl) rfl (by decide) (R_len Tryz.underlying23 rfl hs45.1) ?_
  refine LW_v (.inl rfl) rfl (by decide) (R_move (v := (.int .i64 0)) rfl) ?_
  refine LW_nil ?_
  refine sq_n ?_
  replace hST : ST true (keys ((b_a0, Obj.cells (#[v_a0_in_, v_a0_creds, v_a0_uses, v_a0_words, v_a0_todo, (.int .i64 a0_n)] : Array Value) 134 (0, 0)) :: (R_a0_in_ ++ (R_a0_creds ++ (R_a0_uses ++ (R_a0_words ++ (R_a0_todo ++ []))))))) w _ _ ((b1, Obj.cells ((encCred a1).toArray : Array Value) 83 (0, 0)) :: ((b_a0, Obj.cells (#[v_a0_in_, (.slice A33 l27.length c34), v_a0_uses, v_a0_words, v_a0_todo, (.int .i64 a0_n)] : Array Value) 134 (0, 0)) :: (R30 ++ (R_a0_in_ ++ (R_a0_uses ++ (R_a0_words ++ (R_a0_todo ++ []))))))) := hST
  replace hST : ST true (keys ((b_a0, Obj.cells (#[v_a0_in_, v_a0_creds, v_a0_uses, v_a0_words, v_a0_todo, (.int .i64 a0_n)] : Array Value) 134 (0, 0)) :: (R_a0_in_ ++ (R_a0_creds ++ (R_a0_uses ++ (R_a0_words ++ (R_a0_todo ++ []))))))) w _ _ ((b1, Obj.cells ((encCred a1).toArray : Array Value) 83 (0, 0)) :: ((b_a0, Obj.cells (#[v_a0_in_, (.slice A33 l27.length c34), v_a0_uses, v_a0_words, v_a0_todo, (.int .i64 a0_n)] : Array Value) 134 (0, 0)) :: (R_a0_uses ++ (R30 ++ (R_a0_in_ ++ (R_a0_words ++ (R_a0_todo ++ []))))))) := hST.perm (permD [[(b1, Obj.cells ((encCred a1).toArray : Array Value) 83 (0, 0))], [(b_a0, Obj.cells (#[v_a0_in_, (.slice A33 l27.length c34), v_a0_uses, v_a0_words, v_a0_todo, (.int .i64 a0_n)] : Array Value) 134 (0, 0))], R30, R_a0_in_, R_a0_uses] [0, 1, 2, 3, 4] [0, 1, 4, 2, 3] ((R_a0_words ++ (R_a0_todo ++ []))) (by decide) rfl rfl)
  refine CW_range (fun i E W => ∃ (l354 : List (Role × (List Cred))) (R356 : List (Nat × Obj)) (L432 : List (Nat × Obj)), (E 20 = .int .i64 (i : Nat) ∧ E 19 = .int .i64 (((r36.drop (Int.toNat 1))).length : Nat)) ∧ ST true (keys ((b_a0, Obj.cells (#[v_a0_in_, v_a0_creds, v_a0_uses, v_a0_words, v_a0_todo, (.int .i64 a0_n)] : Array Value) 134 (0, 0)) :: (R_a0_in_ ++ (R_a0_creds ++ (R_a0_uses ++ (R_a0_words ++ (R_a0_todo ++ []))))))) w W μ46 ((b1, Obj.cells ((encCred a1).toArray : Array Value) 83 (0, 0)) :: ((b_a0, Obj.cells (#[v_a0_in_, (.slice A33 l27.length c34), v_a0_uses, v_a0_words, v_a0_todo, (.int .i64 a0_n)] : Array Value) 134 (0, 0)) :: (R356 ++ (R30 ++ (R_a0_in_ ++ (R_a0_words ++ (R_a0_todo ++ L432))))))) ∧ E 0 = (.pointer (some ⟨b_a0, 0, none⟩)) ∧ E 3 = (.pointer (some ⟨b1, 0, none⟩)) ∧ E 18 = v44 ∧ DeepE (fun (x : Role) => (.agg (encRole x).toArray)) (Row 83 encCred 9) v_a0_uses l354 R356 ∧ m_model_Model_note_w_L1 a1 a0_words l27 (((r36.drop (Int.toNat 1))).drop i) l354 = some r) ((r36.drop (Int.toNat 1))).length hs45.1.len ⟨a0_uses, R_a0_uses, _, ⟨rfl, rfl⟩, (hST.sublist (List.Sublist.refl _)), rfl, rfl, rfl, h_a0_uses, hm⟩ (by decide) (by decide) (by decide) (fun _ _ _ h => by obtain ⟨_, _, _, eIN, _⟩ := h; exact eIN) ?_ ?_
  · rintro i278 E W hi284 ⟨l354, R356, L432, ⟨eI, eN⟩, hST, e434, e435, e436, hs355, hm433⟩
    obtain ⟨x279, xs280, hx282, hx281, hx283⟩ := drop_cons hi284
    rw [hx282] at hm433
    rw [m_model_Model_note_w_L1] at hm433
    refine CW_block ?_
    refine CW_seq ?_
    refine CW_region ?_
    refine LW_q (.inl rfl) rfl (by decide) (R_indexP (enc := encRole) (i := (i278 : Int)) (x0 := x279) Tryz.underlying23 Tryz.sizeOf47 e436 eI hs45.1 (Int.natCast_nonneg _) hx281) (fun p437 hp438 => ?_)
    refine LW_v (.inl rfl) rfl (by decide) (R_load rfl (load_atA hST.has hp438 Tryz.isAgg47 Tryz.sizeOf47)) ?_
    refine LW_e (.inl rfl) rfl (by decide) (E_alloc hST Tryz.zeroValue47 (fun W441 b440 hST => ?_))
    refine LW_e0 (.inl rfl) rfl (E_store [] (.agg (encRole x279).toArray) ((encRole x279).toArray) hST rfl rfl Tryz.sizeOf47 (oneRole x279) (Nat.le_of_ble_eq_true rfl) rfl (fun W442 hST => ?_))
    refine LW_nil ?_
    refine sq_n ?_
    refine PX_start (fun l W => Has μ46 ((b440, Obj.cells ((encRole x279).toArray : Array Value) 47 (0, 0)) :: ((b1, Obj.cells ((encCred a1).toArray : Array Value) 83 (0, 0)) :: ((b_a0, Obj.cells (#[v_a0_in_, (.slice A33 l27.length c34), v_a0_uses, v_a0_words, v_a0_todo, (.int .i64 a0_n)] : Array Value) 134 (0, 0)) :: []))) W) Tryz_mixed ?_
    replace hST := hST.drew
    replace hST : ST true (keys ((b_a0, Obj.cells (#[v_a0_in_, v_a0_creds, v_a0_uses, v_a0_words, v_a0_todo, (.int .i64 a0_n)] : Array Value) 134 (0, 0)) :: (R_a0_in_ ++ (R_a0_creds ++ (R_a0_uses ++ (R_a0_words ++ (R_a0_todo ++ []))))))) w _ _ ((b440, Obj.cells ((encRole x279).toArray : Array Value) 47 (0, 0)) :: ((b1, Obj.cells ((encCred a1).toArray : Array Value) 83 (0, 0)) :: ((b_a0, Obj.cells (#[v_a0_in_, (.slice A33 l27.length c34), v_a0_uses, v_a0_words, v_a0_todo, (.int .i64 a0_n)] : Array Value) 134 (0, 0)) :: (R356 ++ (R30 ++ (R_a0_in_ ++ (R_a0_words ++ (R_a0_todo ++ L432)))))))) := hST
    have hS0 : Has μ46 ((b440, Obj.cells ((encRole x279).toArray : Array Value) 47 (0, 0)) :: ((b1, Obj.cells ((encCred a1).toArray : Array Value) 83 (0, 0)) :: ((b_a0, Obj.cells (#[v_a0_in_, (.slice A33 l27.length c34), v_a0_uses, v_a0_words, v_a0_todo, (.int .i64 a0_n)] : Array Value) 134 (0, 0)) :: []))) _ := hST.has.sub (Sub.refl _) (fun p hq => ((List.mem_cons.1 hq).elim (fun hq => by rw [hq]; exact (.head _)) (fun hq => ((List.mem_cons.1 hq).elim (fun hq => by rw [hq]; exact (.tail _ (.head _))) (fun hq => ((List.mem_cons.1 hq).elim (fun hq => by rw [hq]; exact (.tail _ (.tail _ (.head _)))) (fun hq => (absurd hq List.not_mem_nil))))))))
    refine PX_v 0 rfl (by kernel_rfl) (.inl rfl) rfl (by decide) (fun _ _ h => h) hS0 (fun _ _ _ _ => R_move (v := (.pointer (some ⟨b_a0, 0, none⟩))) e434) ?_
    refine PX_v 1 rfl (by kernel_rfl) (.inl rfl) rfl (by decide) (fun _ _ h => h) hS0 (fun _ _ _ _ => R_nilCheck rfl) ?_
    refine PX_v 2 rfl (by kernel_rfl) (.inl rfl) rfl (by decide) (fun _ _ h => h) hS0 (fun _ _ _ _ => R_field fa134_2 rfl) ?_
    refine PX_v 3 rfl (by kernel_rfl) (.inl rfl) rfl (by decide) (fun _ _ h => h) hS0 (fun l W hpd hs => have hS := hs; R_load (v := v_a0_uses) rfl (load_box1 hS (.tail _ (.tail _ (.head _))) rfl Tryz.isAgg131)) ?_
    refine PX_v 4 rfl (by kernel_rfl) (.inl rfl) rfl (by decide) (fun _ _ h => h) hS0 (fun l W hpd hs => have hS := hs; R_load (v := (.agg (encRole x279).toArray)) rfl (load_boxA hS (.head _) (encRole x279) rfl Tryz.isAgg47 Tryz.sizeOf47)) ?_
    refine PX_v 5 rfl (by kernel_rfl) (.inl rfl) rfl (by decide) (fun _ _ h => h) hS0 (fun l W hpd hs => have hS := hs; R_load (v := (.agg (encCred a1).toArray)) e435 (load_boxA hS (.tail _ (.head _)) (encCred a1) rfl Tryz.isAgg83 Tryz.sizeOf83)) ?_
    refine PX_e 6 rfl (by kernel_rfl) (.inl rfl) rfl (by decide) (E_buildSlice (qs := #[(0, (.agg (encCred a1).toArray))]) (cs := (encCred a1).toArray) hST (parts1 rfl) (run_lit [(.agg (encCred a1).toArray)] Tryz.underlying22 Tryz.sizeOf83 Tryz.zeroValue83 (by decide) rfl (by intro v hv; simp only [List.mem_cons, List.not_mem_nil, or_false] at hv; rcases hv with rfl <;> rfl) rfl rfl) (fun W486 b485 hST => ?_))
    have hS0 : Has μ46 ((b440, Obj.cells ((encRole x279).toArray : Array Value) 47 (0, 0)) :: ((b1, Obj.cells ((encCred a1).toArray : Array Value) 83 (0, 0)) :: ((b_a0, Obj.cells (#[v_a0_in_, (.slice A33 l27.length c34), v_a0_uses, v_a0_words, v_a0_todo, (.int .i64 a0_n)] : Array Value) 134 (0, 0)) :: []))) _ := hST.has.sub (Sub.refl _) (fun p hq => ((List.mem_cons.1 hq).elim (fun hq => by rw [hq]; exact (.tail _ (.head _))) (fun hq => ((List.mem_cons.1 hq).elim (fun hq => by rw [hq]; exact (.tail _ (.tail _ (.head _)))) (fun hq => ((List.mem_cons.1 hq).elim (fun hq => by rw [hq]; exact (.tail _ (.tail _ (.tail _ (.head _))))) (fun hq => (absurd hq List.not_mem_nil))))))))
    refine ⟨hS0, ?_⟩
    obtain ⟨lv487, hd488⟩ := hs355
    refine PX_e 7 rfl (by kernel_rfl) (.inl rfl) rfl (by decide) (E_mapEntry (k := x279) (x0 := []) [_, _, _, _] beqRole_iff kl47 Tryz.underlying131 Tryz.zeroValue22 (Row.nil _ _ _) hST hd488 rfl rfl (fun W490 v491 st489 R492 R493 hST hR495 hR494 => ?_))
    replace hST : ST true (keys ((b_a0, Obj.cells (#[v_a0_in_, v_a0_creds, v_a0_uses, v_a0_words, v_a0_todo, (.int .i64 a0_n)] : Array Value) 134 (0, 0)) :: (R_a0_in_ ++ (R_a0_creds ++ (R_a0_uses ++ (R_a0_words ++ (R_a0_todo ++ []))))))) w _ _ ((b485, Obj.cells ((encCred a1).toArray : Array Value) 83 (0, 0)) :: ((b440, Obj.cells ((encRole x279).toArray : Array Value) 47 (0, 0)) :: ((b1, Obj.cells ((encCred a1).toArray : Array Value) 83 (0, 0)) :: ((b_a0, Obj.cells (#[v_a0_in_, (.slice A33 l27.length c34), v_a0_uses, v_a0_words, v_a0_todo, (.int .i64 a0_n)] : Array Value) 134 (0, 0)) :: (R492 ++ (R493 ++ (R30 ++ (R_a0_in_ ++ (R_a0_words ++ (R_a0_todo ++ L432)))))))))) := hST
    have hS0 : Has μ46 ((b440, Obj.cells ((encRole x279).toArray : Array Value) 47 (0, 0)) :: ((b1, Obj.cells ((encCred a1).toArray : Array Value) 83 (0, 0)) :: ((b_a0, Obj.cells (#[v_a0_in_, (.slice A33 l27.length c34), v_a0_uses, v_a0_words, v_a0_todo, (.int .i64 a0_n)] : Array Value) 134 (0, 0)) :: []))) _ := hST.has.sub (Sub.refl _) (fun p hq => ((List.mem_cons.1 hq).elim (fun hq => by rw [hq]; exact (.tail _ (.head _))) (fun hq => ((List.mem_cons.1 hq).elim (fun hq => by rw [hq]; exact (.tail _ (.tail _ (.head _)))) (fun hq => ((List.mem_cons.1 hq).elim (fun hq => by rw [hq]; exact (.tail _ (.tail _ (.tail _ (.head _))))) (fun hq => (absurd hq List.not_mem_nil))))))))
    refine ⟨hS0, ?_⟩
    refine PX_v 8 rfl (by kernel_rfl) (.inl rfl) rfl (by decide) (fun _ _ h => h) hS0 (fun _ _ _ _ => R_extract (v := v491) rfl rfl) ?_
    refine PX_v 10 rfl (by kernel_rfl) (.inl rfl) rfl (by decide) (fun _ _ h => h) hS0 (fun _ _ _ _ => R_extract (v := (.int .i64 ((st489 : Int)))) rfl rfl) ?_
    replace hST : ST true (keys ((b_a0, Obj.cells (#[v_a0_in_, v_a0_creds, v_a0_uses, v_a0_words, v_a0_todo, (.int .i64 a0_n)] : Array Value) 134 (0, 0)) :: (R_a0_in_ ++ (R_a0_creds ++ (R_a0_uses ++ (R_a0_words ++ (R_a0_todo ++ []))))))) w _ _ ((b485, Obj.cells ((encCred a1).toArray : Array Value) 83 (0, 0)) :: ((b440, Obj.cells ((encRole x279).toArray : Array Value) 47 (0, 0)) :: ((b1, Obj.cells ((encCred a1).toArray : Array Value) 83 (0, 0)) :: ((b_a0, Obj.cells (#[v_a0_in_, (.slice A33 l27.length c34), v_a0_uses, v_a0_words, v_a0_todo, (.int .i64 a0_n)] : Array Value) 134 (0, 0)) :: (R493 ++ (R492 ++ (R30 ++ (R_a0_in_ ++ (R_a0_words ++ (R_a0_todo ++ L432)))))))))) := hST.perm (permD [[(b485, Obj.cells ((encCred a1).toArray : Array Value) 83 (0, 0))], [(b440, Obj.cells ((encRole x279).toArray : Array Value) 47 (0, 0))], [(b1, Obj.cells ((encCred a1).toArray : Array Value) 83 (0, 0))], [(b_a0, Obj.cells (#[v_a0_in_, (.slice A33 l27.length c34), v_a0_uses, v_a0_words, v_a0_todo, (.int .i64 a0_n)] : Array Value) 134 (0, 0))], R492, R493] [0, 1, 2, 3, 4, 5] [0, 1, 2, 3, 5, 4] ((R30 ++ (R_a0_in_ ++ (R_a0_words ++ (R_a0_todo ++ L432))))) (by decide) rfl rfl)
    obtain ⟨l496, hb497, hm433⟩ := bind_some hm433
    refine PX_e 9 rfl (by kernel_rfl) (.inl rfl) rfl (by decide) (E_append (enc := encCred) (v := v491) (vs := (.slice (some ⟨b485, 0, none⟩) 1 1)) (R := R493) [_, _, _, _] hST lenCred (by decide) oneCred Tryz.underlying22 info83.1 info83.2.1 rfl info83.2.2.1 info83.2.2.2 rfl rfl hR495 (Sl.lit (enc := encCred) (l := [a1]) lenCred rfl (Nat.le_of_ble_eq_true rfl) rfl (hST.at_ (.head _))) hb497 (fun W498 v501 R499 hST hR500 => ?_))
    replace hST : ST true (keys ((b_a0, Obj.cells (#[v_a0_in_, v_a0_creds, v_a0_uses, v_a0_words, v_a0_todo, (.int .i64 a0_n)] : Array Value) 134 (0, 0)) :: (R_a0_in_ ++ (R_a0_creds ++ (R_a0_uses ++ (R_a0_words ++ (R_a0_todo ++ []))))))) w _ _ ((b485, Obj.cells ((encCred a1).toArray : Array Value) 83 (0, 0)) :: ((b440, Obj.cells ((encRole x279).toArray : Array Value) 47 (0, 0)) :: ((b1, Obj.cells ((encCred a1).toArray : Array Value) 83 (0, 0)) :: ((b_a0, Obj.cells (#[v_a0_in_, (.slice A33 l27.length c34), v_a0_uses, v_a0_words, v_a0_todo, (.int .i64 a0_n)] : Array Value) 134 (0, 0)) :: (R499 ++ (R492 ++ (R30 ++ (R_a0_in_ ++ (R_a0_words ++ (R_a0_todo ++ L432)))))))))) := hST
    have hS0 : Has μ46 ((b440, Obj.cells ((encRole x279).toArray : Array Value) 47 (0, 0)) :: ((b1, Obj.cells ((encCred a1).toArray : Array Value) 83 (0, 0)) :: ((b_a0, Obj.cells (#[v_a0_in_, (.slice A33 l27.length c34), v_a0_uses, v_a0_words, v_a0_todo, (.int .i64 a0_n)] : Array Value) 134 (0, 0)) :: []))) _ := hST.has.sub (Sub.refl _) (fun p hq => ((List.mem_cons.1 hq).elim (fun hq => by rw [hq]; exact (.tail _ (.head _))) (fun hq => ((List.mem_cons.1 hq).elim (fun hq => by rw [hq]; exact (.tail _ (.tail _ (.head _)))) (fun hq => ((List.mem_cons.1 hq).elim (fun hq => by rw [hq]; exact (.tail _ (.tail _ (.tail _ (.head _))))) (fun hq => (absurd hq List.not_mem_nil))))))))
    refine ⟨hS0, ?_⟩
    replace hST : ST true (keys ((b_a0, Obj.cells (#[v_a0_in_, v_a0_creds, v_a0_uses, v_a0_words, v_a0_todo, (.int .i64 a0_n)] : Array Value) 134 (0, 0)) :: (R_a0_in_ ++ (R_a0_creds ++ (R_a0_uses ++ (R_a0_words ++ (R_a0_todo ++ []))))))) w _ _ ((b485, Obj.cells ((encCred a1).toArray : Array Value) 83 (0, 0)) :: ((b440, Obj.cells ((encRole x279).toArray : Array Value) 47 (0, 0)) :: ((b1, Obj.cells ((encCred a1).toArray : Array Value) 83 (0, 0)) :: ((b_a0, Obj.cells (#[v_a0_in_, (.slice A33 l27.length c34), v_a0_uses, v_a0_words, v_a0_todo, (.int .i64 a0_n)] : Array Value) 134 (0, 0)) :: (R492 ++ (R499 ++ (R30 ++ (R_a0_in_ ++ (R_a0_words ++ (R_a0_todo ++ L432)))))))))) := hST.perm (permD [[(b485, Obj.cells ((encCred a1).toArray : Array Value) 83 (0, 0))], [(b440, Obj.cells ((encRole x279).toArray : Array Value) 47 (0, 0))], [(b1, Obj.cells ((encCred a1).toArray : Array Value) 83 (0, 0))], [(b_a0, Obj.cells (#[v_a0_in_, (.slice A33 l27.length c34), v_a0_uses, v_a0_words, v_a0_todo, (.int .i64 a0_n)] : Array Value) 134 (0, 0))], R499, R492] [0, 1, 2, 3, 4, 5] [0, 1, 2, 3, 5, 4] ((R30 ++ (R_a0_in_ ++ (R_a0_words ++ (R_a0_todo ++ L432))))) (by decide) rfl rfl)
    refine PX_e0 11 rfl (by kernel_rfl) (.inl rfl) rfl (E_entryStore (e := 0) (z := l496) [_, _, _, _] beqRole_iff kl47 hST hR494 rfl rfl rfl hR500 (fun W502 lv503 R504 hST hR505 => ?_))
    replace hST : ST true (keys ((b_a0, Obj.cells (#[v_a0_in_, v_a0_creds, v_a0_uses, v_a0_words, v_a0_todo, (.int .i64 a0_n)] : Array Value) 134 (0, 0)) :: (R_a0_in_ ++ (R_a0_creds ++ (R_a0_uses ++ (R_a0_words ++ (R_a0_todo ++ []))))))) w _ _ ((b485, Obj.cells ((encCred a1).toArray : Array Value) 83 (0, 0)) :: ((b440, Obj.cells ((encRole x279).toArray : Array Value) 47 (0, 0)) :: ((b1, Obj.cells ((encCred a1).toArray : Array Value) 83 (0, 0)) :: ((b_a0, Obj.cells (#[v_a0_in_, (.slice A33 l27.length c34), v_a0_uses, v_a0_words, v_a0_todo, (.int .i64 a0_n)] : Array Value) 134 (0, 0)) :: (R504 ++ (R30 ++ (R_a0_in_ ++ (R_a0_words ++ (R_a0_todo ++ L432))))))))) := hST
    have hS0 : Has μ46 ((b440, Obj.cells ((encRole x279).toArray : Array Value) 47 (0, 0)) :: ((b1, Obj.cells ((encCred a1).toArray : Array Value) 83 (0, 0)) :: ((b_a0, Obj.cells (#[v_a0_in_, (.slice A33 l27.length c34), v_a0_uses, v_a0_words, v_a0_todo, (.int .i64 a0_n)] : Array Value) 134 (0, 0)) :: []))) _ := hST.has.sub (Sub.refl _) (fun p hq => ((List.mem_cons.1 hq).elim (fun hq => by rw [hq]; exact (.tail _ (.head _))) (fun hq => ((List.mem_cons.1 hq).elim (fun hq => by rw [hq]; exact (.tail _ (.tail _ (.head _)))) (fun hq => ((List.mem_cons.1 hq).elim (fun hq => by rw [hq]; exact (.tail _ (.tail _ (.tail _ (.head _))))) (fun hq => (absurd hq List.not_mem_nil))))))))
    refine ⟨hS0, ?_⟩
    refine PX_done (by kernel_rfl) ?_
    refine bq_n ?_
    refine sq_n ?_
    replace hST : ST true (keys ((b_a0, Obj.cells (#[v_a0_in_, v_a0_creds, v_a0_uses, v_a0_words, v_a0_todo, (.int .i64 a0_n)] : Array Value) 134 (0, 0)) :: (R_a0_in_ ++ (R_a0_creds ++ (R_a0_uses ++ (R_a0_words ++ (R_a0_todo ++ []))))))) w _ _ ((b1, Obj.cells ((encCred a1).toArray : Array Value) 83 (0, 0)) :: ((b_a0, Obj.cells (#[v_a0_in_, (.slice A33 l27.length c34), v_a0_uses, v_a0_words, v_a0_todo, (.int .i64 a0_n)] : Array Value) 134 (0, 0)) :: (R504 ++ (R30 ++ (R_a0_in_ ++ (R_a0_words ++ (R_a0_todo ++ L432))))))) := hST.sublist (List.Sublist.cons _ (List.Sublist.cons _ (List.Sublist.refl _)))
    exact ⟨eI, ((mput beqRole l354 x279 l496)), R504, _, ⟨rfl, eN⟩, (hST.sublist (List.Sublist.refl _)), e434, e435, e436, hR505.e, (by rw [hx283]; exact hm433)⟩
  · rintro E W ⟨l354, R356, L432, ⟨eI, eN⟩, hST, e434, e435, e436, hs355, hm433⟩
    rw [List.drop_length] at hm433
    rw [m_model_Model_note_w_L1] at hm433
    refine sq_n ?_
    refine CW_seq ?_
    refine CW_region ?_
    refine LW_v (.inl rfl) rfl (by decide) (R_field fa83_0 e435) ?_
    refine LW_v (.inl rfl) rfl (by decide) (R_load (v := (.int .i64 a1.Kind)) rfl (load_box1 hST.has (.head _) rfl Tryz.isAgg3)) ?_
    refine LW_v (.inl rfl) rfl (by decide) (R_int (k := .i64) (a := a1.Kind) (b := 3) (v := (.bool ((a1.Kind == 3)))) rfl rfl rfl) ?_
    refine LW_nil ?_
    refine sq_n ?_
    refine CW_if (b := (a1.Kind == 3)) rfl (fun hb506 => ?_) (fun hb506 => ?_)
    · replace hm433 := if_t hb506 hm433
      refine PX_start (fun l W => Has μ46 ((b1, Obj.cells ((encCred a1).toArray : Array Value) 83 (0, 0)) :: ((b_a0, Obj.cells (#[v_a0_in_, (.slice A33 l27.length c34), v_a0_uses, v_a0_words, v_a0_todo, (.int .i64 a0_n)] : Array Value) 134 (0, 0)) :: [])) W ∧ (l.getD 15 true = false → Has μ46 (R_a0_words ++ []) W)) Tryz_mixed ?_
      replace hST := hST.drew
      have hS0 : Has μ46 ((b1, Obj.cells ((encCred a1).toArray : Array Value) 83 (0, 0)) :: ((b_a0, Obj.cells (#[v_a0_in_, (.slice A33 l27.length c34), v_a0_uses, v_a0_words, v_a0_todo, (.int .i64 a0_n)] : Array Value) 134 (0, 0)) :: [])) _ := hST.has.sub (Sub.refl _) (fun p hq => ((List.mem_cons.1 hq).elim (fun hq => by rw [hq]; exact (.head _)) (fun hq => ((List.mem_cons.1 hq).elim (fun hq => by rw [hq]; exact (.tail _ (.head _))) (fun hq => (absurd hq List.not_mem_nil))))))
      have hS1 : Has μ46 (R_a0_words ++ []) _ := hST.has.sub (Sub.refl _) (fun p hq => ((List.mem_append.1 hq).elim (fun hq => (.tail _ (.tail _ (List.mem_append_right _ (List.mem_append_right _ (List.mem_append_right _ (List.mem_append_left _ hq))))))) (fun hq => (absurd hq List.not_mem_nil))))
      refine PX_v 0 rfl (by kernel_rfl) (.inl rfl) rfl (by decide) (fun _ _ h => ⟨h.1, til (by rfl) h.2⟩) ⟨hS0, fun _ => hS1⟩ (fun _ _ _ _ => R_move (v := (.pointer (some ⟨b_a0, 0, none⟩))) e434) ?_
      refine PX_v 1 rfl (by kernel_rfl) (.inl rfl) rfl (by decide) (fun _ _ h => ⟨h.1, til (by rfl) h.2⟩) ⟨hS0, fun _ => hS1⟩ (fun _ _ _ _ => R_nilCheck rfl) ?_
      refine PX_v 2 rfl (by kernel_rfl) (.inl rfl) rfl (by decide) (fun _ _ h => ⟨h.1, til (by rfl) h.2⟩) ⟨hS0, fun _ => hS1⟩ (fun _ _ _ _ => R_field fa134_3 rfl) ?_
      refine PX_v 3 rfl (by kernel_rfl) (.inl rfl) rfl (by decide) (fun _ _ h => ⟨h.1, til (by rfl) h.2⟩) ⟨hS0, fun _ => hS1⟩ (fun l W hpd hs => have hS := hs.1; R_load (v := v_a0_words) rfl (load_box1 hS (.tail _ (.head _)) rfl Tryz.isAgg132)) ?_
      refine PX_v 4 rfl (by kernel_rfl) (.inl rfl) rfl (by decide) (fun _ _ h => ⟨h.1, til (by rfl) h.2⟩) ⟨hS0, fun _ => hS1⟩ (fun _ _ _ _ => R_field fa83_5 e435) ?_
      refine PX_v 5 rfl (by kernel_rfl) (.inl rfl) rfl (by decide) (fun _ _ h => ⟨h.1, til (by rfl) h.2⟩) ⟨hS0, fun _ => hS1⟩ (fun l W hpd hs => have hS := hs.1; R_load (v := (.string a1.Word2)) rfl (load_box1 hS (.head _) rfl Tryz.isAgg9)) ?_
      refine PX_v 6 rfl (by kernel_rfl) (.inl rfl) rfl (by decide) (fun _ _ h => ⟨h.1, til (by rfl) h.2⟩) ⟨hS0, fun _ => hS1⟩ (fun _ _ _ _ => R_move (v := (.pointer (some ⟨b_a0, 0, none⟩))) e434) ?_
      refine PX_v 7 rfl (by kernel_rfl) (.inl rfl) rfl (by decide) (fun _ _ h => ⟨h.1, til (by rfl) h.2⟩) ⟨hS0, fun _ => hS1⟩ (fun _ _ _ _ => R_nilCheck rfl) ?_
      refine PX_v 8 rfl (by kernel_rfl) (.inl rfl) rfl (by decide) (fun _ _ h => ⟨h.1, til (by rfl) h.2⟩) ⟨hS0, fun _ => hS1⟩ (fun _ _ _ _ => R_field fa134_3 rfl) ?_
      refine PX_v 9 rfl (by kernel_rfl) (.inl rfl) rfl (by decide) (fun _ _ h => ⟨h.1, til (by rfl) h.2⟩) ⟨hS0, fun _ => hS1⟩ (fun l W hpd hs => have hS := hs.1; R_load (v := v_a0_words) rfl (load_box1 hS (.tail _ (.head _)) rfl Tryz.isAgg132)) ?_
      refine PX_v 10 rfl (by kernel_rfl) (.inl rfl) rfl (by decide) (fun _ _ h => ⟨h.1, til (by rfl) h.2⟩) ⟨hS0, fun _ => hS1⟩ (fun _ _ _ _ => R_field fa83_5 e435) ?_
      refine PX_v 11 rfl (by kernel_rfl) (.inl rfl) rfl (by decide) (fun _ _ h => ⟨h.1, til (by rfl) h.2⟩) ⟨hS0, fun _ => hS1⟩ (fun l W hpd hs => have hS := hs.1; R_load (v := (.string a1.Word2)) rfl (load_box1 hS (.head _) rfl Tryz.isAgg9)) ?_
      obtain ⟨lv553, hd554⟩ := h_a0_words
      obtain ⟨R555, hr556, hs557⟩ := DeepV.rowAt beqS_iff.1 hd554 a1.Word2
      refine PX_v 12 rfl (by kernel_rfl) (.inl rfl) rfl (by decide) (fun _ _ h => ⟨h.1, til (by rfl) h.2⟩) ⟨hS0, fun _ => hS1⟩ (fun l W hpd hs => have hS := (hs.2 (hpd.bar 15 [12] (by kernel_rfl) rfl)); R_lookupDeep (k := a1.Word2) (z := (.slice none 0 0)) kl9 Tryz.underlying132 Tryz.zeroValue22 rfl rfl hd554 (fun b o hq => hS.2 b o (List.mem_append_left _ hq))) ?_
      refine PX_v 13 rfl (by kernel_rfl) (.inl rfl) rfl (by decide) (fun _ _ h => ⟨h.1, til (by rfl) h.2⟩) ⟨hS0, fun _ => hS1⟩ (fun l W hpd hs => have hS := hs.1; R_load (v := (.agg (encCred a1).toArray)) e435 (load_boxA hS (.head _) (encCred a1) rfl Tryz.isAgg83 Tryz.sizeOf83)) ?_
      refine PX_e 14 rfl (by kernel_rfl) (.inl rfl) rfl (by decide) (E_buildSlice (qs := #[(0, (.agg (encCred a1).toArray))]) (cs := (encCred a1).toArray) hST (parts1 rfl) (run_lit [(.agg (encCred a1).toArray)] Tryz.underlying22 Tryz.sizeOf83 Tryz.zeroValue83 (by decide) rfl (by intro v hv; simp only [List.mem_cons, List.not_mem_nil, or_false] at hv; rcases hv with rfl <;> rfl) rfl rfl) (fun W559 b558 hST => ?_))
      have hS0 : Has μ46 ((b1, Obj.cells ((encCred a1).toArray : Array Value) 83 (0, 0)) :: ((b_a0, Obj.cells (#[v_a0_in_, (.slice A33 l27.length c34), v_a0_uses, v_a0_words, v_a0_todo, (.int .i64 a0_n)] : Array Value) 134 (0, 0)) :: [])) _ := hST.has.sub (Sub.refl _) (fun p hq => ((List.mem_cons.1 hq).elim (fun hq => by rw [hq]; exact (.tail _ (.head _))) (fun hq => ((List.mem_cons.1 hq).elim (fun hq => by rw [hq]; exact (.tail _ (.tail _ (.head _)))) (fun hq => (absurd hq List.not_mem_nil))))))
      have hS1 : Has μ46 (R_a0_words ++ []) _ := hST.has.sub (Sub.refl _) (fun p hq => ((List.mem_append.1 hq).elim (fun hq => (.tail _ (.tail _ (.tail _ (List.mem_append_right _ (List.mem_append_right _ (List.mem_append_right _ (List.mem_append_left _ hq)))))))) (fun hq => (absurd hq List.not_mem_nil))))
      refine ⟨⟨hS0, fun _ => hS1⟩, ?_⟩
      replace hST : ST true (keys ((b_a0, Obj.cells (#[v_a0_in_, v_a0_creds, v_a0_uses, v_a0_words, v_a0_todo, (.int .i64 a0_n)] : Array Value) 134 (0, 0)) :: (R_a0_in_ ++ (R_a0_creds ++ (R_a0_uses ++ (R_a0_words ++ (R_a0_todo ++ []))))))) w _ _ ((b558, Obj.cells ((encCred a1).toArray : Array Value) 83 (0, 0)) :: ((b1, Obj.cells ((encCred a1).toArray : Array Value) 83 (0, 0)) :: ((b_a0, Obj.cells (#[v_a0_in_, (.slice A33 l27.length c34), v_a0_uses, v_a0_words, v_a0_todo, (.int .i64 a0_n)] : Array Value) 134 (0, 0)) :: (R_a0_words ++ (R356 ++ (R30 ++ (R_a0_in_ ++ (R_a0_todo ++ L432)))))))) := hST.perm (permD [[(b558, Obj.cells ((encCred a1).toArray : Array Value) 83 (0, 0))], [(b1, Obj.cells ((encCred a1).toArray : Array Value) 83 (0, 0))], [(b_a0, Obj.cells (#[v_a0_in_, (.slice A33 l27.length c34), v_a0_uses, v_a0_words, v_a0_todo, (.int .i64 a0_n)] : Array Value) 134 (0, 0))], R356, R30, R_a0_in_, R_a0_words] [0, 1, 2, 3, 4, 5, 6] [0, 1, 2, 6, 3, 4, 5] ((R_a0_todo ++ L432)) (by decide) rfl rfl)
      obtain ⟨R560, R561, hp562, hq563, hh564⟩ := DeepV.open beqS_iff.1 (Row.nil _ _ _) hd554 a1.Word2
      replace hST : ST true (keys ((b_a0, Obj.cells (#[v_a0_in_, v_a0_creds, v_a0_uses, v_a0_words, v_a0_todo, (.int .i64 a0_n)] : Array Value) 134 (0, 0)) :: (R_a0_in_ ++ (R_a0_creds ++ (R_a0_uses ++ (R_a0_words ++ (R_a0_todo ++ []))))))) w _ _ ((b558, Obj.cells ((encCred a1).toArray : Array Value) 83 (0, 0)) :: ((b1, Obj.cells ((encCred a1).toArray : Array Value) 83 (0, 0)) :: ((b_a0, Obj.cells (#[v_a0_in_, (.slice A33 l27.length c34), v_a0_uses, v_a0_words, v_a0_todo, (.int .i64 a0_n)] : Array Value) 134 (0, 0)) :: (R560 ++ (R561 ++ (R356 ++ (R30 ++ (R_a0_in_ ++ (R_a0_todo ++ L432))))))))) := hST.perm (List.Perm.append_left [_, _, _] ((List.Perm.append_right _ hp562).trans (List.Perm.of_eq (List.append_assoc _ _ _))))
      replace hST : ST true (keys ((b_a0, Obj.cells (#[v_a0_in_, v_a0_creds, v_a0_uses, v_a0_words, v_a0_todo, (.int .i64 a0_n)] : Array Value) 134 (0, 0)) :: (R_a0_in_ ++ (R_a0_creds ++ (R_a0_uses ++ (R_a0_words ++ (R_a0_todo ++ []))))))) w _ _ ((b558, Obj.cells ((encCred a1).toArray : Array Value) 83 (0, 0)) :: ((b1, Obj.cells ((encCred a1).toArray : Array Value) 83 (0, 0)) :: ((b_a0, Obj.cells (#[v_a0_in_, (.slice A33 l27.length c34), v_a0_uses, v_a0_words, v_a0_todo, (.int .i64 a0_n)] : Array Value) 134 (0, 0)) :: (R561 ++ (R560 ++ (R356 ++ (R30 ++ (R_a0_in_ ++ (R_a0_todo ++ L432))))))))) := hST.perm (permD [[(b558, Obj.cells ((encCred a1).toArray : Array Value) 83 (0, 0))], [(b1, Obj.cells ((encCred a1).toArray : Array Value) 83 (0, 0))], [(b_a0, Obj.cells (#[v_a0_in_, (.slice A33 l27.length c34), v_a0_uses, v_a0_words, v_a0_todo, (.int .i64 a0_n)] : Array Value) 134 (0, 0))], R560, R561] [0, 1, 2, 3, 4] [0, 1, 2, 4, 3] ((R356 ++ (R30 ++ (R_a0_in_ ++ (R_a0_todo ++ L432))))) (by decide) rfl rfl)
      obtain ⟨l565, hb566, hm433⟩ := bind_some hm433
      refine PX_e 15 rfl (by kernel_rfl) (.inl rfl) rfl (by decide) (E_append (enc := encCred) (v := (valAt beqS lv553 a1.Word2 (.slice none 0 0))) (vs := (.slice (some ⟨b558, 0, none⟩) 1 1)) (R := R561) [_, _, _] hST lenCred (by decide) oneCred Tryz.underlying22 info83.1 info83.2.1 rfl info83.2.2.1 info83.2.2.2 rfl rfl hq563 (Sl.lit (enc := encCred) (l := [a1]) lenCred rfl (Nat.le_of_ble_eq_true rfl) rfl (hST.at_ (.head _))) hb566 (fun W567 v570 R568 hST hR569 => ?_))
      replace hST : ST true (keys ((b_a0, Obj.cells (#[v_a0_in_, v_a0_creds, v_a0_uses, v_a0_words, v_a0_todo, (.int .i64 a0_n)] : Array Value) 134 (0, 0)) :: (R_a0_in_ ++ (R_a0_creds ++ (R_a0_uses ++ (R_a0_words ++ (R_a0_todo ++ []))))))) w _ _ ((b558, Obj.cells ((encCred a1).toArray : Array Value) 83 (0, 0)) :: ((b1, Obj.cells ((encCred a1).toArray : Array Value) 83 (0, 0)) :: ((b_a0, Obj.cells (#[v_a0_in_, (.slice A33 l27.length c34), v_a0_uses, v_a0_words, v_a0_todo, (.int .i64 a0_n)] : Array Value) 134 (0, 0)) :: (R568 ++ (R560 ++ (R356 ++ (R30 ++ (R_a0_in_ ++ (R_a0_todo ++ L432))))))))) := hST
      have hS0 : Has μ46 ((b1, Obj.cells ((encCred a1).toArray : Array Value) 83 (0, 0)) :: ((b_a0, Obj.cells (#[v_a0_in_, (.slice A33 l27.length c34), v_a0_uses, v_a0_words, v_a0_todo, (.int .i64 a0_n)] : Array Value) 134 (0, 0)) :: [])) _ := hST.has.sub (Sub.refl _) (fun p hq => ((List.mem_cons.1 hq).elim (fun hq => by rw [hq]; exact (.tail _ (.head _))) (fun hq => ((List.mem_cons.1 hq).elim (fun hq => by rw [hq]; exact (.tail _ (.tail _ (.head _)))) (fun hq => (absurd hq List.not_mem_nil))))))
      refine ⟨⟨hS0, fun h => ffl (by kernel_rfl) h⟩, ?_⟩
      replace hST : ST true (keys ((b_a0, Obj.cells (#[v_a0_in_, v_a0_creds, v_a0_uses, v_a0_words, v_a0_todo, (.int .i64 a0_n)] : Array Value) 134 (0, 0)) :: (R_a0_in_ ++ (R_a0_creds ++ (R_a0_uses ++ (R_a0_words ++ (R_a0_todo ++ []))))))) w _ _ ((b558, Obj.cells ((encCred a1).toArray : Array Value) 83 (0, 0)) :: ((b1, Obj.cells ((encCred a1).toArray : Array Value) 83 (0, 0)) :: ((b_a0, Obj.cells (#[v_a0_in_, (.slice A33 l27.length c34), v_a0_uses, v_a0_words, v_a0_todo, (.int .i64 a0_n)] : Array Value) 134 (0, 0)) :: (R560 ++ (R568 ++ (R356 ++ (R30 ++ (R_a0_in_ ++ (R_a0_todo ++ L432))))))))) := hST.perm (permD [[(b558, Obj.cells ((encCred a1).toArray : Array Value) 83 (0, 0))], [(b1, Obj.cells ((encCred a1).toArray : Array Value) 83 (0, 0))], [(b_a0, Obj.cells (#[v_a0_in_, (.slice A33 l27.length c34), v_a0_uses, v_a0_words, v_a0_todo, (.int .i64 a0_n)] : Array Value) 134 (0, 0))], R568, R560] [0, 1, 2, 3, 4] [0, 1, 2, 4, 3] ((R356 ++ (R30 ++ (R_a0_in_ ++ (R_a0_todo ++ L432))))) (by decide) rfl rfl)
      refine PX_e0 16 rfl (by kernel_rfl) (.inl rfl) rfl (E_fill (k := a1.Word2) (z := l565) [_, _, _] kl9 Tryz.underlying132 hST hh564 rfl rfl rfl hR569 (fun W571 R572 hST hR573 => ?_))
      replace hST : ST true (keys ((b_a0, Obj.cells (#[v_a0_in_, v_a0_creds, v_a0_uses, v_a0_words, v_a0_todo, (.int .i64 a0_n)] : Array Value) 134 (0, 0)) :: (R_a0_in_ ++ (R_a0_creds ++ (R_a0_uses ++ (R_a0_words ++ (R_a0_todo ++ []))))))) w _ _ ((b558, Obj.cells ((encCred a1).toArray : Array Value) 83 (0, 0)) :: ((b1, Obj.cells ((encCred a1).toArray : Array Value) 83 (0, 0)) :: ((b_a0, Obj.cells (#[v_a0_in_, (.slice A33 l27.length c34), v_a0_uses, v_a0_words, v_a0_todo, (.int .i64 a0_n)] : Array Value) 134 (0, 0)) :: (R572 ++ (R356 ++ (R30 ++ (R_a0_in_ ++ (R_a0_todo ++ L432)))))))) := hST
      have hS0 : Has μ46 ((b1, Obj.cells ((encCred a1).toArray : Array Value) 83 (0, 0)) :: ((b_a0, Obj.cells (#[v_a0_in_, (.slice A33 l27.length c34), v_a0_uses, v_a0_words, v_a0_todo, (.int .i64 a0_n)] : Array Value) 134 (0, 0)) :: [])) _ := hST.has.sub (Sub.refl _) (fun p hq => ((List.mem_cons.1 hq).elim (fun hq => by rw [hq]; exact (.tail _ (.head _))) (fun hq => ((List.mem_cons.1 hq).elim (fun hq => by rw [hq]; exact (.tail _ (.tail _ (.head _)))) (fun hq => (absurd hq List.not_mem_nil))))))
      refine ⟨⟨hS0, fun h => ffl (by kernel_rfl) h⟩, ?_⟩
      refine PX_done (by kernel_rfl) ?_
      refine retQ_n ?_
      replace hm433 := Option.some.inj hm433; subst hm433
      refine retQ_0 rfl ?_
      replace hST : ST true (keys ((b_a0, Obj.cells (#[v_a0_in_, v_a0_creds, v_a0_uses, v_a0_words, v_a0_todo, (.int .i64 a0_n)] : Array Value) 134 (0, 0)) :: (R_a0_in_ ++ (R_a0_creds ++ (R_a0_uses ++ (R_a0_words ++ (R_a0_todo ++ []))))))) w _ _ ((b558, Obj.cells ((encCred a1).toArray : Array Value) 83 (0, 0)) :: ((b1, Obj.cells ((encCred a1).toArray : Array Value) 83 (0, 0)) :: ((b_a0, Obj.cells (#[v_a0_in_, (.slice A33 l27.length c34), v_a0_uses, v_a0_words, v_a0_todo, (.int .i64 a0_n)] : Array Value) 134 (0, 0)) :: (R572 ++ (R356 ++ (R30 ++ (R_a0_in_ ++ (R_a0_todo ++ L432)))))))) := hST
      exact ⟨_, ((b_a0, Obj.cells (#[v_a0_in_, (.slice A33 l27.length c34), v_a0_uses, v_a0_words, v_a0_todo, (.int .i64 a0_n)] : Array Value) 134 (0, 0)) :: (R_a0_in_ ++ (R30 ++ (R356 ++ (R572 ++ (R_a0_todo ++ [])))))), rfl, (ST.backM (L1 := ((b_a0, Obj.cells (#[v_a0_in_, (.slice A33 l27.length c34), v_a0_uses, v_a0_words, v_a0_todo, (.int .i64 a0_n)] : Array Value) 134 (0, 0)) :: (R_a0_in_ ++ (R30 ++ (R356 ++ (R572 ++ (R_a0_todo ++ []))))))) (by have hh : ST true (keys ((b_a0, Obj.cells (#[v_a0_in_, v_a0_creds, v_a0_uses, v_a0_words, v_a0_todo, (.int .i64 a0_n)] : Array Value) 134 (0, 0)) :: (R_a0_in_ ++ (R_a0_creds ++ (R_a0_uses ++ (R_a0_words ++ (R_a0_todo ++ []))))))) w _ _ ((b_a0, Obj.cells (#[v_a0_in_, (.slice A33 l27.length c34), v_a0_uses, v_a0_words, v_a0_todo, (.int .i64 a0_n)] : Array Value) 134 (0, 0)) :: (R_a0_in_ ++ (R30 ++ (R356 ++ (R572 ++ (R_a0_todo ++ ((b558, Obj.cells ((encCred a1).toArray : Array Value) 83 (0, 0)) :: ((b1, Obj.cells ((encCred a1).toArray : Array Value) 83 (0, 0)) :: L432)))))))) := hST.perm (permD [[(b558, Obj.cells ((encCred a1).toArray : Array Value) 83 (0, 0))], [(b1, Obj.cells ((encCred a1).toArray : Array Value) 83 (0, 0))], [(b_a0, Obj.cells (#[v_a0_in_, (.slice A33 l27.length c34), v_a0_uses, v_a0_words, v_a0_todo, (.int .i64 a0_n)] : Array Value) 134 (0, 0))], R572, R356, R30, R_a0_in_, R_a0_todo] [0, 1, 2, 3, 4, 5, 6, 7] [2, 6, 5, 4, 3, 7, 0, 1] L432 (by decide) rfl rfl); simpa only [List.append_assoc, List.cons_append, List.nil_append] using hh)), (.slice A33 l27.length c34), R30, R356, R572, rfl, rfl, hR31, hs355, hR573.e⟩
    · replace hm433 := if_f hb506 hm433
      refine CW_skip ?_
      refine retQ_n ?_
      replace hm433 := Option.some.inj hm433; subst hm433
      refine retQ_0 rfl ?_
      replace hST : ST true (keys ((b_a0, Obj.cells (#[v_a0_in_, v_a0_creds, v_a0_uses, v_a0_words, v_a0_todo, (.int .i64 a0_n)] : Array Value) 134 (0, 0)) :: (R_a0_in_ ++ (R_a0_creds ++ (R_a0_uses ++ (R_a0_words ++ (R_a0_todo ++ []))))))) w _ _ ((b1, Obj.cells ((encCred a1).toArray : Array Value) 83 (0, 0)) :: ((b_a0, Obj.cells (#[v_a0_in_, (.slice A33 l27.length c34), v_a0_uses, v_a0_words, v_a0_todo, (.int .i64 a0_n)] : Array Value) 134 (0, 0)) :: (R356 ++ (R30 ++ (R_a0_in_ ++ (R_a0_words ++ (R_a0_todo ++ L432))))))) := hST
      exact ⟨_, ((b_a0, Obj.cells (#[v_a0_in_, (.slice A33 l27.length c34), v_a0_uses, v_a0_words, v_a0_todo, (.int .i64 a0_n)] : Array Value) 134 (0, 0)) :: (R_a0_in_ ++ (R30 ++ (R356 ++ (R_a0_words ++ (R_a0_todo ++ [])))))), rfl, (ST.backM (L1 := ((b_a0, Obj.cells (#[v_a0_in_, (.slice A33 l27.length c34), v_a0_uses, v_a0_words, v_a0_todo, (.int .i64 a0_n)] : Array Value) 134 (0, 0)) :: (R_a0_in_ ++ (R30 ++ (R356 ++ (R_a0_words ++ (R_a0_todo ++ []))))))) (by have hh : ST true (keys ((b_a0, Obj.cells (#[v_a0_in_, v_a0_creds, v_a0_uses, v_a0_words, v_a0_todo, (.int .i64 a0_n)] : Array Value) 134 (0, 0)) :: (R_a0_in_ ++ (R_a0_creds ++ (R_a0_uses ++ (R_a0_words ++ (R_a0_todo ++ []))))))) w _ _ ((b_a0, Obj.cells (#[v_a0_in_, (.slice A33 l27.length c34), v_a0_uses, v_a0_words, v_a0_todo, (.int .i64 a0_n)] : Array Value) 134 (0, 0)) :: (R_a0_in_ ++ (R30 ++ (R356 ++ (R_a0_words ++ (R_a0_todo ++ ((b1, Obj.cells ((encCred a1).toArray : Array Value) 83 (0, 0)) :: L432))))))) := hST.perm (permD [[(b1, Obj.cells ((encCred a1).toArray : Array Value) 83 (0, 0))], [(b_a0, Obj.cells (#[v_a0_in_, (.slice A33 l27.length c34), v_a0_uses, v_a0_words, v_a0_todo, (.int .i64 a0_n)] : Array Value) 134 (0, 0))], R356, R30, R_a0_in_, R_a0_words, R_a0_todo] [0, 1, 2, 3, 4, 5, 6] [1, 4, 3, 2, 5, 6, 0] L432 (by decide) rfl rfl); simpa only [List.append_assoc, List.cons_append, List.nil_append] using hh)), (.slice A33 l27.length c34), R30, R356, R_a0_words, rfl, rfl, hR31, hs355, h_a0_words⟩
theorem w_model_Model_tell_w (b_a0 : Nat) (v_a0_in_ : Value) (a0_in_ : List (Role × (List (ByteArray × Bool)))) (R_a0_in_ : List (Nat × Obj)) (v_a0_creds : Value) (a0_creds : List Cred) (R_a0_creds : List (Nat × Obj)) (v_a0_uses : Value) (a0_uses : List (Role × (List Cred))) (R_a0_uses : List (Nat × Obj)) (v_a0_words : Value) (a0_words : List (ByteArray × (List Cred))) (R_a0_words : List (Nat × Obj)) (v_a0_todo : Value) (a0_todo : List Fact) (R_a0_todo : List (Nat × Obj)) (a0_n : Int) (a1 : Role) (a2 : ByteArray) (r : ((List (Role × (List (ByteArray × Bool)))) × (List Fact) × Int)) (w : World) {μ0 : Mem} (hH : Held ((b_a0, Obj.cells (#[v_a0_in_, v_a0_creds, v_a0_uses, v_a0_words, v_a0_todo, (.int .i64 a0_n)] : Array Value) 134 (0, 0)) :: (R_a0_in_ ++ (R_a0_creds ++ (R_a0_uses ++ (R_a0_words ++ (R_a0_todo ++ [])))))) w) (hN : ((((b_a0, Obj.cells (#[v_a0_in_, v_a0_creds, v_a0_uses, v_a0_words, v_a0_todo, (.int .i64 a0_n)] : Array Value) 134 (0, 0)) :: (R_a0_in_ ++ (R_a0_creds ++ (R_a0_uses ++ (R_a0_words ++ (R_a0_todo ++ [])))))) : List (Nat × Obj)).map (·.1)).Nodup) (hS0 : Sub μ0 (hpx w ((b_a0, Obj.cells (#[v_a0_in_, v_a0_creds, v_a0_uses, v_a0_words, v_a0_todo, (.int .i64 a0_n)] : Array Value) 134 (0, 0)) :: (R_a0_in_ ++ (R_a0_creds ++ (R_a0_uses ++ (R_a0_words ++ (R_a0_todo ++ [])))))))) (h_a0_in_ : DeepE (fun (x : Role) => (.agg (encRole x).toArray)) (MapRow Value.string (fun (x : Bool) => (Value.bool x))) v_a0_in_ a0_in_ R_a0_in_) (h_a0_creds : Row 83 encCred 9 v_a0_creds a0_creds R_a0_creds) (h_a0_uses : DeepE (fun (x : Role) => (.agg (encRole x).toArray)) (Row 83 encCred 9) v_a0_uses a0_uses R_a0_uses) (h_a0_words : DeepE Value.string (Row 83 encCred 9) v_a0_words a0_words R_a0_words) (h_a0_todo : Que 78 encFact 3 v_a0_todo a0_todo R_a0_todo) (hm : m_model_Model_tell_w a0_in_ a0_creds a0_uses a0_words a0_todo a0_n a1 a2 = some r) :
    GivesM true Tryz.prog 146 [(.pointer (some ⟨b_a0, 0, none⟩)), (.agg (encRole a1).toArray), (.string a2)] w ((b_a0, Obj.cells (#[v_a0_in_, v_a0_creds, v_a0_uses, v_a0_words, v_a0_todo, (.int .i64 a0_n)] : Array Value) 134 (0, 0)) :: (R_a0_in_ ++ (R_a0_creds ++ (R_a0_uses ++ (R_a0_words ++ (R_a0_todo ++ [])))))) (fun v L1 W' => ∃ (S1 : List (Nat × Obj)) (y3 : Value) (S4 : List (Nat × Obj)), v = (.tuple #[]) ∧ L1 = ((b_a0, Obj.cells (#[v_a0_in_, v_a0_creds, v_a0_uses, v_a0_words, y3, (.int .i64 (r.2.2))] : Array Value) 134 (0, 0)) :: (S1 ++ (R_a0_creds ++ (R_a0_uses ++ (R_a0_words ++ (S4 ++ [])))))) ∧ DeepE (fun (x : Role) => (.agg (encRole x).toArray)) (MapRow Value.string (fun (x : Bool) => (Value.bool x))) v_a0_in_ r.1 S1 ∧ Que 78 encFact 3 y3 r.2.1 S4) := by
  have hST := (ST.startM (dd := true) hH hN).weak hS0
  unfold m_model_Model_tell_w at hm
  refine calls_of_CW (n := 53) Tryz.func146 rfl rfl (Nat.le_of_ble_eq_true rfl) ?_
  refine CW_seq ?_
  refine CW_region ?_
  refine LW_e (.inl rfl) rfl (by decide) (E_box (v := (.agg (encRole a1).toArray)) hST rfl (fun W2 b1 hST => ?_))
  refine LW_nil ?_
  refine sq_n ?_
  refine CW_seq ?_
  refine CW_seq ?_
  refine PX_start (fun l W => Has μ0 ((b1, Obj.cells ((encRole a1).toArray : Array Value) 47 (0, 0)) :: ((b_a0, Obj.cells (#[v_a0_in_, v_a0_creds, v_a0_uses, v_a0_words, v_a0_todo, (.int .i64 a0_n)] : Array Value) 134 (0, 0)) :: (R_a0_in_ ++ []))) W) Tryz_mixed ?_
  replace hST := hST.drew
  have hS0 : Has μ0 ((b1, Obj.cells ((encRole a1).toArray : Array Value) 47 (0, 0)) :: ((b_a0, Obj.cells (#[v_a0_in_, v_a0_creds, v_a0_uses, v_a0_words, v_a0_todo, (.int .i64 a0_n)] : Array Value) 134 (0, 0)) :: (R_a0_in_ ++ []))) _ := hST.has.sub (Sub.refl _) (fun p hq => ((List.mem_cons.1 hq).elim (fun hq => by rw [hq]; exact (.head _)) (fun hq => ((List.mem_cons.1 hq).elim (fun hq => by rw [hq]; exact (.tail _ (.head _))) (fun hq => ((List.mem_append.1 hq).elim (fun hq => (.tail _ (.tail _ (List.mem_append_left _ hq)))) (fun hq => (absurd hq List.not_mem_nil))))))))
  refine PX_v 0 rfl (by kernel_rfl) (.inl rfl) rfl (by decide) (fun _ _ h => h) hS0 (fun _ _ _ _ => R_move (v := (.pointer (some ⟨b_a0, 0, none⟩))) rfl) ?_
  refine PX_v 1 rfl (by kernel_rfl) (.inl rfl) rfl (by decide) (fun _ _ h => h) hS0 (fun _ _ _ _ => R_nilCheck rfl) ?_
  refine PX_v 2 rfl (by kernel_rfl) (.inl rfl) rfl (by decide) (fun _ _ h => h) hS0 (fun _ _ _ _ => R_field fa134_0 rfl) ?_
  refine PX_v 3 rfl (by kernel_rfl) (.inl rfl) rfl (by decide) (fun _ _ h => h) hS0 (fun l W hpd hs => have hS := hs; R_load (v := v_a0_in_) rfl (load_box1 hS (.tail _ (.head _)) rfl Tryz.isAgg130)) ?_
  refine PX_v 4 rfl (by kernel_rfl) (.inl rfl) rfl (by decide) (fun _ _ h => h) hS0 (fun l W hpd hs => have hS := hs; R_load (v := (.agg (encRole a1).toArray)) rfl (load_boxA hS (.head _) (encRole a1) rfl Tryz.isAgg47 Tryz.sizeOf47)) ?_
  obtain ⟨lv7, hd8⟩ := h_a0_in_
  refine PX_v 5 rfl (by kernel_rfl) (.inl rfl) rfl (by decide) (fun _ _ h => h) hS0 (fun l W hpd hs => have hS := hs; R_lookupDeep (k := a1) (z := (.map none)) kl47 Tryz.underlying130 Tryz.zeroValue119 rfl rfl hd8 (fun b o hq => hS.2 b o (.tail _ (.tail _ (List.mem_append_left _ hq))))) ?_
  refine PX_v 6 rfl (by kernel_rfl) (.inl rfl) rfl (by decide) (fun _ _ h => h) hS0 (fun _ _ _ _ => R_move (v := (.string a2)) rfl) ?_
  refine PX_v 7 rfl (by kernel_rfl) (.inl rfl) rfl (by decide) (fun _ _ h => h) hS0 (fun l W hpd hs => have hS := hs; R_lookupD (k := a2) (z := false) (vf := (fun (x : Bool) => (Value.bool x))) kl9 Tryz.underlying119 Tryz.zeroValue4 rfl rfl (DeepV.mapAt (μ := hp _) beqRole_iff.1 hd8 a1 (fun b o hq => hS.2 b o (.tail _ (.tail _ (List.mem_append_left _ hq)))))) ?_
  refine PX_done (by kernel_rfl) ?_
  refine sq_n ?_
  refine CW_if (b := (mgetD beqS (((mget beqRole a0_in_ a1).getD [])) a2 false)) rfl (fun hb9 => ?_) (fun hb9 => ?_)
  · replace hm := if_t hb9 hm
    refine CW_ret ?_
    refine sq_r ?_
    replace hm := Option.some.inj hm; subst hm
    refine retQ_0 rfl ?_
    replace hST : ST true (keys ((b_a0, Obj.cells (#[v_a0_in_, v_a0_creds, v_a0_uses, v_a0_words, v_a0_todo, (.int .i64 a0_n)] : Array Value) 134 (0, 0)) :: (R_a0_in_ ++ (R_a0_creds ++ (R_a0_uses ++ (R_a0_words ++ (R_a0_todo ++ []))))))) w _ _ ((b1, Obj.cells ((encRole a1).toArray : Array Value) 47 (0, 0)) :: ((b_a0, Obj.cells (#[v_a0_in_, v_a0_creds, v_a0_uses, v_a0_words, v_a0_todo, (.int .i64 a0_n)] : Array Value) 134 (0, 0)) :: (R_a0_in_ ++ (R_a0_creds ++ (R_a0_uses ++ (R_a0_words ++ (R_a0_todo ++ []))))))) := hST
    exact ⟨_, ((b_a0, Obj.cells (#[v_a0_in_, v_a0_creds, v_a0_uses, v_a0_words, v_a0_todo, (.int .i64 a0_n)] : Array Value) 134 (0, 0)) :: (R_a0_in_ ++ (R_a0_creds ++ (R_a0_uses ++ (R_a0_words ++ (R_a0_todo ++ [])))))), rfl, (ST.backM (L1 := ((b_a0, Obj.cells (#[v_a0_in_, v_a0_creds, v_a0_uses, v_a0_words, v_a0_todo, (.int .i64 a0_n)] : Array Value) 134 (0, 0)) :: (R_a0_in_ ++ (R_a0_creds ++ (R_a0_uses ++ (R_a0_words ++ (R_a0_todo ++ []))))))) (by have hh : ST true (keys ((b_a0, Obj.cells (#[v_a0_in_, v_a0_creds, v_a0_uses, v_a0_words, v_a0_todo, (.int .i64 a0_n)] : Array Value) 134 (0, 0)) :: (R_a0_in_ ++ (R_a0_creds ++ (R_a0_uses ++ (R_a0_words ++ (R_a0_todo ++ []))))))) w _ _ ((b_a0, Obj.cells (#[v_a0_in_, v_a0_creds, v_a0_uses, v_a0_words, v_a0_todo, (.int .i64 a0_n)] : Array Value) 134 (0, 0)) :: (R_a0_in_ ++ (R_a0_creds ++ (R_a0_uses ++ (R_a0_words ++ (R_a0_todo ++ ((b1, Obj.cells ((encRole a1).toArray : Array Value) 47 (0, 0)) :: []))))))) := hST.perm (permD [[(b1, Obj.cells ((encRole a1).toArray : Array Value) 47 (0, 0))], [(b_a0, Obj.cells (#[v_a0_in_, v_a0_creds, v_a0_uses, v_a0_words, v_a0_todo, (.int .i64 a0_n)] : Array Value) 134 (0, 0))], R_a0_in_, R_a0_creds, R_a0_uses, R_a0_words, R_a0_todo] [0, 1, 2, 3, 4, 5, 6] [1, 2, 3, 4, 5, 6, 0] ([]) (by decide) rfl rfl); simpa only [List.append_assoc, List.cons_append, List.nil_append] using hh)), R_a0_in_, v_a0_todo, R_a0_todo, rfl, rfl, hd8.e, h_a0_todo⟩
  · replace hm := if_f hb9 hm
    refine CW_skip ?_
    refine sq_n ?_
    refine CW_seq ?_
    obtain ⟨s105, hm106, hm107⟩ := bind_some hm
    refine CW_cut (fun E W => ∃ (l38 : List (Role × (List (ByteArray × Bool)))) (R40 : List (Nat × Obj)) (L41 : List (Nat × Obj)), ST true (keys ((b_a0, Obj.cells (#[v_a0_in_, v_a0_creds, v_a0_uses, v_a0_words, v_a0_todo, (.int .i64 a0_n)] : Array Value) 134 (0, 0)) :: (R_a0_in_ ++ (R_a0_creds ++ (R_a0_uses ++ (R_a0_words ++ (R_a0_todo ++ []))))))) w W μ0 ((b1, Obj.cells ((encRole a1).toArray : Array Value) 47 (0, 0)) :: ((b_a0, Obj.cells (#[v_a0_in_, v_a0_creds, v_a0_uses, v_a0_words, v_a0_todo, (.int .i64 a0_n)] : Array Value) 134 (0, 0)) :: (R40 ++ (R_a0_creds ++ (R_a0_uses ++ (R_a0_words ++ (R_a0_todo ++ L41))))))) ∧ E 0 = (.pointer (some ⟨b_a0, 0, none⟩)) ∧ E 2 = (.string a2) ∧ E 4 = (.pointer (some ⟨b1, 0, none⟩)) ∧ DeepE (fun (x : Role) => (.agg (encRole x).toArray)) (MapRow Value.string (fun (x : Bool) => (Value.bool x))) v_a0_in_ l38 R40 ∧ (((mupd beqRole beqS l38 a1 a2 true)).bind fun l66 => (((appB 48 a0_todo ([(⟨a1, a2⟩ : Fact)]))).bind fun l96 => some (l66, l96, (IntKind.i64.wrap (a0_n + 1))))) = some r) ?_ ?_
    · refine CW_seq ?_
      refine PX_start (fun l W => Has μ0 ((b1, Obj.cells ((encRole a1).toArray : Array Value) 47 (0, 0)) :: ((b_a0, Obj.cells (#[v_a0_in_, v_a0_creds, v_a0_uses, v_a0_words, v_a0_todo, (.int .i64 a0_n)] : Array Value) 134 (0, 0)) :: (R_a0_in_ ++ []))) W) Tryz_mixed ?_
      replace hST := hST.drew
      have hS0 : Has μ0 ((b1, Obj.cells ((encRole a1).toArray : Array Value) 47 (0, 0)) :: ((b_a0, Obj.cells (#[v_a0_in_, v_a0_creds, v_a0_uses, v_a0_words, v_a0_todo, (.int .i64 a0_n)] : Array Value) 134 (0, 0)) :: (R_a0_in_ ++ []))) _ := hST.has.sub (Sub.refl _) (fun p hq => ((List.mem_cons.1 hq).elim (fun hq => by rw [hq]; exact (.head _)) (fun hq => ((List.mem_cons.1 hq).elim (fun hq => by rw [hq]; exact (.tail _ (.head _))) (fun hq => ((List.mem_append.1 hq).elim (fun hq => (.tail _ (.tail _ (List.mem_append_left _ hq)))) (fun hq => (absurd hq List.not_mem_nil))))))))
      refine PX_v 0 rfl (by kernel_rfl) (.inl rfl) rfl (by decide) (fun _ _ h => h) hS0 (fun _ _ _ _ => R_move (v := (.pointer (some ⟨b_a0, 0, none⟩))) rfl) ?_
      refine PX_v 1 rfl (by kernel_rfl) (.inl rfl) rfl (by decide) (fun _ _ h => h) hS0 (fun _ _ _ _ => R_nilCheck rfl) ?_
      refine PX_v 2 rfl (by kernel_rfl) (.inl rfl) rfl (by decide) (fun _ _ h => h) hS0 (fun _ _ _ _ => R_field fa134_0 rfl) ?_
      refine PX_v 3 rfl (by kernel_rfl) (.inl rfl) rfl (by decide) (fun _ _ h => h) hS0 (fun l W hpd hs => have hS := hs; R_load (v := v_a0_in_) rfl (load_box1 hS (.tail _ (.head _)) rfl Tryz.isAgg130)) ?_
      refine PX_v 4 rfl (by kernel_rfl) (.inl rfl) rfl (by decide) (fun _ _ h => h) hS0 (fun l W hpd hs => have hS := hs; R_load (v := (.agg (encRole a1).toArray)) rfl (load_boxA hS (.head _) (encRole a1) rfl Tryz.isAgg47 Tryz.sizeOf47)) ?_
      refine PX_v 5 rfl (by kernel_rfl) (.inl rfl) rfl (by decide) (fun _ _ h => h) hS0 (fun l W hpd hs => have hS := hs; R_lookupDeep (k := a1) (z := (.map none)) kl47 Tryz.underlying130 Tryz.zeroValue119 rfl rfl hd8 (fun b o hq => hS.2 b o (.tail _ (.tail _ (List.mem_append_left _ hq))))) ?_
      refine PX_v 6 rfl (by kernel_rfl) (.inl rfl) rfl (by decide) (fun _ _ h => h) hS0 (fun _ _ _ _ => R_mapEqNilD beqRole_iff.1 Tryz.underlying119 hd8 rfl rfl) ?_
      refine PX_done (by kernel_rfl) ?_
      refine sq_n ?_
      refine CW_if (b := (mget beqRole a0_in_ a1).isNone) rfl (fun hb108 => ?_) (fun hb108 => ?_)
      · replace hm106 := if_t hb108 hm106
        refine PX_start (fun l W => Has μ0 ((b1, Obj.cells ((encRole a1).toArray : Array Value) 47 (0, 0)) :: ((b_a0, Obj.cells (#[v_a0_in_, v_a0_creds, v_a0_uses, v_a0_words, v_a0_todo, (.int .i64 a0_n)] : Array Value) 134 (0, 0)) :: [])) W) Tryz_mixed ?_
        replace hST := hST.drew
        have hS0 : Has μ0 ((b1, Obj.cells ((encRole a1).toArray : Array Value) 47 (0, 0)) :: ((b_a0, Obj.cells (#[v_a0_in_, v_a0_creds, v_a0_uses, v_a0_words, v_a0_todo, (.int .i64 a0_n)] : Array Value) 134 (0, 0)) :: [])) _ := hST.has.sub (Sub.refl _) (fun p hq => ((List.mem_cons.1 hq).elim (fun hq => by rw [hq]; exact (.head _)) (fun hq => ((List.mem_cons.1 hq).elim (fun hq => by rw [hq]; exact (.tail _ (.head _))) (fun hq => (absurd hq List.not_mem_nil))))))
        refine PX_v 0 rfl (by kernel_rfl) (.inl rfl) rfl (by decide) (fun _ _ h => h) hS0 (fun _ _ _ _ => R_move (v := (.pointer (some ⟨b_a0, 0, none⟩))) rfl) ?_
        refine PX_v 1 rfl (by kernel_rfl) (.inl rfl) rfl (by decide) (fun _ _ h => h) hS0 (fun _ _ _ _ => R_nilCheck rfl) ?_
        refine PX_v 2 rfl (by kernel_rfl) (.inl rfl) rfl (by decide) (fun _ _ h => h) hS0 (fun _ _ _ _ => R_field fa134_0 rfl) ?_
        refine PX_v 3 rfl (by kernel_rfl) (.inl rfl) rfl (by decide) (fun _ _ h => h) hS0 (fun l W hpd hs => have hS := hs; R_load (v := v_a0_in_) rfl (load_box1 hS (.tail _ (.head _)) rfl Tryz.isAgg130)) ?_
        refine PX_v 4 rfl (by kernel_rfl) (.inl rfl) rfl (by decide) (fun _ _ h => h) hS0 (fun l W hpd hs => have hS := hs; R_load (v := (.agg (encRole a1).toArray)) rfl (load_boxA hS (.head _) (encRole a1) rfl Tryz.isAgg47 Tryz.sizeOf47)) ?_
        refine PX_e 5 rfl (by kernel_rfl) (.inl rfl) rfl (by decide) (E_makeMap (P := Tryz.prog) Value.string (fun (x : Bool) => (Value.bool x)) hST (fun W127 v130 R128 hST hR129 => ?_))
        replace hST : ST true (keys ((b_a0, Obj.cells (#[v_a0_in_, v_a0_creds, v_a0_uses, v_a0_words, v_a0_todo, (.int .i64 a0_n)] : Array Value) 134 (0, 0)) :: (R_a0_in_ ++ (R_a0_creds ++ (R_a0_uses ++ (R_a0_words ++ (R_a0_todo ++ []))))))) w _ _ ((b1, Obj.cells ((encRole a1).toArray : Array Value) 47 (0, 0)) :: ((b_a0, Obj.cells (#[v_a0_in_, v_a0_creds, v_a0_uses, v_a0_words, v_a0_todo, (.int .i64 a0_n)] : Array Value) 134 (0, 0)) :: (R128 ++ (R_a0_in_ ++ (R_a0_creds ++ (R_a0_uses ++ (R_a0_words ++ (R_a0_todo ++ [])))))))) := hST.perm (permD [R128, [(b1, Obj.cells ((encRole a1).toArray : Array Value) 47 (0, 0))], [(b_a0, Obj.cells (#[v_a0_in_, v_a0_creds, v_a0_uses, v_a0_words, v_a0_todo, (.int .i64 a0_n)] : Array Value) 134 (0, 0))]] [0, 1, 2] [1, 2, 0] ((R_a0_in_ ++ (R_a0_creds ++ (R_a0_uses ++ (R_a0_words ++ (R_a0_todo ++ [])))))) (by decide) rfl rfl)
        have hS0 : Has μ0 ((b1, Obj.cells ((encRole a1).toArray : Array Value) 47 (0, 0)) :: ((b_a0, Obj.cells (#[v_a0_in_, v_a0_creds, v_a0_uses, v_a0_words, v_a0_todo, (.int .i64 a0_n)] : Array Value) 134 (0, 0)) :: [])) _ := hST.has.sub (Sub.refl _) (fun p hq => ((List.mem_cons.1 hq).elim (fun hq => by rw [hq]; exact (.head _)) (fun hq => ((List.mem_cons.1 hq).elim (fun hq => by rw [hq]; exact (.tail _ (.head _))) (fun hq => (absurd hq List.not_mem_nil))))))
        refine ⟨hS0, ?_⟩
        replace hST : ST true (keys ((b_a0, Obj.cells (#[v_a0_in_, v_a0_creds, v_a0_uses, v_a0_words, v_a0_todo, (.int .i64 a0_n)] : Array Value) 134 (0, 0)) :: (R_a0_in_ ++ (R_a0_creds ++ (R_a0_uses ++ (R_a0_words ++ (R_a0_todo ++ []))))))) w _ _ ((b1, Obj.cells ((encRole a1).toArray : Array Value) 47 (0, 0)) :: ((b_a0, Obj.cells (#[v_a0_in_, v_a0_creds, v_a0_uses, v_a0_words, v_a0_todo, (.int .i64 a0_n)] : Array Value) 134 (0, 0)) :: (R_a0_in_ ++ (R128 ++ (R_a0_creds ++ (R_a0_uses ++ (R_a0_words ++ (R_a0_todo ++ [])))))))) := hST.perm (permD [[(b1, Obj.cells ((encRole a1).toArray : Array Value) 47 (0, 0))], [(b_a0, Obj.cells (#[v_a0_in_, v_a0_creds, v_a0_uses, v_a0_words, v_a0_todo, (.int .i64 a0_n)] : Array Value) 134 (0, 0))], R128, R_a0_in_] [0, 1, 2, 3] [0, 1, 3, 2] ((R_a0_creds ++ (R_a0_uses ++ (R_a0_words ++ (R_a0_todo ++ []))))) (by decide) rfl rfl)
        obtain ⟨l131, hr132, hm106⟩ := bind_some hm106
        refine PX_e0 6 rfl (by kernel_rfl) (.inl rfl) rfl (E_newDeep (k := a1) (z := ([])) [_, _] kl47 Tryz.underlying130 hST hd8 rfl rfl rfl hR129 hr132 (fun W133 R134 hST hR135 => ?_))
        replace hST : ST true (keys ((b_a0, Obj.cells (#[v_a0_in_, v_a0_creds, v_a0_uses, v_a0_words, v_a0_todo, (.int .i64 a0_n)] : Array Value) 134 (0, 0)) :: (R_a0_in_ ++ (R_a0_creds ++ (R_a0_uses ++ (R_a0_words ++ (R_a0_todo ++ []))))))) w _ _ ((b1, Obj.cells ((encRole a1).toArray : Array Value) 47 (0, 0)) :: ((b_a0, Obj.cells (#[v_a0_in_, v_a0_creds, v_a0_uses, v_a0_words, v_a0_todo, (.int .i64 a0_n)] : Array Value) 134 (0, 0)) :: (R134 ++ (R_a0_creds ++ (R_a0_uses ++ (R_a0_words ++ (R_a0_todo ++ []))))))) := hST
        have hS0 : Has μ0 ((b1, Obj.cells ((encRole a1).toArray : Array Value) 47 (0, 0)) :: ((b_a0, Obj.cells (#[v_a0_in_, v_a0_creds, v_a0_uses, v_a0_words, v_a0_todo, (.int .i64 a0_n)] : Array Value) 134 (0, 0)) :: [])) _ := hST.has.sub (Sub.refl _) (fun p hq => ((List.mem_cons.1 hq).elim (fun hq => by rw [hq]; exact (.head _)) (fun hq => ((List.mem_cons.1 hq).elim (fun hq => by rw [hq]; exact (.tail _ (.head _))) (fun hq => (absurd hq List.not_mem_nil))))))
        refine ⟨hS0, ?_⟩
        refine PX_done (by kernel_rfl) ?_
        refine sq_n ?_
        replace hm106 := Option.some.inj hm106; subst hm106
        exact ⟨l131, R134, _, (hST.sublist (List.Sublist.refl _)), rfl, rfl, rfl, hR135.e, hm107⟩
      · replace hm106 := if_f hb108 hm106
        refine CW_skip ?_
        refine sq_n ?_
        replace hm106 := Option.some.inj hm106; subst hm106
        exact ⟨a0_in_, R_a0_in_, _, (hST.sublist (List.Sublist.refl _)), rfl, rfl, rfl, hd8.e, hm107⟩
    · rintro E W ⟨l38, R40, L41, hST, e43, e44, e45, hs39, hm42⟩
      refine CW_seq ?_
      refine PX_start (fun l W => Has μ0 ((b1, Obj.cells ((encRole a1).toArray : Array Value) 47 (0, 0)) :: ((b_a0, Obj.cells (#[v_a0_in_, v_a0_creds, v_a0_uses, v_a0_words, v_a0_todo, (.int .i64 a0_n)] : Array Value) 134 (0, 0)) :: [])) W ∧ (l.getD 7 true = false → Has μ0 (R40 ++ []) W)) Tryz_mixed ?_
      replace hST := hST.drew
      have hS0 : Has μ0 ((b1, Obj.cells ((encRole a1).toArray : Array Value) 47 (0, 0)) :: ((b_a0, Obj.cells (#[v_a0_in_, v_a0_creds, v_a0_uses, v_a0_words, v_a0_todo, (.int .i64 a0_n)] : Array Value) 134 (0, 0)) :: [])) _ := hST.has.sub (Sub.refl _) (fun p hq => ((List.mem_cons.1 hq).elim (fun hq => by rw [hq]; exact (.head _)) (fun hq => ((List.mem_cons.1 hq).elim (fun hq => by rw [hq]; exact (.tail _ (.head _))) (fun hq => (absurd hq List.not_mem_nil))))))
      have hS1 : Has μ0 (R40 ++ []) _ := hST.has.sub (Sub.refl _) (fun p hq => ((List.mem_append.1 hq).elim (fun hq => (.tail _ (.tail _ (List.mem_append_left _ hq)))) (fun hq => (absurd hq List.not_mem_nil))))
      refine PX_v 0 rfl (by kernel_rfl) (.inl rfl) rfl (by decide) (fun _ _ h => ⟨h.1, til (by rfl) h.2⟩) ⟨hS0, fun _ => hS1⟩ (fun _ _ _ _ => R_move (v := (.pointer (some ⟨b_a0, 0, none⟩))) e43) ?_
      refine PX_v 1 rfl (by kernel_rfl) (.inl rfl) rfl (by decide) (fun _ _ h => ⟨h.1, til (by rfl) h.2⟩) ⟨hS0, fun _ => hS1⟩ (fun _ _ _ _ => R_nilCheck rfl) ?_
      refine PX_v 2 rfl (by kernel_rfl) (.inl rfl) rfl (by decide) (fun _ _ h => ⟨h.1, til (by rfl) h.2⟩) ⟨hS0, fun _ => hS1⟩ (fun _ _ _ _ => R_field fa134_0 rfl) ?_
      refine PX_v 3 rfl (by kernel_rfl) (.inl rfl) rfl (by decide) (fun _ _ h => ⟨h.1, til (by rfl) h.2⟩) ⟨hS0, fun _ => hS1⟩ (fun l W hpd hs => have hS := hs.1; R_load (v := v_a0_in_) rfl (load_box1 hS (.tail _ (.head _)) rfl Tryz.isAgg130)) ?_
      refine PX_v 4 rfl (by kernel_rfl) (.inl rfl) rfl (by decide) (fun _ _ h => ⟨h.1, til (by rfl) h.2⟩) ⟨hS0, fun _ => hS1⟩ (fun l W hpd hs => have hS := hs.1; R_load (v := (.agg (encRole a1).toArray)) e45 (load_boxA hS (.head _) (encRole a1) rfl Tryz.isAgg47 Tryz.sizeOf47)) ?_
      obtain ⟨lv64, hd65⟩ := hs39
      refine PX_v 5 rfl (by kernel_rfl) (.inl rfl) rfl (by decide) (fun _ _ h => ⟨h.1, til (by rfl) h.2⟩) ⟨hS0, fun _ => hS1⟩ (fun l W hpd hs => have hS := (hs.2 (hpd.bar 7 [5] (by kernel_rfl) rfl)); R_lookupDeep (k := a1) (z := (.map none)) kl47 Tryz.underlying130 Tryz.zeroValue119 rfl rfl hd65 (fun b o hq => hS.2 b o (List.mem_append_left _ hq))) ?_
      refine PX_v 6 rfl (by kernel_rfl) (.inl rfl) rfl (by decide) (fun _ _ h => ⟨h.1, til (by rfl) h.2⟩) ⟨hS0, fun _ => hS1⟩ (fun _ _ _ _ => R_move (v := (.string a2)) e44) ?_
      obtain ⟨l66, hr67, hm42⟩ := bind_some hm42
      refine PX_e0 7 rfl (by kernel_rfl) (.inl rfl) rfl (E_updDeep (k := a1) (v := true) (vf := (fun (x : Bool) => (Value.bool x))) [_, _] beqRole_iff.1 kl9 Tryz.underlying119 hST hd65 rfl rfl rfl hr67 (fun W68 R69 hST hR70 => ?_))
      replace hST : ST true (keys ((b_a0, Obj.cells (#[v_a0_in_, v_a0_creds, v_a0_uses, v_a0_words, v_a0_todo, (.int .i64 a0_n)] : Array Value) 134 (0, 0)) :: (R_a0_in_ ++ (R_a0_creds ++ (R_a0_uses ++ (R_a0_words ++ (R_a0_todo ++ []))))))) w _ _ ((b1, Obj.cells ((encRole a1).toArray : Array Value) 47 (0, 0)) :: ((b_a0, Obj.cells (#[v_a0_in_, v_a0_creds, v_a0_uses, v_a0_words, v_a0_todo, (.int .i64 a0_n)] : Array Value) 134 (0, 0)) :: (R69 ++ (R_a0_creds ++ (R_a0_uses ++ (R_a0_words ++ (R_a0_todo ++ L41))))))) := hST
      have hS0 : Has μ0 ((b1, Obj.cells ((encRole a1).toArray : Array Value) 47 (0, 0)) :: ((b_a0, Obj.cells (#[v_a0_in_, v_a0_creds, v_a0_uses, v_a0_words, v_a0_todo, (.int .i64 a0_n)] : Array Value) 134 (0, 0)) :: [])) _ := hST.has.sub (Sub.refl _) (fun p hq => ((List.mem_cons.1 hq).elim (fun hq => by rw [hq]; exact (.head _)) (fun hq => ((List.mem_cons.1 hq).elim (fun hq => by rw [hq]; exact (.tail _ (.head _))) (fun hq => (absurd hq List.not_mem_nil))))))
      refine ⟨⟨hS0, fun h => ffl (by kernel_rfl) h⟩, ?_⟩
      refine PX_done (by kernel_rfl) ?_
      refine sq_n ?_
      refine CW_seq ?_
      refine CW_region ?_
      refine LW_v (.inl rfl) rfl (by decide) (R_move (v := (.pointer (some ⟨b_a0, 0, none⟩))) e43) ?_
      refine LW_v (.inl rfl) rfl (by decide) (R_nilCheck rfl) ?_
      refine LW_v (.inl rfl) rfl (by decide) (R_field fa134_5 rfl) ?_
      refine LW_v (.inl rfl) rfl (by decide) (R_load (v := (.int .i64 a0_n)) rfl (load_box1 hST.has (.tail _ (.head _)) rfl Tryz.isAgg3)) ?_
      refine LW_v (.inl rfl) rfl (by decide) (R_int (k := .i64) (a := a0_n) (b := 1) (v := (.int .i64 ((IntKind.i64.wrap (a0_n + 1))))) rfl rfl rfl) ?_
      refine LW_v (.inl rfl) rfl (by decide) (R_nilCheck rfl) ?_
      refine LW_v (.inl rfl) rfl (by decide) (R_field fa134_5 rfl) ?_
      refine LW_e0 (.inl rfl) rfl (E_store [_] (.int .i64 ((IntKind.i64.wrap (a0_n + 1)))) (#[v_a0_in_, v_a0_creds, v_a0_uses, v_a0_words, v_a0_todo, (.int .i64 ((IntKind.i64.wrap (a0_n + 1))))]) hST rfl rfl Tryz.sizeOf3 (oneI _ ((IntKind.i64.wrap (a0_n + 1)))) (Nat.le_of_ble_eq_true rfl) rfl (fun W71 hST => ?_))
      refine LW_nil ?_
      refine sq_n ?_
      refine PX_start (fun l W => Has μ0 ((b1, Obj.cells ((encRole a1).toArray : Array Value) 47 (0, 0)) :: []) W ∧ (l.getD 12 true = false → Has μ0 ((b_a0, Obj.cells (#[v_a0_in_, v_a0_creds, v_a0_uses, v_a0_words, v_a0_todo, (.int .i64 ((IntKind.i64.wrap (a0_n + 1))))] : Array Value) 134 (0, 0)) :: []) W)) Tryz_mixed ?_
      replace hST := hST.drew
      replace hST : ST true (keys ((b_a0, Obj.cells (#[v_a0_in_, v_a0_creds, v_a0_uses, v_a0_words, v_a0_todo, (.int .i64 a0_n)] : Array Value) 134 (0, 0)) :: (R_a0_in_ ++ (R_a0_creds ++ (R_a0_uses ++ (R_a0_words ++ (R_a0_todo ++ []))))))) w _ _ ((b1, Obj.cells ((encRole a1).toArray : Array Value) 47 (0, 0)) :: ((b_a0, Obj.cells (#[v_a0_in_, v_a0_creds, v_a0_uses, v_a0_words, v_a0_todo, (.int .i64 ((IntKind.i64.wrap (a0_n + 1))))] : Array Value) 134 (0, 0)) :: (R69 ++ (R_a0_creds ++ (R_a0_uses ++ (R_a0_words ++ (R_a0_todo ++ L41))))))) := hST
      have hS0 : Has μ0 ((b1, Obj.cells ((encRole a1).toArray : Array Value) 47 (0, 0)) :: []) _ := hST.has.sub (Sub.refl _) (fun p hq => ((List.mem_cons.1 hq).elim (fun hq => by rw [hq]; exact (.head _)) (fun hq => (absurd hq List.not_mem_nil))))
      have hS1 : Has μ0 ((b_a0, Obj.cells (#[v_a0_in_, v_a0_creds, v_a0_uses, v_a0_words, v_a0_todo, (.int .i64 ((IntKind.i64.wrap (a0_n + 1))))] : Array Value) 134 (0, 0)) :: []) _ := hST.has.sub (Sub.refl _) (fun p hq => ((List.mem_cons.1 hq).elim (fun hq => by rw [hq]; exact (.tail _ (.head _))) (fun hq => (absurd hq List.not_mem_nil))))
      refine PX_v 0 rfl (by kernel_rfl) (.inl rfl) rfl (by decide) (fun _ _ h => ⟨h.1, til (by rfl) h.2⟩) ⟨hS0, fun _ => hS1⟩ (fun _ _ _ _ => R_move (v := (.pointer (some ⟨b_a0, 0, none⟩))) e43) ?_
      refine PX_v 1 rfl (by kernel_rfl) (.inl rfl) rfl (by decide) (fun _ _ h => ⟨h.1, til (by rfl) h.2⟩) ⟨hS0, fun _ => hS1⟩ (fun _ _ _ _ => R_move (v := (.pointer (some ⟨b_a0, 0, none⟩))) e43) ?_
      refine PX_v 2 rfl (by kernel_rfl) (.inl rfl) rfl (by decide) (fun _ _ h => ⟨h.1, til (by rfl) h.2⟩) ⟨hS0, fun _ => hS1⟩ (fun _ _ _ _ => R_nilCheck rfl) ?_
      refine PX_v 3 rfl (by kernel_rfl) (.inl rfl) rfl (by decide) (fun _ _ h => ⟨h.1, til (by rfl) h.2⟩) ⟨hS0, fun _ => hS1⟩ (fun _ _ _ _ => R_field fa134_4 rfl) ?_
      refine PX_v 4 rfl (by kernel_rfl) (.inl rfl) rfl (by decide) (fun _ _ h => ⟨h.1, til (by rfl) h.2⟩) ⟨hS0, fun _ => hS1⟩ (fun l W hpd hs => have hS := (hs.2 (hpd.bar 12 [4] (by kernel_rfl) rfl)); R_load (v := v_a0_todo) rfl (load_box1 hS (.head _) rfl Tryz.isAgg53)) ?_
      refine PX_v 5 rfl (by kernel_rfl) (.inl rfl) rfl (by decide) (fun _ _ h => ⟨h.1, til (by rfl) h.2⟩) ⟨hS0, fun _ => hS1⟩ (fun l W hpd hs => have hS := hs.1; R_load (v := (.agg (encRole a1).toArray)) e45 (load_boxA hS (.head _) (encRole a1) rfl Tryz.isAgg47 Tryz.sizeOf47)) ?_
      refine PX_v 6 rfl (by kernel_rfl) (.inl rfl) rfl (by decide) (fun _ _ h => ⟨h.1, til (by rfl) h.2⟩) ⟨hS0, fun _ => hS1⟩ (fun _ _ _ _ => R_move (v := (.string a2)) e44) ?_
      refine PX_v 7 rfl (by kernel_rfl) (.inl rfl) rfl (by decide) (fun _ _ h => ⟨h.1, til (by rfl) h.2⟩) ⟨hS0, fun _ => hS1⟩ (fun _ _ _ _ => R_build (qs := #[(0, (.agg (encRole a1).toArray)), (1, (.string a2))]) (v := (.agg (encFact ((⟨a1, a2⟩ : Fact))).toArray)) (parts2 rfl rfl) (run_build Tryz.zeroValue78 Tryz.underlying78 (pl78 _ Tryz.underlying78) (by kernel_rfl))) ?_
      refine PX_e 8 rfl (by kernel_rfl) (.inl rfl) rfl (by decide) (E_buildSlice (qs := #[(0, (.agg (encFact ((⟨a1, a2⟩ : Fact))).toArray))]) (cs := (encFact ((⟨a1, a2⟩ : Fact))).toArray) hST (parts1 rfl) (run_lit [(.agg (encFact ((⟨a1, a2⟩ : Fact))).toArray)] Tryz.underlying53 Tryz.sizeOf78 Tryz.zeroValue78 (by decide) rfl (by intro v hv; simp only [List.mem_cons, List.not_mem_nil, or_false] at hv; rcases hv with rfl <;> rfl) rfl rfl) (fun W95 b94 hST => ?_))
      have hS0 : Has μ0 ((b1, Obj.cells ((encRole a1).toArray : Array Value) 47 (0, 0)) :: []) _ := hST.has.sub (Sub.refl _) (fun p hq => ((List.mem_cons.1 hq).elim (fun hq => by rw [hq]; exact (.tail _ (.head _))) (fun hq => (absurd hq List.not_mem_nil))))
      have hS1 : Has μ0 ((b_a0, Obj.cells (#[v_a0_in_, v_a0_creds, v_a0_uses, v_a0_words, v_a0_todo, (.int .i64 ((IntKind.i64.wrap (a0_n + 1))))] : Array Value) 134 (0, 0)) :: []) _ := hST.has.sub (Sub.refl _) (fun p hq => ((List.mem_cons.1 hq).elim (fun hq => by rw [hq]; exact (.tail _ (.tail _ (.head _)))) (fun hq => (absurd hq List.not_mem_nil))))
      refine ⟨⟨hS0, fun _ => hS1⟩, ?_⟩
      replace hST : ST true (keys ((b_a0, Obj.cells (#[v_a0_in_, v_a0_creds, v_a0_uses, v_a0_words, v_a0_todo, (.int .i64 a0_n)] : Array Value) 134 (0, 0)) :: (R_a0_in_ ++ (R_a0_creds ++ (R_a0_uses ++ (R_a0_words ++ (R_a0_todo ++ []))))))) w _ _ ((b94, Obj.cells ((encFact ((⟨a1, a2⟩ : Fact))).toArray : Array Value) 78 (0, 0)) :: ((b1, Obj.cells ((encRole a1).toArray : Array Value) 47 (0, 0)) :: ((b_a0, Obj.cells (#[v_a0_in_, v_a0_creds, v_a0_uses, v_a0_words, v_a0_todo, (.int .i64 ((IntKind.i64.wrap (a0_n + 1))))] : Array Value) 134 (0, 0)) :: (R_a0_todo ++ (R69 ++ (R_a0_creds ++ (R_a0_uses ++ (R_a0_words ++ L41)))))))) := hST.perm (permD [[(b94, Obj.cells ((encFact ((⟨a1, a2⟩ : Fact))).toArray : Array Value) 78 (0, 0))], [(b1, Obj.cells ((encRole a1).toArray : Array Value) 47 (0, 0))], [(b_a0, Obj.cells (#[v_a0_in_, v_a0_creds, v_a0_uses, v_a0_words, v_a0_todo, (.int .i64 ((IntKind.i64.wrap (a0_n + 1))))] : Array Value) 134 (0, 0))], R69, R_a0_creds, R_a0_uses, R_a0_words, R_a0_todo] [0, 1, 2, 3, 4, 5, 6, 7] [0, 1, 2, 7, 3, 4, 5, 6] L41 (by decide) rfl rfl)
      obtain ⟨l96, hb97, hm42⟩ := bind_some hm42
      refine PX_e 9 rfl (by kernel_rfl) (.inl rfl) rfl (by decide) (E_appendQue (enc := encFact) (v := v_a0_todo) (vs := (.slice (some ⟨b94, 0, none⟩) 1 1)) (R := R_a0_todo) [_, _, _] hST lenFact (by decide) oneFact Tryz.underlying53 info78.1 info78.2.1 rfl info78.2.2.1 info78.2.2.2 rfl rfl h_a0_todo (Sl.lit (enc := encFact) (l := [(⟨a1, a2⟩ : Fact)]) lenFact rfl (Nat.le_of_ble_eq_true rfl) rfl (hST.at_ (.head _))) hb97 (fun W98 v101 R99 hST hR100 => ?_))
      replace hST : ST true (keys ((b_a0, Obj.cells (#[v_a0_in_, v_a0_creds, v_a0_uses, v_a0_words, v_a0_todo, (.int .i64 a0_n)] : Array Value) 134 (0, 0)) :: (R_a0_in_ ++ (R_a0_creds ++ (R_a0_uses ++ (R_a0_words ++ (R_a0_todo ++ []))))))) w _ _ ((b94, Obj.cells ((encFact ((⟨a1, a2⟩ : Fact))).toArray : Array Value) 78 (0, 0)) :: ((b1, Obj.cells ((encRole a1).toArray : Array Value) 47 (0, 0)) :: ((b_a0, Obj.cells (#[v_a0_in_, v_a0_creds, v_a0_uses, v_a0_words, v_a0_todo, (.int .i64 ((IntKind.i64.wrap (a0_n + 1))))] : Array Value) 134 (0, 0)) :: (R99 ++ (R69 ++ (R_a0_creds ++ (R_a0_uses ++ (R_a0_words ++ L41)))))))) := hST
      have hS0 : Has μ0 ((b1, Obj.cells ((encRole a1).toArray : Array Value) 47 (0, 0)) :: []) _ := hST.has.sub (Sub.refl _) (fun p hq => ((List.mem_cons.1 hq).elim (fun hq => by rw [hq]; exact (.tail _ (.head _))) (fun hq => (absurd hq List.not_mem_nil))))
      have hS1 : Has μ0 ((b_a0, Obj.cells (#[v_a0_in_, v_a0_creds, v_a0_uses, v_a0_words, v_a0_todo, (.int .i64 ((IntKind.i64.wrap (a0_n + 1))))] : Array Value) 134 (0, 0)) :: []) _ := hST.has.sub (Sub.refl _) (fun p hq => ((List.mem_cons.1 hq).elim (fun hq => by rw [hq]; exact (.tail _ (.tail _ (.head _)))) (fun hq => (absurd hq List.not_mem_nil))))
      refine ⟨⟨hS0, fun _ => hS1⟩, ?_⟩
      refine PX_v 10 rfl (by kernel_rfl) (.inl rfl) rfl (by decide) (fun _ _ h => ⟨h.1, til (by rfl) h.2⟩) ⟨hS0, fun _ => hS1⟩ (fun _ _ _ _ => R_nilCheck rfl) ?_
      refine PX_v 11 rfl (by kernel_rfl) (.inl rfl) rfl (by decide) (fun _ _ h => ⟨h.1, til (by rfl) h.2⟩) ⟨hS0, fun _ => hS1⟩ (fun _ _ _ _ => R_field fa134_4 rfl) ?_
      obtain ⟨A102, c103, rfl⟩ := hR100.form
      refine PX_e0 12 rfl (by kernel_rfl) (.inl rfl) rfl (E_store [_, _] (.slice A102 l96.length c103) (#[v_a0_in_, v_a0_creds, v_a0_uses, v_a0_words, (.slice A102 l96.length c103), (.int .i64 ((IntKind.i64.wrap (a0_n + 1))))]) hST rfl rfl Tryz.sizeOf53 (by simp [Value.cells, Value.oneCell']) (Nat.le_of_ble_eq_true rfl) rfl (fun W104 hST => ?_))
      replace hST : ST true (keys ((b_a0, Obj.cells (#[v_a0_in_, v_a0_creds, v_a0_uses, v_a0_words, v_a0_todo, (.int .i64 a0_n)] : Array Value) 134 (0, 0)) :: (R_a0_in_ ++ (R_a0_creds ++ (R_a0_uses ++ (R_a0_words ++ (R_a0_todo ++ []))))))) w _ _ ((b94, Obj.cells ((encFact ((⟨a1, a2⟩ : Fact))).toArray : Array Value) 78 (0, 0)) :: ((b1, Obj.cells ((encRole a1).toArray : Array Value) 47 (0, 0)) :: ((b_a0, Obj.cells (#[v_a0_in_, v_a0_creds, v_a0_uses, v_a0_words, (.slice A102 l96.length c103), (.int .i64 ((IntKind.i64.wrap (a0_n + 1))))] : Array Value) 134 (0, 0)) :: (R99 ++ (R69 ++ (R_a0_creds ++ (R_a0_uses ++ (R_a0_words ++ L41)))))))) := hST
      have hS0 : Has μ0 ((b1, Obj.cells ((encRole a1).toArray : Array Value) 47 (0, 0)) :: []) _ := hST.has.sub (Sub.refl _) (fun p hq => ((List.mem_cons.1 hq).elim (fun hq => by rw [hq]; exact (.tail _ (.head _))) (fun hq => (absurd hq List.not_mem_nil))))
      refine ⟨⟨hS0, fun h => ffl (by kernel_rfl) h⟩, ?_⟩
      refine PX_done (by kernel_rfl) ?_
      refine retQ_n ?_
      replace hm42 := Option.some.inj hm42; subst hm42
      refine retQ_0 rfl ?_
      replace hST : ST true (keys ((b_a0, Obj.cells (#[v_a0_in_, v_a0_creds, v_a0_uses, v_a0_words, v_a0_todo, (.int .i64 a0_n)] : Array Value) 134 (0, 0)) :: (R_a0_in_ ++ (R_a0_creds ++ (R_a0_uses ++ (R_a0_words ++ (R_a0_todo ++ []))))))) w _ _ ((b94, Obj.cells ((encFact ((⟨a1, a2⟩ : Fact))).toArray : Array Value) 78 (0, 0)) :: ((b1, Obj.cells ((encRole a1).toArray : Array Value) 47 (0, 0)) :: ((b_a0, Obj.cells (#[v_a0_in_, v_a0_creds, v_a0_uses, v_a0_words, (.slice A102 l96.length c103), (.int .i64 ((IntKind.i64.wrap (a0_n + 1))))] : Array Value) 134 (0, 0)) :: (R99 ++ (R69 ++ (R_a0_creds ++ (R_a0_uses ++ (R_a0_words ++ L41)))))))) := hST
      exact ⟨_, ((b_a0, Obj.cells (#[v_a0_in_, v_a0_creds, v_a0_uses, v_a0_words, (.slice A102 l96.length c103), (.int .i64 ((IntKind.i64.wrap (a0_n + 1))))] : Array Value) 134 (0, 0)) :: (R69 ++ (R_a0_creds ++ (R_a0_uses ++ (R_a0_words ++ (R99 ++ [])))))), rfl, (ST.backM (L1 := ((b_a0, Obj.cells (#[v_a0_in_, v_a0_creds, v_a0_uses, v_a0_words, (.slice A102 l96.length c103), (.int .i64 ((IntKind.i64.wrap (a0_n + 1))))] : Array Value) 134 (0, 0)) :: (R69 ++ (R_a0_creds ++ (R_a0_uses ++ (R_a0_words ++ (R99 ++ []))))))) (by have hh : ST true (keys ((b_a0, Obj.cells (#[v_a0_in_, v_a0_creds, v_a0_uses, v_a0_words, v_a0_todo, (.int .i64 a0_n)] : Array Value) 134 (0, 0)) :: (R_a0_in_ ++ (R_a0_creds ++ (R_a0_uses ++ (R_a0_words ++ (R_a0_todo ++ []))))))) w _ _ ((b_a0, Obj.cells (#[v_a0_in_, v_a0_creds, v_a0_uses, v_a0_words, (.slice A102 l96.length c103), (.int .i64 ((IntKind.i64.wrap (a0_n + 1))))] : Array Value) 134 (0, 0)) :: (R69 ++ (R_a0_creds ++ (R_a0_uses ++ (R_a0_words ++ (R99 ++ ((b94, Obj.cells ((encFact ((⟨a1, a2⟩ : Fact))).toArray : Array Value) 78 (0, 0)) :: ((b1, Obj.cells ((encRole a1).toArray : Array Value) 47 (0, 0)) :: L41)))))))) := hST.perm (permD [[(b94, Obj.cells ((encFact ((⟨a1, a2⟩ : Fact))).toArray : Array Value) 78 (0, 0))], [(b1, Obj.cells ((encRole a1).toArray : Array Value) 47 (0, 0))], [(b_a0, Obj.cells (#[v_a0_in_, v_a0_creds, v_a0_uses, v_a0_words, (.slice A102 l96.length c103), (.int .i64 ((IntKind.i64.wrap (a0_n + 1))))] : Array Value) 134 (0, 0))], R99, R69, R_a0_creds, R_a0_uses, R_a0_words] [0, 1, 2, 3, 4, 5, 6, 7] [2, 4, 5, 6, 7, 3, 0, 1] L41 (by decide) rfl rfl); simpa only [List.append_assoc, List.cons_append, List.nil_append] using hh)), R69, (.slice A102 l96.length c103), R99, rfl, rfl, hR70.e, hR100⟩
theorem w_maps_Keys_map_stringbool_string_bool_ (v_a0 : Value) (a0 : List (ByteArray × Bool)) (r : Unit) (w : World) (h_a0 : MapAt Value.string (fun (x : Bool) => (Value.bool x)) (hp w) v_a0 a0) (hm : m_maps_Keys_map_stringbool_string_bool_ a0 = some r) :
    GivesM true Tryz.prog 97 [v_a0] w [] (fun v L1 W' => ∃ (b1 : Nat), v = (.func (.func 144) #[] #[(.pointer (some ⟨b1, 0, none⟩))]) ∧ L1 = ((b1, Obj.cells (#[v_a0] : Array Value) 119 (0, 0)) :: [])) := by
  have hST := ST.start (dd := true) w
  unfold m_maps_Keys_map_stringbool_string_bool_ at hm
  refine calls_of_CW (n := 4) Tryz.func97 rfl rfl (Nat.le_of_ble_eq_true rfl) ?_
  refine CW_seq ?_
  refine CW_region ?_
  obtain ⟨m1, rfl⟩ := h_a0.form
  refine LW_e (.inl rfl) rfl (by decide) (E_box (v := (.map m1)) hST rfl (fun W3 b2 hST => ?_))
  refine LW_v (.inl rfl) rfl (by decide) (R_assign (v := .nilFunc) rfl) ?_
  refine LW_nil ?_
  refine sq_n ?_
  refine CW_seq ?_
  refine CW_region ?_
  refine LW_v (.inl rfl) rfl (by decide) (R_makeFuncC (by exact args1 rfl) rfl) ?_
  refine LW_v (.inl rfl) rfl (by decide) (R_assign (v := (.func (.func 144) #[] #[(.pointer (some ⟨b2, 0, none⟩))])) rfl) ?_
  refine LW_nil ?_
  refine sq_n ?_
  refine CW_ret ?_
  replace hm := Option.some.inj hm; subst hm
  refine retQ_1 (v := (.func (.func 144) #[] #[(.pointer (some ⟨b2, 0, none⟩))])) rfl rfl ?_
  replace hST : ST true NoF w _ _ ((b2, Obj.cells (#[(.map m1)] : Array Value) 119 (0, 0)) :: []) := hST
  exact ⟨_, ((b2, Obj.cells (#[(.map m1)] : Array Value) 119 (0, 0)) :: []), rfl, (ST.backL (L1 := ((b2, Obj.cells (#[(.map m1)] : Array Value) 119 (0, 0)) :: [])) (by have hh : ST true NoF w _ _ ((b2, Obj.cells (#[(.map m1)] : Array Value) 119 (0, 0)) :: []) := hST.perm (List.Perm.refl _); simpa only [List.append_assoc, List.cons_append, List.nil_append] using hh)), b2, rfl, rfl⟩
theorem keysS_gives144 {β : Type} {vf : β → Value} {l : List (ByteArray × β)} {b : Nat} {mv : Value} {W : World} {r : List ByteArray} (hb : W.heap[b]? = some (.cells #[mv] 119 (0, 0))) (hm : MapAt Value.string vf (hp W) mv l) (hk : keysS l = some r) : GivesRow false Tryz.prog 96 [.func (.func 144) #[] #[.pointer (some ⟨b, 0, none⟩)]] W 9 encSk 1 r := keysS_gives (P := Tryz.prog) layK144 layT96 lay135 rfl Tryz.underlying9 Tryz.call144 Tryz.call135 hb hm hk
theorem w_model_Model_Members (b_a0 : Nat) (v_a0_in_ : Value) (a0_in_ : List (Role × (List (ByteArray × Bool)))) (v_a0_creds : Value) (a0_creds : List Cred) (v_a0_uses : Value) (a0_uses : List (Role × (List Cred))) (v_a0_words : Value) (a0_words : List (ByteArray × (List Cred))) (v_a0_todo : Value) (a0_todo : List Fact) (a0_n : Int) (a1 : Role) (r : List ByteArray) (w : World) (h_a0_in_ : DeepAt (fun (x : Role) => (.agg (encRole x).toArray)) (MapRow Value.string (fun (x : Bool) => (Value.bool x))) (hp w) v_a0_in_ a0_in_) (h_a0_creds : Sl (Pl encCred) 9 (hp w) v_a0_creds a0_creds) (h_a0_uses : DeepAt (fun (x : Role) => (.agg (encRole x).toArray)) (Row 83 encCred 9) (hp w) v_a0_uses a0_uses) (h_a0_words : DeepAt Value.string (Row 83 encCred 9) (hp w) v_a0_words a0_words) (h_a0_todo : Sl (Pl encFact) 3 (hp w) v_a0_todo a0_todo) (hA_a0 : At (hp w) (.pointer (some ⟨b_a0, 0, none⟩)) [v_a0_in_, v_a0_creds, v_a0_uses, v_a0_words, v_a0_todo, (.int .i64 a0_n)]) (hm : m_model_Model_Members a0_in_ a0_creds a0_uses a0_words a0_todo a0_n a1 = some r) :
    GivesRow false Tryz.prog 37 [(.pointer (some ⟨b_a0, 0, none⟩)), (.agg (encRole a1).toArray)] w 9 encSk 1 r := by
  have hST := ST.start (dd := false) w
  unfold m_model_Model_Members at hm
  refine calls_of_CW (n := 15) Tryz.func37 rfl rfl (Nat.le_of_ble_eq_true rfl) ?_
  refine CW_seq ?_
  refine CW_region ?_
  refine LW_e (.inl rfl) rfl (by decide) (E_box (v := (.agg (encRole a1).toArray)) hST rfl (fun W2 b1 hST => ?_))
  refine LW_v (.inl rfl) rfl (by decide) (R_assign (v := (.slice none 0 0)) rfl) ?_
  refine LW_nil ?_
  refine sq_n ?_
  refine CW_seq ?_
  refine CW_seq ?_
  refine CW_region ?_
  refine LW_v (.inl rfl) rfl (by decide) (R_move (v := (.pointer (some ⟨b_a0, 0, none⟩))) rfl) ?_
  refine LW_v (.inl rfl) rfl (by decide) (R_ptrEqNil Tryz.underlying51 rfl rfl) ?_
  refine LW_nil ?_
  refine sq_n ?_
  refine CW_if_false rfl ?_
  refine CW_skip ?_
  refine sq_n ?_
  refine CW_seq ?_
  refine PX_start (fun l W => Has (hp w) ((b1, Obj.cells ((encRole a1).toArray : Array Value) 47 (0, 0)) :: []) W) Tryz_mixed ?_
  replace hST := hST.drew
  have hS0 : Has (hp w) ((b1, Obj.cells ((encRole a1).toArray : Array Value) 47 (0, 0)) :: []) _ := hST.has.sub (Sub.refl _) (fun p hq => ((List.mem_cons.1 hq).elim (fun hq => by rw [hq]; exact (.head _)) (fun hq => (absurd hq List.not_mem_nil))))
  refine PX_v 0 rfl (by kernel_rfl) (.inl rfl) rfl (by decide) (fun _ _ h => h) hS0 (fun _ _ _ _ => R_move (v := (.pointer (some ⟨b_a0, 0, none⟩))) rfl) ?_
  refine PX_v 1 rfl (by kernel_rfl) (.inl rfl) rfl (by decide) (fun _ _ h => h) hS0 (fun _ _ _ _ => R_nilCheck rfl) ?_
  refine PX_q 2 rfl (by kernel_rfl) (.inl rfl) rfl (by decide) (fun _ _ h => h) hS0 (R_fieldAt [v_a0_in_] fa134_0 rfl hA_a0 rfl) (fun p53 hp54 => ?_)
  refine PX_v 3 rfl (by kernel_rfl) (.inl rfl) rfl (by decide) (fun _ _ h => h) hS0 (fun l W hpd hs => have hS := hs; R_load rfl (load_at1 hS (y := v_a0_in_) hp54 Tryz.isAgg130)) ?_
  refine PX_v 4 rfl (by kernel_rfl) (.inl rfl) rfl (by decide) (fun _ _ h => h) hS0 (fun l W hpd hs => have hS := hs; R_load (v := (.agg (encRole a1).toArray)) rfl (load_boxA hS (.head _) (encRole a1) rfl Tryz.isAgg47 Tryz.sizeOf47)) ?_
  obtain ⟨lv56, R57, hd58, hq59⟩ := h_a0_in_
  refine PX_v 5 rfl (by kernel_rfl) (.inl rfl) rfl (by decide) (fun _ _ h => h) hS0 (fun l W hpd hs => have hS := hs; R_lookupDeep (k := a1) (z := (.map none)) kl47 Tryz.underlying130 Tryz.zeroValue119 rfl rfl hd58 (fun b o hq => hS.1 b o (hq59 b o hq))) ?_
  obtain ⟨r60, hr61, hm⟩ := bind_some hm
  have hsz := hST.size
  refine PX_e 6 rfl (by kernel_rfl) (.inl rfl) rfl (by decide) (E_callM (args := [(valAt beqRole lv56 a1 (.map none))]) (caps := #[]) [] (((b1, Obj.cells ((encRole a1).toArray : Array Value) 47 (0, 0)) :: [])) hST (List.Perm.refl _) rfl Tryz.call97 (by exact args1 rfl) (fun _ _ _ _ => GivesM.weak (w_maps_Keys_map_stringbool_string_bool_ (valAt beqRole lv56 a1 (.map none)) (((mget beqRole a0_in_ a1).getD [])) _ _ ((DeepV.mapAt beqRole_iff.1 hd58 a1 hq59).mono hST.sub_hp) hr61)) (fun W62 v65 μ63 L67 hST hle64 hlift hK66 => ?_))
  obtain ⟨b68, hv69, rfl⟩ := hK66
  replace hv69 := hv69.symm; subst hv69
  simp only [List.append_assoc, List.cons_append, List.nil_append] at hST
  replace hST : ST false NoF w _ _ ((b68, Obj.cells (#[(valAt beqRole lv56 a1 (.map none))] : Array Value) 119 (0, 0)) :: ((b1, Obj.cells ((encRole a1).toArray : Array Value) 47 (0, 0)) :: [])) := hST
  have hS0 : Has (hp w) ((b1, Obj.cells ((encRole a1).toArray : Array Value) 47 (0, 0)) :: []) _ := hST.has.sub hle64 (fun p hq => ((List.mem_cons.1 hq).elim (fun hq => by rw [hq]; exact (.tail _ (.head _))) (fun hq => (absurd hq List.not_mem_nil))))
  refine ⟨hS0, ?_⟩
  obtain ⟨r70, hr71, hm⟩ := bind_some hm
  refine PX_e 7 rfl (by kernel_rfl) (.inl rfl) rfl (by decide) (E_givesRow (args := [(.func (.func 144) #[] #[(.pointer (some ⟨b68, 0, none⟩))])]) [_, _] _ hST rfl Tryz.call96 (by exact args1 rfl) (keysS_gives144 (vf := (fun (x : Bool) => (Value.bool x))) (hST.has.2 _ _ (.head _)) ((DeepV.mapAt beqRole_iff.1 hd58 a1 hq59).mono (fun b o hq => hST.has.1 b o (hle64 b o hq))) hr71) (fun W72 v75 μ73 R76 hST hle74 hR77 => ?_))
  replace hST : ST false NoF w _ _ ((b68, Obj.cells (#[(valAt beqRole lv56 a1 (.map none))] : Array Value) 119 (0, 0)) :: ((b1, Obj.cells ((encRole a1).toArray : Array Value) 47 (0, 0)) :: (R76 ++ []))) := hST
  have hS0 : Has (hp w) ((b1, Obj.cells ((encRole a1).toArray : Array Value) 47 (0, 0)) :: []) _ := hST.has.sub (hle64.trans hle74) (fun p hq => ((List.mem_cons.1 hq).elim (fun hq => by rw [hq]; exact (.tail _ (.head _))) (fun hq => (absurd hq List.not_mem_nil))))
  refine ⟨hS0, ?_⟩
  refine PX_v 8 rfl (by kernel_rfl) (.inl rfl) rfl (by decide) (fun _ _ h => h) hS0 (fun _ _ _ _ => R_assign (v := v75) rfl) ?_
  refine PX_done (by kernel_rfl) ?_
  refine sq_n ?_
  replace hST : ST false NoF w _ _ (R76 ++ []) := hST.sublist (List.Sublist.cons _ (List.Sublist.cons _ (List.Sublist.refl _)))
  refine CW_ret ?_
  replace hm := Option.some.inj hm; subst hm
  refine retQ_1 (v := v75) rfl rfl ?_
  exact ⟨_, R76, rfl, hST.backRow (fun p hq => by simp [hq]) hR77.nd, hR77⟩
theorem w_model_Model_all_w (b_a0 : Nat) (v_a0_in_ : Value) (a0_in_ : List (Role × (List (ByteArray × Bool)))) (R_a0_in_ : List (Nat × Obj)) (v_a0_creds : Value) (a0_creds : List Cred) (R_a0_creds : List (Nat × Obj)) (v_a0_uses : Value) (a0_uses : List (Role × (List Cred))) (R_a0_uses : List (Nat × Obj)) (v_a0_words : Value) (a0_words : List (ByteArray × (List Cred))) (R_a0_words : List (Nat × Obj)) (v_a0_todo : Value) (a0_todo : List Fact) (R_a0_todo : List (Nat × Obj)) (a0_n : Int) (a1 : Role) (a2 : Role) (r : ((List (Role × (List (ByteArray × Bool)))) × (List Fact) × Int)) (w : World) {μ0 : Mem} (hH : Held ((b_a0, Obj.cells (#[v_a0_in_, v_a0_creds, v_a0_uses, v_a0_words, v_a0_todo, (.int .i64 a0_n)] : Array Value) 134 (0, 0)) :: (R_a0_in_ ++ (R_a0_creds ++ (R_a0_uses ++ (R_a0_words ++ (R_a0_todo ++ [])))))) w) (hN : ((((b_a0, Obj.cells (#[v_a0_in_, v_a0_creds, v_a0_uses, v_a0_words, v_a0_todo, (.int .i64 a0_n)] : Array Value) 134 (0, 0)) :: (R_a0_in_ ++ (R_a0_creds ++ (R_a0_uses ++ (R_a0_words ++ (R_a0_todo ++ [])))))) : List (Nat × Obj)).map (·.1)).Nodup) (hS0 : Sub μ0 (hpx w ((b_a0, Obj.cells (#[v_a0_in_, v_a0_creds, v_a0_uses, v_a0_words, v_a0_todo, (.int .i64 a0_n)] : Array Value) 134 (0, 0)) :: (R_a0_in_ ++ (R_a0_creds ++ (R_a0_uses ++ (R_a0_words ++ (R_a0_todo ++ [])))))))) (h_a0_in_ : DeepE (fun (x : Role) => (.agg (encRole x).toArray)) (MapRow Value.string (fun (x : Bool) => (Value.bool x))) v_a0_in_ a0_in_ R_a0_in_) (h_a0_creds : Row 83 encCred 9 v_a0_creds a0_creds R_a0_creds) (h_a0_uses : DeepE (fun (x : Role) => (.agg (encRole x).toArray)) (Row 83 encCred 9) v_a0_uses a0_uses R_a0_uses) (h_a0_words : DeepE Value.string (Row 83 encCred 9) v_a0_words a0_words R_a0_words) (h_a0_todo : Que 78 encFact 3 v_a0_todo a0_todo R_a0_todo) (hm : m_model_Model_all_w a0_in_ a0_creds a0_uses a0_words a0_todo a0_n a1 a2 = some r) :
    GivesM false Tryz.prog 187 [(.pointer (some ⟨b_a0, 0, none⟩)), (.agg (encRole a1).toArray), (.agg (encRole a2).toArray)] w ((b_a0, Obj.cells (#[v_a0_in_, v_a0_creds, v_a0_uses, v_a0_words, v_a0_todo, (.int .i64 a0_n)] : Array Value) 134 (0, 0)) :: (R_a0_in_ ++ (R_a0_creds ++ (R_a0_uses ++ (R_a0_words ++ (R_a0_todo ++ [])))))) (fun v L1 W' => ∃ (S1 : List (Nat × Obj)) (y3 : Value) (S4 : List (Nat × Obj)), v = (.tuple #[]) ∧ L1 = ((b_a0, Obj.cells (#[v_a0_in_, v_a0_creds, v_a0_uses, v_a0_words, y3, (.int .i64 (r.2.2))] : Array Value) 134 (0, 0)) :: (S1 ++ (R_a0_creds ++ (R_a0_uses ++ (R_a0_words ++ (S4 ++ [])))))) ∧ DeepE (fun (x : Role) => (.agg (encRole x).toArray)) (MapRow Value.string (fun (x : Bool) => (Value.bool x))) v_a0_in_ r.1 S1 ∧ Que 78 encFact 3 y3 r.2.1 S4) := by
  have hST := (ST.startM (dd := false) hH hN).weak hS0
  unfold m_model_Model_all_w at hm
  refine calls_of_CW (n := 21) Tryz.func187 rfl rfl (Nat.le_of_ble_eq_true rfl) ?_
  refine CW_seq ?_
  refine CW_region ?_
  refine LW_e (.inl rfl) rfl (by decide) (E_box (v := (.agg (encRole a1).toArray)) hST rfl (fun W2 b1 hST => ?_))
  refine LW_e (.inl rfl) rfl (by decide) (E_box (v := (.agg (encRole a2).toArray)) hST rfl (fun W4 b3 hST => ?_))
  refine LW_nil ?_
  refine sq_n ?_
  refine CW_seq ?_
  refine CW_region ?_
  refine LW_v (.inl rfl) rfl (by decide) (R_move (v := (.pointer (some ⟨b_a0, 0, none⟩))) rfl) ?_
  refine LW_v (.inl rfl) rfl (by decide) (R_load (v := (.agg (encRole a1).toArray)) rfl (load_boxA hST.has (.tail _ (.head _)) (encRole a1) rfl Tryz.isAgg47 Tryz.sizeOf47)) ?_
  obtain ⟨r5, hr6, hm⟩ := bind_some hm
  refine LW_e (.inl rfl) rfl (by decide) (E_givesRow (args := [(.pointer (some ⟨b_a0, 0, none⟩)), (.agg (encRole a1).toArray)]) [_, _, _] _ hST rfl Tryz.call37 (by exact args2 rfl rfl) ((w_model_Model_Members b_a0 v_a0_in_ a0_in_ v_a0_creds a0_creds v_a0_uses a0_uses v_a0_words a0_words v_a0_todo a0_todo a0_n a1 _ _ (h_a0_in_.at (fun b o hq => hST.at_ (.tail _ (.tail _ (.tail _ (List.mem_append_left _ hq)))))) (h_a0_creds.sl lenCred (fun b o hq => hST.at_ (.tail _ (.tail _ (.tail _ (List.mem_append_right _ (List.mem_append_left _ hq))))))) (h_a0_uses.at (fun b o hq => hST.at_ (.tail _ (.tail _ (.tail _ (List.mem_append_right _ (List.mem_append_right _ (List.mem_append_left _ hq)))))))) (h_a0_words.at (fun b o hq => hST.at_ (.tail _ (.tail _ (.tail _ (List.mem_append_right _ (List.mem_append_right _ (List.mem_append_right _ (List.mem_append_left _ hq))))))))) ((h_a0_todo.slL lenFact).mono (Pl.mono _) (memL_held (fun b o hq => hST.at_ (.tail _ (.tail _ (.tail _ (List.mem_append_right _ (List.mem_append_right _ (List.mem_append_right _ (List.mem_append_right _ (List.mem_append_left _ hq))))))))))) (At.of (hST.at_ (.tail _ (.tail _ (.head _)))) _ rfl) hr6)) (fun W7 v10 μ8 R11 hST hle9 hR12 => ?_))
  refine LW_v (.inl rfl) rfl (by decide) (R_lenRow Tryz.underlying27 rfl hR12) ?_
  refine LW_v (.inl rfl) rfl (by decide) (R_move (v := (.int .i64 0)) rfl) ?_
  refine LW_nil ?_
  refine sq_n ?_
  replace hST : ST false (keys ((b_a0, Obj.cells (#[v_a0_in_, v_a0_creds, v_a0_uses, v_a0_words, v_a0_todo, (.int .i64 a0_n)] : Array Value) 134 (0, 0)) :: (R_a0_in_ ++ (R_a0_creds ++ (R_a0_uses ++ (R_a0_words ++ (R_a0_todo ++ []))))))) w _ _ ((b3, Obj.cells ((encRole a2).toArray : Array Value) 47 (0, 0)) :: ((b1, Obj.cells ((encRole a1).toArray : Array Value) 47 (0, 0)) :: ((b_a0, Obj.cells (#[v_a0_in_, v_a0_creds, v_a0_uses, v_a0_words, v_a0_todo, (.int .i64 a0_n)] : Array Value) 134 (0, 0)) :: (R11 ++ (R_a0_in_ ++ (R_a0_creds ++ (R_a0_uses ++ (R_a0_words ++ (R_a0_todo ++ []))))))))) := hST
  replace hST : ST false (keys ((b_a0, Obj.cells (#[v_a0_in_, v_a0_creds, v_a0_uses, v_a0_words, v_a0_todo, (.int .i64 a0_n)] : Array Value) 134 (0, 0)) :: (R_a0_in_ ++ (R_a0_creds ++ (R_a0_uses ++ (R_a0_words ++ (R_a0_todo ++ []))))))) w _ _ ((b3, Obj.cells ((encRole a2).toArray : Array Value) 47 (0, 0)) :: ((b_a0, Obj.cells (#[v_a0_in_, v_a0_creds, v_a0_uses, v_a0_words, v_a0_todo, (.int .i64 a0_n)] : Array Value) 134 (0, 0)) :: (R11 ++ (R_a0_in_ ++ (R_a0_creds ++ (R_a0_uses ++ (R_a0_words ++ (R_a0_todo ++ [])))))))) := hST.sublist (List.Sublist.cons_cons _ (List.Sublist.cons _ (List.Sublist.refl _)))
  refine CW_tail ?_
  replace hST : ST false (keys ((b_a0, Obj.cells (#[v_a0_in_, v_a0_creds, v_a0_uses, v_a0_words, v_a0_todo, (.int .i64 a0_n)] : Array Value) 134 (0, 0)) :: (R_a0_in_ ++ (R_a0_creds ++ (R_a0_uses ++ (R_a0_words ++ (R_a0_todo ++ []))))))) w _ _ ((b_a0, Obj.cells (#[v_a0_in_, v_a0_creds, v_a0_uses, v_a0_words, v_a0_todo, (.int .i64 a0_n)] : Array Value) 134 (0, 0)) :: ((b3, Obj.cells ((encRole a2).toArray : Array Value) 47 (0, 0)) :: (R_a0_in_ ++ (R_a0_creds ++ (R_a0_uses ++ (R_a0_words ++ (R_a0_todo ++ (R11 ++ [])))))))) := hST.perm (permD [[(b3, Obj.cells ((encRole a2).toArray : Array Value) 47 (0, 0))], [(b_a0, Obj.cells (#[v_a0_in_, v_a0_creds, v_a0_uses, v_a0_words, v_a0_todo, (.int .i64 a0_n)] : Array Value) 134 (0, 0))], R11, R_a0_in_, R_a0_creds, R_a0_uses, R_a0_words, R_a0_todo] [0, 1, 2, 3, 4, 5, 6, 7] [1, 0, 3, 4, 5, 6, 7, 2] ([]) (by decide) rfl rfl)
  refine CW_range (fun i E W => ∃ (l124 : List (Role × (List (ByteArray × Bool)))) (R126 : List (Nat × Obj)) (v127 : Value) (l128 : List Fact) (R130 : List (Nat × Obj)) (x131 : Int) (μ123 : Mem) (L162 : List (Nat × Obj)), (E 12 = .int .i64 (i : Nat) ∧ E 11 = .int .i64 (r5.length : Nat)) ∧ Sub μ8 μ123 ∧ ST false (keys ((b_a0, Obj.cells (#[v_a0_in_, v_a0_creds, v_a0_uses, v_a0_words, v_a0_todo, (.int .i64 a0_n)] : Array Value) 134 (0, 0)) :: (R_a0_in_ ++ (R_a0_creds ++ (R_a0_uses ++ (R_a0_words ++ (R_a0_todo ++ []))))))) w W μ123 ((b_a0, Obj.cells (#[v_a0_in_, v_a0_creds, v_a0_uses, v_a0_words, v127, (.int .i64 x131)] : Array Value) 134 (0, 0)) :: ((b3, Obj.cells ((encRole a2).toArray : Array Value) 47 (0, 0)) :: (R126 ++ (R_a0_creds ++ (R_a0_uses ++ (R_a0_words ++ (R130 ++ (R11 ++ L162)))))))) ∧ E 0 = (.pointer (some ⟨b_a0, 0, none⟩)) ∧ E 5 = (.pointer (some ⟨b3, 0, none⟩)) ∧ E 10 = v10 ∧ DeepE (fun (x : Role) => (.agg (encRole x).toArray)) (MapRow Value.string (fun (x : Bool) => (Value.bool x))) v_a0_in_ l124 R126 ∧ Que 78 encFact 3 v127 l128 R130 ∧ m_model_Model_all_w_L1 a0_creds a0_uses a0_words a2 (r5.drop i) l124 l128 x131 = some r) r5.length hR12.len ⟨a0_in_, R_a0_in_, v_a0_todo, a0_todo, R_a0_todo, a0_n, μ8, _, ⟨rfl, rfl⟩, (Sub.refl _), (hST.sublist (List.Sublist.refl _)), rfl, rfl, rfl, h_a0_in_, h_a0_todo, hm⟩ (by decide) (by decide) (by decide) (fun _ _ _ h => by obtain ⟨_, _, _, _, _, _, _, _, eIN, _⟩ := h; exact eIN) ?_ ?_
  · rintro i99 E W hi105 ⟨l124, R126, v127, l128, R130, x131, μ123, L162, ⟨eI, eN⟩, hle164, hST, e165, e166, e167, hs125, hs129, hm163⟩
    obtain ⟨x100, xs101, hx103, hx102, hx104⟩ := drop_cons hi105
    rw [hx103] at hm163
    rw [m_model_Model_all_w_L1] at hm163
    refine CW_block ?_
    refine CW_seq ?_
    refine CW_region ?_
    refine LW_q (.inl rfl) rfl (by decide) (R_indexRow (i := (i99 : Int)) (x0 := x100) Tryz.underlying27 Tryz.sizeOf9 e167 eI hR12 (Int.natCast_nonneg _) hx102) (fun p168 hp169 => ?_)
    refine LW_v (.inl rfl) rfl (by decide) (R_load (v := (.string x100)) rfl (load_ix1 hST.has (fun p hq => by simp [hq]) hR12 (fun _ => rfl) hp169 hx102 (y := (.string x100)) rfl Tryz.isAgg9)) ?_
    refine LW_v (.inl rfl) rfl (by decide) (R_assign (v := (.string x100)) rfl) ?_
    refine LW_nil ?_
    refine sq_n ?_
    refine CW_region ?_
    refine LW_v (.inl rfl) rfl (by decide) (R_move (v := (.pointer (some ⟨b_a0, 0, none⟩))) e165) ?_
    refine LW_v (.inl rfl) rfl (by decide) (R_load (v := (.agg (encRole a2).toArray)) e166 (load_boxA hST.has (.tail _ (.head _)) (encRole a2) rfl Tryz.isAgg47 Tryz.sizeOf47)) ?_
    refine LW_v (.inl rfl) rfl (by decide) (R_move (v := (.string x100)) rfl) ?_
    obtain ⟨r171, hr172, hm163⟩ := bind_some hm163
    replace hST : ST false (keys ((b_a0, Obj.cells (#[v_a0_in_, v_a0_creds, v_a0_uses, v_a0_words, v_a0_todo, (.int .i64 a0_n)] : Array Value) 134 (0, 0)) :: (R_a0_in_ ++ (R_a0_creds ++ (R_a0_uses ++ (R_a0_words ++ (R_a0_todo ++ []))))))) w _ _ ((b_a0, Obj.cells (#[v_a0_in_, v_a0_creds, v_a0_uses, v_a0_words, v127, (.int .i64 x131)] : Array Value) 134 (0, 0)) :: (R126 ++ (R_a0_creds ++ (R_a0_uses ++ (R_a0_words ++ (R130 ++ ((b3, Obj.cells ((encRole a2).toArray : Array Value) 47 (0, 0)) :: (R11 ++ L162)))))))) := hST.perm (permD [[(b_a0, Obj.cells (#[v_a0_in_, v_a0_creds, v_a0_uses, v_a0_words, v127, (.int .i64 x131)] : Array Value) 134 (0, 0))], [(b3, Obj.cells ((encRole a2).toArray : Array Value) 47 (0, 0))], R126, R_a0_creds, R_a0_uses, R_a0_words, R130] [0, 1, 2, 3, 4, 5, 6] [0, 2, 3, 4, 5, 6, 1] ((R11 ++ L162)) (by decide) rfl rfl)
    have hsz := hST.size
    refine LW_e (.inl rfl) rfl (by decide) (E_callM (args := [(.pointer (some ⟨b_a0, 0, none⟩)), (.agg (encRole a2).toArray), (.string x100)]) (caps := #[]) (((b_a0, Obj.cells (#[v_a0_in_, v_a0_creds, v_a0_uses, v_a0_words, v127, (.int .i64 x131)] : Array Value) 134 (0, 0)) :: (R126 ++ (R_a0_creds ++ (R_a0_uses ++ (R_a0_words ++ (R130 ++ []))))))) (((b3, Obj.cells ((encRole a2).toArray : Array Value) 47 (0, 0)) :: (R11 ++ L162))) hST (by simp only [List.append_assoc, List.cons_append, List.nil_append]; exact List.Perm.refl _) rfl Tryz.call146 (by exact args3 rfl rfl rfl) (fun hH hN hsb hmm => GivesM.weak (w_model_Model_tell_w b_a0 v_a0_in_ l124 R126 v_a0_creds a0_creds R_a0_creds v_a0_uses a0_uses R_a0_uses v_a0_words a0_words R_a0_words v127 l128 R130 x131 a2 x100 _ _ hH hN (Sub.refl _) hs125 h_a0_creds h_a0_uses h_a0_words hs129 hr172)) (fun W173 v176 μ174 L178 hST hle175 hlift hK177 => ?_))
    obtain ⟨S179, y181, S182, hv184, rfl, hy180, hy183⟩ := hK177
    replace hv184 := hv184.symm; subst hv184
    simp only [List.append_assoc, List.cons_append, List.nil_append] at hST
    replace hST : ST false (keys ((b_a0, Obj.cells (#[v_a0_in_, v_a0_creds, v_a0_uses, v_a0_words, v_a0_todo, (.int .i64 a0_n)] : Array Value) 134 (0, 0)) :: (R_a0_in_ ++ (R_a0_creds ++ (R_a0_uses ++ (R_a0_words ++ (R_a0_todo ++ []))))))) w _ _ ((b_a0, Obj.cells (#[v_a0_in_, v_a0_creds, v_a0_uses, v_a0_words, y181, (.int .i64 (r171.2.2))] : Array Value) 134 (0, 0)) :: ((b3, Obj.cells ((encRole a2).toArray : Array Value) 47 (0, 0)) :: (S179 ++ (R_a0_creds ++ (R_a0_uses ++ (R_a0_words ++ (S182 ++ (R11 ++ L162)))))))) := hST.perm (permD [[(b_a0, Obj.cells (#[v_a0_in_, v_a0_creds, v_a0_uses, v_a0_words, y181, (.int .i64 (r171.2.2))] : Array Value) 134 (0, 0))], S179, R_a0_creds, R_a0_uses, R_a0_words, S182, [(b3, Obj.cells ((encRole a2).toArray : Array Value) 47 (0, 0))]] [0, 1, 2, 3, 4, 5, 6] [0, 6, 1, 2, 3, 4, 5] ((R11 ++ L162)) (by decide) rfl rfl)
    refine LW_nil ?_
    refine bq_n ?_
    refine sq_n ?_
    exact ⟨eI, r171.1, S179, y181, r171.2.1, S182, r171.2.2, μ174, _, ⟨rfl, eN⟩, (hle164.trans hle175), (hST.sublist (List.Sublist.refl _)), e165, e166, e167, hy180, hy183, (by rw [hx104]; exact hm163)⟩
  · rintro E W ⟨l124, R126, v127, l128, R130, x131, μ123, L162, ⟨eI, eN⟩, hle164, hST, e165, e166, e167, hs125, hs129, hm163⟩
    rw [List.drop_length] at hm163
    rw [m_model_Model_all_w_L1] at hm163
    refine sq_n ?_
    replace hST : ST false (keys ((b_a0, Obj.cells (#[v_a0_in_, v_a0_creds, v_a0_uses, v_a0_words, v_a0_todo, (.int .i64 a0_n)] : Array Value) 134 (0, 0)) :: (R_a0_in_ ++ (R_a0_creds ++ (R_a0_uses ++ (R_a0_words ++ (R_a0_todo ++ []))))))) w _ _ ((b_a0, Obj.cells (#[v_a0_in_, v_a0_creds, v_a0_uses, v_a0_words, v127, (.int .i64 x131)] : Array Value) 134 (0, 0)) :: (R126 ++ (R_a0_creds ++ (R_a0_uses ++ (R_a0_words ++ (R130 ++ L162)))))) := hST.sublist (List.Sublist.cons_cons _ (List.Sublist.cons _ (List.Sublist.append (List.Sublist.refl _) (List.Sublist.append (List.Sublist.refl _) (List.Sublist.append (List.Sublist.refl _) (List.Sublist.append (List.Sublist.refl _) (List.Sublist.append (List.Sublist.refl _) ((List.Sublist.refl _).trans (List.sublist_append_right _ _)))))))))
    refine retQ_n ?_
    replace hm163 := Option.some.inj hm163; subst hm163
    refine retQ_0 rfl ?_
    replace hST : ST false (keys ((b_a0, Obj.cells (#[v_a0_in_, v_a0_creds, v_a0_uses, v_a0_words, v_a0_todo, (.int .i64 a0_n)] : Array Value) 134 (0, 0)) :: (R_a0_in_ ++ (R_a0_creds ++ (R_a0_uses ++ (R_a0_words ++ (R_a0_todo ++ []))))))) w _ _ ((b_a0, Obj.cells (#[v_a0_in_, v_a0_creds, v_a0_uses, v_a0_words, v127, (.int .i64 x131)] : Array Value) 134 (0, 0)) :: (R126 ++ (R_a0_creds ++ (R_a0_uses ++ (R_a0_words ++ (R130 ++ L162)))))) := hST
    exact ⟨_, ((b_a0, Obj.cells (#[v_a0_in_, v_a0_creds, v_a0_uses, v_a0_words, v127, (.int .i64 x131)] : Array Value) 134 (0, 0)) :: (R126 ++ (R_a0_creds ++ (R_a0_uses ++ (R_a0_words ++ (R130 ++ [])))))), rfl, (ST.backM (L1 := ((b_a0, Obj.cells (#[v_a0_in_, v_a0_creds, v_a0_uses, v_a0_words, v127, (.int .i64 x131)] : Array Value) 134 (0, 0)) :: (R126 ++ (R_a0_creds ++ (R_a0_uses ++ (R_a0_words ++ (R130 ++ []))))))) (by have hh : ST false (keys ((b_a0, Obj.cells (#[v_a0_in_, v_a0_creds, v_a0_uses, v_a0_words, v_a0_todo, (.int .i64 a0_n)] : Array Value) 134 (0, 0)) :: (R_a0_in_ ++ (R_a0_creds ++ (R_a0_uses ++ (R_a0_words ++ (R_a0_todo ++ []))))))) w _ _ ((b_a0, Obj.cells (#[v_a0_in_, v_a0_creds, v_a0_uses, v_a0_words, v127, (.int .i64 x131)] : Array Value) 134 (0, 0)) :: (R126 ++ (R_a0_creds ++ (R_a0_uses ++ (R_a0_words ++ (R130 ++ L162)))))) := hST.perm (List.Perm.refl _); simpa only [List.append_assoc, List.cons_append, List.nil_append] using hh)), R126, v127, R130, rfl, rfl, hs125, hs129⟩
theorem w_model_Model_use_w (b_a0 : Nat) (v_a0_in_ : Value) (a0_in_ : List (Role × (List (ByteArray × Bool)))) (R_a0_in_ : List (Nat × Obj)) (v_a0_creds : Value) (a0_creds : List Cred) (R_a0_creds : List (Nat × Obj)) (v_a0_uses : Value) (a0_uses : List (Role × (List Cred))) (R_a0_uses : List (Nat × Obj)) (v_a0_words : Value) (a0_words : List (ByteArray × (List Cred))) (R_a0_words : List (Nat × Obj)) (v_a0_todo : Value) (a0_todo : List Fact) (R_a0_todo : List (Nat × Obj)) (a0_n : Int) (a1 : Cred) (a2 : Fact) (r : ((List (Role × (List (ByteArray × Bool)))) × (List Fact) × Int)) (w : World) {μ0 : Mem} (hH : Held ((b_a0, Obj.cells (#[v_a0_in_, v_a0_creds, v_a0_uses, v_a0_words, v_a0_todo, (.int .i64 a0_n)] : Array Value) 134 (0, 0)) :: (R_a0_in_ ++ (R_a0_creds ++ (R_a0_uses ++ (R_a0_words ++ (R_a0_todo ++ [])))))) w) (hN : ((((b_a0, Obj.cells (#[v_a0_in_, v_a0_creds, v_a0_uses, v_a0_words, v_a0_todo, (.int .i64 a0_n)] : Array Value) 134 (0, 0)) :: (R_a0_in_ ++ (R_a0_creds ++ (R_a0_uses ++ (R_a0_words ++ (R_a0_todo ++ [])))))) : List (Nat × Obj)).map (·.1)).Nodup) (hS0 : Sub μ0 (hpx w ((b_a0, Obj.cells (#[v_a0_in_, v_a0_creds, v_a0_uses, v_a0_words, v_a0_todo, (.int .i64 a0_n)] : Array Value) 134 (0, 0)) :: (R_a0_in_ ++ (R_a0_creds ++ (R_a0_uses ++ (R_a0_words ++ (R_a0_todo ++ [])))))))) (h_a0_in_ : DeepE (fun (x : Role) => (.agg (encRole x).toArray)) (MapRow Value.string (fun (x : Bool) => (Value.bool x))) v_a0_in_ a0_in_ R_a0_in_) (h_a0_creds : Row 83 encCred 9 v_a0_creds a0_creds R_a0_creds) (h_a0_uses : DeepE (fun (x : Role) => (.agg (encRole x).toArray)) (Row 83 encCred 9) v_a0_uses a0_uses R_a0_uses) (h_a0_words : DeepE Value.string (Row 83 encCred 9) v_a0_words a0_words R_a0_words) (h_a0_todo : Que 78 encFact 3 v_a0_todo a0_todo R_a0_todo) (hm : m_model_Model_use_w a0_in_ a0_creds a0_uses a0_words a0_todo a0_n a1 a2 = some r) :
    GivesM false Tryz.prog 147 [(.pointer (some ⟨b_a0, 0, none⟩)), (.agg (encCred a1).toArray), (.agg (encFact a2).toArray)] w ((b_a0, Obj.cells (#[v_a0_in_, v_a0_creds, v_a0_uses, v_a0_words, v_a0_todo, (.int .i64 a0_n)] : Array Value) 134 (0, 0)) :: (R_a0_in_ ++ (R_a0_creds ++ (R_a0_uses ++ (R_a0_words ++ (R_a0_todo ++ [])))))) (fun v L1 W' => ∃ (S1 : List (Nat × Obj)) (y3 : Value) (S4 : List (Nat × Obj)), v = (.tuple #[]) ∧ L1 = ((b_a0, Obj.cells (#[v_a0_in_, v_a0_creds, v_a0_uses, v_a0_words, y3, (.int .i64 (r.2.2))] : Array Value) 134 (0, 0)) :: (S1 ++ (R_a0_creds ++ (R_a0_uses ++ (R_a0_words ++ (S4 ++ [])))))) ∧ DeepE (fun (x : Role) => (.agg (encRole x).toArray)) (MapRow Value.string (fun (x : Bool) => (Value.bool x))) v_a0_in_ r.1 S1 ∧ Que 78 encFact 3 y3 r.2.1 S4) := by
  have hST := (ST.startM (dd := false) hH hN).weak hS0
  unfold m_model_Model_use_w at hm
  refine calls_of_CW (n := 57) Tryz.func147 rfl rfl (Nat.le_of_ble_eq_true rfl) ?_
  refine CW_seq ?_
  refine CW_region ?_
  refine LW_e (.inl rfl) rfl (by decide) (E_box (v := (.agg (encCred a1).toArray)) hST rfl (fun W2 b1 hST => ?_))
  refine LW_e (.inl rfl) rfl (by decide) (E_box (v := (.agg (encFact a2).toArray)) hST rfl (fun W4 b3 hST => ?_))
  refine LW_nil ?_
  refine sq_n ?_
  refine CW_seq ?_
  refine CW_region ?_
  refine LW_v (.inl rfl) rfl (by decide) (R_field fa83_0 rfl) ?_
  refine LW_v (.inl rfl) rfl (by decide) (R_load (v := (.int .i64 a1.Kind)) rfl (load_box1 hST.has (.tail _ (.head _)) rfl Tryz.isAgg3)) ?_
  refine LW_nil ?_
  refine sq_n ?_
  refine CW_block ?_
  refine CW_seq ?_
  refine CW_region ?_
  refine LW_v (.inl rfl) rfl (by decide) (R_int (k := .i64) (a := a1.Kind) (b := 2) (v := (.bool ((a1.Kind == 2)))) rfl rfl rfl) ?_
  refine LW_v (.inl rfl) rfl (by decide) (R_assign (v := (.bool ((a1.Kind == 2)))) rfl) ?_
  refine LW_nil ?_
  refine sq_n ?_
  refine CW_if (b := (a1.Kind == 2)) rfl (fun hb5 => ?_) (fun hb5 => ?_)
  · replace hm := if_t hb5 hm
    refine CW_region ?_
    refine LW_v (.inl rfl) rfl (by decide) (R_move (v := (.pointer (some ⟨b_a0, 0, none⟩))) rfl) ?_
    refine LW_v (.inl rfl) rfl (by decide) (R_field fa83_1 rfl) ?_
    refine LW_v (.inl rfl) rfl (by decide) (R_load (v := (.agg (encRole a1.Head).toArray)) rfl (load_boxA hST.has (.tail _ (.head _)) (encRole a1.Head) rfl Tryz.isAgg47 Tryz.sizeOf47)) ?_
    refine LW_v (.inl rfl) rfl (by decide) (R_field fa78_1 rfl) ?_
    refine LW_v (.inl rfl) rfl (by decide) (R_load (v := (.string a2.Who)) rfl (load_box1 hST.has (.head _) rfl Tryz.isAgg9)) ?_
    obtain ⟨r6, hr7, hm⟩ := bind_some hm
    replace hST : ST false (keys ((b_a0, Obj.cells (#[v_a0_in_, v_a0_creds, v_a0_uses, v_a0_words, v_a0_todo, (.int .i64 a0_n)] : Array Value) 134 (0, 0)) :: (R_a0_in_ ++ (R_a0_creds ++ (R_a0_uses ++ (R_a0_words ++ (R_a0_todo ++ []))))))) w _ _ ((b_a0, Obj.cells (#[v_a0_in_, v_a0_creds, v_a0_uses, v_a0_words, v_a0_todo, (.int .i64 a0_n)] : Array Value) 134 (0, 0)) :: (R_a0_in_ ++ (R_a0_creds ++ (R_a0_uses ++ (R_a0_words ++ (R_a0_todo ++ ((b3, Obj.cells ((encFact a2).toArray : Array Value) 78 (0, 0)) :: ((b1, Obj.cells ((encCred a1).toArray : Array Value) 83 (0, 0)) :: [])))))))) := hST.perm (permD [[(b3, Obj.cells ((encFact a2).toArray : Array Value) 78 (0, 0))], [(b1, Obj.cells ((encCred a1).toArray : Array Value) 83 (0, 0))], [(b_a0, Obj.cells (#[v_a0_in_, v_a0_creds, v_a0_uses, v_a0_words, v_a0_todo, (.int .i64 a0_n)] : Array Value) 134 (0, 0))], R_a0_in_, R_a0_creds, R_a0_uses, R_a0_words, R_a0_todo] [0, 1, 2, 3, 4, 5, 6, 7] [2, 3, 4, 5, 6, 7, 0, 1] ([]) (by decide) rfl rfl)
    have hsz := hST.size
    refine LW_e (.inl rfl) rfl (by decide) (E_callM (args := [(.pointer (some ⟨b_a0, 0, none⟩)), (.agg (encRole a1.Head).toArray), (.string a2.Who)]) (caps := #[]) (((b_a0, Obj.cells (#[v_a0_in_, v_a0_creds, v_a0_uses, v_a0_words, v_a0_todo, (.int .i64 a0_n)] : Array Value) 134 (0, 0)) :: (R_a0_in_ ++ (R_a0_creds ++ (R_a0_uses ++ (R_a0_words ++ (R_a0_todo ++ []))))))) (((b3, Obj.cells ((encFact a2).toArray : Array Value) 78 (0, 0)) :: ((b1, Obj.cells ((encCred a1).toArray : Array Value) 83 (0, 0)) :: []))) hST (by simp only [List.append_assoc, List.cons_append, List.nil_append]; exact List.Perm.refl _) rfl Tryz.call146 (by exact args3 rfl rfl rfl) (fun hH hN hsb hmm => GivesM.weak (w_model_Model_tell_w b_a0 v_a0_in_ a0_in_ R_a0_in_ v_a0_creds a0_creds R_a0_creds v_a0_uses a0_uses R_a0_uses v_a0_words a0_words R_a0_words v_a0_todo a0_todo R_a0_todo a0_n a1.Head a2.Who _ _ hH hN (Sub.refl _) h_a0_in_ h_a0_creds h_a0_uses h_a0_words h_a0_todo hr7)) (fun W8 v11 μ9 L13 hST hle10 hlift hK12 => ?_))
    obtain ⟨S14, y16, S17, hv19, rfl, hy15, hy18⟩ := hK12
    replace hv19 := hv19.symm; subst hv19
    simp only [List.append_assoc, List.cons_append, List.nil_append] at hST
    replace hST : ST false (keys ((b_a0, Obj.cells (#[v_a0_in_, v_a0_creds, v_a0_uses, v_a0_words, v_a0_todo, (.int .i64 a0_n)] : Array Value) 134 (0, 0)) :: (R_a0_in_ ++ (R_a0_creds ++ (R_a0_uses ++ (R_a0_words ++ (R_a0_todo ++ []))))))) w _ _ ((b_a0, Obj.cells (#[v_a0_in_, v_a0_creds, v_a0_uses, v_a0_words, y16, (.int .i64 (r6.2.2))] : Array Value) 134 (0, 0)) :: ((b3, Obj.cells ((encFact a2).toArray : Array Value) 78 (0, 0)) :: ((b1, Obj.cells ((encCred a1).toArray : Array Value) 83 (0, 0)) :: (S14 ++ (R_a0_creds ++ (R_a0_uses ++ (R_a0_words ++ (S17 ++ [])))))))) := hST.perm (permD [[(b_a0, Obj.cells (#[v_a0_in_, v_a0_creds, v_a0_uses, v_a0_words, y16, (.int .i64 (r6.2.2))] : Array Value) 134 (0, 0))], S14, R_a0_creds, R_a0_uses, R_a0_words, S17, [(b3, Obj.cells ((encFact a2).toArray : Array Value) 78 (0, 0))], [(b1, Obj.cells ((encCred a1).toArray : Array Value) 83 (0, 0))]] [0, 1, 2, 3, 4, 5, 6, 7] [0, 6, 7, 1, 2, 3, 4, 5] ([]) (by decide) rfl rfl)
    refine LW_nil ?_
    refine bq_n ?_
    refine retQ_n ?_
    replace hm := Option.some.inj hm; subst hm
    refine retQ_0 rfl ?_
    replace hST : ST false (keys ((b_a0, Obj.cells (#[v_a0_in_, v_a0_creds, v_a0_uses, v_a0_words, v_a0_todo, (.int .i64 a0_n)] : Array Value) 134 (0, 0)) :: (R_a0_in_ ++ (R_a0_creds ++ (R_a0_uses ++ (R_a0_words ++ (R_a0_todo ++ []))))))) w _ _ ((b_a0, Obj.cells (#[v_a0_in_, v_a0_creds, v_a0_uses, v_a0_words, y16, (.int .i64 (r6.2.2))] : Array Value) 134 (0, 0)) :: ((b3, Obj.cells ((encFact a2).toArray : Array Value) 78 (0, 0)) :: ((b1, Obj.cells ((encCred a1).toArray : Array Value) 83 (0, 0)) :: (S14 ++ (R_a0_creds ++ (R_a0_uses ++ (R_a0_words ++ (S17 ++ [])))))))) := hST
    exact ⟨_, ((b_a0, Obj.cells (#[v_a0_in_, v_a0_creds, v_a0_uses, v_a0_words, y16, (.int .i64 (r6.2.2))] : Array Value) 134 (0, 0)) :: (S14 ++ (R_a0_creds ++ (R_a0_uses ++ (R_a0_words ++ (S17 ++ [])))))), rfl, (ST.backM (L1 := ((b_a0, Obj.cells (#[v_a0_in_, v_a0_creds, v_a0_uses, v_a0_words, y16, (.int .i64 (r6.2.2))] : Array Value) 134 (0, 0)) :: (S14 ++ (R_a0_creds ++ (R_a0_uses ++ (R_a0_words ++ (S17 ++ []))))))) (by have hh : ST false (keys ((b_a0, Obj.cells (#[v_a0_in_, v_a0_creds, v_a0_uses, v_a0_words, v_a0_todo, (.int .i64 a0_n)] : Array Value) 134 (0, 0)) :: (R_a0_in_ ++ (R_a0_creds ++ (R_a0_uses ++ (R_a0_words ++ (R_a0_todo ++ []))))))) w _ _ ((b_a0, Obj.cells (#[v_a0_in_, v_a0_creds, v_a0_uses, v_a0_words, y16, (.int .i64 (r6.2.2))] : Array Value) 134 (0, 0)) :: (S14 ++ (R_a0_creds ++ (R_a0_uses ++ (R_a0_words ++ (S17 ++ ((b3, Obj.cells ((encFact a2).toArray : Array Value) 78 (0, 0)) :: ((b1, Obj.cells ((encCred a1).toArray : Array Value) 83 (0, 0)) :: [])))))))) := hST.perm (permD [[(b_a0, Obj.cells (#[v_a0_in_, v_a0_creds, v_a0_uses, v_a0_words, y16, (.int .i64 (r6.2.2))] : Array Value) 134 (0, 0))], [(b3, Obj.cells ((encFact a2).toArray : Array Value) 78 (0, 0))], [(b1, Obj.cells ((encCred a1).toArray : Array Value) 83 (0, 0))], S14, R_a0_creds, R_a0_uses, R_a0_words, S17] [0, 1, 2, 3, 4, 5, 6, 7] [0, 3, 4, 5, 6, 7, 1, 2] ([]) (by decide) rfl rfl); simpa only [List.append_assoc, List.cons_append, List.nil_append] using hh)), S14, y16, S17, rfl, rfl, hy15, hy18⟩
  · replace hm := if_f hb5 hm
    refine CW_seq ?_
    refine CW_region ?_
    refine LW_v (.inl rfl) rfl (by decide) (R_int (k := .i64) (a := a1.Kind) (b := 3) (v := (.bool ((a1.Kind == 3)))) rfl rfl rfl) ?_
    refine LW_v (.inl rfl) rfl (by decide) (R_assign (v := (.bool ((a1.Kind == 3)))) rfl) ?_
    refine LW_nil ?_
    refine sq_n ?_
    refine CW_if (b := (a1.Kind == 3)) rfl (fun hb20 => ?_) (fun hb20 => ?_)
    · replace hm := if_t hb20 hm
      refine CW_region ?_
      refine LW_v (.inl rfl) rfl (by decide) (R_move (v := (.pointer (some ⟨b_a0, 0, none⟩))) rfl) ?_
      refine LW_v (.inl rfl) rfl (by decide) (R_field fa78_1 rfl) ?_
      refine LW_v (.inl rfl) rfl (by decide) (R_load (v := (.string a2.Who)) rfl (load_box1 hST.has (.head _) rfl Tryz.isAgg9)) ?_
      refine LW_v (.inl rfl) rfl (by decide) (R_field fa83_5 rfl) ?_
      refine LW_v (.inl rfl) rfl (by decide) (R_load (v := (.string a1.Word2)) rfl (load_box1 hST.has (.tail _ (.head _)) rfl Tryz.isAgg9)) ?_
      refine LW_v (.inl rfl) rfl (by decide) (R_build (qs := #[(0, (.string a2.Who)), (1, (.string a1.Word2))]) (v := (.agg (encRole ((⟨a2.Who, a1.Word2⟩ : Role))).toArray)) (parts2 rfl rfl) (run_build Tryz.zeroValue47 Tryz.underlying47 (pl47 _ Tryz.underlying47) (by kernel_rfl))) ?_
      refine LW_v (.inl rfl) rfl (by decide) (R_field fa83_1 rfl) ?_
      refine LW_v (.inl rfl) rfl (by decide) (R_load (v := (.agg (encRole a1.Head).toArray)) rfl (load_boxA hST.has (.tail _ (.head _)) (encRole a1.Head) rfl Tryz.isAgg47 Tryz.sizeOf47)) ?_
      obtain ⟨r21, hr22, hm⟩ := bind_some hm
      replace hST : ST false (keys ((b_a0, Obj.cells (#[v_a0_in_, v_a0_creds, v_a0_uses, v_a0_words, v_a0_todo, (.int .i64 a0_n)] : Array Value) 134 (0, 0)) :: (R_a0_in_ ++ (R_a0_creds ++ (R_a0_uses ++ (R_a0_words ++ (R_a0_todo ++ []))))))) w _ _ ((b_a0, Obj.cells (#[v_a0_in_, v_a0_creds, v_a0_uses, v_a0_words, v_a0_todo, (.int .i64 a0_n)] : Array Value) 134 (0, 0)) :: (R_a0_in_ ++ (R_a0_creds ++ (R_a0_uses ++ (R_a0_words ++ (R_a0_todo ++ ((b3, Obj.cells ((encFact a2).toArray : Array Value) 78 (0, 0)) :: ((b1, Obj.cells ((encCred a1).toArray : Array Value) 83 (0, 0)) :: [])))))))) := hST.perm (permD [[(b3, Obj.cells ((encFact a2).toArray : Array Value) 78 (0, 0))], [(b1, Obj.cells ((encCred a1).toArray : Array Value) 83 (0, 0))], [(b_a0, Obj.cells (#[v_a0_in_, v_a0_creds, v_a0_uses, v_a0_words, v_a0_todo, (.int .i64 a0_n)] : Array Value) 134 (0, 0))], R_a0_in_, R_a0_creds, R_a0_uses, R_a0_words, R_a0_todo] [0, 1, 2, 3, 4, 5, 6, 7] [2, 3, 4, 5, 6, 7, 0, 1] ([]) (by decide) rfl rfl)
      have hsz := hST.size
      refine LW_e (.inl rfl) rfl (by decide) (E_callM (args := [(.pointer (some ⟨b_a0, 0, none⟩)), (.agg (encRole ((⟨a2.Who, a1.Word2⟩ : Role))).toArray), (.agg (encRole a1.Head).toArray)]) (caps := #[]) (((b_a0, Obj.cells (#[v_a0_in_, v_a0_creds, v_a0_uses, v_a0_words, v_a0_todo, (.int .i64 a0_n)] : Array Value) 134 (0, 0)) :: (R_a0_in_ ++ (R_a0_creds ++ (R_a0_uses ++ (R_a0_words ++ (R_a0_todo ++ []))))))) (((b3, Obj.cells ((encFact a2).toArray : Array Value) 78 (0, 0)) :: ((b1, Obj.cells ((encCred a1).toArray : Array Value) 83 (0, 0)) :: []))) hST (by simp only [List.append_assoc, List.cons_append, List.nil_append]; exact List.Perm.refl _) rfl Tryz.call187 (by exact args3 rfl rfl rfl) (fun hH hN hsb hmm => (w_model_Model_all_w b_a0 v_a0_in_ a0_in_ R_a0_in_ v_a0_creds a0_creds R_a0_creds v_a0_uses a0_uses R_a0_uses v_a0_words a0_words R_a0_words v_a0_todo a0_todo R_a0_todo a0_n ((⟨a2.Who, a1.Word2⟩ : Role)) a1.Head _ _ hH hN (Sub.refl _) h_a0_in_ h_a0_creds h_a0_uses h_a0_words h_a0_todo hr22)) (fun W23 v26 μ24 L28 hST hle25 hlift hK27 => ?_))
      obtain ⟨S29, y31, S32, hv34, rfl, hy30, hy33⟩ := hK27
      replace hv34 := hv34.symm; subst hv34
      simp only [List.append_assoc, List.cons_append, List.nil_append] at hST
      replace hST : ST false (keys ((b_a0, Obj.cells (#[v_a0_in_, v_a0_creds, v_a0_uses, v_a0_words, v_a0_todo, (.int .i64 a0_n)] : Array Value) 134 (0, 0)) :: (R_a0_in_ ++ (R_a0_creds ++ (R_a0_uses ++ (R_a0_words ++ (R_a0_todo ++ []))))))) w _ _ ((b_a0, Obj.cells (#[v_a0_in_, v_a0_creds, v_a0_uses, v_a0_words, y31, (.int .i64 (r21.2.2))] : Array Value) 134 (0, 0)) :: ((b3, Obj.cells ((encFact a2).toArray : Array Value) 78 (0, 0)) :: ((b1, Obj.cells ((encCred a1).toArray : Array Value) 83 (0, 0)) :: (S29 ++ (R_a0_creds ++ (R_a0_uses ++ (R_a0_words ++ (S32 ++ [])))))))) := hST.perm (permD [[(b_a0, Obj.cells (#[v_a0_in_, v_a0_creds, v_a0_uses, v_a0_words, y31, (.int .i64 (r21.2.2))] : Array Value) 134 (0, 0))], S29, R_a0_creds, R_a0_uses, R_a0_words, S32, [(b3, Obj.cells ((encFact a2).toArray : Array Value) 78 (0, 0))], [(b1, Obj.cells ((encCred a1).toArray : Array Value) 83 (0, 0))]] [0, 1, 2, 3, 4, 5, 6, 7] [0, 6, 7, 1, 2, 3, 4, 5] ([]) (by decide) rfl rfl)
      refine LW_nil ?_
      refine bq_n ?_
      refine retQ_n ?_
      replace hm := Option.some.inj hm; subst hm
      refine retQ_0 rfl ?_
      replace hST : ST false (keys ((b_a0, Obj.cells (#[v_a0_in_, v_a0_creds, v_a0_uses, v_a0_words, v_a0_todo, (.int .i64 a0_n)] : Array Value) 134 (0, 0)) :: (R_a0_in_ ++ (R_a0_creds ++ (R_a0_uses ++ (R_a0_words ++ (R_a0_todo ++ []))))))) w _ _ ((b_a0, Obj.cells (#[v_a0_in_, v_a0_creds, v_a0_uses, v_a0_words, y31, (.int .i64 (r21.2.2))] : Array Value) 134 (0, 0)) :: ((b3, Obj.cells ((encFact a2).toArray : Array Value) 78 (0, 0)) :: ((b1, Obj.cells ((encCred a1).toArray : Array Value) 83 (0, 0)) :: (S29 ++ (R_a0_creds ++ (R_a0_uses ++ (R_a0_words ++ (S32 ++ [])))))))) := hST
      exact ⟨_, ((b_a0, Obj.cells (#[v_a0_in_, v_a0_creds, v_a0_uses, v_a0_words, y31, (.int .i64 (r21.2.2))] : Array Value) 134 (0, 0)) :: (S29 ++ (R_a0_creds ++ (R_a0_uses ++ (R_a0_words ++ (S32 ++ [])))))), rfl, (ST.backM (L1 := ((b_a0, Obj.cells (#[v_a0_in_, v_a0_creds, v_a0_uses, v_a0_words, y31, (.int .i64 (r21.2.2))] : Array Value) 134 (0, 0)) :: (S29 ++ (R_a0_creds ++ (R_a0_uses ++ (R_a0_words ++ (S32 ++ []))))))) (by have hh : ST false (keys ((b_a0, Obj.cells (#[v_a0_in_, v_a0_creds, v_a0_uses, v_a0_words, v_a0_todo, (.int .i64 a0_n)] : Array Value) 134 (0, 0)) :: (R_a0_in_ ++ (R_a0_creds ++ (R_a0_uses ++ (R_a0_words ++ (R_a0_todo ++ []))))))) w _ _ ((b_a0, Obj.cells (#[v_a0_in_, v_a0_creds, v_a0_uses, v_a0_words, y31, (.int .i64 (r21.2.2))] : Array Value) 134 (0, 0)) :: (S29 ++ (R_a0_creds ++ (R_a0_uses ++ (R_a0_words ++ (S32 ++ ((b3, Obj.cells ((encFact a2).toArray : Array Value) 78 (0, 0)) :: ((b1, Obj.cells ((encCred a1).toArray : Array Value) 83 (0, 0)) :: [])))))))) := hST.perm (permD [[(b_a0, Obj.cells (#[v_a0_in_, v_a0_creds, v_a0_uses, v_a0_words, y31, (.int .i64 (r21.2.2))] : Array Value) 134 (0, 0))], [(b3, Obj.cells ((encFact a2).toArray : Array Value) 78 (0, 0))], [(b1, Obj.cells ((encCred a1).toArray : Array Value) 83 (0, 0))], S29, R_a0_creds, R_a0_uses, R_a0_words, S32] [0, 1, 2, 3, 4, 5, 6, 7] [0, 3, 4, 5, 6, 7, 1, 2] ([]) (by decide) rfl rfl); simpa only [List.append_assoc, List.cons_append, List.nil_append] using hh)), S29, y31, S32, rfl, rfl, hy30, hy33⟩
    · replace hm := if_f hb20 hm
      refine CW_seq ?_
      refine CW_region ?_
      refine LW_v (.inl rfl) rfl (by decide) (R_int (k := .i64) (a := a1.Kind) (b := 4) (v := (.bool ((a1.Kind == 4)))) rfl rfl rfl) ?_
      refine LW_v (.inl rfl) rfl (by decide) (R_assign (v := (.bool ((a1.Kind == 4)))) rfl) ?_
      refine LW_nil ?_
      refine sq_n ?_
      refine CW_if (b := (a1.Kind == 4)) rfl (fun hb35 => ?_) (fun hb35 => ?_)
      · replace hm := if_t hb35 hm
        refine CW_seq ?_
        refine PX_start (fun l W => Has μ0 ((b3, Obj.cells ((encFact a2).toArray : Array Value) 78 (0, 0)) :: ((b1, Obj.cells ((encCred a1).toArray : Array Value) 83 (0, 0)) :: ((b_a0, Obj.cells (#[v_a0_in_, v_a0_creds, v_a0_uses, v_a0_words, v_a0_todo, (.int .i64 a0_n)] : Array Value) 134 (0, 0)) :: (R_a0_in_ ++ [])))) W) Tryz_mixed ?_
        replace hST := hST.drew
        have hS0 : Has μ0 ((b3, Obj.cells ((encFact a2).toArray : Array Value) 78 (0, 0)) :: ((b1, Obj.cells ((encCred a1).toArray : Array Value) 83 (0, 0)) :: ((b_a0, Obj.cells (#[v_a0_in_, v_a0_creds, v_a0_uses, v_a0_words, v_a0_todo, (.int .i64 a0_n)] : Array Value) 134 (0, 0)) :: (R_a0_in_ ++ [])))) _ := hST.has.sub (Sub.refl _) (fun p hq => ((List.mem_cons.1 hq).elim (fun hq => by rw [hq]; exact (.head _)) (fun hq => ((List.mem_cons.1 hq).elim (fun hq => by rw [hq]; exact (.tail _ (.head _))) (fun hq => ((List.mem_cons.1 hq).elim (fun hq => by rw [hq]; exact (.tail _ (.tail _ (.head _)))) (fun hq => ((List.mem_append.1 hq).elim (fun hq => (.tail _ (.tail _ (.tail _ (List.mem_append_left _ hq))))) (fun hq => (absurd hq List.not_mem_nil))))))))))
        refine PX_v 0 rfl (by kernel_rfl) (.inl rfl) rfl (by decide) (fun _ _ h => h) hS0 (fun _ _ _ _ => R_move (v := (.pointer (some ⟨b_a0, 0, none⟩))) rfl) ?_
        refine PX_v 1 rfl (by kernel_rfl) (.inl rfl) rfl (by decide) (fun _ _ h => h) hS0 (fun _ _ _ _ => R_nilCheck rfl) ?_
        refine PX_v 2 rfl (by kernel_rfl) (.inl rfl) rfl (by decide) (fun _ _ h => h) hS0 (fun _ _ _ _ => R_field fa134_0 rfl) ?_
        refine PX_v 3 rfl (by kernel_rfl) (.inl rfl) rfl (by decide) (fun _ _ h => h) hS0 (fun l W hpd hs => have hS := hs; R_load (v := v_a0_in_) rfl (load_box1 hS (.tail _ (.tail _ (.head _))) rfl Tryz.isAgg130)) ?_
        refine PX_v 4 rfl (by kernel_rfl) (.inl rfl) rfl (by decide) (fun _ _ h => h) hS0 (fun _ _ _ _ => R_field fa83_3 rfl) ?_
        refine PX_v 5 rfl (by kernel_rfl) (.inl rfl) rfl (by decide) (fun _ _ h => h) hS0 (fun l W hpd hs => have hS := hs; R_load (v := (.agg (encRole a1.B).toArray)) rfl (load_boxA hS (.tail _ (.head _)) (encRole a1.B) rfl Tryz.isAgg47 Tryz.sizeOf47)) ?_
        obtain ⟨lv64, hd65⟩ := h_a0_in_
        refine PX_v 6 rfl (by kernel_rfl) (.inl rfl) rfl (by decide) (fun _ _ h => h) hS0 (fun l W hpd hs => have hS := hs; R_lookupDeep (k := a1.B) (z := (.map none)) kl47 Tryz.underlying130 Tryz.zeroValue119 rfl rfl hd65 (fun b o hq => hS.2 b o (.tail _ (.tail _ (.tail _ (List.mem_append_left _ hq)))))) ?_
        refine PX_v 7 rfl (by kernel_rfl) (.inl rfl) rfl (by decide) (fun _ _ h => h) hS0 (fun _ _ _ _ => R_field fa78_1 rfl) ?_
        refine PX_v 8 rfl (by kernel_rfl) (.inl rfl) rfl (by decide) (fun _ _ h => h) hS0 (fun l W hpd hs => have hS := hs; R_load (v := (.string a2.Who)) rfl (load_box1 hS (.head _) rfl Tryz.isAgg9)) ?_
        refine PX_v 9 rfl (by kernel_rfl) (.inl rfl) rfl (by decide) (fun _ _ h => h) hS0 (fun l W hpd hs => have hS := hs; R_lookupD (k := a2.Who) (z := false) (vf := (fun (x : Bool) => (Value.bool x))) kl9 Tryz.underlying119 Tryz.zeroValue4 rfl rfl (DeepV.mapAt (μ := hp _) beqRole_iff.1 hd65 a1.B (fun b o hq => hS.2 b o (.tail _ (.tail _ (.tail _ (List.mem_append_left _ hq))))))) ?_
        refine PX_v 10 rfl (by kernel_rfl) (.inl rfl) rfl (by decide) (fun _ _ h => h) hS0 (fun _ _ _ _ => R_move (v := (.bool ((mgetD beqS (((mget beqRole a0_in_ a1.B).getD [])) a2.Who false)))) rfl) ?_
        obtain ⟨s89, hm90, hm91⟩ := bind_some hm
        refine PX_join (J := fun E W => ∃ (x67 : Bool) (L68 : List (Nat × Obj)), ST false (keys ((b_a0, Obj.cells (#[v_a0_in_, v_a0_creds, v_a0_uses, v_a0_words, v_a0_todo, (.int .i64 a0_n)] : Array Value) 134 (0, 0)) :: (R_a0_in_ ++ (R_a0_creds ++ (R_a0_uses ++ (R_a0_words ++ (R_a0_todo ++ []))))))) w W μ0 ((b3, Obj.cells ((encFact a2).toArray : Array Value) 78 (0, 0)) :: ((b1, Obj.cells ((encCred a1).toArray : Array Value) 83 (0, 0)) :: ((b_a0, Obj.cells (#[v_a0_in_, v_a0_creds, v_a0_uses, v_a0_words, v_a0_todo, (.int .i64 a0_n)] : Array Value) 134 (0, 0)) :: (R_a0_in_ ++ (R_a0_creds ++ (R_a0_uses ++ (R_a0_words ++ (R_a0_todo ++ L68)))))))) ∧ E 0 = (.pointer (some ⟨b_a0, 0, none⟩)) ∧ E 4 = (.pointer (some ⟨b1, 0, none⟩)) ∧ E 5 = (.pointer (some ⟨b3, 0, none⟩)) ∧ E 50 = (.bool x67) ∧ (if x67 then (((m_model_Model_tell_w a0_in_ a0_creds a0_uses a0_words a0_todo a0_n a1.Head a2.Who)).bind fun r75 => some (r75.1, r75.2.1, r75.2.2)) else some (a0_in_, a0_todo, a0_n)) = some r) #[true, true, true, true, true, true, true, true, true, true, true, true, true, true, true, true, true, true, true, true, true, true] 0 ?_ (fun key92 => ?_)
        · rintro E W ⟨x67, L68, hST, e70, e71, e72, e73, hm69⟩
          have hS0 : Has μ0 ((b3, Obj.cells ((encFact a2).toArray : Array Value) 78 (0, 0)) :: ((b1, Obj.cells ((encCred a1).toArray : Array Value) 83 (0, 0)) :: ((b_a0, Obj.cells (#[v_a0_in_, v_a0_creds, v_a0_uses, v_a0_words, v_a0_todo, (.int .i64 a0_n)] : Array Value) 134 (0, 0)) :: (R_a0_in_ ++ [])))) _ := hST.has.sub (Sub.refl _) (fun p hq => ((List.mem_cons.1 hq).elim (fun hq => by rw [hq]; exact (.head _)) (fun hq => ((List.mem_cons.1 hq).elim (fun hq => by rw [hq]; exact (.tail _ (.head _))) (fun hq => ((List.mem_cons.1 hq).elim (fun hq => by rw [hq]; exact (.tail _ (.tail _ (.head _)))) (fun hq => ((List.mem_append.1 hq).elim (fun hq => (.tail _ (.tail _ (.tail _ (List.mem_append_left _ hq))))) (fun hq => (absurd hq List.not_mem_nil))))))))))
          refine PX_done (by kernel_rfl) ?_
          refine sq_n ?_
          refine CW_if (b := x67) e73 (fun hb74 => ?_) (fun hb74 => ?_)
          · replace hm69 := if_t hb74 hm69
            refine CW_region ?_
            refine LW_v (.inl rfl) rfl (by decide) (R_move (v := (.pointer (some ⟨b_a0, 0, none⟩))) e70) ?_
            refine LW_v (.inl rfl) rfl (by decide) (R_field fa83_1 e71) ?_
            refine LW_v (.inl rfl) rfl (by decide) (R_load (v := (.agg (encRole a1.Head).toArray)) rfl (load_boxA hST.has (.tail _ (.head _)) (encRole a1.Head) rfl Tryz.isAgg47 Tryz.sizeOf47)) ?_
            refine LW_v (.inl rfl) rfl (by decide) (R_field fa78_1 e72) ?_
            refine LW_v (.inl rfl) rfl (by decide) (R_load (v := (.string a2.Who)) rfl (load_box1 hST.has (.head _) rfl Tryz.isAgg9)) ?_
            obtain ⟨r75, hr76, hm69⟩ := bind_some hm69
            replace hST : ST false (keys ((b_a0, Obj.cells (#[v_a0_in_, v_a0_creds, v_a0_uses, v_a0_words, v_a0_todo, (.int .i64 a0_n)] : Array Value) 134 (0, 0)) :: (R_a0_in_ ++ (R_a0_creds ++ (R_a0_uses ++ (R_a0_words ++ (R_a0_todo ++ []))))))) w _ _ ((b_a0, Obj.cells (#[v_a0_in_, v_a0_creds, v_a0_uses, v_a0_words, v_a0_todo, (.int .i64 a0_n)] : Array Value) 134 (0, 0)) :: (R_a0_in_ ++ (R_a0_creds ++ (R_a0_uses ++ (R_a0_words ++ (R_a0_todo ++ ((b3, Obj.cells ((encFact a2).toArray : Array Value) 78 (0, 0)) :: ((b1, Obj.cells ((encCred a1).toArray : Array Value) 83 (0, 0)) :: L68)))))))) := hST.perm (permD [[(b3, Obj.cells ((encFact a2).toArray : Array Value) 78 (0, 0))], [(b1, Obj.cells ((encCred a1).toArray : Array Value) 83 (0, 0))], [(b_a0, Obj.cells (#[v_a0_in_, v_a0_creds, v_a0_uses, v_a0_words, v_a0_todo, (.int .i64 a0_n)] : Array Value) 134 (0, 0))], R_a0_in_, R_a0_creds, R_a0_uses, R_a0_words, R_a0_todo] [0, 1, 2, 3, 4, 5, 6, 7] [2, 3, 4, 5, 6, 7, 0, 1] L68 (by decide) rfl rfl)
            have hsz := hST.size
            refine LW_e (.inl rfl) rfl (by decide) (E_callM (args := [(.pointer (some ⟨b_a0, 0, none⟩)), (.agg (encRole a1.Head).toArray), (.string a2.Who)]) (caps := #[]) (((b_a0, Obj.cells (#[v_a0_in_, v_a0_creds, v_a0_uses, v_a0_words, v_a0_todo, (.int .i64 a0_n)] : Array Value) 134 (0, 0)) :: (R_a0_in_ ++ (R_a0_creds ++ (R_a0_uses ++ (R_a0_words ++ (R_a0_todo ++ []))))))) (((b3, Obj.cells ((encFact a2).toArray : Array Value) 78 (0, 0)) :: ((b1, Obj.cells ((encCred a1).toArray : Array Value) 83 (0, 0)) :: L68))) hST (by simp only [List.append_assoc, List.cons_append, List.nil_append]; exact List.Perm.refl _) rfl Tryz.call146 (by exact args3 rfl rfl rfl) (fun hH hN hsb hmm => GivesM.weak (w_model_Model_tell_w b_a0 v_a0_in_ a0_in_ R_a0_in_ v_a0_creds a0_creds R_a0_creds v_a0_uses a0_uses R_a0_uses v_a0_words a0_words R_a0_words v_a0_todo a0_todo R_a0_todo a0_n a1.Head a2.Who _ _ hH hN (Sub.refl _) hd65.e h_a0_creds h_a0_uses h_a0_words h_a0_todo hr76)) (fun W77 v80 μ78 L82 hST hle79 hlift hK81 => ?_))
            obtain ⟨S83, y85, S86, hv88, rfl, hy84, hy87⟩ := hK81
            replace hv88 := hv88.symm; subst hv88
            simp only [List.append_assoc, List.cons_append, List.nil_append] at hST
            replace hST : ST false (keys ((b_a0, Obj.cells (#[v_a0_in_, v_a0_creds, v_a0_uses, v_a0_words, v_a0_todo, (.int .i64 a0_n)] : Array Value) 134 (0, 0)) :: (R_a0_in_ ++ (R_a0_creds ++ (R_a0_uses ++ (R_a0_words ++ (R_a0_todo ++ []))))))) w _ _ ((b_a0, Obj.cells (#[v_a0_in_, v_a0_creds, v_a0_uses, v_a0_words, y85, (.int .i64 (r75.2.2))] : Array Value) 134 (0, 0)) :: ((b3, Obj.cells ((encFact a2).toArray : Array Value) 78 (0, 0)) :: ((b1, Obj.cells ((encCred a1).toArray : Array Value) 83 (0, 0)) :: (S83 ++ (R_a0_creds ++ (R_a0_uses ++ (R_a0_words ++ (S86 ++ L68)))))))) := hST.perm (permD [[(b_a0, Obj.cells (#[v_a0_in_, v_a0_creds, v_a0_uses, v_a0_words, y85, (.int .i64 (r75.2.2))] : Array Value) 134 (0, 0))], S83, R_a0_creds, R_a0_uses, R_a0_words, S86, [(b3, Obj.cells ((encFact a2).toArray : Array Value) 78 (0, 0))], [(b1, Obj.cells ((encCred a1).toArray : Array Value) 83 (0, 0))]] [0, 1, 2, 3, 4, 5, 6, 7] [0, 6, 7, 1, 2, 3, 4, 5] L68 (by decide) rfl rfl)
            refine LW_nil ?_
            refine bq_n ?_
            refine retQ_n ?_
            replace hm69 := Option.some.inj hm69; subst hm69
            refine retQ_0 rfl ?_
            replace hST : ST false (keys ((b_a0, Obj.cells (#[v_a0_in_, v_a0_creds, v_a0_uses, v_a0_words, v_a0_todo, (.int .i64 a0_n)] : Array Value) 134 (0, 0)) :: (R_a0_in_ ++ (R_a0_creds ++ (R_a0_uses ++ (R_a0_words ++ (R_a0_todo ++ []))))))) w _ _ ((b_a0, Obj.cells (#[v_a0_in_, v_a0_creds, v_a0_uses, v_a0_words, y85, (.int .i64 (r75.2.2))] : Array Value) 134 (0, 0)) :: ((b3, Obj.cells ((encFact a2).toArray : Array Value) 78 (0, 0)) :: ((b1, Obj.cells ((encCred a1).toArray : Array Value) 83 (0, 0)) :: (S83 ++ (R_a0_creds ++ (R_a0_uses ++ (R_a0_words ++ (S86 ++ L68)))))))) := hST
            exact ⟨_, ((b_a0, Obj.cells (#[v_a0_in_, v_a0_creds, v_a0_uses, v_a0_words, y85, (.int .i64 (r75.2.2))] : Array Value) 134 (0, 0)) :: (S83 ++ (R_a0_creds ++ (R_a0_uses ++ (R_a0_words ++ (S86 ++ [])))))), rfl, (ST.backM (L1 := ((b_a0, Obj.cells (#[v_a0_in_, v_a0_creds, v_a0_uses, v_a0_words, y85, (.int .i64 (r75.2.2))] : Array Value) 134 (0, 0)) :: (S83 ++ (R_a0_creds ++ (R_a0_uses ++ (R_a0_words ++ (S86 ++ []))))))) (by have hh : ST false (keys ((b_a0, Obj.cells (#[v_a0_in_, v_a0_creds, v_a0_uses, v_a0_words, v_a0_todo, (.int .i64 a0_n)] : Array Value) 134 (0, 0)) :: (R_a0_in_ ++ (R_a0_creds ++ (R_a0_uses ++ (R_a0_words ++ (R_a0_todo ++ []))))))) w _ _ ((b_a0, Obj.cells (#[v_a0_in_, v_a0_creds, v_a0_uses, v_a0_words, y85, (.int .i64 (r75.2.2))] : Array Value) 134 (0, 0)) :: (S83 ++ (R_a0_creds ++ (R_a0_uses ++ (R_a0_words ++ (S86 ++ ((b3, Obj.cells ((encFact a2).toArray : Array Value) 78 (0, 0)) :: ((b1, Obj.cells ((encCred a1).toArray : Array Value) 83 (0, 0)) :: L68)))))))) := hST.perm (permD [[(b_a0, Obj.cells (#[v_a0_in_, v_a0_creds, v_a0_uses, v_a0_words, y85, (.int .i64 (r75.2.2))] : Array Value) 134 (0, 0))], [(b3, Obj.cells ((encFact a2).toArray : Array Value) 78 (0, 0))], [(b1, Obj.cells ((encCred a1).toArray : Array Value) 83 (0, 0))], S83, R_a0_creds, R_a0_uses, R_a0_words, S86] [0, 1, 2, 3, 4, 5, 6, 7] [0, 3, 4, 5, 6, 7, 1, 2] L68 (by decide) rfl rfl); simpa only [List.append_assoc, List.cons_append, List.nil_append] using hh)), S83, y85, S86, rfl, rfl, hy84, hy87⟩
          · replace hm69 := if_f hb74 hm69
            refine CW_skip ?_
            refine bq_n ?_
            refine retQ_n ?_
            replace hm69 := Option.some.inj hm69; subst hm69
            refine retQ_0 rfl ?_
            replace hST : ST false (keys ((b_a0, Obj.cells (#[v_a0_in_, v_a0_creds, v_a0_uses, v_a0_words, v_a0_todo, (.int .i64 a0_n)] : Array Value) 134 (0, 0)) :: (R_a0_in_ ++ (R_a0_creds ++ (R_a0_uses ++ (R_a0_words ++ (R_a0_todo ++ []))))))) w _ _ ((b3, Obj.cells ((encFact a2).toArray : Array Value) 78 (0, 0)) :: ((b1, Obj.cells ((encCred a1).toArray : Array Value) 83 (0, 0)) :: ((b_a0, Obj.cells (#[v_a0_in_, v_a0_creds, v_a0_uses, v_a0_words, v_a0_todo, (.int .i64 a0_n)] : Array Value) 134 (0, 0)) :: (R_a0_in_ ++ (R_a0_creds ++ (R_a0_uses ++ (R_a0_words ++ (R_a0_todo ++ L68)))))))) := hST
            exact ⟨_, ((b_a0, Obj.cells (#[v_a0_in_, v_a0_creds, v_a0_uses, v_a0_words, v_a0_todo, (.int .i64 a0_n)] : Array Value) 134 (0, 0)) :: (R_a0_in_ ++ (R_a0_creds ++ (R_a0_uses ++ (R_a0_words ++ (R_a0_todo ++ [])))))), rfl, (ST.backM (L1 := ((b_a0, Obj.cells (#[v_a0_in_, v_a0_creds, v_a0_uses, v_a0_words, v_a0_todo, (.int .i64 a0_n)] : Array Value) 134 (0, 0)) :: (R_a0_in_ ++ (R_a0_creds ++ (R_a0_uses ++ (R_a0_words ++ (R_a0_todo ++ []))))))) (by have hh : ST false (keys ((b_a0, Obj.cells (#[v_a0_in_, v_a0_creds, v_a0_uses, v_a0_words, v_a0_todo, (.int .i64 a0_n)] : Array Value) 134 (0, 0)) :: (R_a0_in_ ++ (R_a0_creds ++ (R_a0_uses ++ (R_a0_words ++ (R_a0_todo ++ []))))))) w _ _ ((b_a0, Obj.cells (#[v_a0_in_, v_a0_creds, v_a0_uses, v_a0_words, v_a0_todo, (.int .i64 a0_n)] : Array Value) 134 (0, 0)) :: (R_a0_in_ ++ (R_a0_creds ++ (R_a0_uses ++ (R_a0_words ++ (R_a0_todo ++ ((b3, Obj.cells ((encFact a2).toArray : Array Value) 78 (0, 0)) :: ((b1, Obj.cells ((encCred a1).toArray : Array Value) 83 (0, 0)) :: L68)))))))) := hST.perm (permD [[(b3, Obj.cells ((encFact a2).toArray : Array Value) 78 (0, 0))], [(b1, Obj.cells ((encCred a1).toArray : Array Value) 83 (0, 0))], [(b_a0, Obj.cells (#[v_a0_in_, v_a0_creds, v_a0_uses, v_a0_words, v_a0_todo, (.int .i64 a0_n)] : Array Value) 134 (0, 0))], R_a0_in_, R_a0_creds, R_a0_uses, R_a0_words, R_a0_todo] [0, 1, 2, 3, 4, 5, 6, 7] [2, 3, 4, 5, 6, 7, 0, 1] L68 (by decide) rfl rfl); simpa only [List.append_assoc, List.cons_append, List.nil_append] using hh)), R_a0_in_, v_a0_todo, R_a0_todo, rfl, rfl, hd65.e, h_a0_todo⟩
        · rcases bool_cases ((mgetD beqS (((mget beqRole a0_in_ a1.B).getD [])) a2.Who false)) with hb66 | hb66
          · replace hm90 := if_t hb66 hm90
            refine PX_v 11 rfl (by kernel_rfl) (.inr ⟨10, true, 39, rfl, rfl, by decide, (congrArg Value.bool hb66)⟩) rfl (by decide) (fun _ _ h => h) hS0 (fun _ _ _ _ => R_move (v := (.pointer (some ⟨b_a0, 0, none⟩))) rfl) ?_
            refine PX_v 12 rfl (by kernel_rfl) (.inr ⟨10, true, 39, rfl, rfl, by decide, (congrArg Value.bool hb66)⟩) rfl (by decide) (fun _ _ h => h) hS0 (fun _ _ _ _ => R_nilCheck rfl) ?_
            refine PX_v 13 rfl (by kernel_rfl) (.inr ⟨10, true, 39, rfl, rfl, by decide, (congrArg Value.bool hb66)⟩) rfl (by decide) (fun _ _ h => h) hS0 (fun _ _ _ _ => R_field fa134_0 rfl) ?_
            refine PX_v 14 rfl (by kernel_rfl) (.inr ⟨10, true, 39, rfl, rfl, by decide, (congrArg Value.bool hb66)⟩) rfl (by decide) (fun _ _ h => h) hS0 (fun l W hpd hs => have hS := hs; R_load (v := v_a0_in_) rfl (load_box1 hS (.tail _ (.tail _ (.head _))) rfl Tryz.isAgg130)) ?_
            refine PX_v 15 rfl (by kernel_rfl) (.inr ⟨10, true, 39, rfl, rfl, by decide, (congrArg Value.bool hb66)⟩) rfl (by decide) (fun _ _ h => h) hS0 (fun _ _ _ _ => R_field fa83_4 rfl) ?_
            refine PX_v 16 rfl (by kernel_rfl) (.inr ⟨10, true, 39, rfl, rfl, by decide, (congrArg Value.bool hb66)⟩) rfl (by decide) (fun _ _ h => h) hS0 (fun l W hpd hs => have hS := hs; R_load (v := (.agg (encRole a1.C).toArray)) rfl (load_boxA hS (.tail _ (.head _)) (encRole a1.C) rfl Tryz.isAgg47 Tryz.sizeOf47)) ?_
            refine PX_v 17 rfl (by kernel_rfl) (.inr ⟨10, true, 39, rfl, rfl, by decide, (congrArg Value.bool hb66)⟩) rfl (by decide) (fun _ _ h => h) hS0 (fun l W hpd hs => have hS := hs; R_lookupDeep (k := a1.C) (z := (.map none)) kl47 Tryz.underlying130 Tryz.zeroValue119 rfl rfl hd65 (fun b o hq => hS.2 b o (.tail _ (.tail _ (.tail _ (List.mem_append_left _ hq)))))) ?_
            refine PX_v 18 rfl (by kernel_rfl) (.inr ⟨10, true, 39, rfl, rfl, by decide, (congrArg Value.bool hb66)⟩) rfl (by decide) (fun _ _ h => h) hS0 (fun _ _ _ _ => R_field fa78_1 rfl) ?_
            refine PX_v 19 rfl (by kernel_rfl) (.inr ⟨10, true, 39, rfl, rfl, by decide, (congrArg Value.bool hb66)⟩) rfl (by decide) (fun _ _ h => h) hS0 (fun l W hpd hs => have hS := hs; R_load (v := (.string a2.Who)) rfl (load_box1 hS (.head _) rfl Tryz.isAgg9)) ?_
            refine PX_v 20 rfl (by kernel_rfl) (.inr ⟨10, true, 39, rfl, rfl, by decide, (congrArg Value.bool hb66)⟩) rfl (by decide) (fun _ _ h => h) hS0 (fun l W hpd hs => have hS := hs; R_lookupD (k := a2.Who) (z := false) (vf := (fun (x : Bool) => (Value.bool x))) kl9 Tryz.underlying119 Tryz.zeroValue4 rfl rfl (DeepV.mapAt (μ := hp _) beqRole_iff.1 hd65 a1.C (fun b o hq => hS.2 b o (.tail _ (.tail _ (.tail _ (List.mem_append_left _ hq))))))) ?_
            refine PX_v 21 rfl (by kernel_rfl) (.inl rfl) rfl (by decide) (fun _ _ h => h) hS0 (fun _ _ _ _ => R_pickT (v := (.bool ((mgetD beqS (((mget beqRole a0_in_ a1.C).getD [])) a2.Who false)))) (congrArg Value.bool hb66) rfl) ?_
            replace hm90 := Option.some.inj hm90; subst hm90
            refine PX_at (by kernel_rfl) (key92 _ _ ⟨((mgetD beqS (((mget beqRole a0_in_ a1.C).getD [])) a2.Who false)), _, (hST.sublist (List.Sublist.refl _)), rfl, rfl, rfl, rfl, hm91⟩)
          · replace hm90 := if_f hb66 hm90
            refine PX_no 11 rfl (by kernel_rfl) rfl rfl (by decide) (congrArg Value.bool hb66) rfl (by decide) (fun _ _ h => h) hS0 ?_
            refine PX_no 12 rfl (by kernel_rfl) rfl rfl (by decide) (congrArg Value.bool hb66) rfl (by decide) (fun _ _ h => h) hS0 ?_
            refine PX_no 13 rfl (by kernel_rfl) rfl rfl (by decide) (congrArg Value.bool hb66) rfl (by decide) (fun _ _ h => h) hS0 ?_
            refine PX_no 14 rfl (by kernel_rfl) rfl rfl (by decide) (congrArg Value.bool hb66) rfl (by decide) (fun _ _ h => h) hS0 ?_
            refine PX_no 15 rfl (by kernel_rfl) rfl rfl (by decide) (congrArg Value.bool hb66) rfl (by decide) (fun _ _ h => h) hS0 ?_
            refine PX_no 16 rfl (by kernel_rfl) rfl rfl (by decide) (congrArg Value.bool hb66) rfl (by decide) (fun _ _ h => h) hS0 ?_
            refine PX_no 17 rfl (by kernel_rfl) rfl rfl (by decide) (congrArg Value.bool hb66) rfl (by decide) (fun _ _ h => h) hS0 ?_
            refine PX_no 18 rfl (by kernel_rfl) rfl rfl (by decide) (congrArg Value.bool hb66) rfl (by decide) (fun _ _ h => h) hS0 ?_
            refine PX_no 19 rfl (by kernel_rfl) rfl rfl (by decide) (congrArg Value.bool hb66) rfl (by decide) (fun _ _ h => h) hS0 ?_
            refine PX_no 20 rfl (by kernel_rfl) rfl rfl (by decide) (congrArg Value.bool hb66) rfl (by decide) (fun _ _ h => h) hS0 ?_
            refine PX_v 21 rfl (by kernel_rfl) (.inl rfl) rfl (by decide) (fun _ _ h => h) hS0 (fun _ _ _ _ => R_pickF (v := (.bool false)) (congrArg Value.bool hb66) rfl) ?_
            replace hm90 := Option.some.inj hm90; subst hm90
            refine PX_at (by kernel_rfl) (key92 _ _ ⟨false, _, (hST.sublist (List.Sublist.refl _)), rfl, rfl, rfl, rfl, hm91⟩)
      · replace hm := if_f hb35 hm
        refine CW_skip ?_
        refine bq_n ?_
        refine retQ_n ?_
        replace hm := Option.some.inj hm; subst hm
        refine retQ_0 rfl ?_
        replace hST : ST false (keys ((b_a0, Obj.cells (#[v_a0_in_, v_a0_creds, v_a0_uses, v_a0_words, v_a0_todo, (.int .i64 a0_n)] : Array Value) 134 (0, 0)) :: (R_a0_in_ ++ (R_a0_creds ++ (R_a0_uses ++ (R_a0_words ++ (R_a0_todo ++ []))))))) w _ _ ((b3, Obj.cells ((encFact a2).toArray : Array Value) 78 (0, 0)) :: ((b1, Obj.cells ((encCred a1).toArray : Array Value) 83 (0, 0)) :: ((b_a0, Obj.cells (#[v_a0_in_, v_a0_creds, v_a0_uses, v_a0_words, v_a0_todo, (.int .i64 a0_n)] : Array Value) 134 (0, 0)) :: (R_a0_in_ ++ (R_a0_creds ++ (R_a0_uses ++ (R_a0_words ++ (R_a0_todo ++ [])))))))) := hST
        exact ⟨_, ((b_a0, Obj.cells (#[v_a0_in_, v_a0_creds, v_a0_uses, v_a0_words, v_a0_todo, (.int .i64 a0_n)] : Array Value) 134 (0, 0)) :: (R_a0_in_ ++ (R_a0_creds ++ (R_a0_uses ++ (R_a0_words ++ (R_a0_todo ++ [])))))), rfl, (ST.backM (L1 := ((b_a0, Obj.cells (#[v_a0_in_, v_a0_creds, v_a0_uses, v_a0_words, v_a0_todo, (.int .i64 a0_n)] : Array Value) 134 (0, 0)) :: (R_a0_in_ ++ (R_a0_creds ++ (R_a0_uses ++ (R_a0_words ++ (R_a0_todo ++ []))))))) (by have hh : ST false (keys ((b_a0, Obj.cells (#[v_a0_in_, v_a0_creds, v_a0_uses, v_a0_words, v_a0_todo, (.int .i64 a0_n)] : Array Value) 134 (0, 0)) :: (R_a0_in_ ++ (R_a0_creds ++ (R_a0_uses ++ (R_a0_words ++ (R_a0_todo ++ []))))))) w _ _ ((b_a0, Obj.cells (#[v_a0_in_, v_a0_creds, v_a0_uses, v_a0_words, v_a0_todo, (.int .i64 a0_n)] : Array Value) 134 (0, 0)) :: (R_a0_in_ ++ (R_a0_creds ++ (R_a0_uses ++ (R_a0_words ++ (R_a0_todo ++ ((b3, Obj.cells ((encFact a2).toArray : Array Value) 78 (0, 0)) :: ((b1, Obj.cells ((encCred a1).toArray : Array Value) 83 (0, 0)) :: [])))))))) := hST.perm (permD [[(b3, Obj.cells ((encFact a2).toArray : Array Value) 78 (0, 0))], [(b1, Obj.cells ((encCred a1).toArray : Array Value) 83 (0, 0))], [(b_a0, Obj.cells (#[v_a0_in_, v_a0_creds, v_a0_uses, v_a0_words, v_a0_todo, (.int .i64 a0_n)] : Array Value) 134 (0, 0))], R_a0_in_, R_a0_creds, R_a0_uses, R_a0_words, R_a0_todo] [0, 1, 2, 3, 4, 5, 6, 7] [2, 3, 4, 5, 6, 7, 0, 1] ([]) (by decide) rfl rfl); simpa only [List.append_assoc, List.cons_append, List.nil_append] using hh)), R_a0_in_, v_a0_todo, R_a0_todo, rfl, rfl, h_a0_in_, h_a0_todo⟩
theorem w_model_Model_begin_w (b_a0 : Nat) (v_a0_in_ : Value) (a0_in_ : List (Role × (List (ByteArray × Bool)))) (R_a0_in_ : List (Nat × Obj)) (v_a0_creds : Value) (a0_creds : List Cred) (R_a0_creds : List (Nat × Obj)) (v_a0_uses : Value) (a0_uses : List (Role × (List Cred))) (R_a0_uses : List (Nat × Obj)) (v_a0_words : Value) (a0_words : List (ByteArray × (List Cred))) (R_a0_words : List (Nat × Obj)) (v_a0_todo : Value) (a0_todo : List Fact) (R_a0_todo : List (Nat × Obj)) (a0_n : Int) (a1 : Cred) (r : ((List (Role × (List (ByteArray × Bool)))) × (List Fact) × Int)) (w : World) {μ0 : Mem} (hH : Held ((b_a0, Obj.cells (#[v_a0_in_, v_a0_creds, v_a0_uses, v_a0_words, v_a0_todo, (.int .i64 a0_n)] : Array Value) 134 (0, 0)) :: (R_a0_in_ ++ (R_a0_creds ++ (R_a0_uses ++ (R_a0_words ++ (R_a0_todo ++ [])))))) w) (hN : ((((b_a0, Obj.cells (#[v_a0_in_, v_a0_creds, v_a0_uses, v_a0_words, v_a0_todo, (.int .i64 a0_n)] : Array Value) 134 (0, 0)) :: (R_a0_in_ ++ (R_a0_creds ++ (R_a0_uses ++ (R_a0_words ++ (R_a0_todo ++ [])))))) : List (Nat × Obj)).map (·.1)).Nodup) (hS0 : Sub μ0 (hpx w ((b_a0, Obj.cells (#[v_a0_in_, v_a0_creds, v_a0_uses, v_a0_words, v_a0_todo, (.int .i64 a0_n)] : Array Value) 134 (0, 0)) :: (R_a0_in_ ++ (R_a0_creds ++ (R_a0_uses ++ (R_a0_words ++ (R_a0_todo ++ [])))))))) (h_a0_in_ : DeepE (fun (x : Role) => (.agg (encRole x).toArray)) (MapRow Value.string (fun (x : Bool) => (Value.bool x))) v_a0_in_ a0_in_ R_a0_in_) (h_a0_creds : Row 83 encCred 9 v_a0_creds a0_creds R_a0_creds) (h_a0_uses : DeepE (fun (x : Role) => (.agg (encRole x).toArray)) (Row 83 encCred 9) v_a0_uses a0_uses R_a0_uses) (h_a0_words : DeepE Value.string (Row 83 encCred 9) v_a0_words a0_words R_a0_words) (h_a0_todo : Que 78 encFact 3 v_a0_todo a0_todo R_a0_todo) (hm : m_model_Model_begin_w a0_in_ a0_creds a0_uses a0_words a0_todo a0_n a1 = some r) :
    GivesM false Tryz.prog 101 [(.pointer (some ⟨b_a0, 0, none⟩)), (.agg (encCred a1).toArray)] w ((b_a0, Obj.cells (#[v_a0_in_, v_a0_creds, v_a0_uses, v_a0_words, v_a0_todo, (.int .i64 a0_n)] : Array Value) 134 (0, 0)) :: (R_a0_in_ ++ (R_a0_creds ++ (R_a0_uses ++ (R_a0_words ++ (R_a0_todo ++ [])))))) (fun v L1 W' => ∃ (S1 : List (Nat × Obj)) (y3 : Value) (S4 : List (Nat × Obj)), v = (.tuple #[]) ∧ L1 = ((b_a0, Obj.cells (#[v_a0_in_, v_a0_creds, v_a0_uses, v_a0_words, y3, (.int .i64 (r.2.2))] : Array Value) 134 (0, 0)) :: (S1 ++ (R_a0_creds ++ (R_a0_uses ++ (R_a0_words ++ (S4 ++ [])))))) ∧ DeepE (fun (x : Role) => (.agg (encRole x).toArray)) (MapRow Value.string (fun (x : Bool) => (Value.bool x))) v_a0_in_ r.1 S1 ∧ Que 78 encFact 3 y3 r.2.1 S4) := by
  have hST := (ST.startM (dd := false) hH hN).weak hS0
  unfold m_model_Model_begin_w at hm
  refine calls_of_CW (n := 33) Tryz.func101 rfl rfl (Nat.le_of_ble_eq_true rfl) ?_
  refine CW_seq ?_
  refine CW_region ?_
  refine LW_e (.inl rfl) rfl (by decide) (E_box (v := (.agg (encCred a1).toArray)) hST rfl (fun W2 b1 hST => ?_))
  refine LW_nil ?_
  refine sq_n ?_
  refine CW_seq ?_
  refine CW_region ?_
  refine LW_v (.inl rfl) rfl (by decide) (R_field fa83_0 rfl) ?_
  refine LW_v (.inl rfl) rfl (by decide) (R_load (v := (.int .i64 a1.Kind)) rfl (load_box1 hST.has (.head _) rfl Tryz.isAgg3)) ?_
  refine LW_nil ?_
  refine sq_n ?_
  refine CW_block ?_
  refine CW_seq ?_
  refine CW_region ?_
  refine LW_v (.inl rfl) rfl (by decide) (R_int (k := .i64) (a := a1.Kind) (b := 1) (v := (.bool ((a1.Kind == 1)))) rfl rfl rfl) ?_
  refine LW_v (.inl rfl) rfl (by decide) (R_assign (v := (.bool ((a1.Kind == 1)))) rfl) ?_
  refine LW_nil ?_
  refine sq_n ?_
  refine CW_if (b := (a1.Kind == 1)) rfl (fun hb3 => ?_) (fun hb3 => ?_)
  · replace hm := if_t hb3 hm
    refine CW_region ?_
    refine LW_v (.inl rfl) rfl (by decide) (R_move (v := (.pointer (some ⟨b_a0, 0, none⟩))) rfl) ?_
    refine LW_v (.inl rfl) rfl (by decide) (R_field fa83_1 rfl) ?_
    refine LW_v (.inl rfl) rfl (by decide) (R_load (v := (.agg (encRole a1.Head).toArray)) rfl (load_boxA hST.has (.head _) (encRole a1.Head) rfl Tryz.isAgg47 Tryz.sizeOf47)) ?_
    refine LW_v (.inl rfl) rfl (by decide) (R_field fa83_2 rfl) ?_
    refine LW_v (.inl rfl) rfl (by decide) (R_load (v := (.string a1.Who)) rfl (load_box1 hST.has (.head _) rfl Tryz.isAgg9)) ?_
    obtain ⟨r4, hr5, hm⟩ := bind_some hm
    replace hST : ST false (keys ((b_a0, Obj.cells (#[v_a0_in_, v_a0_creds, v_a0_uses, v_a0_words, v_a0_todo, (.int .i64 a0_n)] : Array Value) 134 (0, 0)) :: (R_a0_in_ ++ (R_a0_creds ++ (R_a0_uses ++ (R_a0_words ++ (R_a0_todo ++ []))))))) w _ _ ((b_a0, Obj.cells (#[v_a0_in_, v_a0_creds, v_a0_uses, v_a0_words, v_a0_todo, (.int .i64 a0_n)] : Array Value) 134 (0, 0)) :: (R_a0_in_ ++ (R_a0_creds ++ (R_a0_uses ++ (R_a0_words ++ (R_a0_todo ++ ((b1, Obj.cells ((encCred a1).toArray : Array Value) 83 (0, 0)) :: []))))))) := hST.perm (permD [[(b1, Obj.cells ((encCred a1).toArray : Array Value) 83 (0, 0))], [(b_a0, Obj.cells (#[v_a0_in_, v_a0_creds, v_a0_uses, v_a0_words, v_a0_todo, (.int .i64 a0_n)] : Array Value) 134 (0, 0))], R_a0_in_, R_a0_creds, R_a0_uses, R_a0_words, R_a0_todo] [0, 1, 2, 3, 4, 5, 6] [1, 2, 3, 4, 5, 6, 0] ([]) (by decide) rfl rfl)
    have hsz := hST.size
    refine LW_e (.inl rfl) rfl (by decide) (E_callM (args := [(.pointer (some ⟨b_a0, 0, none⟩)), (.agg (encRole a1.Head).toArray), (.string a1.Who)]) (caps := #[]) (((b_a0, Obj.cells (#[v_a0_in_, v_a0_creds, v_a0_uses, v_a0_words, v_a0_todo, (.int .i64 a0_n)] : Array Value) 134 (0, 0)) :: (R_a0_in_ ++ (R_a0_creds ++ (R_a0_uses ++ (R_a0_words ++ (R_a0_todo ++ []))))))) (((b1, Obj.cells ((encCred a1).toArray : Array Value) 83 (0, 0)) :: [])) hST (by simp only [List.append_assoc, List.cons_append, List.nil_append]; exact List.Perm.refl _) rfl Tryz.call146 (by exact args3 rfl rfl rfl) (fun hH hN hsb hmm => GivesM.weak (w_model_Model_tell_w b_a0 v_a0_in_ a0_in_ R_a0_in_ v_a0_creds a0_creds R_a0_creds v_a0_uses a0_uses R_a0_uses v_a0_words a0_words R_a0_words v_a0_todo a0_todo R_a0_todo a0_n a1.Head a1.Who _ _ hH hN (Sub.refl _) h_a0_in_ h_a0_creds h_a0_uses h_a0_words h_a0_todo hr5)) (fun W6 v9 μ7 L11 hST hle8 hlift hK10 => ?_))
    obtain ⟨S12, y14, S15, hv17, rfl, hy13, hy16⟩ := hK10
    replace hv17 := hv17.symm; subst hv17
    simp only [List.append_assoc, List.cons_append, List.nil_append] at hST
    replace hST : ST false (keys ((b_a0, Obj.cells (#[v_a0_in_, v_a0_creds, v_a0_uses, v_a0_words, v_a0_todo, (.int .i64 a0_n)] : Array Value) 134 (0, 0)) :: (R_a0_in_ ++ (R_a0_creds ++ (R_a0_uses ++ (R_a0_words ++ (R_a0_todo ++ []))))))) w _ _ ((b_a0, Obj.cells (#[v_a0_in_, v_a0_creds, v_a0_uses, v_a0_words, y14, (.int .i64 (r4.2.2))] : Array Value) 134 (0, 0)) :: ((b1, Obj.cells ((encCred a1).toArray : Array Value) 83 (0, 0)) :: (S12 ++ (R_a0_creds ++ (R_a0_uses ++ (R_a0_words ++ (S15 ++ []))))))) := hST.perm (permD [[(b_a0, Obj.cells (#[v_a0_in_, v_a0_creds, v_a0_uses, v_a0_words, y14, (.int .i64 (r4.2.2))] : Array Value) 134 (0, 0))], S12, R_a0_creds, R_a0_uses, R_a0_words, S15, [(b1, Obj.cells ((encCred a1).toArray : Array Value) 83 (0, 0))]] [0, 1, 2, 3, 4, 5, 6] [0, 6, 1, 2, 3, 4, 5] ([]) (by decide) rfl rfl)
    refine LW_nil ?_
    refine bq_n ?_
    refine retQ_n ?_
    replace hm := Option.some.inj hm; subst hm
    refine retQ_0 rfl ?_
    replace hST : ST false (keys ((b_a0, Obj.cells (#[v_a0_in_, v_a0_creds, v_a0_uses, v_a0_words, v_a0_todo, (.int .i64 a0_n)] : Array Value) 134 (0, 0)) :: (R_a0_in_ ++ (R_a0_creds ++ (R_a0_uses ++ (R_a0_words ++ (R_a0_todo ++ []))))))) w _ _ ((b_a0, Obj.cells (#[v_a0_in_, v_a0_creds, v_a0_uses, v_a0_words, y14, (.int .i64 (r4.2.2))] : Array Value) 134 (0, 0)) :: ((b1, Obj.cells ((encCred a1).toArray : Array Value) 83 (0, 0)) :: (S12 ++ (R_a0_creds ++ (R_a0_uses ++ (R_a0_words ++ (S15 ++ []))))))) := hST
    exact ⟨_, ((b_a0, Obj.cells (#[v_a0_in_, v_a0_creds, v_a0_uses, v_a0_words, y14, (.int .i64 (r4.2.2))] : Array Value) 134 (0, 0)) :: (S12 ++ (R_a0_creds ++ (R_a0_uses ++ (R_a0_words ++ (S15 ++ [])))))), rfl, (ST.backM (L1 := ((b_a0, Obj.cells (#[v_a0_in_, v_a0_creds, v_a0_uses, v_a0_words, y14, (.int .i64 (r4.2.2))] : Array Value) 134 (0, 0)) :: (S12 ++ (R_a0_creds ++ (R_a0_uses ++ (R_a0_words ++ (S15 ++ []))))))) (by have hh : ST false (keys ((b_a0, Obj.cells (#[v_a0_in_, v_a0_creds, v_a0_uses, v_a0_words, v_a0_todo, (.int .i64 a0_n)] : Array Value) 134 (0, 0)) :: (R_a0_in_ ++ (R_a0_creds ++ (R_a0_uses ++ (R_a0_words ++ (R_a0_todo ++ []))))))) w _ _ ((b_a0, Obj.cells (#[v_a0_in_, v_a0_creds, v_a0_uses, v_a0_words, y14, (.int .i64 (r4.2.2))] : Array Value) 134 (0, 0)) :: (S12 ++ (R_a0_creds ++ (R_a0_uses ++ (R_a0_words ++ (S15 ++ ((b1, Obj.cells ((encCred a1).toArray : Array Value) 83 (0, 0)) :: []))))))) := hST.perm (permD [[(b_a0, Obj.cells (#[v_a0_in_, v_a0_creds, v_a0_uses, v_a0_words, y14, (.int .i64 (r4.2.2))] : Array Value) 134 (0, 0))], [(b1, Obj.cells ((encCred a1).toArray : Array Value) 83 (0, 0))], S12, R_a0_creds, R_a0_uses, R_a0_words, S15] [0, 1, 2, 3, 4, 5, 6] [0, 2, 3, 4, 5, 6, 1] ([]) (by decide) rfl rfl); simpa only [List.append_assoc, List.cons_append, List.nil_append] using hh)), S12, y14, S15, rfl, rfl, hy13, hy16⟩
  · replace hm := if_f hb3 hm
    refine CW_seq ?_
    refine CW_region ?_
    refine LW_v (.inl rfl) rfl (by decide) (R_move (v := (.pointer (some ⟨b_a0, 0, none⟩))) rfl) ?_
    refine LW_v (.inl rfl) rfl (by decide) (R_field fa83_3 rfl) ?_
    refine LW_v (.inl rfl) rfl (by decide) (R_load (v := (.agg (encRole a1.B).toArray)) rfl (load_boxA hST.has (.head _) (encRole a1.B) rfl Tryz.isAgg47 Tryz.sizeOf47)) ?_
    obtain ⟨r18, hr19, hm⟩ := bind_some hm
    refine LW_e (.inl rfl) rfl (by decide) (E_givesRow (args := [(.pointer (some ⟨b_a0, 0, none⟩)), (.agg (encRole a1.B).toArray)]) [_, _] _ hST rfl Tryz.call37 (by exact args2 rfl rfl) ((w_model_Model_Members b_a0 v_a0_in_ a0_in_ v_a0_creds a0_creds v_a0_uses a0_uses v_a0_words a0_words v_a0_todo a0_todo a0_n a1.B _ _ (h_a0_in_.at (fun b o hq => hST.at_ (.tail _ (.tail _ (List.mem_append_left _ hq))))) (h_a0_creds.sl lenCred (fun b o hq => hST.at_ (.tail _ (.tail _ (List.mem_append_right _ (List.mem_append_left _ hq)))))) (h_a0_uses.at (fun b o hq => hST.at_ (.tail _ (.tail _ (List.mem_append_right _ (List.mem_append_right _ (List.mem_append_left _ hq))))))) (h_a0_words.at (fun b o hq => hST.at_ (.tail _ (.tail _ (List.mem_append_right _ (List.mem_append_right _ (List.mem_append_right _ (List.mem_append_left _ hq)))))))) ((h_a0_todo.slL lenFact).mono (Pl.mono _) (memL_held (fun b o hq => hST.at_ (.tail _ (.tail _ (List.mem_append_right _ (List.mem_append_right _ (List.mem_append_right _ (List.mem_append_right _ (List.mem_append_left _ hq)))))))))) (At.of (hST.at_ (.tail _ (.head _))) _ rfl) hr19)) (fun W20 v23 μ21 R24 hST hle22 hR25 => ?_))
    refine LW_v (.inl rfl) rfl (by decide) (R_lenRow Tryz.underlying27 rfl hR25) ?_
    refine LW_v (.inl rfl) rfl (by decide) (R_move (v := (.int .i64 0)) rfl) ?_
    refine LW_nil ?_
    refine sq_n ?_
    refine CW_tail ?_
    replace hST : ST false (keys ((b_a0, Obj.cells (#[v_a0_in_, v_a0_creds, v_a0_uses, v_a0_words, v_a0_todo, (.int .i64 a0_n)] : Array Value) 134 (0, 0)) :: (R_a0_in_ ++ (R_a0_creds ++ (R_a0_uses ++ (R_a0_words ++ (R_a0_todo ++ []))))))) w _ _ ((b1, Obj.cells ((encCred a1).toArray : Array Value) 83 (0, 0)) :: ((b_a0, Obj.cells (#[v_a0_in_, v_a0_creds, v_a0_uses, v_a0_words, v_a0_todo, (.int .i64 a0_n)] : Array Value) 134 (0, 0)) :: (R24 ++ (R_a0_in_ ++ (R_a0_creds ++ (R_a0_uses ++ (R_a0_words ++ (R_a0_todo ++ [])))))))) := hST
    replace hST : ST false (keys ((b_a0, Obj.cells (#[v_a0_in_, v_a0_creds, v_a0_uses, v_a0_words, v_a0_todo, (.int .i64 a0_n)] : Array Value) 134 (0, 0)) :: (R_a0_in_ ++ (R_a0_creds ++ (R_a0_uses ++ (R_a0_words ++ (R_a0_todo ++ []))))))) w _ _ ((b_a0, Obj.cells (#[v_a0_in_, v_a0_creds, v_a0_uses, v_a0_words, v_a0_todo, (.int .i64 a0_n)] : Array Value) 134 (0, 0)) :: ((b1, Obj.cells ((encCred a1).toArray : Array Value) 83 (0, 0)) :: (R_a0_in_ ++ (R_a0_creds ++ (R_a0_uses ++ (R_a0_words ++ (R_a0_todo ++ (R24 ++ [])))))))) := hST.perm (permD [[(b1, Obj.cells ((encCred a1).toArray : Array Value) 83 (0, 0))], [(b_a0, Obj.cells (#[v_a0_in_, v_a0_creds, v_a0_uses, v_a0_words, v_a0_todo, (.int .i64 a0_n)] : Array Value) 134 (0, 0))], R24, R_a0_in_, R_a0_creds, R_a0_uses, R_a0_words, R_a0_todo] [0, 1, 2, 3, 4, 5, 6, 7] [1, 0, 3, 4, 5, 6, 7, 2] ([]) (by decide) rfl rfl)
    refine CW_range (fun i E W => ∃ (l137 : List (Role × (List (ByteArray × Bool)))) (R139 : List (Nat × Obj)) (v140 : Value) (l141 : List Fact) (R143 : List (Nat × Obj)) (x144 : Int) (μ136 : Mem) (L175 : List (Nat × Obj)), (E 13 = .int .i64 (i : Nat) ∧ E 12 = .int .i64 (r18.length : Nat)) ∧ Sub μ21 μ136 ∧ ST false (keys ((b_a0, Obj.cells (#[v_a0_in_, v_a0_creds, v_a0_uses, v_a0_words, v_a0_todo, (.int .i64 a0_n)] : Array Value) 134 (0, 0)) :: (R_a0_in_ ++ (R_a0_creds ++ (R_a0_uses ++ (R_a0_words ++ (R_a0_todo ++ []))))))) w W μ136 ((b_a0, Obj.cells (#[v_a0_in_, v_a0_creds, v_a0_uses, v_a0_words, v140, (.int .i64 x144)] : Array Value) 134 (0, 0)) :: ((b1, Obj.cells ((encCred a1).toArray : Array Value) 83 (0, 0)) :: (R139 ++ (R_a0_creds ++ (R_a0_uses ++ (R_a0_words ++ (R143 ++ (R24 ++ L175)))))))) ∧ E 0 = (.pointer (some ⟨b_a0, 0, none⟩)) ∧ E 3 = (.pointer (some ⟨b1, 0, none⟩)) ∧ E 11 = v23 ∧ DeepE (fun (x : Role) => (.agg (encRole x).toArray)) (MapRow Value.string (fun (x : Bool) => (Value.bool x))) v_a0_in_ l137 R139 ∧ Que 78 encFact 3 v140 l141 R143 ∧ m_model_Model_begin_w_L1 a0_creds a0_uses a0_words a1 (r18.drop i) l137 l141 x144 = some r) r18.length hR25.len ⟨a0_in_, R_a0_in_, v_a0_todo, a0_todo, R_a0_todo, a0_n, μ21, _, ⟨rfl, rfl⟩, (Sub.refl _), (hST.sublist (List.Sublist.refl _)), rfl, rfl, rfl, h_a0_in_, h_a0_todo, hm⟩ (by decide) (by decide) (by decide) (fun _ _ _ h => by obtain ⟨_, _, _, _, _, _, _, _, eIN, _⟩ := h; exact eIN) ?_ ?_
    · rintro i112 E W hi118 ⟨l137, R139, v140, l141, R143, x144, μ136, L175, ⟨eI, eN⟩, hle177, hST, e178, e179, e180, hs138, hs142, hm176⟩
      obtain ⟨x113, xs114, hx116, hx115, hx117⟩ := drop_cons hi118
      rw [hx116] at hm176
      rw [m_model_Model_begin_w_L1] at hm176
      refine CW_block ?_
      refine CW_seq ?_
      refine CW_region ?_
      refine LW_q (.inl rfl) rfl (by decide) (R_indexRow (i := (i112 : Int)) (x0 := x113) Tryz.underlying27 Tryz.sizeOf9 e180 eI hR25 (Int.natCast_nonneg _) hx115) (fun p181 hp182 => ?_)
      refine LW_v (.inl rfl) rfl (by decide) (R_load (v := (.string x113)) rfl (load_ix1 hST.has (fun p hq => by simp [hq]) hR25 (fun _ => rfl) hp182 hx115 (y := (.string x113)) rfl Tryz.isAgg9)) ?_
      refine LW_v (.inl rfl) rfl (by decide) (R_assign (v := (.string x113)) rfl) ?_
      refine LW_nil ?_
      refine sq_n ?_
      refine CW_region ?_
      refine LW_v (.inl rfl) rfl (by decide) (R_move (v := (.pointer (some ⟨b_a0, 0, none⟩))) e178) ?_
      refine LW_v (.inl rfl) rfl (by decide) (R_load (v := (.agg (encCred a1).toArray)) e179 (load_boxA hST.has (.tail _ (.head _)) (encCred a1) rfl Tryz.isAgg83 Tryz.sizeOf83)) ?_
      refine LW_v (.inl rfl) rfl (by decide) (R_field fa83_3 e179) ?_
      refine LW_v (.inl rfl) rfl (by decide) (R_load (v := (.agg (encRole a1.B).toArray)) rfl (load_boxA hST.has (.tail _ (.head _)) (encRole a1.B) rfl Tryz.isAgg47 Tryz.sizeOf47)) ?_
      refine LW_v (.inl rfl) rfl (by decide) (R_move (v := (.string x113)) rfl) ?_
      refine LW_v (.inl rfl) rfl (by decide) (R_build (qs := #[(0, (.agg (encRole a1.B).toArray)), (1, (.string x113))]) (v := (.agg (encFact ((⟨a1.B, x113⟩ : Fact))).toArray)) (parts2 rfl rfl) (run_build Tryz.zeroValue78 Tryz.underlying78 (pl78 _ Tryz.underlying78) (by kernel_rfl))) ?_
      obtain ⟨r184, hr185, hm176⟩ := bind_some hm176
      replace hST : ST false (keys ((b_a0, Obj.cells (#[v_a0_in_, v_a0_creds, v_a0_uses, v_a0_words, v_a0_todo, (.int .i64 a0_n)] : Array Value) 134 (0, 0)) :: (R_a0_in_ ++ (R_a0_creds ++ (R_a0_uses ++ (R_a0_words ++ (R_a0_todo ++ []))))))) w _ _ ((b_a0, Obj.cells (#[v_a0_in_, v_a0_creds, v_a0_uses, v_a0_words, v140, (.int .i64 x144)] : Array Value) 134 (0, 0)) :: (R139 ++ (R_a0_creds ++ (R_a0_uses ++ (R_a0_words ++ (R143 ++ ((b1, Obj.cells ((encCred a1).toArray : Array Value) 83 (0, 0)) :: (R24 ++ L175)))))))) := hST.perm (permD [[(b_a0, Obj.cells (#[v_a0_in_, v_a0_creds, v_a0_uses, v_a0_words, v140, (.int .i64 x144)] : Array Value) 134 (0, 0))], [(b1, Obj.cells ((encCred a1).toArray : Array Value) 83 (0, 0))], R139, R_a0_creds, R_a0_uses, R_a0_words, R143] [0, 1, 2, 3, 4, 5, 6] [0, 2, 3, 4, 5, 6, 1] ((R24 ++ L175)) (by decide) rfl rfl)
      have hsz := hST.size
      refine LW_e (.inl rfl) rfl (by decide) (E_callM (args := [(.pointer (some ⟨b_a0, 0, none⟩)), (.agg (encCred a1).toArray), (.agg (encFact ((⟨a1.B, x113⟩ : Fact))).toArray)]) (caps := #[]) (((b_a0, Obj.cells (#[v_a0_in_, v_a0_creds, v_a0_uses, v_a0_words, v140, (.int .i64 x144)] : Array Value) 134 (0, 0)) :: (R139 ++ (R_a0_creds ++ (R_a0_uses ++ (R_a0_words ++ (R143 ++ []))))))) (((b1, Obj.cells ((encCred a1).toArray : Array Value) 83 (0, 0)) :: (R24 ++ L175))) hST (by simp only [List.append_assoc, List.cons_append, List.nil_append]; exact List.Perm.refl _) rfl Tryz.call147 (by exact args3 rfl rfl rfl) (fun hH hN hsb hmm => (w_model_Model_use_w b_a0 v_a0_in_ l137 R139 v_a0_creds a0_creds R_a0_creds v_a0_uses a0_uses R_a0_uses v_a0_words a0_words R_a0_words v140 l141 R143 x144 a1 ((⟨a1.B, x113⟩ : Fact)) _ _ hH hN (Sub.refl _) hs138 h_a0_creds h_a0_uses h_a0_words hs142 hr185)) (fun W186 v189 μ187 L191 hST hle188 hlift hK190 => ?_))
      obtain ⟨S192, y194, S195, hv197, rfl, hy193, hy196⟩ := hK190
      replace hv197 := hv197.symm; subst hv197
      simp only [List.append_assoc, List.cons_append, List.nil_append] at hST
      replace hST : ST false (keys ((b_a0, Obj.cells (#[v_a0_in_, v_a0_creds, v_a0_uses, v_a0_words, v_a0_todo, (.int .i64 a0_n)] : Array Value) 134 (0, 0)) :: (R_a0_in_ ++ (R_a0_creds ++ (R_a0_uses ++ (R_a0_words ++ (R_a0_todo ++ []))))))) w _ _ ((b_a0, Obj.cells (#[v_a0_in_, v_a0_creds, v_a0_uses, v_a0_words, y194, (.int .i64 (r184.2.2))] : Array Value) 134 (0, 0)) :: ((b1, Obj.cells ((encCred a1).toArray : Array Value) 83 (0, 0)) :: (S192 ++ (R_a0_creds ++ (R_a0_uses ++ (R_a0_words ++ (S195 ++ (R24 ++ L175)))))))) := hST.perm (permD [[(b_a0, Obj.cells (#[v_a0_in_, v_a0_creds, v_a0_uses, v_a0_words, y194, (.int .i64 (r184.2.2))] : Array Value) 134 (0, 0))], S192, R_a0_creds, R_a0_uses, R_a0_words, S195, [(b1, Obj.cells ((encCred a1).toArray : Array Value) 83 (0, 0))]] [0, 1, 2, 3, 4, 5, 6] [0, 6, 1, 2, 3, 4, 5] ((R24 ++ L175)) (by decide) rfl rfl)
      refine LW_nil ?_
      refine bq_n ?_
      refine sq_n ?_
      exact ⟨eI, r184.1, S192, y194, r184.2.1, S195, r184.2.2, μ187, _, ⟨rfl, eN⟩, (hle177.trans hle188), (hST.sublist (List.Sublist.refl _)), e178, e179, e180, hy193, hy196, (by rw [hx117]; exact hm176)⟩
    · rintro E W ⟨l137, R139, v140, l141, R143, x144, μ136, L175, ⟨eI, eN⟩, hle177, hST, e178, e179, e180, hs138, hs142, hm176⟩
      rw [List.drop_length] at hm176
      rw [m_model_Model_begin_w_L1] at hm176
      refine sq_n ?_
      replace hST : ST false (keys ((b_a0, Obj.cells (#[v_a0_in_, v_a0_creds, v_a0_uses, v_a0_words, v_a0_todo, (.int .i64 a0_n)] : Array Value) 134 (0, 0)) :: (R_a0_in_ ++ (R_a0_creds ++ (R_a0_uses ++ (R_a0_words ++ (R_a0_todo ++ []))))))) w _ _ ((b_a0, Obj.cells (#[v_a0_in_, v_a0_creds, v_a0_uses, v_a0_words, v140, (.int .i64 x144)] : Array Value) 134 (0, 0)) :: (R139 ++ (R_a0_creds ++ (R_a0_uses ++ (R_a0_words ++ (R143 ++ L175)))))) := hST.sublist (List.Sublist.cons_cons _ (List.Sublist.cons _ (List.Sublist.append (List.Sublist.refl _) (List.Sublist.append (List.Sublist.refl _) (List.Sublist.append (List.Sublist.refl _) (List.Sublist.append (List.Sublist.refl _) (List.Sublist.append (List.Sublist.refl _) ((List.Sublist.refl _).trans (List.sublist_append_right _ _)))))))))
      refine bq_n ?_
      refine retQ_n ?_
      replace hm176 := Option.some.inj hm176; subst hm176
      refine retQ_0 rfl ?_
      replace hST : ST false (keys ((b_a0, Obj.cells (#[v_a0_in_, v_a0_creds, v_a0_uses, v_a0_words, v_a0_todo, (.int .i64 a0_n)] : Array Value) 134 (0, 0)) :: (R_a0_in_ ++ (R_a0_creds ++ (R_a0_uses ++ (R_a0_words ++ (R_a0_todo ++ []))))))) w _ _ ((b_a0, Obj.cells (#[v_a0_in_, v_a0_creds, v_a0_uses, v_a0_words, v140, (.int .i64 x144)] : Array Value) 134 (0, 0)) :: (R139 ++ (R_a0_creds ++ (R_a0_uses ++ (R_a0_words ++ (R143 ++ L175)))))) := hST
      exact ⟨_, ((b_a0, Obj.cells (#[v_a0_in_, v_a0_creds, v_a0_uses, v_a0_words, v140, (.int .i64 x144)] : Array Value) 134 (0, 0)) :: (R139 ++ (R_a0_creds ++ (R_a0_uses ++ (R_a0_words ++ (R143 ++ [])))))), rfl, (ST.backM (L1 := ((b_a0, Obj.cells (#[v_a0_in_, v_a0_creds, v_a0_uses, v_a0_words, v140, (.int .i64 x144)] : Array Value) 134 (0, 0)) :: (R139 ++ (R_a0_creds ++ (R_a0_uses ++ (R_a0_words ++ (R143 ++ []))))))) (by have hh : ST false (keys ((b_a0, Obj.cells (#[v_a0_in_, v_a0_creds, v_a0_uses, v_a0_words, v_a0_todo, (.int .i64 a0_n)] : Array Value) 134 (0, 0)) :: (R_a0_in_ ++ (R_a0_creds ++ (R_a0_uses ++ (R_a0_words ++ (R_a0_todo ++ []))))))) w _ _ ((b_a0, Obj.cells (#[v_a0_in_, v_a0_creds, v_a0_uses, v_a0_words, v140, (.int .i64 x144)] : Array Value) 134 (0, 0)) :: (R139 ++ (R_a0_creds ++ (R_a0_uses ++ (R_a0_words ++ (R143 ++ L175)))))) := hST.perm (List.Perm.refl _); simpa only [List.append_assoc, List.cons_append, List.nil_append] using hh)), R139, v140, R143, rfl, rfl, hs138, hs142⟩
theorem w_model_Model_settle_w (b_a0 : Nat) (v_a0_in_ : Value) (a0_in_ : List (Role × (List (ByteArray × Bool)))) (R_a0_in_ : List (Nat × Obj)) (v_a0_creds : Value) (a0_creds : List Cred) (R_a0_creds : List (Nat × Obj)) (v_a0_uses : Value) (a0_uses : List (Role × (List Cred))) (R_a0_uses : List (Nat × Obj)) (v_a0_words : Value) (a0_words : List (ByteArray × (List Cred))) (R_a0_words : List (Nat × Obj)) (v_a0_todo : Value) (a0_todo : List Fact) (R_a0_todo : List (Nat × Obj)) (a0_n : Int) (r : ((List (Role × (List (ByteArray × Bool)))) × (List Fact) × Int)) (w : World) {μ0 : Mem} (hH : Held ((b_a0, Obj.cells (#[v_a0_in_, v_a0_creds, v_a0_uses, v_a0_words, v_a0_todo, (.int .i64 a0_n)] : Array Value) 134 (0, 0)) :: (R_a0_in_ ++ (R_a0_creds ++ (R_a0_uses ++ (R_a0_words ++ (R_a0_todo ++ [])))))) w) (hN : ((((b_a0, Obj.cells (#[v_a0_in_, v_a0_creds, v_a0_uses, v_a0_words, v_a0_todo, (.int .i64 a0_n)] : Array Value) 134 (0, 0)) :: (R_a0_in_ ++ (R_a0_creds ++ (R_a0_uses ++ (R_a0_words ++ (R_a0_todo ++ [])))))) : List (Nat × Obj)).map (·.1)).Nodup) (hS0 : Sub μ0 (hpx w ((b_a0, Obj.cells (#[v_a0_in_, v_a0_creds, v_a0_uses, v_a0_words, v_a0_todo, (.int .i64 a0_n)] : Array Value) 134 (0, 0)) :: (R_a0_in_ ++ (R_a0_creds ++ (R_a0_uses ++ (R_a0_words ++ (R_a0_todo ++ [])))))))) (h_a0_in_ : DeepE (fun (x : Role) => (.agg (encRole x).toArray)) (MapRow Value.string (fun (x : Bool) => (Value.bool x))) v_a0_in_ a0_in_ R_a0_in_) (h_a0_creds : Row 83 encCred 9 v_a0_creds a0_creds R_a0_creds) (h_a0_uses : DeepE (fun (x : Role) => (.agg (encRole x).toArray)) (Row 83 encCred 9) v_a0_uses a0_uses R_a0_uses) (h_a0_words : DeepE Value.string (Row 83 encCred 9) v_a0_words a0_words R_a0_words) (h_a0_todo : Que 78 encFact 3 v_a0_todo a0_todo R_a0_todo) (hm : m_model_Model_settle_w a0_in_ a0_creds a0_uses a0_words a0_todo a0_n = some r) :
    GivesM false Tryz.prog 102 [(.pointer (some ⟨b_a0, 0, none⟩))] w ((b_a0, Obj.cells (#[v_a0_in_, v_a0_creds, v_a0_uses, v_a0_words, v_a0_todo, (.int .i64 a0_n)] : Array Value) 134 (0, 0)) :: (R_a0_in_ ++ (R_a0_creds ++ (R_a0_uses ++ (R_a0_words ++ (R_a0_todo ++ [])))))) (fun v L1 W' => ∃ (S1 : List (Nat × Obj)) (y3 : Value) (S4 : List (Nat × Obj)), v = (.tuple #[]) ∧ L1 = ((b_a0, Obj.cells (#[v_a0_in_, v_a0_creds, v_a0_uses, v_a0_words, y3, (.int .i64 (r.2.2))] : Array Value) 134 (0, 0)) :: (S1 ++ (R_a0_creds ++ (R_a0_uses ++ (R_a0_words ++ (S4 ++ [])))))) ∧ DeepE (fun (x : Role) => (.agg (encRole x).toArray)) (MapRow Value.string (fun (x : Bool) => (Value.bool x))) v_a0_in_ r.1 S1 ∧ Que 78 encFact 3 y3 r.2.1 S4) := by
  have hST := (ST.startM (dd := false) hH hN).weak hS0
  unfold m_model_Model_settle_w at hm
  refine calls_of_CW (n := 75) Tryz.func102 rfl rfl (Nat.le_of_ble_eq_true rfl) ?_
  refine CW_tail ?_
  refine CW_block (CW_loop (fun m E W => ∃ (l2027 : List (Role × (List (ByteArray × Bool)))) (R2029 : List (Nat × Obj)) (v2030 : Value) (l2031 : List Fact) (R2033 : List (Nat × Obj)) (x2034 : Int) (μ2026 : Mem) (L2546 : List (Nat × Obj)), Sub μ0 μ2026 ∧ ST false (keys ((b_a0, Obj.cells (#[v_a0_in_, v_a0_creds, v_a0_uses, v_a0_words, v_a0_todo, (.int .i64 a0_n)] : Array Value) 134 (0, 0)) :: (R_a0_in_ ++ (R_a0_creds ++ (R_a0_uses ++ (R_a0_words ++ (R_a0_todo ++ []))))))) w W μ2026 ((b_a0, Obj.cells (#[v_a0_in_, v_a0_creds, v_a0_uses, v_a0_words, v2030, (.int .i64 x2034)] : Array Value) 134 (0, 0)) :: (R2029 ++ (R_a0_creds ++ (R_a0_uses ++ (R_a0_words ++ (R2033 ++ L2546)))))) ∧ E 0 = (.pointer (some ⟨b_a0, 0, none⟩)) ∧ DeepE (fun (x : Role) => (.agg (encRole x).toArray)) (MapRow Value.string (fun (x : Bool) => (Value.bool x))) v_a0_in_ l2027 R2029 ∧ Que 78 encFact 3 v2030 l2031 R2033 ∧ m_model_Model_settle_w_L1 a0_creds a0_uses a0_words m l2027 l2031 x2034 = some r) FUEL ⟨a0_in_, R_a0_in_, v_a0_todo, a0_todo, R_a0_todo, a0_n, μ0, _, (Sub.refl _), (hST.sublist (List.Sublist.refl _)), rfl, h_a0_in_, h_a0_todo, hm⟩ ?_)
  rintro m E W ⟨l2027, R2029, v2030, l2031, R2033, x2034, μ2026, L2546, hle2549, hST, e2550, hs2028, hs2032, hm2547⟩
  cases m with
  | zero => rw [m_model_Model_settle_w_L1] at hm2547; cases hm2547
  | succ n2548 =>
    rw [m_model_Model_settle_w_L1] at hm2547
    refine CW_seq ?_
    refine CW_seq ?_
    refine CW_region ?_
    refine LW_v (.inl rfl) rfl (by decide) (R_move (v := (.pointer (some ⟨b_a0, 0, none⟩))) e2550) ?_
    refine LW_v (.inl rfl) rfl (by decide) (R_nilCheck rfl) ?_
    refine LW_v (.inl rfl) rfl (by decide) (R_field fa134_4 rfl) ?_
    refine LW_v (.inl rfl) rfl (by decide) (R_load (v := v2030) rfl (load_box1 hST.has (.head _) rfl Tryz.isAgg53)) ?_
    refine LW_v (.inl rfl) rfl (by decide) (R_lenQue Tryz.underlying53 rfl hs2032) ?_
    refine LW_v (.inl rfl) rfl (by decide) (R_int (k := .i64) (a := ((l2031.length : Int))) (b := 0) (v := (.bool ((decide (((l2031.length : Int)) > 0))))) rfl rfl rfl) ?_
    refine LW_nil ?_
    refine sq_n ?_
    refine CW_if (b := (decide (((l2031.length : Int)) > 0))) rfl (fun hb2551 => ?_) (fun hb2551 => ?_)
    · replace hm2547 := if_t hb2551 hm2547
      refine CW_skip ?_
      refine sq_n ?_
      refine CW_block ?_
      refine CW_seq ?_
      refine CW_region ?_
      refine LW_v (.inl rfl) rfl (by decide) (R_move (v := (.pointer (some ⟨b_a0, 0, none⟩))) e2550) ?_
      refine LW_v (.inl rfl) rfl (by decide) (R_nilCheck rfl) ?_
      refine LW_v (.inl rfl) rfl (by decide) (R_field fa134_4 rfl) ?_
      refine LW_v (.inl rfl) rfl (by decide) (R_load (v := v2030) rfl (load_box1 hST.has (.head _) rfl Tryz.isAgg53)) ?_
      obtain ⟨x2555, hx2556, hm2547⟩ := bind_some hm2547
      refine LW_q (.inl rfl) rfl (by decide) (R_indexP (enc := encFact) (i := 0) (x0 := x2555) Tryz.underlying53 Tryz.sizeOf78 rfl rfl (hs2032.slL lenFact) (idx_nonneg hx2556) (idx_get hx2556)) (fun p2552 hp2553 => ?_)
      refine LW_v (.inl rfl) rfl (by decide) (R_load rfl (load_atA (Has.hp _) (hp2553.mono (memL_held (fun b o hq => hST.has.2 b o (.tail _ (List.mem_append_right _ (List.mem_append_right _ (List.mem_append_right _ (List.mem_append_right _ (List.mem_append_left _ hq))))))))) Tryz.isAgg78 Tryz.sizeOf78)) ?_
      refine LW_e (.inl rfl) rfl (by decide) (E_alloc hST Tryz.zeroValue78 (fun W2558 b2557 hST => ?_))
      refine LW_e0 (.inl rfl) rfl (E_store [] (.agg (encFact x2555).toArray) ((encFact x2555).toArray) hST rfl rfl Tryz.sizeOf78 (oneFact x2555) (Nat.le_of_ble_eq_true rfl) rfl (fun W2559 hST => ?_))
      refine LW_nil ?_
      refine sq_n ?_
      refine CW_seq ?_
      refine CW_region ?_
      refine LW_v (.inl rfl) rfl (by decide) (R_move (v := (.pointer (some ⟨b_a0, 0, none⟩))) e2550) ?_
      refine LW_v (.inl rfl) rfl (by decide) (R_move (v := (.pointer (some ⟨b_a0, 0, none⟩))) e2550) ?_
      refine LW_v (.inl rfl) rfl (by decide) (R_nilCheck rfl) ?_
      refine LW_v (.inl rfl) rfl (by decide) (R_field fa134_4 rfl) ?_
      refine LW_v (.inl rfl) rfl (by decide) (R_load (v := v2030) rfl (load_box1 hST.has (.tail _ (.head _)) rfl Tryz.isAgg53)) ?_
      obtain ⟨_, hg2562, hm2547⟩ := bind_some hm2547
      refine LW_q (.inl rfl) rfl (by decide) (R_sliceQue (i := 1) Tryz.underlying53 Tryz.sizeOf78 rfl rfl lenFact hs2032 (chk_1 hg2562) (chk_2 hg2562)) (fun v2560 hs2561 => ?_)
      refine LW_v (.inl rfl) rfl (by decide) (R_nilCheck rfl) ?_
      refine LW_v (.inl rfl) rfl (by decide) (R_field fa134_4 rfl) ?_
      obtain ⟨A2563, c2564, rfl⟩ := hs2561.form
      refine LW_e0 (.inl rfl) rfl (E_store [_] (.slice A2563 ((l2031.drop (Int.toNat 1))).length c2564) (#[v_a0_in_, v_a0_creds, v_a0_uses, v_a0_words, (.slice A2563 ((l2031.drop (Int.toNat 1))).length c2564), (.int .i64 x2034)]) hST rfl rfl Tryz.sizeOf53 (by simp [Value.cells, Value.oneCell']) (Nat.le_of_ble_eq_true rfl) rfl (fun W2565 hST => ?_))
      refine LW_nil ?_
      refine sq_n ?_
      refine CW_seq ?_
      refine CW_seq ?_
      refine PX_start (fun l W => Has μ2026 ((b2557, Obj.cells ((encFact x2555).toArray : Array Value) 78 (0, 0)) :: ((b_a0, Obj.cells (#[v_a0_in_, v_a0_creds, v_a0_uses, v_a0_words, (.slice A2563 ((l2031.drop (Int.toNat 1))).length c2564), (.int .i64 x2034)] : Array Value) 134 (0, 0)) :: (R_a0_uses ++ []))) W) Tryz_mixed ?_
      replace hST := hST.drew
      replace hST : ST false (keys ((b_a0, Obj.cells (#[v_a0_in_, v_a0_creds, v_a0_uses, v_a0_words, v_a0_todo, (.int .i64 a0_n)] : Array Value) 134 (0, 0)) :: (R_a0_in_ ++ (R_a0_creds ++ (R_a0_uses ++ (R_a0_words ++ (R_a0_todo ++ []))))))) w _ _ ((b2557, Obj.cells ((encFact x2555).toArray : Array Value) 78 (0, 0)) :: ((b_a0, Obj.cells (#[v_a0_in_, v_a0_creds, v_a0_uses, v_a0_words, (.slice A2563 ((l2031.drop (Int.toNat 1))).length c2564), (.int .i64 x2034)] : Array Value) 134 (0, 0)) :: (R2029 ++ (R_a0_creds ++ (R_a0_uses ++ (R_a0_words ++ (R2033 ++ L2546))))))) := hST
      have hS0 : Has μ2026 ((b2557, Obj.cells ((encFact x2555).toArray : Array Value) 78 (0, 0)) :: ((b_a0, Obj.cells (#[v_a0_in_, v_a0_creds, v_a0_uses, v_a0_words, (.slice A2563 ((l2031.drop (Int.toNat 1))).length c2564), (.int .i64 x2034)] : Array Value) 134 (0, 0)) :: (R_a0_uses ++ []))) _ := hST.has.sub (Sub.refl _) (fun p hq => ((List.mem_cons.1 hq).elim (fun hq => by rw [hq]; exact (.head _)) (fun hq => ((List.mem_cons.1 hq).elim (fun hq => by rw [hq]; exact (.tail _ (.head _))) (fun hq => ((List.mem_append.1 hq).elim (fun hq => (.tail _ (.tail _ (List.mem_append_right _ (List.mem_append_right _ (List.mem_append_left _ hq)))))) (fun hq => (absurd hq List.not_mem_nil))))))))
      refine PX_v 0 rfl (by kernel_rfl) (.inl rfl) rfl (by decide) (fun _ _ h => h) hS0 (fun _ _ _ _ => R_move (v := (.pointer (some ⟨b_a0, 0, none⟩))) e2550) ?_
      refine PX_v 1 rfl (by kernel_rfl) (.inl rfl) rfl (by decide) (fun _ _ h => h) hS0 (fun _ _ _ _ => R_nilCheck rfl) ?_
      refine PX_v 2 rfl (by kernel_rfl) (.inl rfl) rfl (by decide) (fun _ _ h => h) hS0 (fun _ _ _ _ => R_field fa134_2 rfl) ?_
      refine PX_v 3 rfl (by kernel_rfl) (.inl rfl) rfl (by decide) (fun _ _ h => h) hS0 (fun l W hpd hs => have hS := hs; R_load (v := v_a0_uses) rfl (load_box1 hS (.tail _ (.head _)) rfl Tryz.isAgg131)) ?_
      refine PX_v 4 rfl (by kernel_rfl) (.inl rfl) rfl (by decide) (fun _ _ h => h) hS0 (fun _ _ _ _ => R_field fa78_0 rfl) ?_
      refine PX_v 5 rfl (by kernel_rfl) (.inl rfl) rfl (by decide) (fun _ _ h => h) hS0 (fun l W hpd hs => have hS := hs; R_load (v := (.agg (encRole x2555.Role).toArray)) rfl (load_boxA hS (.head _) (encRole x2555.Role) rfl Tryz.isAgg47 Tryz.sizeOf47)) ?_
      obtain ⟨lv2576, hd2577⟩ := h_a0_uses
      obtain ⟨R2578, hr2579, hs2580⟩ := DeepV.rowAt beqRole_iff.1 hd2577 x2555.Role
      refine PX_v 6 rfl (by kernel_rfl) (.inl rfl) rfl (by decide) (fun _ _ h => h) hS0 (fun l W hpd hs => have hS := hs; R_lookupDeep (k := x2555.Role) (z := (.slice none 0 0)) kl47 Tryz.underlying131 Tryz.zeroValue22 rfl rfl hd2577 (fun b o hq => hS.2 b o (.tail _ (.tail _ (List.mem_append_left _ hq))))) ?_
      refine PX_v 7 rfl (by kernel_rfl) (.inl rfl) rfl (by decide) (fun _ _ h => h) hS0 (fun _ _ _ _ => R_len Tryz.underlying22 rfl (hr2579.slL lenCred)) ?_
      refine PX_v 8 rfl (by kernel_rfl) (.inl rfl) rfl (by decide) (fun _ _ h => h) hS0 (fun _ _ _ _ => R_move (v := (.int .i64 0)) rfl) ?_
      refine PX_done (by kernel_rfl) ?_
      refine sq_n ?_
      obtain ⟨s2953, hm2954, hm2955⟩ := bind_some hm2547
      refine CW_cut (fun E W => ∃ (l2677 : List (Role × (List (ByteArray × Bool)))) (R2679 : List (Nat × Obj)) (v2680 : Value) (l2681 : List Fact) (R2683 : List (Nat × Obj)) (x2684 : Int) (μ2676 : Mem) (L2685 : List (Nat × Obj)), Sub μ2026 μ2676 ∧ ST false (keys ((b_a0, Obj.cells (#[v_a0_in_, v_a0_creds, v_a0_uses, v_a0_words, v_a0_todo, (.int .i64 a0_n)] : Array Value) 134 (0, 0)) :: (R_a0_in_ ++ (R_a0_creds ++ (R_a0_uses ++ (R_a0_words ++ (R_a0_todo ++ []))))))) w W μ2676 ((b_a0, Obj.cells (#[v_a0_in_, v_a0_creds, v_a0_uses, v_a0_words, v2680, (.int .i64 x2684)] : Array Value) 134 (0, 0)) :: ((b2557, Obj.cells ((encFact x2555).toArray : Array Value) 78 (0, 0)) :: (R2679 ++ (R_a0_creds ++ (R_a0_uses ++ (R_a0_words ++ (R2683 ++ L2685))))))) ∧ E 0 = (.pointer (some ⟨b_a0, 0, none⟩)) ∧ E 2 = (.pointer (some ⟨b2557, 0, none⟩)) ∧ DeepE (fun (x : Role) => (.agg (encRole x).toArray)) (MapRow Value.string (fun (x : Bool) => (Value.bool x))) v_a0_in_ l2677 R2679 ∧ Que 78 encFact 3 v2680 l2681 R2683 ∧ ((m_model_Model_settle_w_L2 x2555 a0_creds a0_uses a0_words (((mget beqS a0_words x2555.Role.Word).getD [])) l2677 l2681 x2684 : Option (((List (Role × (List (ByteArray × Bool)))) × (List Fact) × Int))).bind fun (l2822, l2826, x2829) => (m_model_Model_settle_w_L1 a0_creds a0_uses a0_words n2548 l2822 l2826 x2829)) = some r) ?_ ?_
      · replace hST : ST false (keys ((b_a0, Obj.cells (#[v_a0_in_, v_a0_creds, v_a0_uses, v_a0_words, v_a0_todo, (.int .i64 a0_n)] : Array Value) 134 (0, 0)) :: (R_a0_in_ ++ (R_a0_creds ++ (R_a0_uses ++ (R_a0_words ++ (R_a0_todo ++ []))))))) w _ _ ((b_a0, Obj.cells (#[v_a0_in_, v_a0_creds, v_a0_uses, v_a0_words, (.slice A2563 ((l2031.drop (Int.toNat 1))).length c2564), (.int .i64 x2034)] : Array Value) 134 (0, 0)) :: ((b2557, Obj.cells ((encFact x2555).toArray : Array Value) 78 (0, 0)) :: (R2029 ++ (R_a0_creds ++ (R_a0_uses ++ (R_a0_words ++ (R2033 ++ L2546))))))) := hST.perm (permD [[(b2557, Obj.cells ((encFact x2555).toArray : Array Value) 78 (0, 0))], [(b_a0, Obj.cells (#[v_a0_in_, v_a0_creds, v_a0_uses, v_a0_words, (.slice A2563 ((l2031.drop (Int.toNat 1))).length c2564), (.int .i64 x2034)] : Array Value) 134 (0, 0))]] [0, 1] [1, 0] ((R2029 ++ (R_a0_creds ++ (R_a0_uses ++ (R_a0_words ++ (R2033 ++ L2546)))))) (by decide) rfl rfl)
        refine CW_range (fun i E W => ∃ (l2984 : List (Role × (List (ByteArray × Bool)))) (R2986 : List (Nat × Obj)) (v2987 : Value) (l2988 : List Fact) (R2990 : List (Nat × Obj)) (x2991 : Int) (μ2983 : Mem) (L3025 : List (Nat × Obj)), (E 35 = .int .i64 (i : Nat) ∧ E 34 = .int .i64 ((((mget beqRole a0_uses x2555.Role).getD [])).length : Nat)) ∧ Sub μ2026 μ2983 ∧ ST false (keys ((b_a0, Obj.cells (#[v_a0_in_, v_a0_creds, v_a0_uses, v_a0_words, v_a0_todo, (.int .i64 a0_n)] : Array Value) 134 (0, 0)) :: (R_a0_in_ ++ (R_a0_creds ++ (R_a0_uses ++ (R_a0_words ++ (R_a0_todo ++ []))))))) w W μ2983 ((b_a0, Obj.cells (#[v_a0_in_, v_a0_creds, v_a0_uses, v_a0_words, v2987, (.int .i64 x2991)] : Array Value) 134 (0, 0)) :: ((b2557, Obj.cells ((encFact x2555).toArray : Array Value) 78 (0, 0)) :: (R2986 ++ (R_a0_creds ++ (R_a0_uses ++ (R_a0_words ++ (R2990 ++ L3025))))))) ∧ E 0 = (.pointer (some ⟨b_a0, 0, none⟩)) ∧ E 2 = (.pointer (some ⟨b2557, 0, none⟩)) ∧ E 33 = (valAt beqRole lv2576 x2555.Role (.slice none 0 0)) ∧ DeepE (fun (x : Role) => (.agg (encRole x).toArray)) (MapRow Value.string (fun (x : Bool) => (Value.bool x))) v_a0_in_ l2984 R2986 ∧ Que 78 encFact 3 v2987 l2988 R2990 ∧ m_model_Model_settle_w_L3 a0_creds a0_uses a0_words x2555 ((((mget beqRole a0_uses x2555.Role).getD [])).drop i) l2984 l2988 x2991 = some s2953) (((mget beqRole a0_uses x2555.Role).getD [])).length (hr2579.slL lenCred).len ⟨l2027, R2029, (.slice A2563 ((l2031.drop (Int.toNat 1))).length c2564), ((l2031.drop (Int.toNat 1))), R2033, x2034, μ2026, _, ⟨rfl, rfl⟩, (Sub.refl _), (hST.sublist (List.Sublist.refl _)), e2550, rfl, rfl, hs2028, hs2561, hm2954⟩ (by decide) (by decide) (by decide) (fun _ _ _ h => by obtain ⟨_, _, _, _, _, _, _, _, eIN, _⟩ := h; exact eIN) ?_ ?_
        · rintro i2956 E W hi2962 ⟨l2984, R2986, v2987, l2988, R2990, x2991, μ2983, L3025, ⟨eI, eN⟩, hle3027, hST, e3028, e3029, e3030, hs2985, hs2989, hm3026⟩
          obtain ⟨x2957, xs2958, hx2960, hx2959, hx2961⟩ := drop_cons hi2962
          rw [hx2960] at hm3026
          rw [m_model_Model_settle_w_L3] at hm3026
          refine CW_block ?_
          refine CW_seq ?_
          refine CW_region ?_
          refine LW_q (.inl rfl) rfl (by decide) (R_indexP (enc := encCred) (i := (i2956 : Int)) (x0 := x2957) Tryz.underlying22 Tryz.sizeOf83 e3030 eI (hr2579.slL lenCred) (Int.natCast_nonneg _) hx2959) (fun p3031 hp3032 => ?_)
          refine LW_v (.inl rfl) rfl (by decide) (R_load rfl (load_atA (Has.hp _) (hp3032.mono (memL_held (fun b o hq => hST.has.2 b o (.tail _ (.tail _ (List.mem_append_right _ (List.mem_append_right _ (List.mem_append_left _ (hs2580 b o hq))))))))) Tryz.isAgg83 Tryz.sizeOf83)) ?_
          refine LW_e (.inl rfl) rfl (by decide) (E_alloc hST Tryz.zeroValue83 (fun W3035 b3034 hST => ?_))
          refine LW_e0 (.inl rfl) rfl (E_store [] (.agg (encCred x2957).toArray) ((encCred x2957).toArray) hST rfl rfl Tryz.sizeOf83 (oneCred x2957) (Nat.le_of_ble_eq_true rfl) rfl (fun W3036 hST => ?_))
          refine LW_nil ?_
          refine sq_n ?_
          refine CW_region ?_
          refine LW_v (.inl rfl) rfl (by decide) (R_move (v := (.pointer (some ⟨b_a0, 0, none⟩))) e3028) ?_
          refine LW_v (.inl rfl) rfl (by decide) (R_load (v := (.agg (encCred x2957).toArray)) rfl (load_boxA hST.has (.head _) (encCred x2957) rfl Tryz.isAgg83 Tryz.sizeOf83)) ?_
          refine LW_v (.inl rfl) rfl (by decide) (R_load (v := (.agg (encFact x2555).toArray)) e3029 (load_boxA hST.has (.tail _ (.tail _ (.head _))) (encFact x2555) rfl Tryz.isAgg78 Tryz.sizeOf78)) ?_
          replace hST : ST false (keys ((b_a0, Obj.cells (#[v_a0_in_, v_a0_creds, v_a0_uses, v_a0_words, v_a0_todo, (.int .i64 a0_n)] : Array Value) 134 (0, 0)) :: (R_a0_in_ ++ (R_a0_creds ++ (R_a0_uses ++ (R_a0_words ++ (R_a0_todo ++ []))))))) w _ _ ((b3034, Obj.cells ((encCred x2957).toArray : Array Value) 83 (0, 0)) :: ((b_a0, Obj.cells (#[v_a0_in_, v_a0_creds, v_a0_uses, v_a0_words, v2987, (.int .i64 x2991)] : Array Value) 134 (0, 0)) :: ((b2557, Obj.cells ((encFact x2555).toArray : Array Value) 78 (0, 0)) :: (R2986 ++ (R_a0_creds ++ (R_a0_uses ++ (R_a0_words ++ (R2990 ++ L3025)))))))) := hST
          obtain ⟨r3037, hr3038, hm3026⟩ := bind_some hm3026
          replace hST : ST false (keys ((b_a0, Obj.cells (#[v_a0_in_, v_a0_creds, v_a0_uses, v_a0_words, v_a0_todo, (.int .i64 a0_n)] : Array Value) 134 (0, 0)) :: (R_a0_in_ ++ (R_a0_creds ++ (R_a0_uses ++ (R_a0_words ++ (R_a0_todo ++ []))))))) w _ _ ((b_a0, Obj.cells (#[v_a0_in_, v_a0_creds, v_a0_uses, v_a0_words, v2987, (.int .i64 x2991)] : Array Value) 134 (0, 0)) :: (R2986 ++ (R_a0_creds ++ (R_a0_uses ++ (R_a0_words ++ (R2990 ++ ((b3034, Obj.cells ((encCred x2957).toArray : Array Value) 83 (0, 0)) :: ((b2557, Obj.cells ((encFact x2555).toArray : Array Value) 78 (0, 0)) :: L3025)))))))) := hST.perm (permD [[(b3034, Obj.cells ((encCred x2957).toArray : Array Value) 83 (0, 0))], [(b_a0, Obj.cells (#[v_a0_in_, v_a0_creds, v_a0_uses, v_a0_words, v2987, (.int .i64 x2991)] : Array Value) 134 (0, 0))], [(b2557, Obj.cells ((encFact x2555).toArray : Array Value) 78 (0, 0))], R2986, R_a0_creds, R_a0_uses, R_a0_words, R2990] [0, 1, 2, 3, 4, 5, 6, 7] [1, 3, 4, 5, 6, 7, 0, 2] L3025 (by decide) rfl rfl)
          have hsz := hST.size
          refine LW_e (.inl rfl) rfl (by decide) (E_callM (args := [(.pointer (some ⟨b_a0, 0, none⟩)), (.agg (encCred x2957).toArray), (.agg (encFact x2555).toArray)]) (caps := #[]) (((b_a0, Obj.cells (#[v_a0_in_, v_a0_creds, v_a0_uses, v_a0_words, v2987, (.int .i64 x2991)] : Array Value) 134 (0, 0)) :: (R2986 ++ (R_a0_creds ++ (R_a0_uses ++ (R_a0_words ++ (R2990 ++ []))))))) (((b3034, Obj.cells ((encCred x2957).toArray : Array Value) 83 (0, 0)) :: ((b2557, Obj.cells ((encFact x2555).toArray : Array Value) 78 (0, 0)) :: L3025))) hST (by simp only [List.append_assoc, List.cons_append, List.nil_append]; exact List.Perm.refl _) rfl Tryz.call147 (by exact args3 rfl rfl rfl) (fun hH hN hsb hmm => (w_model_Model_use_w b_a0 v_a0_in_ l2984 R2986 v_a0_creds a0_creds R_a0_creds v_a0_uses a0_uses R_a0_uses v_a0_words a0_words R_a0_words v2987 l2988 R2990 x2991 x2957 x2555 _ _ hH hN (Sub.refl _) hs2985 h_a0_creds hd2577.e h_a0_words hs2989 hr3038)) (fun W3039 v3042 μ3040 L3044 hST hle3041 hlift hK3043 => ?_))
          obtain ⟨S3045, y3047, S3048, hv3050, rfl, hy3046, hy3049⟩ := hK3043
          replace hv3050 := hv3050.symm; subst hv3050
          simp only [List.append_assoc, List.cons_append, List.nil_append] at hST
          replace hST : ST false (keys ((b_a0, Obj.cells (#[v_a0_in_, v_a0_creds, v_a0_uses, v_a0_words, v_a0_todo, (.int .i64 a0_n)] : Array Value) 134 (0, 0)) :: (R_a0_in_ ++ (R_a0_creds ++ (R_a0_uses ++ (R_a0_words ++ (R_a0_todo ++ []))))))) w _ _ ((b_a0, Obj.cells (#[v_a0_in_, v_a0_creds, v_a0_uses, v_a0_words, y3047, (.int .i64 (r3037.2.2))] : Array Value) 134 (0, 0)) :: ((b3034, Obj.cells ((encCred x2957).toArray : Array Value) 83 (0, 0)) :: ((b2557, Obj.cells ((encFact x2555).toArray : Array Value) 78 (0, 0)) :: (S3045 ++ (R_a0_creds ++ (R_a0_uses ++ (R_a0_words ++ (S3048 ++ L3025)))))))) := hST.perm (permD [[(b_a0, Obj.cells (#[v_a0_in_, v_a0_creds, v_a0_uses, v_a0_words, y3047, (.int .i64 (r3037.2.2))] : Array Value) 134 (0, 0))], S3045, R_a0_creds, R_a0_uses, R_a0_words, S3048, [(b3034, Obj.cells ((encCred x2957).toArray : Array Value) 83 (0, 0))], [(b2557, Obj.cells ((encFact x2555).toArray : Array Value) 78 (0, 0))]] [0, 1, 2, 3, 4, 5, 6, 7] [0, 6, 7, 1, 2, 3, 4, 5] L3025 (by decide) rfl rfl)
          refine LW_nil ?_
          refine bq_n ?_
          refine sq_n ?_
          replace hST : ST false (keys ((b_a0, Obj.cells (#[v_a0_in_, v_a0_creds, v_a0_uses, v_a0_words, v_a0_todo, (.int .i64 a0_n)] : Array Value) 134 (0, 0)) :: (R_a0_in_ ++ (R_a0_creds ++ (R_a0_uses ++ (R_a0_words ++ (R_a0_todo ++ []))))))) w _ _ ((b_a0, Obj.cells (#[v_a0_in_, v_a0_creds, v_a0_uses, v_a0_words, y3047, (.int .i64 (r3037.2.2))] : Array Value) 134 (0, 0)) :: ((b2557, Obj.cells ((encFact x2555).toArray : Array Value) 78 (0, 0)) :: (S3045 ++ (R_a0_creds ++ (R_a0_uses ++ (R_a0_words ++ (S3048 ++ L3025))))))) := hST.sublist (List.Sublist.cons_cons _ (List.Sublist.cons _ (List.Sublist.refl _)))
          exact ⟨eI, r3037.1, S3045, y3047, r3037.2.1, S3048, r3037.2.2, μ3040, _, ⟨rfl, eN⟩, (hle3027.trans hle3041), (hST.sublist (List.Sublist.refl _)), e3028, e3029, e3030, hy3046, hy3049, (by rw [hx2961]; exact hm3026)⟩
        · rintro E W ⟨l2984, R2986, v2987, l2988, R2990, x2991, μ2983, L3025, ⟨eI, eN⟩, hle3027, hST, e3028, e3029, e3030, hs2985, hs2989, hm3026⟩
          rw [List.drop_length] at hm3026
          rw [m_model_Model_settle_w_L3] at hm3026
          refine sq_n ?_
          replace hm3026 := Option.some.inj hm3026; subst hm3026
          exact ⟨l2984, R2986, v2987, l2988, R2990, x2991, μ2983, _, hle3027, (hST.sublist (List.Sublist.refl _)), e3028, e3029, hs2985, hs2989, hm2955⟩
      · rintro E W ⟨l2677, R2679, v2680, l2681, R2683, x2684, μ2676, L2685, hle2687, hST, e2688, e2689, hs2678, hs2682, hm2686⟩
        refine CW_seq ?_
        refine PX_start (fun l W => Has μ2676 ((b_a0, Obj.cells (#[v_a0_in_, v_a0_creds, v_a0_uses, v_a0_words, v2680, (.int .i64 x2684)] : Array Value) 134 (0, 0)) :: ((b2557, Obj.cells ((encFact x2555).toArray : Array Value) 78 (0, 0)) :: (R_a0_words ++ []))) W) Tryz_mixed ?_
        replace hST := hST.drew
        have hS0 : Has μ2676 ((b_a0, Obj.cells (#[v_a0_in_, v_a0_creds, v_a0_uses, v_a0_words, v2680, (.int .i64 x2684)] : Array Value) 134 (0, 0)) :: ((b2557, Obj.cells ((encFact x2555).toArray : Array Value) 78 (0, 0)) :: (R_a0_words ++ []))) _ := hST.has.sub (Sub.refl _) (fun p hq => ((List.mem_cons.1 hq).elim (fun hq => by rw [hq]; exact (.head _)) (fun hq => ((List.mem_cons.1 hq).elim (fun hq => by rw [hq]; exact (.tail _ (.head _))) (fun hq => ((List.mem_append.1 hq).elim (fun hq => (.tail _ (.tail _ (List.mem_append_right _ (List.mem_append_right _ (List.mem_append_right _ (List.mem_append_left _ hq))))))) (fun hq => (absurd hq List.not_mem_nil))))))))
        refine PX_v 0 rfl (by kernel_rfl) (.inl rfl) rfl (by decide) (fun _ _ h => h) hS0 (fun _ _ _ _ => R_move (v := (.pointer (some ⟨b_a0, 0, none⟩))) e2688) ?_
        refine PX_v 1 rfl (by kernel_rfl) (.inl rfl) rfl (by decide) (fun _ _ h => h) hS0 (fun _ _ _ _ => R_nilCheck rfl) ?_
        refine PX_v 2 rfl (by kernel_rfl) (.inl rfl) rfl (by decide) (fun _ _ h => h) hS0 (fun _ _ _ _ => R_field fa134_3 rfl) ?_
        refine PX_v 3 rfl (by kernel_rfl) (.inl rfl) rfl (by decide) (fun _ _ h => h) hS0 (fun l W hpd hs => have hS := hs; R_load (v := v_a0_words) rfl (load_box1 hS (.head _) rfl Tryz.isAgg132)) ?_
        refine PX_v 4 rfl (by kernel_rfl) (.inl rfl) rfl (by decide) (fun _ _ h => h) hS0 (fun _ _ _ _ => R_field fa78_0 e2689) ?_
        refine PX_v 5 rfl (by kernel_rfl) (.inl rfl) rfl (by decide) (fun _ _ h => h) hS0 (fun _ _ _ _ => R_field fa47_1 rfl) ?_
        refine PX_v 6 rfl (by kernel_rfl) (.inl rfl) rfl (by decide) (fun _ _ h => h) hS0 (fun l W hpd hs => have hS := hs; R_load (v := (.string x2555.Role.Word)) rfl (load_box1 hS (.tail _ (.head _)) rfl Tryz.isAgg9)) ?_
        obtain ⟨lv2700, hd2701⟩ := h_a0_words
        obtain ⟨R2702, hr2703, hs2704⟩ := DeepV.rowAt beqS_iff.1 hd2701 x2555.Role.Word
        refine PX_v 7 rfl (by kernel_rfl) (.inl rfl) rfl (by decide) (fun _ _ h => h) hS0 (fun l W hpd hs => have hS := hs; R_lookupDeep (k := x2555.Role.Word) (z := (.slice none 0 0)) kl9 Tryz.underlying132 Tryz.zeroValue22 rfl rfl hd2701 (fun b o hq => hS.2 b o (.tail _ (.tail _ (List.mem_append_left _ hq))))) ?_
        refine PX_v 8 rfl (by kernel_rfl) (.inl rfl) rfl (by decide) (fun _ _ h => h) hS0 (fun _ _ _ _ => R_len Tryz.underlying22 rfl (hr2703.slL lenCred)) ?_
        refine PX_v 9 rfl (by kernel_rfl) (.inl rfl) rfl (by decide) (fun _ _ h => h) hS0 (fun _ _ _ _ => R_move (v := (.int .i64 0)) rfl) ?_
        refine PX_done (by kernel_rfl) ?_
        refine sq_n ?_
        refine CW_tail ?_
        obtain ⟨s2834, hm2835, hm2836⟩ := bind_some hm2686
        refine CW_cut (fun E W => ∃ (l2822 : List (Role × (List (ByteArray × Bool)))) (R2824 : List (Nat × Obj)) (v2825 : Value) (l2826 : List Fact) (R2828 : List (Nat × Obj)) (x2829 : Int) (μ2821 : Mem) (L2830 : List (Nat × Obj)), Sub μ2676 μ2821 ∧ ST false (keys ((b_a0, Obj.cells (#[v_a0_in_, v_a0_creds, v_a0_uses, v_a0_words, v_a0_todo, (.int .i64 a0_n)] : Array Value) 134 (0, 0)) :: (R_a0_in_ ++ (R_a0_creds ++ (R_a0_uses ++ (R_a0_words ++ (R_a0_todo ++ []))))))) w W μ2821 ((b_a0, Obj.cells (#[v_a0_in_, v_a0_creds, v_a0_uses, v_a0_words, v2825, (.int .i64 x2829)] : Array Value) 134 (0, 0)) :: (R2824 ++ (R_a0_creds ++ (R_a0_uses ++ (R_a0_words ++ (R2828 ++ L2830)))))) ∧ E 0 = (.pointer (some ⟨b_a0, 0, none⟩)) ∧ DeepE (fun (x : Role) => (.agg (encRole x).toArray)) (MapRow Value.string (fun (x : Bool) => (Value.bool x))) v_a0_in_ l2822 R2824 ∧ Que 78 encFact 3 v2825 l2826 R2828 ∧ (m_model_Model_settle_w_L1 a0_creds a0_uses a0_words n2548 l2822 l2826 x2829) = some r) ?_ ?_
        · refine CW_range (fun i E W => ∃ (l2872 : List (Role × (List (ByteArray × Bool)))) (R2874 : List (Nat × Obj)) (v2875 : Value) (l2876 : List Fact) (R2878 : List (Nat × Obj)) (x2879 : Int) (μ2871 : Mem) (L2920 : List (Nat × Obj)), (E 53 = .int .i64 (i : Nat) ∧ E 52 = .int .i64 ((((mget beqS a0_words x2555.Role.Word).getD [])).length : Nat)) ∧ Sub μ2676 μ2871 ∧ ST false (keys ((b_a0, Obj.cells (#[v_a0_in_, v_a0_creds, v_a0_uses, v_a0_words, v_a0_todo, (.int .i64 a0_n)] : Array Value) 134 (0, 0)) :: (R_a0_in_ ++ (R_a0_creds ++ (R_a0_uses ++ (R_a0_words ++ (R_a0_todo ++ []))))))) w W μ2871 ((b_a0, Obj.cells (#[v_a0_in_, v_a0_creds, v_a0_uses, v_a0_words, v2875, (.int .i64 x2879)] : Array Value) 134 (0, 0)) :: ((b2557, Obj.cells ((encFact x2555).toArray : Array Value) 78 (0, 0)) :: (R2874 ++ (R_a0_creds ++ (R_a0_uses ++ (R_a0_words ++ (R2878 ++ L2920))))))) ∧ E 0 = (.pointer (some ⟨b_a0, 0, none⟩)) ∧ E 2 = (.pointer (some ⟨b2557, 0, none⟩)) ∧ E 51 = (valAt beqS lv2700 x2555.Role.Word (.slice none 0 0)) ∧ DeepE (fun (x : Role) => (.agg (encRole x).toArray)) (MapRow Value.string (fun (x : Bool) => (Value.bool x))) v_a0_in_ l2872 R2874 ∧ Que 78 encFact 3 v2875 l2876 R2878 ∧ m_model_Model_settle_w_L2 x2555 a0_creds a0_uses a0_words ((((mget beqS a0_words x2555.Role.Word).getD [])).drop i) l2872 l2876 x2879 = some s2834) (((mget beqS a0_words x2555.Role.Word).getD [])).length (hr2703.slL lenCred).len ⟨l2677, R2679, v2680, l2681, R2683, x2684, μ2676, _, ⟨rfl, rfl⟩, (Sub.refl _), (hST.sublist (List.Sublist.refl _)), e2688, e2689, rfl, hs2678, hs2682, hm2835⟩ (by decide) (by decide) (by decide) (fun _ _ _ h => by obtain ⟨_, _, _, _, _, _, _, _, eIN, _⟩ := h; exact eIN) ?_ ?_
          · rintro i2837 E W hi2843 ⟨l2872, R2874, v2875, l2876, R2878, x2879, μ2871, L2920, ⟨eI, eN⟩, hle2922, hST, e2923, e2924, e2925, hs2873, hs2877, hm2921⟩
            obtain ⟨x2838, xs2839, hx2841, hx2840, hx2842⟩ := drop_cons hi2843
            rw [hx2841] at hm2921
            rw [m_model_Model_settle_w_L2] at hm2921
            refine CW_block ?_
            refine CW_seq ?_
            refine CW_region ?_
            refine LW_q (.inl rfl) rfl (by decide) (R_indexP (enc := encCred) (i := (i2837 : Int)) (x0 := x2838) Tryz.underlying22 Tryz.sizeOf83 e2925 eI (hr2703.slL lenCred) (Int.natCast_nonneg _) hx2840) (fun p2926 hp2927 => ?_)
            refine LW_v (.inl rfl) rfl (by decide) (R_load rfl (load_atA (Has.hp _) (hp2927.mono (memL_held (fun b o hq => hST.has.2 b o (.tail _ (.tail _ (List.mem_append_right _ (List.mem_append_right _ (List.mem_append_right _ (List.mem_append_left _ (hs2704 b o hq)))))))))) Tryz.isAgg83 Tryz.sizeOf83)) ?_
            refine LW_e (.inl rfl) rfl (by decide) (E_alloc hST Tryz.zeroValue83 (fun W2930 b2929 hST => ?_))
            refine LW_e0 (.inl rfl) rfl (E_store [] (.agg (encCred x2838).toArray) ((encCred x2838).toArray) hST rfl rfl Tryz.sizeOf83 (oneCred x2838) (Nat.le_of_ble_eq_true rfl) rfl (fun W2931 hST => ?_))
            refine LW_nil ?_
            refine sq_n ?_
            refine CW_seq ?_
            refine PX_start (fun l W => Has μ2871 ((b2929, Obj.cells ((encCred x2838).toArray : Array Value) 83 (0, 0)) :: ((b_a0, Obj.cells (#[v_a0_in_, v_a0_creds, v_a0_uses, v_a0_words, v2875, (.int .i64 x2879)] : Array Value) 134 (0, 0)) :: ((b2557, Obj.cells ((encFact x2555).toArray : Array Value) 78 (0, 0)) :: (R2874 ++ [])))) W) Tryz_mixed ?_
            replace hST := hST.drew
            replace hST : ST false (keys ((b_a0, Obj.cells (#[v_a0_in_, v_a0_creds, v_a0_uses, v_a0_words, v_a0_todo, (.int .i64 a0_n)] : Array Value) 134 (0, 0)) :: (R_a0_in_ ++ (R_a0_creds ++ (R_a0_uses ++ (R_a0_words ++ (R_a0_todo ++ []))))))) w _ _ ((b2929, Obj.cells ((encCred x2838).toArray : Array Value) 83 (0, 0)) :: ((b_a0, Obj.cells (#[v_a0_in_, v_a0_creds, v_a0_uses, v_a0_words, v2875, (.int .i64 x2879)] : Array Value) 134 (0, 0)) :: ((b2557, Obj.cells ((encFact x2555).toArray : Array Value) 78 (0, 0)) :: (R2874 ++ (R_a0_creds ++ (R_a0_uses ++ (R_a0_words ++ (R2878 ++ L2920)))))))) := hST
            have hS0 : Has μ2871 ((b2929, Obj.cells ((encCred x2838).toArray : Array Value) 83 (0, 0)) :: ((b_a0, Obj.cells (#[v_a0_in_, v_a0_creds, v_a0_uses, v_a0_words, v2875, (.int .i64 x2879)] : Array Value) 134 (0, 0)) :: ((b2557, Obj.cells ((encFact x2555).toArray : Array Value) 78 (0, 0)) :: (R2874 ++ [])))) _ := hST.has.sub (Sub.refl _) (fun p hq => ((List.mem_cons.1 hq).elim (fun hq => by rw [hq]; exact (.head _)) (fun hq => ((List.mem_cons.1 hq).elim (fun hq => by rw [hq]; exact (.tail _ (.head _))) (fun hq => ((List.mem_cons.1 hq).elim (fun hq => by rw [hq]; exact (.tail _ (.tail _ (.head _)))) (fun hq => ((List.mem_append.1 hq).elim (fun hq => (.tail _ (.tail _ (.tail _ (List.mem_append_left _ hq))))) (fun hq => (absurd hq List.not_mem_nil))))))))))
            refine PX_v 0 rfl (by kernel_rfl) (.inl rfl) rfl (by decide) (fun _ _ h => h) hS0 (fun _ _ _ _ => R_move (v := (.pointer (some ⟨b_a0, 0, none⟩))) e2923) ?_
            refine PX_v 1 rfl (by kernel_rfl) (.inl rfl) rfl (by decide) (fun _ _ h => h) hS0 (fun _ _ _ _ => R_nilCheck rfl) ?_
            refine PX_v 2 rfl (by kernel_rfl) (.inl rfl) rfl (by decide) (fun _ _ h => h) hS0 (fun _ _ _ _ => R_field fa134_0 rfl) ?_
            refine PX_v 3 rfl (by kernel_rfl) (.inl rfl) rfl (by decide) (fun _ _ h => h) hS0 (fun l W hpd hs => have hS := hs; R_load (v := v_a0_in_) rfl (load_box1 hS (.tail _ (.head _)) rfl Tryz.isAgg130)) ?_
            refine PX_v 4 rfl (by kernel_rfl) (.inl rfl) rfl (by decide) (fun _ _ h => h) hS0 (fun _ _ _ _ => R_field fa83_3 rfl) ?_
            refine PX_v 5 rfl (by kernel_rfl) (.inl rfl) rfl (by decide) (fun _ _ h => h) hS0 (fun l W hpd hs => have hS := hs; R_load (v := (.agg (encRole x2838.B).toArray)) rfl (load_boxA hS (.head _) (encRole x2838.B) rfl Tryz.isAgg47 Tryz.sizeOf47)) ?_
            obtain ⟨lv2936, hd2937⟩ := hs2873
            refine PX_v 6 rfl (by kernel_rfl) (.inl rfl) rfl (by decide) (fun _ _ h => h) hS0 (fun l W hpd hs => have hS := hs; R_lookupDeep (k := x2838.B) (z := (.map none)) kl47 Tryz.underlying130 Tryz.zeroValue119 rfl rfl hd2937 (fun b o hq => hS.2 b o (.tail _ (.tail _ (.tail _ (List.mem_append_left _ hq)))))) ?_
            refine PX_v 7 rfl (by kernel_rfl) (.inl rfl) rfl (by decide) (fun _ _ h => h) hS0 (fun _ _ _ _ => R_field fa78_0 e2924) ?_
            refine PX_v 8 rfl (by kernel_rfl) (.inl rfl) rfl (by decide) (fun _ _ h => h) hS0 (fun _ _ _ _ => R_field fa47_0 rfl) ?_
            refine PX_v 9 rfl (by kernel_rfl) (.inl rfl) rfl (by decide) (fun _ _ h => h) hS0 (fun l W hpd hs => have hS := hs; R_load (v := (.string x2555.Role.Owner)) rfl (load_box1 hS (.tail _ (.tail _ (.head _))) rfl Tryz.isAgg9)) ?_
            refine PX_v 10 rfl (by kernel_rfl) (.inl rfl) rfl (by decide) (fun _ _ h => h) hS0 (fun l W hpd hs => have hS := hs; R_lookupD (k := x2555.Role.Owner) (z := false) (vf := (fun (x : Bool) => (Value.bool x))) kl9 Tryz.underlying119 Tryz.zeroValue4 rfl rfl (DeepV.mapAt (μ := hp _) beqRole_iff.1 hd2937 x2838.B (fun b o hq => hS.2 b o (.tail _ (.tail _ (.tail _ (List.mem_append_left _ hq))))))) ?_
            refine PX_done (by kernel_rfl) ?_
            refine sq_n ?_
            refine CW_if (b := (mgetD beqS (((mget beqRole l2872 x2838.B).getD [])) x2555.Role.Owner false)) rfl (fun hb2938 => ?_) (fun hb2938 => ?_)
            · replace hm2921 := if_t hb2938 hm2921
              refine CW_region ?_
              refine LW_v (.inl rfl) rfl (by decide) (R_move (v := (.pointer (some ⟨b_a0, 0, none⟩))) e2923) ?_
              refine LW_v (.inl rfl) rfl (by decide) (R_field fa83_1 rfl) ?_
              refine LW_v (.inl rfl) rfl (by decide) (R_load (v := (.agg (encRole x2838.Head).toArray)) rfl (load_boxA hST.has (.head _) (encRole x2838.Head) rfl Tryz.isAgg47 Tryz.sizeOf47)) ?_
              refine LW_v (.inl rfl) rfl (by decide) (R_field fa78_1 e2924) ?_
              refine LW_v (.inl rfl) rfl (by decide) (R_load (v := (.string x2555.Who)) rfl (load_box1 hST.has (.tail _ (.tail _ (.head _))) rfl Tryz.isAgg9)) ?_
              obtain ⟨r2939, hr2940, hm2921⟩ := bind_some hm2921
              replace hST : ST false (keys ((b_a0, Obj.cells (#[v_a0_in_, v_a0_creds, v_a0_uses, v_a0_words, v_a0_todo, (.int .i64 a0_n)] : Array Value) 134 (0, 0)) :: (R_a0_in_ ++ (R_a0_creds ++ (R_a0_uses ++ (R_a0_words ++ (R_a0_todo ++ []))))))) w _ _ ((b_a0, Obj.cells (#[v_a0_in_, v_a0_creds, v_a0_uses, v_a0_words, v2875, (.int .i64 x2879)] : Array Value) 134 (0, 0)) :: (R2874 ++ (R_a0_creds ++ (R_a0_uses ++ (R_a0_words ++ (R2878 ++ ((b2929, Obj.cells ((encCred x2838).toArray : Array Value) 83 (0, 0)) :: ((b2557, Obj.cells ((encFact x2555).toArray : Array Value) 78 (0, 0)) :: L2920)))))))) := hST.perm (permD [[(b2929, Obj.cells ((encCred x2838).toArray : Array Value) 83 (0, 0))], [(b_a0, Obj.cells (#[v_a0_in_, v_a0_creds, v_a0_uses, v_a0_words, v2875, (.int .i64 x2879)] : Array Value) 134 (0, 0))], [(b2557, Obj.cells ((encFact x2555).toArray : Array Value) 78 (0, 0))], R2874, R_a0_creds, R_a0_uses, R_a0_words, R2878] [0, 1, 2, 3, 4, 5, 6, 7] [1, 3, 4, 5, 6, 7, 0, 2] L2920 (by decide) rfl rfl)
              have hsz := hST.size
              refine LW_e (.inl rfl) rfl (by decide) (E_callM (args := [(.pointer (some ⟨b_a0, 0, none⟩)), (.agg (encRole x2838.Head).toArray), (.string x2555.Who)]) (caps := #[]) (((b_a0, Obj.cells (#[v_a0_in_, v_a0_creds, v_a0_uses, v_a0_words, v2875, (.int .i64 x2879)] : Array Value) 134 (0, 0)) :: (R2874 ++ (R_a0_creds ++ (R_a0_uses ++ (R_a0_words ++ (R2878 ++ []))))))) (((b2929, Obj.cells ((encCred x2838).toArray : Array Value) 83 (0, 0)) :: ((b2557, Obj.cells ((encFact x2555).toArray : Array Value) 78 (0, 0)) :: L2920))) hST (by simp only [List.append_assoc, List.cons_append, List.nil_append]; exact List.Perm.refl _) rfl Tryz.call146 (by exact args3 rfl rfl rfl) (fun hH hN hsb hmm => GivesM.weak (w_model_Model_tell_w b_a0 v_a0_in_ l2872 R2874 v_a0_creds a0_creds R_a0_creds v_a0_uses a0_uses R_a0_uses v_a0_words a0_words R_a0_words v2875 l2876 R2878 x2879 x2838.Head x2555.Who _ _ hH hN (Sub.refl _) hd2937.e h_a0_creds hd2577.e hd2701.e hs2877 hr2940)) (fun W2941 v2944 μ2942 L2946 hST hle2943 hlift hK2945 => ?_))
              obtain ⟨S2947, y2949, S2950, hv2952, rfl, hy2948, hy2951⟩ := hK2945
              replace hv2952 := hv2952.symm; subst hv2952
              simp only [List.append_assoc, List.cons_append, List.nil_append] at hST
              replace hST : ST false (keys ((b_a0, Obj.cells (#[v_a0_in_, v_a0_creds, v_a0_uses, v_a0_words, v_a0_todo, (.int .i64 a0_n)] : Array Value) 134 (0, 0)) :: (R_a0_in_ ++ (R_a0_creds ++ (R_a0_uses ++ (R_a0_words ++ (R_a0_todo ++ []))))))) w _ _ ((b_a0, Obj.cells (#[v_a0_in_, v_a0_creds, v_a0_uses, v_a0_words, y2949, (.int .i64 (r2939.2.2))] : Array Value) 134 (0, 0)) :: ((b2929, Obj.cells ((encCred x2838).toArray : Array Value) 83 (0, 0)) :: ((b2557, Obj.cells ((encFact x2555).toArray : Array Value) 78 (0, 0)) :: (S2947 ++ (R_a0_creds ++ (R_a0_uses ++ (R_a0_words ++ (S2950 ++ L2920)))))))) := hST.perm (permD [[(b_a0, Obj.cells (#[v_a0_in_, v_a0_creds, v_a0_uses, v_a0_words, y2949, (.int .i64 (r2939.2.2))] : Array Value) 134 (0, 0))], S2947, R_a0_creds, R_a0_uses, R_a0_words, S2950, [(b2929, Obj.cells ((encCred x2838).toArray : Array Value) 83 (0, 0))], [(b2557, Obj.cells ((encFact x2555).toArray : Array Value) 78 (0, 0))]] [0, 1, 2, 3, 4, 5, 6, 7] [0, 6, 7, 1, 2, 3, 4, 5] L2920 (by decide) rfl rfl)
              refine LW_nil ?_
              refine bq_n ?_
              refine sq_n ?_
              replace hST : ST false (keys ((b_a0, Obj.cells (#[v_a0_in_, v_a0_creds, v_a0_uses, v_a0_words, v_a0_todo, (.int .i64 a0_n)] : Array Value) 134 (0, 0)) :: (R_a0_in_ ++ (R_a0_creds ++ (R_a0_uses ++ (R_a0_words ++ (R_a0_todo ++ []))))))) w _ _ ((b_a0, Obj.cells (#[v_a0_in_, v_a0_creds, v_a0_uses, v_a0_words, y2949, (.int .i64 (r2939.2.2))] : Array Value) 134 (0, 0)) :: ((b2557, Obj.cells ((encFact x2555).toArray : Array Value) 78 (0, 0)) :: (S2947 ++ (R_a0_creds ++ (R_a0_uses ++ (R_a0_words ++ (S2950 ++ L2920))))))) := hST.sublist (List.Sublist.cons_cons _ (List.Sublist.cons _ (List.Sublist.refl _)))
              exact ⟨eI, r2939.1, S2947, y2949, r2939.2.1, S2950, r2939.2.2, μ2942, _, ⟨rfl, eN⟩, (hle2922.trans hle2943), (hST.sublist (List.Sublist.refl _)), e2923, e2924, e2925, hy2948, hy2951, (by rw [hx2842]; exact hm2921)⟩
            · replace hm2921 := if_f hb2938 hm2921
              refine CW_skip ?_
              refine bq_n ?_
              refine sq_n ?_
              replace hST : ST false (keys ((b_a0, Obj.cells (#[v_a0_in_, v_a0_creds, v_a0_uses, v_a0_words, v_a0_todo, (.int .i64 a0_n)] : Array Value) 134 (0, 0)) :: (R_a0_in_ ++ (R_a0_creds ++ (R_a0_uses ++ (R_a0_words ++ (R_a0_todo ++ []))))))) w _ _ ((b_a0, Obj.cells (#[v_a0_in_, v_a0_creds, v_a0_uses, v_a0_words, v2875, (.int .i64 x2879)] : Array Value) 134 (0, 0)) :: ((b2557, Obj.cells ((encFact x2555).toArray : Array Value) 78 (0, 0)) :: (R2874 ++ (R_a0_creds ++ (R_a0_uses ++ (R_a0_words ++ (R2878 ++ L2920))))))) := hST.sublist (List.Sublist.cons _ (List.Sublist.refl _))
              exact ⟨eI, l2872, R2874, v2875, l2876, R2878, x2879, μ2871, _, ⟨rfl, eN⟩, hle2922, (hST.sublist (List.Sublist.refl _)), e2923, e2924, e2925, hd2937.e, hs2877, (by rw [hx2842]; exact hm2921)⟩
          · rintro E W ⟨l2872, R2874, v2875, l2876, R2878, x2879, μ2871, L2920, ⟨eI, eN⟩, hle2922, hST, e2923, e2924, e2925, hs2873, hs2877, hm2921⟩
            rw [List.drop_length] at hm2921
            rw [m_model_Model_settle_w_L2] at hm2921
            refine sq_n ?_
            replace hm2921 := Option.some.inj hm2921; subst hm2921
            exact ⟨l2872, R2874, v2875, l2876, R2878, x2879, μ2871, _, hle2922, (hST.sublist (List.Sublist.cons_cons _ (List.Sublist.cons _ (List.Sublist.refl _)))), e2923, hs2873, hs2877, hm2836⟩
        · rintro E W ⟨l2822, R2824, v2825, l2826, R2828, x2829, μ2821, L2830, hle2832, hST, e2833, hs2823, hs2827, hm2831⟩
          refine bq_n ?_
          refine sq_n ?_
          exact ⟨n2548, Nat.lt_succ_self _, l2822, R2824, v2825, l2826, R2828, x2829, μ2821, _, ((hle2549.trans hle2687).trans hle2832), (hST.sublist (List.Sublist.refl _)), e2833, hs2823, hs2827, hm2831⟩
    · replace hm2547 := if_f hb2551 hm2547
      refine CW_exit ?_
      refine sq_e (sq_e (bq_e ?_))
      refine sq_n ?_
      refine retQ_n ?_
      replace hm2547 := Option.some.inj hm2547; subst hm2547
      refine retQ_0 rfl ?_
      replace hST : ST false (keys ((b_a0, Obj.cells (#[v_a0_in_, v_a0_creds, v_a0_uses, v_a0_words, v_a0_todo, (.int .i64 a0_n)] : Array Value) 134 (0, 0)) :: (R_a0_in_ ++ (R_a0_creds ++ (R_a0_uses ++ (R_a0_words ++ (R_a0_todo ++ []))))))) w _ _ ((b_a0, Obj.cells (#[v_a0_in_, v_a0_creds, v_a0_uses, v_a0_words, v2030, (.int .i64 x2034)] : Array Value) 134 (0, 0)) :: (R2029 ++ (R_a0_creds ++ (R_a0_uses ++ (R_a0_words ++ (R2033 ++ L2546)))))) := hST
      exact ⟨_, ((b_a0, Obj.cells (#[v_a0_in_, v_a0_creds, v_a0_uses, v_a0_words, v2030, (.int .i64 x2034)] : Array Value) 134 (0, 0)) :: (R2029 ++ (R_a0_creds ++ (R_a0_uses ++ (R_a0_words ++ (R2033 ++ [])))))), rfl, (ST.backM (L1 := ((b_a0, Obj.cells (#[v_a0_in_, v_a0_creds, v_a0_uses, v_a0_words, v2030, (.int .i64 x2034)] : Array Value) 134 (0, 0)) :: (R2029 ++ (R_a0_creds ++ (R_a0_uses ++ (R_a0_words ++ (R2033 ++ []))))))) (by have hh : ST false (keys ((b_a0, Obj.cells (#[v_a0_in_, v_a0_creds, v_a0_uses, v_a0_words, v_a0_todo, (.int .i64 a0_n)] : Array Value) 134 (0, 0)) :: (R_a0_in_ ++ (R_a0_creds ++ (R_a0_uses ++ (R_a0_words ++ (R_a0_todo ++ []))))))) w _ _ ((b_a0, Obj.cells (#[v_a0_in_, v_a0_creds, v_a0_uses, v_a0_words, v2030, (.int .i64 x2034)] : Array Value) 134 (0, 0)) :: (R2029 ++ (R_a0_creds ++ (R_a0_uses ++ (R_a0_words ++ (R2033 ++ L2546)))))) := hST.perm (List.Perm.refl _); simpa only [List.append_assoc, List.cons_append, List.nil_append] using hh)), R2029, v2030, R2033, rfl, rfl, hs2028, hs2032⟩
theorem w_model_Model_Add_w (b_a0 : Nat) (v_a0_in_ : Value) (a0_in_ : List (Role × (List (ByteArray × Bool)))) (R_a0_in_ : List (Nat × Obj)) (v_a0_creds : Value) (a0_creds : List Cred) (R_a0_creds : List (Nat × Obj)) (v_a0_uses : Value) (a0_uses : List (Role × (List Cred))) (R_a0_uses : List (Nat × Obj)) (v_a0_words : Value) (a0_words : List (ByteArray × (List Cred))) (R_a0_words : List (Nat × Obj)) (v_a0_todo : Value) (a0_todo : List Fact) (R_a0_todo : List (Nat × Obj)) (a0_n : Int) (v_a1 : Value) (a1 : List Cred) (r : (Int × (List (Role × (List (ByteArray × Bool)))) × (List Cred) × (List (Role × (List Cred))) × (List (ByteArray × (List Cred))) × (List Fact) × Int)) (w : World) {μ0 : Mem} (hH : Held ((b_a0, Obj.cells (#[v_a0_in_, v_a0_creds, v_a0_uses, v_a0_words, v_a0_todo, (.int .i64 a0_n)] : Array Value) 134 (0, 0)) :: (R_a0_in_ ++ (R_a0_creds ++ (R_a0_uses ++ (R_a0_words ++ (R_a0_todo ++ [])))))) w) (hN : ((((b_a0, Obj.cells (#[v_a0_in_, v_a0_creds, v_a0_uses, v_a0_words, v_a0_todo, (.int .i64 a0_n)] : Array Value) 134 (0, 0)) :: (R_a0_in_ ++ (R_a0_creds ++ (R_a0_uses ++ (R_a0_words ++ (R_a0_todo ++ [])))))) : List (Nat × Obj)).map (·.1)).Nodup) (hS0 : Sub μ0 (hpx w ((b_a0, Obj.cells (#[v_a0_in_, v_a0_creds, v_a0_uses, v_a0_words, v_a0_todo, (.int .i64 a0_n)] : Array Value) 134 (0, 0)) :: (R_a0_in_ ++ (R_a0_creds ++ (R_a0_uses ++ (R_a0_words ++ (R_a0_todo ++ [])))))))) (h_a0_in_ : DeepE (fun (x : Role) => (.agg (encRole x).toArray)) (MapRow Value.string (fun (x : Bool) => (Value.bool x))) v_a0_in_ a0_in_ R_a0_in_) (h_a0_creds : Row 83 encCred 9 v_a0_creds a0_creds R_a0_creds) (h_a0_uses : DeepE (fun (x : Role) => (.agg (encRole x).toArray)) (Row 83 encCred 9) v_a0_uses a0_uses R_a0_uses) (h_a0_words : DeepE Value.string (Row 83 encCred 9) v_a0_words a0_words R_a0_words) (h_a0_todo : Que 78 encFact 3 v_a0_todo a0_todo R_a0_todo) (h_a1 : Sl (Pl encCred) 9 μ0 v_a1 a1) (hm : m_model_Model_Add_w a0_in_ a0_creds a0_uses a0_words a0_todo a0_n a1 = some r) :
    GivesM false Tryz.prog 41 [(.pointer (some ⟨b_a0, 0, none⟩)), v_a1] w ((b_a0, Obj.cells (#[v_a0_in_, v_a0_creds, v_a0_uses, v_a0_words, v_a0_todo, (.int .i64 a0_n)] : Array Value) 134 (0, 0)) :: (R_a0_in_ ++ (R_a0_creds ++ (R_a0_uses ++ (R_a0_words ++ (R_a0_todo ++ [])))))) (fun v L1 W' => ∃ (S1 : List (Nat × Obj)) (y3 : Value) (S4 : List (Nat × Obj)) (S6 : List (Nat × Obj)) (S8 : List (Nat × Obj)) (y10 : Value) (S11 : List (Nat × Obj)), v = (.int .i64 (r.1)) ∧ L1 = ((b_a0, Obj.cells (#[v_a0_in_, y3, v_a0_uses, v_a0_words, y10, (.int .i64 (r.2.2.2.2.2.2))] : Array Value) 134 (0, 0)) :: (S1 ++ (S4 ++ (S6 ++ (S8 ++ (S11 ++ [])))))) ∧ DeepE (fun (x : Role) => (.agg (encRole x).toArray)) (MapRow Value.string (fun (x : Bool) => (Value.bool x))) v_a0_in_ r.2.1 S1 ∧ Row 83 encCred 9 y3 r.2.2.1 S4 ∧ DeepE (fun (x : Role) => (.agg (encRole x).toArray)) (Row 83 encCred 9) v_a0_uses r.2.2.2.1 S6 ∧ DeepE Value.string (Row 83 encCred 9) v_a0_words r.2.2.2.2.1 S8 ∧ Que 78 encFact 3 y10 r.2.2.2.2.2.1 S11) := by
  have hST := (ST.startM (dd := false) hH hN).weak hS0
  unfold m_model_Model_Add_w at hm
  refine calls_of_CW (n := 46) Tryz.func41 rfl rfl (Nat.le_of_ble_eq_true rfl) ?_
  refine CW_seq ?_
  refine CW_region ?_
  refine LW_v (.inl rfl) rfl (by decide) (R_assign (v := (.int .i64 0)) rfl) ?_
  refine LW_nil ?_
  refine sq_n ?_
  refine CW_seq ?_
  refine CW_seq ?_
  refine CW_region ?_
  refine LW_v (.inl rfl) rfl (by decide) (R_move (v := (.pointer (some ⟨b_a0, 0, none⟩))) rfl) ?_
  refine LW_v (.inl rfl) rfl (by decide) (R_ptrEqNil Tryz.underlying51 rfl rfl) ?_
  refine LW_nil ?_
  refine sq_n ?_
  refine CW_if_false rfl ?_
  refine CW_skip ?_
  refine sq_n ?_
  refine CW_seq ?_
  refine CW_region ?_
  refine LW_v (.inl rfl) rfl (by decide) (R_move (v := (.pointer (some ⟨b_a0, 0, none⟩))) rfl) ?_
  refine LW_v (.inl rfl) rfl (by decide) (R_nilCheck rfl) ?_
  refine LW_v (.inl rfl) rfl (by decide) (R_field fa134_5 rfl) ?_
  refine LW_v (.inl rfl) rfl (by decide) (R_load (v := (.int .i64 a0_n)) rfl (load_box1 hST.has (.head _) rfl Tryz.isAgg3)) ?_
  refine LW_v (.inl rfl) rfl (by decide) (R_assign (v := (.int .i64 a0_n)) rfl) ?_
  refine LW_nil ?_
  refine sq_n ?_
  refine CW_seq ?_
  refine CW_seq ?_
  refine CW_region ?_
  refine LW_v (.inl rfl) rfl (by decide) (R_move (v := v_a1) rfl) ?_
  refine LW_v (.inl rfl) rfl (by decide) (R_len Tryz.underlying22 rfl h_a1) ?_
  refine LW_v (.inl rfl) rfl (by decide) (R_move (v := (.int .i64 0)) rfl) ?_
  refine LW_nil ?_
  refine sq_n ?_
  refine CW_range (fun i E W => ∃ (l500 : List (Role × (List (ByteArray × Bool)))) (R502 : List (Nat × Obj)) (v503 : Value) (l504 : List Cred) (R506 : List (Nat × Obj)) (l507 : List (Role × (List Cred))) (R509 : List (Nat × Obj)) (l510 : List (ByteArray × (List Cred))) (R512 : List (Nat × Obj)) (v513 : Value) (l514 : List Fact) (R516 : List (Nat × Obj)) (x517 : Int) (μ499 : Mem) (L650 : List (Nat × Obj)), (E 16 = .int .i64 (i : Nat) ∧ E 15 = .int .i64 (a1.length : Nat)) ∧ Sub μ0 μ499 ∧ ST false (keys ((b_a0, Obj.cells (#[v_a0_in_, v_a0_creds, v_a0_uses, v_a0_words, v_a0_todo, (.int .i64 a0_n)] : Array Value) 134 (0, 0)) :: (R_a0_in_ ++ (R_a0_creds ++ (R_a0_uses ++ (R_a0_words ++ (R_a0_todo ++ []))))))) w W μ499 ((b_a0, Obj.cells (#[v_a0_in_, v503, v_a0_uses, v_a0_words, v513, (.int .i64 x517)] : Array Value) 134 (0, 0)) :: (R502 ++ (R506 ++ (R509 ++ (R512 ++ (R516 ++ L650)))))) ∧ E 0 = (.pointer (some ⟨b_a0, 0, none⟩)) ∧ E 5 = (.int .i64 a0_n) ∧ E 14 = v_a1 ∧ DeepE (fun (x : Role) => (.agg (encRole x).toArray)) (MapRow Value.string (fun (x : Bool) => (Value.bool x))) v_a0_in_ l500 R502 ∧ Row 83 encCred 9 v503 l504 R506 ∧ DeepE (fun (x : Role) => (.agg (encRole x).toArray)) (Row 83 encCred 9) v_a0_uses l507 R509 ∧ DeepE Value.string (Row 83 encCred 9) v_a0_words l510 R512 ∧ Que 78 encFact 3 v513 l514 R516 ∧ m_model_Model_Add_w_L1 a0_n (a1.drop i) l500 l504 l507 l510 l514 x517 = some r) a1.length h_a1.len ⟨a0_in_, R_a0_in_, v_a0_creds, a0_creds, R_a0_creds, a0_uses, R_a0_uses, a0_words, R_a0_words, v_a0_todo, a0_todo, R_a0_todo, a0_n, μ0, _, ⟨rfl, rfl⟩, (Sub.refl _), (hST.sublist (List.Sublist.refl _)), rfl, rfl, rfl, h_a0_in_, h_a0_creds, h_a0_uses, h_a0_words, h_a0_todo, hm⟩ (by decide) (by decide) (by decide) (fun _ _ _ h => by obtain ⟨_, _, _, _, _, _, _, _, _, _, _, _, _, _, _, eIN, _⟩ := h; exact eIN) ?_ ?_
  · rintro i383 E W hi389 ⟨l500, R502, v503, l504, R506, l507, R509, l510, R512, v513, l514, R516, x517, μ499, L650, ⟨eI, eN⟩, hle652, hST, e653, e654, e655, hs501, hs505, hs508, hs511, hs515, hm651⟩
    obtain ⟨x384, xs385, hx387, hx386, hx388⟩ := drop_cons hi389
    rw [hx387] at hm651
    rw [m_model_Model_Add_w_L1] at hm651
    refine CW_block ?_
    refine CW_seq ?_
    refine CW_region ?_
    refine LW_q (.inl rfl) rfl (by decide) (R_indexP (enc := encCred) (i := (i383 : Int)) (x0 := x384) Tryz.underlying22 Tryz.sizeOf83 e655 eI (h_a1.mono (Pl.mono _) hle652) (Int.natCast_nonneg _) hx386) (fun p656 hp657 => ?_)
    refine LW_v (.inl rfl) rfl (by decide) (R_load rfl (load_atA hST.has hp657 Tryz.isAgg83 Tryz.sizeOf83)) ?_
    refine LW_e (.inl rfl) rfl (by decide) (E_alloc hST Tryz.zeroValue83 (fun W660 b659 hST => ?_))
    refine LW_e0 (.inl rfl) rfl (E_store [] (.agg (encCred x384).toArray) ((encCred x384).toArray) hST rfl rfl Tryz.sizeOf83 (oneCred x384) (Nat.le_of_ble_eq_true rfl) rfl (fun W661 hST => ?_))
    refine LW_nil ?_
    refine sq_n ?_
    refine CW_seq ?_
    refine PX_start (fun l W => Has μ499 ((b659, Obj.cells ((encCred x384).toArray : Array Value) 83 (0, 0)) :: ((b_a0, Obj.cells (#[v_a0_in_, v503, v_a0_uses, v_a0_words, v513, (.int .i64 x517)] : Array Value) 134 (0, 0)) :: [])) W) Tryz_mixed ?_
    replace hST := hST.drew
    replace hST : ST false (keys ((b_a0, Obj.cells (#[v_a0_in_, v_a0_creds, v_a0_uses, v_a0_words, v_a0_todo, (.int .i64 a0_n)] : Array Value) 134 (0, 0)) :: (R_a0_in_ ++ (R_a0_creds ++ (R_a0_uses ++ (R_a0_words ++ (R_a0_todo ++ []))))))) w _ _ ((b659, Obj.cells ((encCred x384).toArray : Array Value) 83 (0, 0)) :: ((b_a0, Obj.cells (#[v_a0_in_, v503, v_a0_uses, v_a0_words, v513, (.int .i64 x517)] : Array Value) 134 (0, 0)) :: (R502 ++ (R506 ++ (R509 ++ (R512 ++ (R516 ++ L650))))))) := hST
    have hS0 : Has μ499 ((b659, Obj.cells ((encCred x384).toArray : Array Value) 83 (0, 0)) :: ((b_a0, Obj.cells (#[v_a0_in_, v503, v_a0_uses, v_a0_words, v513, (.int .i64 x517)] : Array Value) 134 (0, 0)) :: [])) _ := hST.has.sub (Sub.refl _) (fun p hq => ((List.mem_cons.1 hq).elim (fun hq => by rw [hq]; exact (.head _)) (fun hq => ((List.mem_cons.1 hq).elim (fun hq => by rw [hq]; exact (.tail _ (.head _))) (fun hq => (absurd hq List.not_mem_nil))))))
    refine PX_v 0 rfl (by kernel_rfl) (.inl rfl) rfl (by decide) (fun _ _ h => h) hS0 (fun l W hpd hs => have hS := hs; R_load (v := (.agg (encCred x384).toArray)) rfl (load_boxA hS (.head _) (encCred x384) rfl Tryz.isAgg83 Tryz.sizeOf83)) ?_
    obtain ⟨r710, hr711, hm651⟩ := bind_some hm651
    refine PX_e 1 rfl (by kernel_rfl) (.inl rfl) rfl (by decide) (E_gives (args := [(.agg (encCred x384).toArray)]) hST rfl Tryz.call98 (by exact args1 rfl) (Gives.weak (w_cred_Right x384 _ _  hr711)) (fun W712 hST => ?_))
    have hS0 : Has μ499 ((b659, Obj.cells ((encCred x384).toArray : Array Value) 83 (0, 0)) :: ((b_a0, Obj.cells (#[v_a0_in_, v503, v_a0_uses, v_a0_words, v513, (.int .i64 x517)] : Array Value) 134 (0, 0)) :: [])) _ := hST.has.sub (Sub.refl _) (fun p hq => ((List.mem_cons.1 hq).elim (fun hq => by rw [hq]; exact (.head _)) (fun hq => ((List.mem_cons.1 hq).elim (fun hq => by rw [hq]; exact (.tail _ (.head _))) (fun hq => (absurd hq List.not_mem_nil))))))
    refine ⟨hS0, ?_⟩
    refine PX_v 2 rfl (by kernel_rfl) (.inl rfl) rfl (by decide) (fun _ _ h => h) hS0 (fun _ _ _ _ => R_move (v := (.bool r710)) rfl) ?_
    obtain ⟨s758, hm759, hm760⟩ := bind_some hm651
    refine PX_join (J := fun E W => ∃ (x717 : Bool) (L718 : List (Nat × Obj)), ST false (keys ((b_a0, Obj.cells (#[v_a0_in_, v_a0_creds, v_a0_uses, v_a0_words, v_a0_todo, (.int .i64 a0_n)] : Array Value) 134 (0, 0)) :: (R_a0_in_ ++ (R_a0_creds ++ (R_a0_uses ++ (R_a0_words ++ (R_a0_todo ++ []))))))) w W μ499 ((b659, Obj.cells ((encCred x384).toArray : Array Value) 83 (0, 0)) :: ((b_a0, Obj.cells (#[v_a0_in_, v503, v_a0_uses, v_a0_words, v513, (.int .i64 x517)] : Array Value) 134 (0, 0)) :: (R502 ++ (R506 ++ (R509 ++ (R512 ++ (R516 ++ L718))))))) ∧ E 0 = (.pointer (some ⟨b_a0, 0, none⟩)) ∧ E 5 = (.int .i64 a0_n) ∧ E 7 = (.pointer (some ⟨b659, 0, none⟩)) ∧ E 14 = v_a1 ∧ E 15 = (.int .i64 ((a1.length : Int))) ∧ E 16 = (.int .i64 ((i383 : Int))) ∧ E 30 = (.bool x717) ∧ (if x717 then (((m_model_Model_note_w l500 l504 l507 l510 l514 x517 x384)).bind fun r728 => (((m_model_Model_begin_w l500 r728.1 r728.2.1 r728.2.2 l514 x517 x384)).bind fun r744 => (m_model_Model_Add_w_L1 a0_n xs385 r744.1 r728.1 r728.2.1 r728.2.2 r744.2.1 r744.2.2))) else (m_model_Model_Add_w_L1 a0_n xs385 l500 l504 l507 l510 l514 x517)) = some r) #[true, true, true, true, true, true, true, true, true, true, true] 0 ?_ (fun key761 => ?_)
    · rintro E W ⟨x717, L718, hST, e720, e721, e722, e723, e724, e725, e726, hm719⟩
      have hS0 : Has μ499 ((b659, Obj.cells ((encCred x384).toArray : Array Value) 83 (0, 0)) :: ((b_a0, Obj.cells (#[v_a0_in_, v503, v_a0_uses, v_a0_words, v513, (.int .i64 x517)] : Array Value) 134 (0, 0)) :: [])) _ := hST.has.sub (Sub.refl _) (fun p hq => ((List.mem_cons.1 hq).elim (fun hq => by rw [hq]; exact (.head _)) (fun hq => ((List.mem_cons.1 hq).elim (fun hq => by rw [hq]; exact (.tail _ (.head _))) (fun hq => (absurd hq List.not_mem_nil))))))
      refine PX_done (by kernel_rfl) ?_
      refine sq_n ?_
      refine CW_if (b := x717) e726 (fun hb727 => ?_) (fun hb727 => ?_)
      · replace hm719 := if_t hb727 hm719
        refine CW_seq ?_
        refine CW_region ?_
        refine LW_v (.inl rfl) rfl (by decide) (R_move (v := (.pointer (some ⟨b_a0, 0, none⟩))) e720) ?_
        refine LW_v (.inl rfl) rfl (by decide) (R_load (v := (.agg (encCred x384).toArray)) e722 (load_boxA hST.has (.head _) (encCred x384) rfl Tryz.isAgg83 Tryz.sizeOf83)) ?_
        obtain ⟨r728, hr729, hm719⟩ := bind_some hm719
        replace hST : ST false (keys ((b_a0, Obj.cells (#[v_a0_in_, v_a0_creds, v_a0_uses, v_a0_words, v_a0_todo, (.int .i64 a0_n)] : Array Value) 134 (0, 0)) :: (R_a0_in_ ++ (R_a0_creds ++ (R_a0_uses ++ (R_a0_words ++ (R_a0_todo ++ []))))))) w _ _ ((b_a0, Obj.cells (#[v_a0_in_, v503, v_a0_uses, v_a0_words, v513, (.int .i64 x517)] : Array Value) 134 (0, 0)) :: (R502 ++ (R506 ++ (R509 ++ (R512 ++ (R516 ++ ((b659, Obj.cells ((encCred x384).toArray : Array Value) 83 (0, 0)) :: L718))))))) := hST.perm (permD [[(b659, Obj.cells ((encCred x384).toArray : Array Value) 83 (0, 0))], [(b_a0, Obj.cells (#[v_a0_in_, v503, v_a0_uses, v_a0_words, v513, (.int .i64 x517)] : Array Value) 134 (0, 0))], R502, R506, R509, R512, R516] [0, 1, 2, 3, 4, 5, 6] [1, 2, 3, 4, 5, 6, 0] L718 (by decide) rfl rfl)
        have hsz := hST.size
        refine LW_e (.inl rfl) rfl (by decide) (E_callM (args := [(.pointer (some ⟨b_a0, 0, none⟩)), (.agg (encCred x384).toArray)]) (caps := #[]) (((b_a0, Obj.cells (#[v_a0_in_, v503, v_a0_uses, v_a0_words, v513, (.int .i64 x517)] : Array Value) 134 (0, 0)) :: (R502 ++ (R506 ++ (R509 ++ (R512 ++ (R516 ++ []))))))) (((b659, Obj.cells ((encCred x384).toArray : Array Value) 83 (0, 0)) :: L718)) hST (by simp only [List.append_assoc, List.cons_append, List.nil_append]; exact List.Perm.refl _) rfl Tryz.call100 (by exact args2 rfl rfl) (fun hH hN hsb hmm => GivesM.weak (w_model_Model_note_w b_a0 v_a0_in_ l500 R502 v503 l504 R506 v_a0_uses l507 R509 v_a0_words l510 R512 v513 l514 R516 x517 x384 _ _ hH hN (Sub.refl _) hs501 hs505 hs508 hs511 hs515 hr729)) (fun W730 v733 μ731 L735 hST hle732 hlift hK734 => ?_))
        obtain ⟨y736, S737, S739, S741, hv743, rfl, hy738, hy740, hy742⟩ := hK734
        replace hv743 := hv743.symm; subst hv743
        simp only [List.append_assoc, List.cons_append, List.nil_append] at hST
        replace hST : ST false (keys ((b_a0, Obj.cells (#[v_a0_in_, v_a0_creds, v_a0_uses, v_a0_words, v_a0_todo, (.int .i64 a0_n)] : Array Value) 134 (0, 0)) :: (R_a0_in_ ++ (R_a0_creds ++ (R_a0_uses ++ (R_a0_words ++ (R_a0_todo ++ []))))))) w _ _ ((b_a0, Obj.cells (#[v_a0_in_, y736, v_a0_uses, v_a0_words, v513, (.int .i64 x517)] : Array Value) 134 (0, 0)) :: ((b659, Obj.cells ((encCred x384).toArray : Array Value) 83 (0, 0)) :: (R502 ++ (S737 ++ (S739 ++ (S741 ++ (R516 ++ L718))))))) := hST.perm (permD [[(b_a0, Obj.cells (#[v_a0_in_, y736, v_a0_uses, v_a0_words, v513, (.int .i64 x517)] : Array Value) 134 (0, 0))], R502, S737, S739, S741, R516, [(b659, Obj.cells ((encCred x384).toArray : Array Value) 83 (0, 0))]] [0, 1, 2, 3, 4, 5, 6] [0, 6, 1, 2, 3, 4, 5] L718 (by decide) rfl rfl)
        refine LW_nil ?_
        refine sq_n ?_
        refine CW_region ?_
        refine LW_v (.inl rfl) rfl (by decide) (R_move (v := (.pointer (some ⟨b_a0, 0, none⟩))) e720) ?_
        refine LW_v (.inl rfl) rfl (by decide) (R_load (v := (.agg (encCred x384).toArray)) e722 (load_boxA hST.has (.tail _ (.head _)) (encCred x384) rfl Tryz.isAgg83 Tryz.sizeOf83)) ?_
        obtain ⟨r744, hr745, hm719⟩ := bind_some hm719
        replace hST : ST false (keys ((b_a0, Obj.cells (#[v_a0_in_, v_a0_creds, v_a0_uses, v_a0_words, v_a0_todo, (.int .i64 a0_n)] : Array Value) 134 (0, 0)) :: (R_a0_in_ ++ (R_a0_creds ++ (R_a0_uses ++ (R_a0_words ++ (R_a0_todo ++ []))))))) w _ _ ((b_a0, Obj.cells (#[v_a0_in_, y736, v_a0_uses, v_a0_words, v513, (.int .i64 x517)] : Array Value) 134 (0, 0)) :: (R502 ++ (S737 ++ (S739 ++ (S741 ++ (R516 ++ ((b659, Obj.cells ((encCred x384).toArray : Array Value) 83 (0, 0)) :: L718))))))) := hST.perm (permD [[(b_a0, Obj.cells (#[v_a0_in_, y736, v_a0_uses, v_a0_words, v513, (.int .i64 x517)] : Array Value) 134 (0, 0))], [(b659, Obj.cells ((encCred x384).toArray : Array Value) 83 (0, 0))], R502, S737, S739, S741, R516] [0, 1, 2, 3, 4, 5, 6] [0, 2, 3, 4, 5, 6, 1] L718 (by decide) rfl rfl)
        have hsz := hST.size
        refine LW_e (.inl rfl) rfl (by decide) (E_callM (args := [(.pointer (some ⟨b_a0, 0, none⟩)), (.agg (encCred x384).toArray)]) (caps := #[]) (((b_a0, Obj.cells (#[v_a0_in_, y736, v_a0_uses, v_a0_words, v513, (.int .i64 x517)] : Array Value) 134 (0, 0)) :: (R502 ++ (S737 ++ (S739 ++ (S741 ++ (R516 ++ []))))))) (((b659, Obj.cells ((encCred x384).toArray : Array Value) 83 (0, 0)) :: L718)) hST (by simp only [List.append_assoc, List.cons_append, List.nil_append]; exact List.Perm.refl _) rfl Tryz.call101 (by exact args2 rfl rfl) (fun hH hN hsb hmm => (w_model_Model_begin_w b_a0 v_a0_in_ l500 R502 y736 r728.1 S737 v_a0_uses r728.2.1 S739 v_a0_words r728.2.2 S741 v513 l514 R516 x517 x384 _ _ hH hN (Sub.refl _) hs501 hy738 hy740 hy742 hs515 hr745)) (fun W746 v749 μ747 L751 hST hle748 hlift hK750 => ?_))
        obtain ⟨S752, y754, S755, hv757, rfl, hy753, hy756⟩ := hK750
        replace hv757 := hv757.symm; subst hv757
        simp only [List.append_assoc, List.cons_append, List.nil_append] at hST
        replace hST : ST false (keys ((b_a0, Obj.cells (#[v_a0_in_, v_a0_creds, v_a0_uses, v_a0_words, v_a0_todo, (.int .i64 a0_n)] : Array Value) 134 (0, 0)) :: (R_a0_in_ ++ (R_a0_creds ++ (R_a0_uses ++ (R_a0_words ++ (R_a0_todo ++ []))))))) w _ _ ((b_a0, Obj.cells (#[v_a0_in_, y736, v_a0_uses, v_a0_words, y754, (.int .i64 (r744.2.2))] : Array Value) 134 (0, 0)) :: ((b659, Obj.cells ((encCred x384).toArray : Array Value) 83 (0, 0)) :: (S752 ++ (S737 ++ (S739 ++ (S741 ++ (S755 ++ L718))))))) := hST.perm (permD [[(b_a0, Obj.cells (#[v_a0_in_, y736, v_a0_uses, v_a0_words, y754, (.int .i64 (r744.2.2))] : Array Value) 134 (0, 0))], S752, S737, S739, S741, S755, [(b659, Obj.cells ((encCred x384).toArray : Array Value) 83 (0, 0))]] [0, 1, 2, 3, 4, 5, 6] [0, 6, 1, 2, 3, 4, 5] L718 (by decide) rfl rfl)
        refine LW_nil ?_
        refine bq_n ?_
        refine sq_n ?_
        replace hST : ST false (keys ((b_a0, Obj.cells (#[v_a0_in_, v_a0_creds, v_a0_uses, v_a0_words, v_a0_todo, (.int .i64 a0_n)] : Array Value) 134 (0, 0)) :: (R_a0_in_ ++ (R_a0_creds ++ (R_a0_uses ++ (R_a0_words ++ (R_a0_todo ++ []))))))) w _ _ ((b_a0, Obj.cells (#[v_a0_in_, y736, v_a0_uses, v_a0_words, y754, (.int .i64 (r744.2.2))] : Array Value) 134 (0, 0)) :: (S752 ++ (S737 ++ (S739 ++ (S741 ++ (S755 ++ L718)))))) := hST.sublist (List.Sublist.cons_cons _ (List.Sublist.cons _ (List.Sublist.refl _)))
        exact ⟨e725, r744.1, S752, y736, r728.1, S737, r728.2.1, S739, r728.2.2, S741, y754, r744.2.1, S755, r744.2.2, μ747, _, ⟨rfl, e724⟩, ((hle652.trans hle732).trans hle748), (hST.sublist (List.Sublist.refl _)), e720, e721, e723, hy753, hy738, hy740, hy742, hy756, (by rw [hx388]; exact hm719)⟩
      · replace hm719 := if_f hb727 hm719
        refine CW_skip ?_
        refine bq_n ?_
        refine sq_n ?_
        replace hST : ST false (keys ((b_a0, Obj.cells (#[v_a0_in_, v_a0_creds, v_a0_uses, v_a0_words, v_a0_todo, (.int .i64 a0_n)] : Array Value) 134 (0, 0)) :: (R_a0_in_ ++ (R_a0_creds ++ (R_a0_uses ++ (R_a0_words ++ (R_a0_todo ++ []))))))) w _ _ ((b_a0, Obj.cells (#[v_a0_in_, v503, v_a0_uses, v_a0_words, v513, (.int .i64 x517)] : Array Value) 134 (0, 0)) :: (R502 ++ (R506 ++ (R509 ++ (R512 ++ (R516 ++ L718)))))) := hST.sublist (List.Sublist.cons _ (List.Sublist.refl _))
        exact ⟨e725, l500, R502, v503, l504, R506, l507, R509, l510, R512, v513, l514, R516, x517, μ499, _, ⟨rfl, e724⟩, hle652, (hST.sublist (List.Sublist.refl _)), e720, e721, e723, hs501, hs505, hs508, hs511, hs515, (by rw [hx388]; exact hm719)⟩
    · rcases bool_cases r710 with hb713 | hb713
      · replace hm759 := if_t hb713 hm759
        refine PX_v 3 rfl (by kernel_rfl) (.inr ⟨2, true, 22, rfl, rfl, by decide, (congrArg Value.bool hb713)⟩) rfl (by decide) (fun _ _ h => h) hS0 (fun _ _ _ _ => R_move (v := (.pointer (some ⟨b_a0, 0, none⟩))) e653) ?_
        refine PX_v 4 rfl (by kernel_rfl) (.inr ⟨2, true, 22, rfl, rfl, by decide, (congrArg Value.bool hb713)⟩) rfl (by decide) (fun _ _ h => h) hS0 (fun _ _ _ _ => R_nilCheck rfl) ?_
        refine PX_v 5 rfl (by kernel_rfl) (.inr ⟨2, true, 22, rfl, rfl, by decide, (congrArg Value.bool hb713)⟩) rfl (by decide) (fun _ _ h => h) hS0 (fun _ _ _ _ => R_field fa134_1 rfl) ?_
        refine PX_v 6 rfl (by kernel_rfl) (.inr ⟨2, true, 22, rfl, rfl, by decide, (congrArg Value.bool hb713)⟩) rfl (by decide) (fun _ _ h => h) hS0 (fun l W hpd hs => have hS := hs; R_load (v := v503) rfl (load_box1 hS (.tail _ (.head _)) rfl Tryz.isAgg22)) ?_
        refine PX_v 7 rfl (by kernel_rfl) (.inr ⟨2, true, 22, rfl, rfl, by decide, (congrArg Value.bool hb713)⟩) rfl (by decide) (fun _ _ h => h) hS0 (fun l W hpd hs => have hS := hs; R_load (v := (.agg (encCred x384).toArray)) rfl (load_boxA hS (.head _) (encCred x384) rfl Tryz.isAgg83 Tryz.sizeOf83)) ?_
        obtain ⟨r762, hr763, hm759⟩ := bind_some hm759
        refine PX_e 8 rfl (by kernel_rfl) (.inr ⟨2, true, 22, rfl, rfl, by decide, (congrArg Value.bool hb713)⟩) rfl (by decide) (E_gives (args := [v503, (.agg (encCred x384).toArray)]) hST rfl Tryz.call99 (by exact args2 rfl rfl) (Gives.weak (w_cred_Has v503 l504 x384 _ _ (hs505.sl lenCred (fun b o hq => hST.at_ (.tail _ (.tail _ (List.mem_append_right _ (List.mem_append_left _ hq)))))) hr763)) (fun W764 hST => ?_))
        have hS0 : Has μ499 ((b659, Obj.cells ((encCred x384).toArray : Array Value) 83 (0, 0)) :: ((b_a0, Obj.cells (#[v_a0_in_, v503, v_a0_uses, v_a0_words, v513, (.int .i64 x517)] : Array Value) 134 (0, 0)) :: [])) _ := hST.has.sub (Sub.refl _) (fun p hq => ((List.mem_cons.1 hq).elim (fun hq => by rw [hq]; exact (.head _)) (fun hq => ((List.mem_cons.1 hq).elim (fun hq => by rw [hq]; exact (.tail _ (.head _))) (fun hq => (absurd hq List.not_mem_nil))))))
        refine ⟨hS0, ?_⟩
        refine PX_v 9 rfl (by kernel_rfl) (.inr ⟨2, true, 22, rfl, rfl, by decide, (congrArg Value.bool hb713)⟩) rfl (by decide) (fun _ _ h => h) hS0 (fun _ _ _ _ => R_not (b := r762) rfl) ?_
        refine PX_v 10 rfl (by kernel_rfl) (.inl rfl) rfl (by decide) (fun _ _ h => h) hS0 (fun _ _ _ _ => R_pickT (v := (.bool ((!r762)))) (congrArg Value.bool hb713) rfl) ?_
        replace hm759 := Option.some.inj hm759; subst hm759
        refine PX_at (by kernel_rfl) (key761 _ _ ⟨((!r762)), _, (hST.sublist (List.Sublist.refl _)), e653, e654, rfl, e655, eN, eI, rfl, hm760⟩)
      · replace hm759 := if_f hb713 hm759
        refine PX_no 3 rfl (by kernel_rfl) rfl rfl (by decide) (congrArg Value.bool hb713) rfl (by decide) (fun _ _ h => h) hS0 ?_
        refine PX_no 4 rfl (by kernel_rfl) rfl rfl (by decide) (congrArg Value.bool hb713) rfl (by decide) (fun _ _ h => h) hS0 ?_
        refine PX_no 5 rfl (by kernel_rfl) rfl rfl (by decide) (congrArg Value.bool hb713) rfl (by decide) (fun _ _ h => h) hS0 ?_
        refine PX_no 6 rfl (by kernel_rfl) rfl rfl (by decide) (congrArg Value.bool hb713) rfl (by decide) (fun _ _ h => h) hS0 ?_
        refine PX_no 7 rfl (by kernel_rfl) rfl rfl (by decide) (congrArg Value.bool hb713) rfl (by decide) (fun _ _ h => h) hS0 ?_
        refine PX_no 8 rfl (by kernel_rfl) rfl rfl (by decide) (congrArg Value.bool hb713) rfl (by decide) (fun _ _ h => h) hS0 ?_
        refine PX_no 9 rfl (by kernel_rfl) rfl rfl (by decide) (congrArg Value.bool hb713) rfl (by decide) (fun _ _ h => h) hS0 ?_
        refine PX_v 10 rfl (by kernel_rfl) (.inl rfl) rfl (by decide) (fun _ _ h => h) hS0 (fun _ _ _ _ => R_pickF (v := (.bool false)) (congrArg Value.bool hb713) rfl) ?_
        replace hm759 := Option.some.inj hm759; subst hm759
        refine PX_at (by kernel_rfl) (key761 _ _ ⟨false, _, (hST.sublist (List.Sublist.refl _)), e653, e654, rfl, e655, eN, eI, rfl, hm760⟩)
  · rintro E W ⟨l500, R502, v503, l504, R506, l507, R509, l510, R512, v513, l514, R516, x517, μ499, L650, ⟨eI, eN⟩, hle652, hST, e653, e654, e655, hs501, hs505, hs508, hs511, hs515, hm651⟩
    rw [List.drop_length] at hm651
    rw [m_model_Model_Add_w_L1] at hm651
    refine sq_n ?_
    refine CW_seq ?_
    refine CW_region ?_
    refine LW_v (.inl rfl) rfl (by decide) (R_move (v := (.pointer (some ⟨b_a0, 0, none⟩))) e653) ?_
    obtain ⟨r765, hr766, hm651⟩ := bind_some hm651
    replace hST : ST false (keys ((b_a0, Obj.cells (#[v_a0_in_, v_a0_creds, v_a0_uses, v_a0_words, v_a0_todo, (.int .i64 a0_n)] : Array Value) 134 (0, 0)) :: (R_a0_in_ ++ (R_a0_creds ++ (R_a0_uses ++ (R_a0_words ++ (R_a0_todo ++ []))))))) w _ _ ((b_a0, Obj.cells (#[v_a0_in_, v503, v_a0_uses, v_a0_words, v513, (.int .i64 x517)] : Array Value) 134 (0, 0)) :: (R502 ++ (R506 ++ (R509 ++ (R512 ++ (R516 ++ L650)))))) := hST.perm (List.Perm.refl _)
    have hsz := hST.size
    refine LW_e (.inl rfl) rfl (by decide) (E_callM (args := [(.pointer (some ⟨b_a0, 0, none⟩))]) (caps := #[]) (((b_a0, Obj.cells (#[v_a0_in_, v503, v_a0_uses, v_a0_words, v513, (.int .i64 x517)] : Array Value) 134 (0, 0)) :: (R502 ++ (R506 ++ (R509 ++ (R512 ++ (R516 ++ []))))))) L650 hST (by simp only [List.append_assoc, List.cons_append, List.nil_append]; exact List.Perm.refl _) rfl Tryz.call102 (by exact args1 rfl) (fun hH hN hsb hmm => (w_model_Model_settle_w b_a0 v_a0_in_ l500 R502 v503 l504 R506 v_a0_uses l507 R509 v_a0_words l510 R512 v513 l514 R516 x517 _ _ hH hN (Sub.refl _) hs501 hs505 hs508 hs511 hs515 hr766)) (fun W767 v770 μ768 L772 hST hle769 hlift hK771 => ?_))
    obtain ⟨S773, y775, S776, hv778, rfl, hy774, hy777⟩ := hK771
    replace hv778 := hv778.symm; subst hv778
    simp only [List.append_assoc, List.cons_append, List.nil_append] at hST
    refine LW_nil ?_
    refine sq_n ?_
    refine CW_seq ?_
    refine CW_region ?_
    refine LW_v (.inl rfl) rfl (by decide) (R_move (v := (.pointer (some ⟨b_a0, 0, none⟩))) e653) ?_
    refine LW_v (.inl rfl) rfl (by decide) (R_nilCheck rfl) ?_
    refine LW_v (.inl rfl) rfl (by decide) (R_field fa134_5 rfl) ?_
    refine LW_v (.inl rfl) rfl (by decide) (R_load (v := (.int .i64 r765.2.2)) rfl (load_box1 hST.has (.head _) rfl Tryz.isAgg3)) ?_
    refine LW_v (.inl rfl) rfl (by decide) (R_move (v := (.int .i64 a0_n)) e654) ?_
    refine LW_v (.inl rfl) rfl (by decide) (R_int (k := .i64) (a := r765.2.2) (b := a0_n) (v := (.int .i64 ((IntKind.i64.wrap (r765.2.2 - a0_n))))) rfl rfl rfl) ?_
    refine LW_v (.inl rfl) rfl (by decide) (R_assign (v := (.int .i64 ((IntKind.i64.wrap (r765.2.2 - a0_n))))) rfl) ?_
    refine LW_nil ?_
    refine sq_n ?_
    refine CW_ret ?_
    replace hm651 := Option.some.inj hm651; subst hm651
    refine retQ_1 (v := (.int .i64 ((IntKind.i64.wrap (r765.2.2 - a0_n))))) rfl rfl ?_
    replace hST : ST false (keys ((b_a0, Obj.cells (#[v_a0_in_, v_a0_creds, v_a0_uses, v_a0_words, v_a0_todo, (.int .i64 a0_n)] : Array Value) 134 (0, 0)) :: (R_a0_in_ ++ (R_a0_creds ++ (R_a0_uses ++ (R_a0_words ++ (R_a0_todo ++ []))))))) w _ _ ((b_a0, Obj.cells (#[v_a0_in_, v503, v_a0_uses, v_a0_words, y775, (.int .i64 (r765.2.2))] : Array Value) 134 (0, 0)) :: (S773 ++ (R506 ++ (R509 ++ (R512 ++ (S776 ++ L650)))))) := hST
    exact ⟨_, ((b_a0, Obj.cells (#[v_a0_in_, v503, v_a0_uses, v_a0_words, y775, (.int .i64 (r765.2.2))] : Array Value) 134 (0, 0)) :: (S773 ++ (R506 ++ (R509 ++ (R512 ++ (S776 ++ [])))))), rfl, (ST.backM (L1 := ((b_a0, Obj.cells (#[v_a0_in_, v503, v_a0_uses, v_a0_words, y775, (.int .i64 (r765.2.2))] : Array Value) 134 (0, 0)) :: (S773 ++ (R506 ++ (R509 ++ (R512 ++ (S776 ++ []))))))) (by have hh : ST false (keys ((b_a0, Obj.cells (#[v_a0_in_, v_a0_creds, v_a0_uses, v_a0_words, v_a0_todo, (.int .i64 a0_n)] : Array Value) 134 (0, 0)) :: (R_a0_in_ ++ (R_a0_creds ++ (R_a0_uses ++ (R_a0_words ++ (R_a0_todo ++ []))))))) w _ _ ((b_a0, Obj.cells (#[v_a0_in_, v503, v_a0_uses, v_a0_words, y775, (.int .i64 (r765.2.2))] : Array Value) 134 (0, 0)) :: (S773 ++ (R506 ++ (R509 ++ (R512 ++ (S776 ++ L650)))))) := hST.perm (List.Perm.refl _); simpa only [List.append_assoc, List.cons_append, List.nil_append] using hh)), S773, v503, R506, R509, R512, y775, S776, rfl, rfl, hy774, hs505, hs508, hs511, hy777⟩
theorem w_model_Of (v_a0 : Value) (a0 : List Cred) (r : ((List (Role × (List (ByteArray × Bool)))) × (List Cred) × (List (Role × (List Cred))) × (List (ByteArray × (List Cred))) × (List Fact) × Int)) (w : World) (h_a0 : Sl (Pl encCred) 9 (hp w) v_a0 a0) (hm : m_model_Of a0 = some r) :
    GivesM false Tryz.prog 31 [v_a0] w [] (fun v L1 W' => ∃ (b1 : Nat) (y2 : Value) (S3 : List (Nat × Obj)) (y5 : Value) (S6 : List (Nat × Obj)) (y8 : Value) (S9 : List (Nat × Obj)) (y11 : Value) (S12 : List (Nat × Obj)) (y14 : Value) (S15 : List (Nat × Obj)), v = (.pointer (some ⟨b1, 0, none⟩)) ∧ L1 = ((b1, Obj.cells (#[y2, y5, y8, y11, y14, (.int .i64 (r.2.2.2.2.2))] : Array Value) 134 (0, 0)) :: (S3 ++ (S6 ++ (S9 ++ (S12 ++ (S15 ++ [])))))) ∧ DeepE (fun (x : Role) => (.agg (encRole x).toArray)) (MapRow Value.string (fun (x : Bool) => (Value.bool x))) y2 r.1 S3 ∧ Row 83 encCred 9 y5 r.2.1 S6 ∧ DeepE (fun (x : Role) => (.agg (encRole x).toArray)) (Row 83 encCred 9) y8 r.2.2.1 S9 ∧ DeepE Value.string (Row 83 encCred 9) y11 r.2.2.2.1 S12 ∧ Que 78 encFact 3 y14 r.2.2.2.2.1 S15) := by
  have hST := ST.start (dd := false) w
  unfold m_model_Of at hm
  refine calls_of_CW (n := 13) Tryz.func31 rfl rfl (Nat.le_of_ble_eq_true rfl) ?_
  refine CW_seq ?_
  refine CW_region ?_
  refine LW_v (.inl rfl) rfl (by decide) (R_assign (v := (.pointer none)) rfl) ?_
  refine LW_nil ?_
  refine sq_n ?_
  refine CW_seq ?_
  refine CW_region ?_
  refine LW_e (.inl rfl) rfl (by decide) (E_makeMapD (P := Tryz.prog) (fun (x : Role) => (.agg (encRole x).toArray)) (MapRow Value.string (fun (x : Bool) => (Value.bool x))) hST (fun W1 v4 R2 hST hR3 => ?_))
  refine LW_e (.inl rfl) rfl (by decide) (E_makeMapD (P := Tryz.prog) (fun (x : Role) => (.agg (encRole x).toArray)) (Row 83 encCred 9) hST (fun W5 v8 R6 hST hR7 => ?_))
  refine LW_e (.inl rfl) rfl (by decide) (E_makeMapD (P := Tryz.prog) Value.string (Row 83 encCred 9) hST (fun W9 v12 R10 hST hR11 => ?_))
  obtain ⟨m13, rfl⟩ := hR3.form
  obtain ⟨m14, rfl⟩ := hR7.form
  obtain ⟨m15, rfl⟩ := hR11.form
  refine LW_v (.inl rfl) rfl (by decide) (R_build (qs := #[(0, (.map (some m13))), (2, (.map (some m14))), (3, (.map (some m15)))]) (v := (.agg #[(.map (some m13)), (.slice none 0 0), (.map (some m14)), (.map (some m15)), (.slice none 0 0), (.int .i64 0)])) (parts3 rfl rfl rfl) (run_build Tryz.zeroValue134 Tryz.underlying134 (pl134 _ Tryz.underlying134) (by kernel_rfl))) ?_
  refine LW_e (.inl rfl) rfl (by decide) (E_box (v := (.agg #[(.map (some m13)), (.slice none 0 0), (.map (some m14)), (.map (some m15)), (.slice none 0 0), (.int .i64 0)])) hST rfl (fun W17 b16 hST => ?_))
  refine LW_v (.inl rfl) rfl (by decide) (R_assign (v := (.pointer (some ⟨b16, 0, none⟩))) rfl) ?_
  refine LW_nil ?_
  refine sq_n ?_
  refine CW_seq ?_
  refine CW_region ?_
  refine LW_v (.inl rfl) rfl (by decide) (R_move (v := (.pointer (some ⟨b16, 0, none⟩))) rfl) ?_
  refine LW_v (.inl rfl) rfl (by decide) (R_move (v := v_a0) rfl) ?_
  replace hST : ST false NoF w _ _ ((b16, Obj.cells (#[(.map (some m13)), (.slice none 0 0), (.map (some m14)), (.map (some m15)), (.slice none 0 0), (.int .i64 0)] : Array Value) 134 (0, 0)) :: (R10 ++ (R6 ++ (R2 ++ [])))) := hST
  obtain ⟨r18, hr19, hm⟩ := bind_some hm
  replace hST : ST false NoF w _ _ ((b16, Obj.cells (#[(.map (some m13)), (.slice none 0 0), (.map (some m14)), (.map (some m15)), (.slice none 0 0), (.int .i64 0)] : Array Value) 134 (0, 0)) :: (R2 ++ (R6 ++ (R10 ++ [])))) := hST.perm (permD [[(b16, Obj.cells (#[(.map (some m13)), (.slice none 0 0), (.map (some m14)), (.map (some m15)), (.slice none 0 0), (.int .i64 0)] : Array Value) 134 (0, 0))], R10, R6, R2] [0, 1, 2, 3] [0, 3, 2, 1] ([]) (by decide) rfl rfl)
  have hsz := hST.size
  refine LW_e (.inl rfl) rfl (by decide) (E_callM (args := [(.pointer (some ⟨b16, 0, none⟩)), v_a0]) (caps := #[]) (((b16, Obj.cells (#[(.map (some m13)), (.slice none 0 0), (.map (some m14)), (.map (some m15)), (.slice none 0 0), (.int .i64 0)] : Array Value) 134 (0, 0)) :: (R2 ++ ([] ++ (R6 ++ (R10 ++ ([] ++ []))))))) ([]) hST (by simp only [List.append_assoc, List.cons_append, List.nil_append]; exact List.Perm.refl _) rfl Tryz.call41 (by exact args2 rfl rfl) (fun hH hN hsb hmm => (w_model_Model_Add_w b16 (.map (some m13)) ([]) R2 (.slice none 0 0) ([]) [] (.map (some m14)) ([]) R6 (.map (some m15)) ([]) R10 (.slice none 0 0) ([]) [] 0 v_a0 a0 _ _ hH hN (Sub.refl _) hR3 (Row.nil _ _ _) hR7 hR11 (Que.nil _ _ _) (h_a0.mono (Pl.mono _) hsb) hr19)) (fun W20 v23 μ21 L25 hST hle22 hlift hK24 => ?_))
  obtain ⟨S26, y28, S29, S31, S33, y35, S36, hv38, rfl, hy27, hy30, hy32, hy34, hy37⟩ := hK24
  replace hv38 := hv38.symm; subst hv38
  simp only [List.append_assoc, List.cons_append, List.nil_append] at hST
  refine LW_nil ?_
  refine sq_n ?_
  refine CW_seq ?_
  refine CW_region ?_
  refine LW_v (.inl rfl) rfl (by decide) (R_move (v := (.pointer (some ⟨b16, 0, none⟩))) rfl) ?_
  refine LW_v (.inl rfl) rfl (by decide) (R_assign (v := (.pointer (some ⟨b16, 0, none⟩))) rfl) ?_
  refine LW_nil ?_
  refine sq_n ?_
  refine CW_ret ?_
  replace hm := Option.some.inj hm; subst hm
  refine retQ_1 (v := (.pointer (some ⟨b16, 0, none⟩))) rfl rfl ?_
  replace hST : ST false NoF w _ _ ((b16, Obj.cells (#[(.map (some m13)), y28, (.map (some m14)), (.map (some m15)), y35, (.int .i64 (r18.2.2.2.2.2.2))] : Array Value) 134 (0, 0)) :: (S26 ++ (S29 ++ (S31 ++ (S33 ++ (S36 ++ [])))))) := hST
  exact ⟨_, ((b16, Obj.cells (#[(.map (some m13)), y28, (.map (some m14)), (.map (some m15)), y35, (.int .i64 (r18.2.2.2.2.2.2))] : Array Value) 134 (0, 0)) :: (S26 ++ (S29 ++ (S31 ++ (S33 ++ (S36 ++ [])))))), rfl, (ST.backL (L1 := ((b16, Obj.cells (#[(.map (some m13)), y28, (.map (some m14)), (.map (some m15)), y35, (.int .i64 (r18.2.2.2.2.2.2))] : Array Value) 134 (0, 0)) :: (S26 ++ (S29 ++ (S31 ++ (S33 ++ (S36 ++ []))))))) (by have hh : ST false NoF w _ _ ((b16, Obj.cells (#[(.map (some m13)), y28, (.map (some m14)), (.map (some m15)), y35, (.int .i64 (r18.2.2.2.2.2.2))] : Array Value) 134 (0, 0)) :: (S26 ++ (S29 ++ (S31 ++ (S33 ++ (S36 ++ [])))))) := hST.perm (List.Perm.refl _); simpa only [List.append_assoc, List.cons_append, List.nil_append] using hh)), b16, (.map (some m13)), S26, y28, S29, (.map (some m14)), S31, (.map (some m15)), S33, y35, S36, rfl, rfl, hy27, hy30, hy32, hy34, hy37⟩
theorem w_ref03_Same (v_a0 : Value) (a0 : List ByteArray) (v_a1 : Value) (a1 : List ByteArray) (r : Bool) (w : World) (h_a0 : Sl (Pl encSk) 1 (hp w) v_a0 a0) (h_a1 : Sl (Pl encSk) 1 (hp w) v_a1 a1) (hm : m_ref03_Same a0 a1 = some r) :
    Gives true Tryz.prog 22 [v_a0, v_a1] w (.bool r) := by
  have hST := ST.start (dd := true) w
  unfold m_ref03_Same at hm
  refine calls_of_CW (n := 26) Tryz.func22 rfl rfl (Nat.le_of_ble_eq_true rfl) ?_
  refine CW_seq ?_
  refine CW_region ?_
  refine LW_v (.inl rfl) rfl (by decide) (R_assign (v := (.bool false)) rfl) ?_
  refine LW_nil ?_
  refine sq_n ?_
  refine CW_seq ?_
  refine CW_seq ?_
  refine CW_region ?_
  refine LW_v (.inl rfl) rfl (by decide) (R_move (v := v_a0) rfl) ?_
  refine LW_v (.inl rfl) rfl (by decide) (R_len Tryz.underlying27 rfl h_a0) ?_
  refine LW_v (.inl rfl) rfl (by decide) (R_move (v := v_a1) rfl) ?_
  refine LW_v (.inl rfl) rfl (by decide) (R_len Tryz.underlying27 rfl h_a1) ?_
  refine LW_v (.inl rfl) rfl (by decide) (R_int (k := .i64) (a := ((a0.length : Int))) (b := ((a1.length : Int))) (v := (.bool ((((a0.length : Int)) != ((a1.length : Int)))))) rfl rfl rfl) ?_
  refine LW_nil ?_
  refine sq_n ?_
  refine CW_if (b := (((a0.length : Int)) != ((a1.length : Int)))) rfl (fun hb1 => ?_) (fun hb1 => ?_)
  · replace hm := if_t hb1 hm
    refine CW_seq ?_
    refine CW_region ?_
    refine LW_v (.inl rfl) rfl (by decide) (R_assign (v := (.bool false)) rfl) ?_
    refine LW_nil ?_
    refine sq_n ?_
    refine CW_ret ?_
    refine sq_r ?_
    replace hm := Option.some.inj hm; subst hm
    refine retQ_1 (v := (.bool false)) rfl rfl ?_
    exact ⟨rfl, hST.ex⟩
  · replace hm := if_f hb1 hm
    refine CW_skip ?_
    refine sq_n ?_
    refine CW_seq ?_
    refine CW_seq ?_
    refine CW_region ?_
    refine LW_v (.inl rfl) rfl (by decide) (R_move (v := v_a0) rfl) ?_
    refine LW_v (.inl rfl) rfl (by decide) (R_len Tryz.underlying27 rfl h_a0) ?_
    refine LW_v (.inl rfl) rfl (by decide) (R_move (v := (.int .i64 0)) rfl) ?_
    refine LW_nil ?_
    refine sq_n ?_
    refine CW_range (fun i E W => ∃  (L149 : List (Nat × Obj)), (E 13 = .int .i64 (i : Nat) ∧ E 12 = .int .i64 (a0.length : Nat)) ∧ ST true NoF w W (hp w) L149 ∧ E 0 = v_a0 ∧ E 1 = v_a1 ∧ m_ref03_Same_L1 a1 (a0.drop i) i = some r) a0.length h_a0.len ⟨_, ⟨rfl, rfl⟩, (hST.sublist (List.Sublist.refl _)), rfl, rfl, hm⟩ (by decide) (by decide) (by decide) (fun _ _ _ h => by obtain ⟨_, eIN, _⟩ := h; exact eIN) ?_ ?_
    · rintro i90 E W hi96 ⟨L149, ⟨eI, eN⟩, hST, e151, e152, hm150⟩
      obtain ⟨x91, xs92, hx94, hx93, hx95⟩ := drop_cons hi96
      rw [hx94] at hm150
      rw [m_ref03_Same_L1] at hm150
      refine CW_block ?_
      refine CW_seq ?_
      refine CW_region ?_
      refine LW_v (.inl rfl) rfl (by decide) (R_move (v := (.int .i64 ((i90 : Int)))) eI) ?_
      refine LW_v (.inl rfl) rfl (by decide) (R_assign (v := (.int .i64 ((i90 : Int)))) rfl) ?_
      refine LW_nil ?_
      refine sq_n ?_
      refine CW_seq ?_
      refine PX_start (fun l W => Has (hp w) [] W) Tryz_mixed ?_
      replace hST := hST.drew
      have hS0 : Has (hp w) [] _ := hST.has.sub (Sub.refl _) (fun p hq => (absurd hq List.not_mem_nil))
      refine PX_v 0 rfl (by kernel_rfl) (.inl rfl) rfl (by decide) (fun _ _ h => h) hS0 (fun _ _ _ _ => R_move (v := v_a0) e151) ?_
      refine PX_v 1 rfl (by kernel_rfl) (.inl rfl) rfl (by decide) (fun _ _ h => h) hS0 (fun _ _ _ _ => R_move (v := (.int .i64 ((i90 : Int)))) rfl) ?_
      refine PX_q 2 rfl (by kernel_rfl) (.inl rfl) rfl (by decide) (fun _ _ h => h) hS0 (R_indexP (enc := encSk) (i := (i90 : Int)) (x0 := x91) Tryz.underlying27 Tryz.sizeOf9 rfl rfl h_a0 (Int.natCast_nonneg _) hx93) (fun p169 hp170 => ?_)
      refine PX_v 3 rfl (by kernel_rfl) (.inl rfl) rfl (by decide) (fun _ _ h => h) hS0 (fun l W hpd hs => have hS := hs; R_load rfl (load_at1 hS (y := (.string x91)) hp170 Tryz.isAgg9)) ?_
      refine PX_v 4 rfl (by kernel_rfl) (.inl rfl) rfl (by decide) (fun _ _ h => h) hS0 (fun _ _ _ _ => R_move (v := v_a1) e152) ?_
      refine PX_v 5 rfl (by kernel_rfl) (.inl rfl) rfl (by decide) (fun _ _ h => h) hS0 (fun _ _ _ _ => R_move (v := (.int .i64 ((i90 : Int)))) rfl) ?_
      obtain ⟨x175, hx176, hm150⟩ := bind_some hm150
      refine PX_q 6 rfl (by kernel_rfl) (.inl rfl) rfl (by decide) (fun _ _ h => h) hS0 (R_indexP (enc := encSk) (i := (i90 : Int)) (x0 := x175) Tryz.underlying27 Tryz.sizeOf9 rfl rfl h_a1 (idx_nonneg hx176) (idx_get hx176)) (fun p172 hp173 => ?_)
      refine PX_v 7 rfl (by kernel_rfl) (.inl rfl) rfl (by decide) (fun _ _ h => h) hS0 (fun l W hpd hs => have hS := hs; R_load rfl (load_at1 hS (y := (.string x175)) hp173 Tryz.isAgg9)) ?_
      refine PX_v 8 rfl (by kernel_rfl) (.inl rfl) rfl (by decide) (fun _ _ h => h) hS0 (fun _ _ _ _ => R_str (a := x91) (b := x175) (v := (.bool ((!(beqS x91 x175))))) rfl rfl rfl) ?_
      refine PX_done (by kernel_rfl) ?_
      refine sq_n ?_
      refine CW_if (b := (!(beqS x91 x175))) rfl (fun hb177 => ?_) (fun hb177 => ?_)
      · replace hm150 := if_t hb177 hm150
        refine CW_seq ?_
        refine CW_region ?_
        refine LW_v (.inl rfl) rfl (by decide) (R_assign (v := (.bool false)) rfl) ?_
        refine LW_nil ?_
        refine sq_n ?_
        refine CW_ret ?_
        refine bq_r (sq_r (bq_r (sq_r ?_)))
        replace hm150 := Option.some.inj hm150; subst hm150
        refine retQ_1 (v := (.bool false)) rfl rfl ?_
        exact ⟨rfl, hST.ex⟩
      · replace hm150 := if_f hb177 hm150
        refine CW_skip ?_
        refine bq_n ?_
        refine sq_n ?_
        exact ⟨eI, _, ⟨rfl, eN⟩, (hST.sublist (List.Sublist.refl _)), e151, e152, (by rw [hx95]; exact hm150)⟩
    · rintro E W ⟨L149, ⟨eI, eN⟩, hST, e151, e152, hm150⟩
      rw [List.drop_length] at hm150
      rw [m_ref03_Same_L1] at hm150
      refine sq_n ?_
      refine CW_seq ?_
      refine CW_region ?_
      refine LW_v (.inl rfl) rfl (by decide) (R_assign (v := (.bool true)) rfl) ?_
      refine LW_nil ?_
      refine sq_n ?_
      refine CW_ret ?_
      replace hm150 := Option.some.inj hm150; subst hm150
      refine retQ_1 (v := (.bool true)) rfl rfl ?_
      exact ⟨rfl, hST.ex⟩
theorem w_ref03_Right (a0 : ByteArray) (r : Bool) (w : World)  (hm : m_ref03_Right a0 = some r) :
    Gives true Tryz.prog 108 [(.string a0)] w (.bool r) := by
  have hST := ST.start (dd := true) w
  unfold m_ref03_Right at hm
  refine calls_of_CW (n := 49) Tryz.func108 rfl rfl (Nat.le_of_ble_eq_true rfl) ?_
  refine CW_seq ?_
  refine CW_region ?_
  refine LW_v (.inl rfl) rfl (by decide) (R_assign (v := (.bool false)) rfl) ?_
  refine LW_nil ?_
  refine sq_n ?_
  refine CW_seq ?_
  refine CW_seq ?_
  refine CW_region ?_
  refine LW_v (.inl rfl) rfl (by decide) (R_move (v := (.string a0)) rfl) ?_
  refine LW_v (.inl rfl) rfl (by decide) (R_str (a := a0) (b := zS) (v := (.bool ((beqS a0 zS)))) rfl rfl rfl) ?_
  refine LW_v (.inl rfl) rfl (by decide) (R_move (v := (.bool ((beqS a0 zS)))) rfl) ?_
  obtain ⟨s444, hm445, hm446⟩ := bind_some hm
  refine LW_join (J := fun E W => ∃ (x2 : Bool) (L3 : List (Nat × Obj)), ST true NoF w W (hp w) L3 ∧ E 0 = (.string a0) ∧ E 11 = (.bool x2) ∧ (((if x2 then some true else (((idxS a0 0)).bind fun c442 => some ((decide (((c442.toNat : Int)) < 97))))) : Option Bool).bind fun x10 => (((if x10 then some true else (((idxS a0 0)).bind fun c436 => some ((decide (((c436.toNat : Int)) > 122))))) : Option Bool).bind fun x18 => (if x18 then some false else m_ref03_Right_L1 a0 FUEL 0))) = some r) 4 ?_ (fun key447 => ?_)
  · rintro E W ⟨x2, L3, hST, e5, e6, hm4⟩
    refine LW_v (.inl rfl) rfl (by decide) (R_move (v := (.bool x2)) e6) ?_
    obtain ⟨s438, hm439, hm440⟩ := bind_some hm4
    refine LW_join (J := fun E W => ∃ (x10 : Bool) (L11 : List (Nat × Obj)), ST true NoF w W (hp w) L11 ∧ E 0 = (.string a0) ∧ E 16 = (.bool x10) ∧ (((if x10 then some true else (((idxS a0 0)).bind fun c436 => some ((decide (((c436.toNat : Int)) > 122))))) : Option Bool).bind fun x18 => (if x18 then some false else m_ref03_Right_L1 a0 FUEL 0)) = some r) 4 ?_ (fun key441 => ?_)
    · rintro E W ⟨x10, L11, hST, e13, e14, hm12⟩
      refine LW_v (.inl rfl) rfl (by decide) (R_move (v := (.bool x10)) e14) ?_
      obtain ⟨s432, hm433, hm434⟩ := bind_some hm12
      refine LW_join (J := fun E W => ∃ (x18 : Bool) (L19 : List (Nat × Obj)), ST true NoF w W (hp w) L19 ∧ E 0 = (.string a0) ∧ E 21 = (.bool x18) ∧ (if x18 then some false else m_ref03_Right_L1 a0 FUEL 0) = some r) 4 ?_ (fun key435 => ?_)
      · rintro E W ⟨x18, L19, hST, e21, e22, hm20⟩
        refine LW_nil ?_
        refine sq_n ?_
        refine CW_if (b := x18) e22 (fun hb23 => ?_) (fun hb23 => ?_)
        · replace hm20 := if_t hb23 hm20
          refine CW_seq ?_
          refine CW_region ?_
          refine LW_v (.inl rfl) rfl (by decide) (R_assign (v := (.bool false)) rfl) ?_
          refine LW_nil ?_
          refine sq_n ?_
          refine CW_ret ?_
          refine sq_r ?_
          replace hm20 := Option.some.inj hm20; subst hm20
          refine retQ_1 (v := (.bool false)) rfl rfl ?_
          exact ⟨rfl, hST.ex⟩
        · replace hm20 := if_f hb23 hm20
          refine CW_skip ?_
          refine sq_n ?_
          refine CW_seq ?_
          refine CW_seq ?_
          refine CW_region ?_
          refine LW_v (.inl rfl) rfl (by decide) (R_assign (v := (.int .i64 0)) rfl) ?_
          refine LW_nil ?_
          refine sq_n ?_
          refine CW_block (CW_loop (fun m E W => ∃ (x293 : Int) (L362 : List (Nat × Obj)), ST true NoF w W (hp w) L362 ∧ E 0 = (.string a0) ∧ E 3 = (.int .i64 x293) ∧ m_ref03_Right_L1 a0 m x293 = some r) FUEL ⟨0, _, (hST.sublist (List.Sublist.refl _)), e21, rfl, hm20⟩ ?_)
          rintro m E W ⟨x293, L362, hST, e365, e366, hm363⟩
          cases m with
          | zero => rw [m_ref03_Right_L1] at hm363; cases hm363
          | succ n364 =>
            rw [m_ref03_Right_L1] at hm363
            refine CW_seq ?_
            refine CW_seq ?_
            refine CW_region ?_
            refine LW_v (.inl rfl) rfl (by decide) (R_move (v := (.int .i64 x293)) e366) ?_
            refine LW_v (.inl rfl) rfl (by decide) (R_move (v := (.string a0)) e365) ?_
            refine LW_v (.inl rfl) rfl (by decide) (R_lenStr (s := a0) Tryz.underlying9 rfl) ?_
            refine LW_v (.inl rfl) rfl (by decide) (R_int (k := .i64) (a := x293) (b := ((a0.size : Int))) (v := (.bool ((decide (x293 < ((a0.size : Int))))))) rfl rfl rfl) ?_
            refine LW_nil ?_
            refine sq_n ?_
            refine CW_if (b := (decide (x293 < ((a0.size : Int))))) rfl (fun hb367 => ?_) (fun hb367 => ?_)
            · replace hm363 := if_t hb367 hm363
              refine CW_skip ?_
              refine sq_n ?_
              refine CW_seq ?_
              refine CW_block ?_
              refine CW_seq ?_
              refine CW_region ?_
              refine LW_v (.inl rfl) rfl (by decide) (R_move (v := (.string a0)) e365) ?_
              refine LW_v (.inl rfl) rfl (by decide) (R_move (v := (.int .i64 x293)) e366) ?_
              obtain ⟨c368, hx369, hm363⟩ := bind_some hm363
              refine LW_v (.inl rfl) rfl (by decide) (R_indexStr (i := x293) Tryz.underlying9 rfl rfl (idxS_nonneg hx369) (idxS_get hx369)) ?_
              refine LW_v (.inl rfl) rfl (by decide) (R_assign (v := (.int .u8 ((c368.toNat : Int)))) rfl) ?_
              refine LW_nil ?_
              refine sq_n ?_
              refine CW_seq ?_
              refine CW_region ?_
              refine LW_v (.inl rfl) rfl (by decide) (R_move (v := (.int .u8 ((c368.toNat : Int)))) rfl) ?_
              refine LW_v (.inl rfl) rfl (by decide) (R_int (k := .u8) (a := ((c368.toNat : Int))) (b := 97) (v := (.bool ((decide (((c368.toNat : Int)) < 97))))) rfl rfl rfl) ?_
              refine LW_v (.inl rfl) rfl (by decide) (R_move (v := (.bool ((decide (((c368.toNat : Int)) < 97))))) rfl) ?_
              obtain ⟨s428, hm429, hm430⟩ := bind_some hm363
              refine LW_join (J := fun E W => ∃ (x371 : Bool) (L372 : List (Nat × Obj)), ST true NoF w W (hp w) L372 ∧ E 0 = (.string a0) ∧ E 3 = (.int .i64 x293) ∧ E 4 = (.int .u8 ((c368.toNat : Int))) ∧ E 36 = (.bool x371) ∧ (((if x371 then (((if (decide (((c368.toNat : Int)) < 48)) then some true else some ((decide (((c368.toNat : Int)) > 57)))) : Option Bool).bind fun x416 => some x416) else some false) : Option Bool).bind fun x392 => (((if x392 then some ((((c368.toNat : Int)) != 45)) else some false) : Option Bool).bind fun x400 => (if x400 then some false else (m_ref03_Right_L1 a0 n364 ((IntKind.i64.wrap (x293 + 1))))))) = some r) 3 ?_ (fun key431 => ?_)
              · rintro E W ⟨x371, L372, hST, e374, e375, e376, e377, hm373⟩
                refine LW_v (.inl rfl) rfl (by decide) (R_move (v := (.bool x371)) e377) ?_
                obtain ⟨s411, hm412, hm413⟩ := bind_some hm373
                refine LW_join (J := fun E W => ∃ (x392 : Bool) (L393 : List (Nat × Obj)), ST true NoF w W (hp w) L393 ∧ E 0 = (.string a0) ∧ E 3 = (.int .i64 x293) ∧ E 4 = (.int .u8 ((c368.toNat : Int))) ∧ E 44 = (.bool x392) ∧ (((if x392 then some ((((c368.toNat : Int)) != 45)) else some false) : Option Bool).bind fun x400 => (if x400 then some false else (m_ref03_Right_L1 a0 n364 ((IntKind.i64.wrap (x293 + 1)))))) = some r) 7 ?_ (fun key414 => ?_)
                · rintro E W ⟨x392, L393, hST, e395, e396, e397, e398, hm394⟩
                  refine LW_v (.inl rfl) rfl (by decide) (R_move (v := (.bool x392)) e398) ?_
                  obtain ⟨s407, hm408, hm409⟩ := bind_some hm394
                  refine LW_join (J := fun E W => ∃ (x400 : Bool) (L401 : List (Nat × Obj)), ST true NoF w W (hp w) L401 ∧ E 0 = (.string a0) ∧ E 3 = (.int .i64 x293) ∧ E 48 = (.bool x400) ∧ (if x400 then some false else (m_ref03_Right_L1 a0 n364 ((IntKind.i64.wrap (x293 + 1))))) = some r) 3 ?_ (fun key410 => ?_)
                  · rintro E W ⟨x400, L401, hST, e403, e404, e405, hm402⟩
                    refine LW_nil ?_
                    refine sq_n ?_
                    refine CW_if (b := x400) e405 (fun hb406 => ?_) (fun hb406 => ?_)
                    · replace hm402 := if_t hb406 hm402
                      refine CW_seq ?_
                      refine CW_region ?_
                      refine LW_v (.inl rfl) rfl (by decide) (R_assign (v := (.bool false)) rfl) ?_
                      refine LW_nil ?_
                      refine sq_n ?_
                      refine CW_ret ?_
                      refine bq_r (sq_r (sq_r (bq_r (sq_r ?_))))
                      replace hm402 := Option.some.inj hm402; subst hm402
                      refine retQ_1 (v := (.bool false)) rfl rfl ?_
                      exact ⟨rfl, hST.ex⟩
                    · replace hm402 := if_f hb406 hm402
                      refine CW_skip ?_
                      refine bq_n ?_
                      refine sq_n ?_
                      refine CW_region ?_
                      refine LW_v (.inl rfl) rfl (by decide) (R_move (v := (.int .i64 x293)) e404) ?_
                      refine LW_v (.inl rfl) rfl (by decide) (R_int (k := .i64) (a := x293) (b := 1) (v := (.int .i64 ((IntKind.i64.wrap (x293 + 1))))) rfl rfl rfl) ?_
                      refine LW_v (.inl rfl) rfl (by decide) (R_assign (v := (.int .i64 ((IntKind.i64.wrap (x293 + 1))))) rfl) ?_
                      refine LW_nil ?_
                      refine sq_n ?_
                      exact ⟨n364, Nat.lt_succ_self _, ((IntKind.i64.wrap (x293 + 1))), _, (hST.sublist (List.Sublist.refl _)), e403, rfl, hm402⟩
                  · rcases bool_cases x392 with hb399 | hb399
                    · replace hm408 := if_t hb399 hm408
                      refine LW_v (.inr ⟨14, true, 45, rfl, rfl, by decide, (congrArg Value.bool hb399)⟩) rfl (by decide) (R_move (v := (.int .u8 ((c368.toNat : Int)))) e397) ?_
                      refine LW_v (.inr ⟨14, true, 45, rfl, rfl, by decide, (congrArg Value.bool hb399)⟩) rfl (by decide) (R_int (k := .u8) (a := ((c368.toNat : Int))) (b := 45) (v := (.bool ((((c368.toNat : Int)) != 45)))) rfl rfl rfl) ?_
                      refine LW_v (.inl rfl) rfl (by decide) (R_pickT (v := (.bool ((((c368.toNat : Int)) != 45)))) (congrArg Value.bool hb399) rfl) ?_
                      replace hm408 := Option.some.inj hm408; subst hm408
                      exact key410 _ _ ⟨((((c368.toNat : Int)) != 45)), _, (hST.sublist (List.Sublist.refl _)), e395, e396, rfl, hm409⟩
                    · replace hm408 := if_f hb399 hm408
                      refine LW_no rfl (by decide) rfl rfl (by decide) (congrArg Value.bool hb399) ?_
                      refine LW_no rfl (by decide) rfl rfl (by decide) (congrArg Value.bool hb399) ?_
                      refine LW_v (.inl rfl) rfl (by decide) (R_pickF (v := (.bool false)) (congrArg Value.bool hb399) rfl) ?_
                      replace hm408 := Option.some.inj hm408; subst hm408
                      exact key410 _ _ ⟨false, _, (hST.sublist (List.Sublist.refl _)), e395, e396, rfl, hm409⟩
                · rcases bool_cases x371 with hb378 | hb378
                  · replace hm412 := if_t hb378 hm412
                    refine LW_v (.inr ⟨6, true, 37, rfl, rfl, by decide, (congrArg Value.bool hb378)⟩) rfl (by decide) (R_move (v := (.int .u8 ((c368.toNat : Int)))) e376) ?_
                    refine LW_v (.inr ⟨6, true, 37, rfl, rfl, by decide, (congrArg Value.bool hb378)⟩) rfl (by decide) (R_int (k := .u8) (a := ((c368.toNat : Int))) (b := 48) (v := (.bool ((decide (((c368.toNat : Int)) < 48))))) rfl rfl rfl) ?_
                    refine LW_v (.inr ⟨6, true, 37, rfl, rfl, by decide, (congrArg Value.bool hb378)⟩) rfl (by decide) (R_move (v := (.bool ((decide (((c368.toNat : Int)) < 48))))) rfl) ?_
                    obtain ⟨s424, hm425, hm426⟩ := bind_some hm412
                    refine LW_join (J := fun E W => ∃ (x416 : Bool) (L417 : List (Nat × Obj)), ST true NoF w W (hp w) L417 ∧ E 0 = (.string a0) ∧ E 3 = (.int .i64 x293) ∧ E 4 = (.int .u8 ((c368.toNat : Int))) ∧ E 37 = (.bool x371) ∧ E 43 = (.bool x416) ∧ some x416 = some s411) 3 ?_ (fun key427 => ?_)
                    · rintro E W ⟨x416, L417, hST, e419, e420, e421, e422, e423, hm418⟩
                      refine LW_v (.inl rfl) rfl (by decide) (R_pickT (v := (.bool x416)) (e422.trans (congrArg Value.bool hb378)) e423) ?_
                      replace hm418 := Option.some.inj hm418; subst hm418
                      exact key414 _ _ ⟨x416, _, (hST.sublist (List.Sublist.refl _)), e419, e420, e421, rfl, hm413⟩
                    · rcases bool_cases ((decide (((c368.toNat : Int)) < 48))) with hb415 | hb415
                      · replace hm425 := if_t hb415 hm425
                        refine LW_no rfl (by decide) rfl rfl (by decide) (congrArg Value.bool hb415) ?_
                        refine LW_no rfl (by decide) rfl rfl (by decide) (congrArg Value.bool hb415) ?_
                        refine LW_v (.inr ⟨6, true, 37, rfl, rfl, by decide, (congrArg Value.bool hb378)⟩) rfl (by decide) (R_pickT (v := (.bool true)) (congrArg Value.bool hb415) rfl) ?_
                        replace hm425 := Option.some.inj hm425; subst hm425
                        exact key427 _ _ ⟨true, _, (hST.sublist (List.Sublist.refl _)), e374, e375, e376, rfl, rfl, hm426⟩
                      · replace hm425 := if_f hb415 hm425
                        refine LW_v (.inr ⟨9, false, 40, rfl, rfl, by decide, (congrArg Value.bool hb415)⟩) rfl (by decide) (R_move (v := (.int .u8 ((c368.toNat : Int)))) e376) ?_
                        refine LW_v (.inr ⟨9, false, 40, rfl, rfl, by decide, (congrArg Value.bool hb415)⟩) rfl (by decide) (R_int (k := .u8) (a := ((c368.toNat : Int))) (b := 57) (v := (.bool ((decide (((c368.toNat : Int)) > 57))))) rfl rfl rfl) ?_
                        refine LW_v (.inr ⟨6, true, 37, rfl, rfl, by decide, (congrArg Value.bool hb378)⟩) rfl (by decide) (R_pickF (v := (.bool ((decide (((c368.toNat : Int)) > 57))))) (congrArg Value.bool hb415) rfl) ?_
                        replace hm425 := Option.some.inj hm425; subst hm425
                        exact key427 _ _ ⟨((decide (((c368.toNat : Int)) > 57))), _, (hST.sublist (List.Sublist.refl _)), e374, e375, e376, rfl, rfl, hm426⟩
                  · replace hm412 := if_f hb378 hm412
                    refine LW_no rfl (by decide) rfl rfl (by decide) (congrArg Value.bool hb378) ?_
                    refine LW_no rfl (by decide) rfl rfl (by decide) (congrArg Value.bool hb378) ?_
                    refine LW_no rfl (by decide) rfl rfl (by decide) (congrArg Value.bool hb378) ?_
                    refine LW_nou rfl (by decide) rfl rfl (by decide) rfl ?_
                    refine LW_nou rfl (by decide) rfl rfl (by decide) rfl ?_
                    refine LW_no rfl (by decide) rfl rfl (by decide) (congrArg Value.bool hb378) ?_
                    refine LW_v (.inl rfl) rfl (by decide) (R_pickF (v := (.bool false)) (congrArg Value.bool hb378) rfl) ?_
                    replace hm412 := Option.some.inj hm412; subst hm412
                    exact key414 _ _ ⟨false, _, (hST.sublist (List.Sublist.refl _)), e374, e375, e376, rfl, hm413⟩
              · rcases bool_cases ((decide (((c368.toNat : Int)) < 97))) with hb370 | hb370
                · replace hm429 := if_t hb370 hm429
                  refine LW_no rfl (by decide) rfl rfl (by decide) (congrArg Value.bool hb370) ?_
                  refine LW_no rfl (by decide) rfl rfl (by decide) (congrArg Value.bool hb370) ?_
                  refine LW_v (.inl rfl) rfl (by decide) (R_pickT (v := (.bool true)) (congrArg Value.bool hb370) rfl) ?_
                  replace hm429 := Option.some.inj hm429; subst hm429
                  exact key431 _ _ ⟨true, _, (hST.sublist (List.Sublist.refl _)), e365, e366, rfl, rfl, hm430⟩
                · replace hm429 := if_f hb370 hm429
                  refine LW_v (.inr ⟨2, false, 33, rfl, rfl, by decide, (congrArg Value.bool hb370)⟩) rfl (by decide) (R_move (v := (.int .u8 ((c368.toNat : Int)))) rfl) ?_
                  refine LW_v (.inr ⟨2, false, 33, rfl, rfl, by decide, (congrArg Value.bool hb370)⟩) rfl (by decide) (R_int (k := .u8) (a := ((c368.toNat : Int))) (b := 122) (v := (.bool ((decide (((c368.toNat : Int)) > 122))))) rfl rfl rfl) ?_
                  refine LW_v (.inl rfl) rfl (by decide) (R_pickF (v := (.bool ((decide (((c368.toNat : Int)) > 122))))) (congrArg Value.bool hb370) rfl) ?_
                  replace hm429 := Option.some.inj hm429; subst hm429
                  exact key431 _ _ ⟨((decide (((c368.toNat : Int)) > 122))), _, (hST.sublist (List.Sublist.refl _)), e365, e366, rfl, rfl, hm430⟩
            · replace hm363 := if_f hb367 hm363
              refine CW_exit ?_
              refine sq_e (sq_e (bq_e ?_))
              refine sq_n ?_
              refine CW_seq ?_
              refine CW_region ?_
              refine LW_v (.inl rfl) rfl (by decide) (R_assign (v := (.bool true)) rfl) ?_
              refine LW_nil ?_
              refine sq_n ?_
              refine CW_ret ?_
              replace hm363 := Option.some.inj hm363; subst hm363
              refine retQ_1 (v := (.bool true)) rfl rfl ?_
              exact ⟨rfl, hST.ex⟩
      · rcases bool_cases x10 with hb15 | hb15
        · replace hm433 := if_t hb15 hm433
          refine LW_no rfl (by decide) rfl rfl (by decide) (congrArg Value.bool hb15) ?_
          refine LW_no rfl (by decide) rfl rfl (by decide) (congrArg Value.bool hb15) ?_
          refine LW_no rfl (by decide) rfl rfl (by decide) (congrArg Value.bool hb15) ?_
          refine LW_v (.inl rfl) rfl (by decide) (R_pickT (v := (.bool true)) (congrArg Value.bool hb15) rfl) ?_
          replace hm433 := Option.some.inj hm433; subst hm433
          exact key435 _ _ ⟨true, _, (hST.sublist (List.Sublist.refl _)), e13, rfl, hm434⟩
        · replace hm433 := if_f hb15 hm433
          refine LW_v (.inr ⟨12, false, 17, rfl, rfl, by decide, (congrArg Value.bool hb15)⟩) rfl (by decide) (R_move (v := (.string a0)) e13) ?_
          obtain ⟨c436, hx437, hm433⟩ := bind_some hm433
          refine LW_v (.inr ⟨12, false, 17, rfl, rfl, by decide, (congrArg Value.bool hb15)⟩) rfl (by decide) (R_indexStr (i := 0) Tryz.underlying9 rfl rfl (idxS_nonneg hx437) (idxS_get hx437)) ?_
          refine LW_v (.inr ⟨12, false, 17, rfl, rfl, by decide, (congrArg Value.bool hb15)⟩) rfl (by decide) (R_int (k := .u8) (a := ((c436.toNat : Int))) (b := 122) (v := (.bool ((decide (((c436.toNat : Int)) > 122))))) rfl rfl rfl) ?_
          refine LW_v (.inl rfl) rfl (by decide) (R_pickF (v := (.bool ((decide (((c436.toNat : Int)) > 122))))) (congrArg Value.bool hb15) rfl) ?_
          replace hm433 := Option.some.inj hm433; subst hm433
          exact key435 _ _ ⟨((decide (((c436.toNat : Int)) > 122))), _, (hST.sublist (List.Sublist.refl _)), e13, rfl, hm434⟩
    · rcases bool_cases x2 with hb7 | hb7
      · replace hm439 := if_t hb7 hm439
        refine LW_no rfl (by decide) rfl rfl (by decide) (congrArg Value.bool hb7) ?_
        refine LW_no rfl (by decide) rfl rfl (by decide) (congrArg Value.bool hb7) ?_
        refine LW_no rfl (by decide) rfl rfl (by decide) (congrArg Value.bool hb7) ?_
        refine LW_v (.inl rfl) rfl (by decide) (R_pickT (v := (.bool true)) (congrArg Value.bool hb7) rfl) ?_
        replace hm439 := Option.some.inj hm439; subst hm439
        exact key441 _ _ ⟨true, _, (hST.sublist (List.Sublist.refl _)), e5, rfl, hm440⟩
      · replace hm439 := if_f hb7 hm439
        refine LW_v (.inr ⟨7, false, 12, rfl, rfl, by decide, (congrArg Value.bool hb7)⟩) rfl (by decide) (R_move (v := (.string a0)) e5) ?_
        obtain ⟨c442, hx443, hm439⟩ := bind_some hm439
        refine LW_v (.inr ⟨7, false, 12, rfl, rfl, by decide, (congrArg Value.bool hb7)⟩) rfl (by decide) (R_indexStr (i := 0) Tryz.underlying9 rfl rfl (idxS_nonneg hx443) (idxS_get hx443)) ?_
        refine LW_v (.inr ⟨7, false, 12, rfl, rfl, by decide, (congrArg Value.bool hb7)⟩) rfl (by decide) (R_int (k := .u8) (a := ((c442.toNat : Int))) (b := 97) (v := (.bool ((decide (((c442.toNat : Int)) < 97))))) rfl rfl rfl) ?_
        refine LW_v (.inl rfl) rfl (by decide) (R_pickF (v := (.bool ((decide (((c442.toNat : Int)) < 97))))) (congrArg Value.bool hb7) rfl) ?_
        replace hm439 := Option.some.inj hm439; subst hm439
        exact key441 _ _ ⟨((decide (((c442.toNat : Int)) < 97))), _, (hST.sublist (List.Sublist.refl _)), e5, rfl, hm440⟩
  · rcases bool_cases ((beqS a0 zS)) with hb1 | hb1
    · replace hm445 := if_t hb1 hm445
      refine LW_no rfl (by decide) rfl rfl (by decide) (congrArg Value.bool hb1) ?_
      refine LW_no rfl (by decide) rfl rfl (by decide) (congrArg Value.bool hb1) ?_
      refine LW_no rfl (by decide) rfl rfl (by decide) (congrArg Value.bool hb1) ?_
      refine LW_v (.inl rfl) rfl (by decide) (R_pickT (v := (.bool true)) (congrArg Value.bool hb1) rfl) ?_
      replace hm445 := Option.some.inj hm445; subst hm445
      exact key447 _ _ ⟨true, _, (hST.sublist (List.Sublist.refl _)), rfl, rfl, hm446⟩
    · replace hm445 := if_f hb1 hm445
      refine LW_v (.inr ⟨2, false, 7, rfl, rfl, by decide, (congrArg Value.bool hb1)⟩) rfl (by decide) (R_move (v := (.string a0)) rfl) ?_
      refine LW_v (.inr ⟨2, false, 7, rfl, rfl, by decide, (congrArg Value.bool hb1)⟩) rfl (by decide) (R_lenStr (s := a0) Tryz.underlying9 rfl) ?_
      refine LW_v (.inr ⟨2, false, 7, rfl, rfl, by decide, (congrArg Value.bool hb1)⟩) rfl (by decide) (R_int (k := .i64) (a := ((a0.size : Int))) (b := 16) (v := (.bool ((decide (((a0.size : Int)) > 16))))) rfl rfl rfl) ?_
      refine LW_v (.inl rfl) rfl (by decide) (R_pickF (v := (.bool ((decide (((a0.size : Int)) > 16))))) (congrArg Value.bool hb1) rfl) ?_
      replace hm445 := Option.some.inj hm445; subst hm445
      exact key447 _ _ ⟨((decide (((a0.size : Int)) > 16))), _, (hST.sublist (List.Sublist.refl _)), rfl, rfl, hm446⟩
theorem w_ref04_Right (a0 : Role) (r : Bool) (w : World)  (hm : m_ref04_Right a0 = some r) :
    Gives true Tryz.prog 51 [(.agg (encRole a0).toArray)] w (.bool r) := by
  have hST := ST.start (dd := true) w
  unfold m_ref04_Right at hm
  refine calls_of_CW (n := 11) Tryz.func51 rfl rfl (Nat.le_of_ble_eq_true rfl) ?_
  refine CW_seq ?_
  refine CW_region ?_
  refine LW_e (.inl rfl) rfl (by decide) (E_box (v := (.agg (encRole a0).toArray)) hST rfl (fun W2 b1 hST => ?_))
  refine LW_v (.inl rfl) rfl (by decide) (R_assign (v := (.bool false)) rfl) ?_
  refine LW_nil ?_
  refine sq_n ?_
  refine CW_seq ?_
  refine CW_region ?_
  refine LW_v (.inl rfl) rfl (by decide) (R_field fa47_0 rfl) ?_
  refine LW_v (.inl rfl) rfl (by decide) (R_load (v := (.string a0.Owner)) rfl (load_box1 hST.has (.head _) rfl Tryz.isAgg9)) ?_
  obtain ⟨r3, hr4, hm⟩ := bind_some hm
  refine LW_e (.inl rfl) rfl (by decide) (E_gives (args := [(.string a0.Owner)]) hST rfl Tryz.call108 (by exact args1 rfl) ((w_ref03_Right a0.Owner _ _  hr4)) (fun W5 hST => ?_))
  refine LW_v (.inl rfl) rfl (by decide) (R_move (v := (.bool r3)) rfl) ?_
  obtain ⟨s15, hm16, hm17⟩ := bind_some hm
  refine LW_join (J := fun E W => ∃ (x10 : Bool) (L11 : List (Nat × Obj)), ST true NoF w W (hp w) L11 ∧ E 2 = (.bool false) ∧ E 10 = (.bool x10) ∧ some x10 = some r) 4 ?_ (fun key18 => ?_)
  · rintro E W ⟨x10, L11, hST, e13, e14, hm12⟩
    refine LW_v (.inl rfl) rfl (by decide) (R_assign (v := (.bool x10)) e14) ?_
    refine LW_nil ?_
    refine sq_n ?_
    refine CW_ret ?_
    replace hm12 := Option.some.inj hm12; subst hm12
    refine retQ_1 (v := (.bool x10)) rfl rfl ?_
    exact ⟨rfl, hST.ex⟩
  · rcases bool_cases r3 with hb6 | hb6
    · replace hm16 := if_t hb6 hm16
      refine LW_v (.inr ⟨3, true, 6, rfl, rfl, by decide, (congrArg Value.bool hb6)⟩) rfl (by decide) (R_field fa47_1 rfl) ?_
      refine LW_v (.inr ⟨3, true, 6, rfl, rfl, by decide, (congrArg Value.bool hb6)⟩) rfl (by decide) (R_load (v := (.string a0.Word)) rfl (load_box1 hST.has (.head _) rfl Tryz.isAgg9)) ?_
      obtain ⟨r19, hr20, hm16⟩ := bind_some hm16
      refine LW_e (.inr ⟨3, true, 6, rfl, rfl, by decide, (congrArg Value.bool hb6)⟩) rfl (by decide) (E_gives (args := [(.string a0.Word)]) hST rfl Tryz.call108 (by exact args1 rfl) ((w_ref03_Right a0.Word _ _  hr20)) (fun W21 hST => ?_))
      refine LW_v (.inl rfl) rfl (by decide) (R_pickT (v := (.bool r19)) (congrArg Value.bool hb6) rfl) ?_
      replace hm16 := Option.some.inj hm16; subst hm16
      exact key18 _ _ ⟨r19, _, (hST.sublist (List.Sublist.cons _ (List.Sublist.refl _))), rfl, rfl, hm17⟩
    · replace hm16 := if_f hb6 hm16
      refine LW_no rfl (by decide) rfl rfl (by decide) (congrArg Value.bool hb6) ?_
      refine LW_no rfl (by decide) rfl rfl (by decide) (congrArg Value.bool hb6) ?_
      refine LW_no rfl (by decide) rfl rfl (by decide) (congrArg Value.bool hb6) ?_
      refine LW_v (.inl rfl) rfl (by decide) (R_pickF (v := (.bool false)) (congrArg Value.bool hb6) rfl) ?_
      replace hm16 := Option.some.inj hm16; subst hm16
      exact key18 _ _ ⟨false, _, (hST.sublist (List.Sublist.cons _ (List.Sublist.refl _))), rfl, rfl, hm17⟩
end Go.Proofs.YtfjdjbdnnoijgaaGreat
