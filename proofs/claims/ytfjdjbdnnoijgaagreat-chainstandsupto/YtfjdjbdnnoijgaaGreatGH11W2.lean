/- a part of a proof of ChainStands -/
import Derived.Test.YtfjdjbdnnoijgaaGreatGH11W1
set_option linter.all false
namespace Go.Proofs.YtfjdjbdnnoijgaaGreat
open Go.RowKit
set_option maxRecDepth 10000
theorem w_chain_grown (v_a0 : Value) (a0 : List Cred) (a1 : Fact) (r : ((List Step) × Bool)) (w : World) (h_a0 : Sl (Pl encCred) 9 (hp w) v_a0 a0) (hm : m_chain_grown a0 a1 = some r) :
    GivesM true Tryz.prog 109 [v_a0, (.agg (encFact a1).toArray)] w [] (fun v L1 W' => ∃ (y1 : Value) (S2 : List (Nat × Obj)), v = (.tuple #[y1, (.bool (r.2))]) ∧ L1 = (S2 ++ []) ∧ Row 89 encStep 12 y1 r.1 S2) := by
  have hST := ST.start (dd := true) w
  unfold m_chain_grown at hm
  refine calls_of_CW (n := 60) Tryz.func109 rfl rfl (Nat.le_of_ble_eq_true rfl) ?_
  refine CW_seq ?_
  refine CW_region ?_
  refine LE (E_box (v := (.agg (encFact a1).toArray)) hST rfl (fun W2 b1 hST => ?_))
  refine LV (R_assign (v := (.slice none 0 0)) rfl) ?_
  refine LV (R_assign (v := (.bool false)) rfl) ?_
  refine LW_nil ?_
  refine sq_n ?_
  refine CW_seq ?_
  refine CW_region ?_
  refine LV (R_move (v := v_a0) rfl) ?_
  obtain ⟨r3, hr4, hm⟩ := bind_some hm
  refine LE (E_givesRow (args := [v_a0]) [_] _ hST rfl Tryz.call77 (by exact args1 rfl) ((w_cred_Set v_a0 a0 _ _ (h_a0.mono (Pl.mono _) hST.sub_hp) hr4)) (fun W5 v8 μ6 R9 hST hle7 hR10 => ?_))
  refine LV (R_move (v := v_a0) rfl) ?_
  replace hST : ST true NoF w _ _ ((b1, Obj.cells ((encFact a1).toArray : Array Value) 78 (0, 0)) :: (R9 ++ [])) := hST
  obtain ⟨r11, hr12, hm⟩ := bind_some hm
  refine LE (E_givesRow (args := [v_a0]) [_] _ hST rfl Tryz.call153 (by exact args1 rfl) ((w_chain_names v_a0 a0 _ _ (h_a0.mono (Pl.mono _) (hle7.trans hST.sub_hp)) hr12)) (fun W13 v16 μ14 R17 hST hle15 hR18 => ?_))
  refine LV (R_assign (v := v8) rfl) ?_
  refine LV (R_assign (v := v16) rfl) ?_
  refine LW_nil ?_
  refine sq_n ?_
  refine CW_seq ?_
  refine CW_region ?_
  refine LE (E_makeMap (P := Tryz.prog) (fun (x : Fact) => (.agg (encFact x).toArray)) (fun (x : Bool) => (Value.bool x)) hST (fun W19 v22 R20 hST hR21 => ?_))
  replace hST : ST true NoF w _ _ ((b1, Obj.cells ((encFact a1).toArray : Array Value) 78 (0, 0)) :: (R20 ++ (R17 ++ (R9 ++ [])))) := hST.perm (permD [R20, [(b1, Obj.cells ((encFact a1).toArray : Array Value) 78 (0, 0))]] [0, 1] [1, 0] ((R17 ++ (R9 ++ []))) (by decide) rfl rfl)
  refine LE (E_alloc hST Tryz.zeroValue155 (fun W24 b23 hST => ?_))
  obtain ⟨m25, rfl⟩ := hR21.form
  refine LW_e0 (.inl rfl) rfl (E_store [] (.map (some m25)) (#[(.map (some m25))]) hST rfl rfl Tryz.sizeOf155 (by simp [Value.cells, Value.oneCell']) (Nat.le_of_ble_eq_true rfl) rfl (fun W26 hST => ?_))
  refine LW_nil ?_
  refine sq_n ?_
  refine CW_seq ?_
  refine CW_region ?_
  refine LV (R_makeFuncC (by exact args1 rfl) rfl) ?_
  refine LV (R_assign (v := (.func (.func 154) #[] #[(.pointer (some ⟨b23, 0, none⟩))])) rfl) ?_
  refine LW_nil ?_
  refine sq_n ?_
  refine CW_seq ?_
  refine CW_region ?_
  refine LV (R_assign (v := (.slice none 0 0)) rfl) ?_
  refine LW_nil ?_
  refine sq_n ?_
  refine CW_seq ?_
  refine CW_seq ?_
  refine CW_region ?_
  refine LV (R_assign (v := (.int .i64 ((-1)))) rfl) ?_
  refine LW_nil ?_
  refine sq_n ?_
  replace hST : ST true NoF w _ _ ((b23, Obj.cells (#[(.map (some m25))] : Array Value) 155 (0, 0)) :: ((b1, Obj.cells ((encFact a1).toArray : Array Value) 78 (0, 0)) :: (R20 ++ (R17 ++ (R9 ++ []))))) := hST
  refine CW_block (CW_loop (fun m E W => ∃ (v6381 : Value) (l6382 : List Step) (R6384 : List (Nat × Obj)) (x6385 : Int) (l6386 : List (Fact × Bool)) (R6388 : List (Nat × Obj)) (μ6380 : Mem) (L7985 : List (Nat × Obj)), Sub μ14 μ6380 ∧ ST true NoF w W μ6380 ((b23, Obj.cells (#[(.map (some m25))] : Array Value) 155 (0, 0)) :: ((b1, Obj.cells ((encFact a1).toArray : Array Value) 78 (0, 0)) :: (R6384 ++ (R6388 ++ (R17 ++ (R9 ++ L7985)))))) ∧ E 3 = (.pointer (some ⟨b1, 0, none⟩)) ∧ E 6 = v8 ∧ E 7 = v16 ∧ E 8 = (.pointer (some ⟨b23, 0, none⟩)) ∧ E 9 = (.func (.func 154) #[] #[(.pointer (some ⟨b23, 0, none⟩))]) ∧ E 10 = v6381 ∧ E 11 = (.int .i64 x6385) ∧ Row 89 encStep 12 v6381 l6382 R6384 ∧ MapRow (fun (x : Fact) => (.agg (encFact x).toArray)) (fun (x : Bool) => (Value.bool x)) (.map (some m25)) l6386 R6388 ∧ m_chain_grown_L1 r11 a1 r3 m l6382 x6385 l6386 = some r) FUEL ⟨(.slice none 0 0), ([]), [], ((-1)), ([]), R20, μ14, _, (Sub.refl _), (hST.sublist (List.Sublist.refl _)), rfl, rfl, rfl, rfl, rfl, rfl, rfl, (Row.nil _ _ _), hR21, hm⟩ ?_)
  rintro m E W ⟨v6381, l6382, R6384, x6385, l6386, R6388, μ6380, L7985, hle7988, hST, e7989, e7990, e7991, e7992, e7993, e7994, e7995, hs6383, hs6387, hm7986⟩
  cases m with
  | zero => rw [m_chain_grown_L1] at hm7986; cases hm7986
  | succ n7987 =>
    rw [m_chain_grown_L1] at hm7986
    refine CW_seq ?_
    refine CW_seq ?_
    refine CW_region ?_
    refine LV (R_move (v := (.int .i64 x6385)) e7995) ?_
    refine LV (R_move (v := v6381) e7994) ?_
    refine LV (R_lenRow Tryz.underlying79 rfl hs6383) ?_
    refine LV (R_int (k := .i64) (a := x6385) (b := ((l6382.length : Int))) (v := (.bool ((decide (x6385 < ((l6382.length : Int))))))) rfl rfl rfl) ?_
    refine LW_nil ?_
    refine sq_n ?_
    refine CW_if (b := (decide (x6385 < ((l6382.length : Int))))) rfl (fun hb7996 => ?_) (fun hb7996 => ?_)
    · replace hm7986 := if_t hb7996 hm7986
      refine CW_skip ?_
      refine sq_n ?_
      refine CW_block ?_
      refine CW_seq ?_
      refine CW_region ?_
      refine LV (R_move (v := v6381) e7994) ?_
      refine LV (R_lenRow Tryz.underlying79 rfl hs6383) ?_
      refine LV (R_assign (v := (.int .i64 ((l6382.length : Int)))) rfl) ?_
      refine LW_nil ?_
      refine sq_n ?_
      refine CW_seq ?_
      refine CW_region ?_
      refine LV (R_move (v := v8) e7990) ?_
      refine LV (R_lenRow Tryz.underlying22 rfl hR10) ?_
      refine LV (R_move (v := (.int .i64 0)) rfl) ?_
      refine LW_nil ?_
      refine sq_n ?_
      refine CW_tail ?_
      obtain ⟨s8793, hm8794, hm8795⟩ := bind_some hm7986
      refine CW_cut (fun E W => ∃ (v8776 : Value) (l8777 : List Step) (R8779 : List (Nat × Obj)) (l8780 : List (Fact × Bool)) (R8782 : List (Nat × Obj)) (μ8775 : Mem) (L8783 : List (Nat × Obj)), Sub μ6380 μ8775 ∧ ST true NoF w W μ8775 ((b23, Obj.cells (#[(.map (some m25))] : Array Value) 155 (0, 0)) :: ((b1, Obj.cells ((encFact a1).toArray : Array Value) 78 (0, 0)) :: (R8779 ++ (R8782 ++ (R17 ++ (R9 ++ L8783)))))) ∧ E 3 = (.pointer (some ⟨b1, 0, none⟩)) ∧ E 6 = v8 ∧ E 7 = v16 ∧ E 8 = (.pointer (some ⟨b23, 0, none⟩)) ∧ E 9 = (.func (.func 154) #[] #[(.pointer (some ⟨b23, 0, none⟩))]) ∧ E 10 = v8776 ∧ E 11 = (.int .i64 ((l6382.length : Int))) ∧ Row 89 encStep 12 v8776 l8777 R8779 ∧ MapRow (fun (x : Fact) => (.agg (encFact x).toArray)) (fun (x : Bool) => (Value.bool x)) (.map (some m25)) l8780 R8782 ∧ (m_chain_grown_L1 r11 a1 r3 n7987 l8777 ((l6382.length : Int)) l8780) = some r) ?_ ?_
      · refine CW_range (fun i E W => ∃ (v9049 : Value) (l9050 : List Step) (R9052 : List (Nat × Obj)) (l9053 : List (Fact × Bool)) (R9055 : List (Nat × Obj)) (μ9048 : Mem) (L9318 : List (Nat × Obj)), (E 30 = .int .i64 (i : Nat) ∧ E 29 = .int .i64 (r3.length : Nat)) ∧ Sub μ6380 μ9048 ∧ ST true NoF w W μ9048 ((b23, Obj.cells (#[(.map (some m25))] : Array Value) 155 (0, 0)) :: ((b1, Obj.cells ((encFact a1).toArray : Array Value) 78 (0, 0)) :: (R9052 ++ (R9055 ++ (R17 ++ (R9 ++ L9318)))))) ∧ E 3 = (.pointer (some ⟨b1, 0, none⟩)) ∧ E 6 = v8 ∧ E 7 = v16 ∧ E 8 = (.pointer (some ⟨b23, 0, none⟩)) ∧ E 9 = (.func (.func 154) #[] #[(.pointer (some ⟨b23, 0, none⟩))]) ∧ E 10 = v9049 ∧ E 11 = (.int .i64 ((l6382.length : Int))) ∧ E 28 = v8 ∧ Row 89 encStep 12 v9049 l9050 R9052 ∧ MapRow (fun (x : Fact) => (.agg (encFact x).toArray)) (fun (x : Bool) => (Value.bool x)) (.map (some m25)) l9053 R9055 ∧ m_chain_grown_L2 r11 a1 (r3.drop i) l9050 l9053 = some s8793) r3.length hR10.len ⟨v6381, l6382, R6384, l6386, R6388, μ6380, _, ⟨rfl, rfl⟩, (Sub.refl _), (hST.sublist (List.Sublist.refl _)), e7989, e7990, e7991, e7992, e7993, e7994, rfl, rfl, hs6383, hs6387, hm8794⟩ (by decide) (by decide) (by decide) (fun _ _ _ h => by obtain ⟨_, _, _, _, _, _, _, eIN, _⟩ := h; exact eIN) ?_ ?_
        · rintro i8796 E W hi8802 ⟨v9049, l9050, R9052, l9053, R9055, μ9048, L9318, ⟨eI, eN⟩, hle9320, hST, e9321, e9322, e9323, e9324, e9325, e9326, e9327, e9328, hs9051, hs9054, hm9319⟩
          obtain ⟨x8797, xs8798, hx8800, hx8799, hx8801⟩ := drop_cons hi8802
          rw [hx8800] at hm9319
          rw [m_chain_grown_L2] at hm9319
          refine CW_block ?_
          refine CW_seq ?_
          refine CW_region ?_
          refine LQ (R_indexRow (i := (i8796 : Int)) (x0 := x8797) Tryz.underlying22 Tryz.sizeOf83 e9328 eI hR10 (Int.natCast_nonneg _) hx8799) (fun p9329 hp9330 => ?_)
          refine LV (R_load (v := (.agg (encCred x8797).toArray)) rfl (load_ixA hST.has (fun p hq => by simp [hq]) hR10 lenCred hp9330 hx8799 Tryz.isAgg83 Tryz.sizeOf83)) ?_
          refine LE (E_alloc hST Tryz.zeroValue83 (fun W9333 b9332 hST => ?_))
          refine LW_e0 (.inl rfl) rfl (E_store [] (.agg (encCred x8797).toArray) ((encCred x8797).toArray) hST rfl rfl Tryz.sizeOf83 (oneCred x8797) (Nat.le_of_ble_eq_true rfl) rfl (fun W9334 hST => ?_))
          refine LW_nil ?_
          refine sq_n ?_
          refine CW_seq ?_
          refine CW_region ?_
          refine LV (R_load (v := (.agg (encCred x8797).toArray)) rfl (load_boxA hST.has (.head _) (encCred x8797) rfl Tryz.isAgg83 Tryz.sizeOf83)) ?_
          refine LV (R_move (v := (.func (.func 154) #[] #[(.pointer (some ⟨b23, 0, none⟩))])) e9325) ?_
          refine LV (R_move (v := v16) e9323) ?_
          replace hST : ST true NoF w _ _ ((b9332, Obj.cells ((encCred x8797).toArray : Array Value) 83 (0, 0)) :: ((b23, Obj.cells (#[(.map (some m25))] : Array Value) 155 (0, 0)) :: ((b1, Obj.cells ((encFact a1).toArray : Array Value) 78 (0, 0)) :: (R9052 ++ (R9055 ++ (R17 ++ (R9 ++ L9318))))))) := hST
          obtain ⟨r9335, hr9336, hm9319⟩ := bind_some hm9319
          refine LE (E_givesRow (args := [(.agg (encCred x8797).toArray), (.func (.func 154) #[] #[(.pointer (some ⟨b23, 0, none⟩))]), v16]) [_, _, _] _ hST rfl Tryz.call87 (by exact args3 rfl rfl rfl) ((w_model_Holds x8797 (.func (.func 154) #[] #[(.pointer (some ⟨b23, 0, none⟩))]) (fun (x : (Role × ByteArray)) => m_chain_grown_c1 x.1 x.2 l9053) v16 r11 _ _ ⟨154, #[], #[(.pointer (some ⟨b23, 0, none⟩))], rfl, Tryz.call154, fun W x r hs hm => w_chain_grown_c1 x.1 x.2 b23 (.map (some m25)) l9053 r W (hs9054.at (fun b o hq => hs _ _ ((fun b o hq => hST.at_ (.tail _ (.tail _ (.tail _ (List.mem_append_right _ (List.mem_append_left _ hq)))))) b o hq))) (At.of (hs _ _ (hST.at_ (.tail _ (.head _)))) _ rfl) hm⟩ (hR18.sl (fun _ => rfl) (fun b o hq => hST.at_ (.tail _ (.tail _ (.tail _ (List.mem_append_right _ (List.mem_append_right _ (List.mem_append_left _ hq)))))))) hr9336)) (fun W9337 v9340 μ9338 R9341 hST hle9339 hR9342 => ?_))
          refine LV (R_lenRow Tryz.underlying53 rfl hR9342) ?_
          refine LV (R_move (v := (.int .i64 0)) rfl) ?_
          refine LW_nil ?_
          refine sq_n ?_
          refine CW_tail ?_
          obtain ⟨s9466, hm9467, hm9468⟩ := bind_some hm9319
          refine CW_cut (fun E W => ∃ (v9447 : Value) (l9448 : List Step) (R9450 : List (Nat × Obj)) (l9451 : List (Fact × Bool)) (R9453 : List (Nat × Obj)) (L9454 : List (Nat × Obj)), ST true NoF w W μ9338 ((b23, Obj.cells (#[(.map (some m25))] : Array Value) 155 (0, 0)) :: ((b1, Obj.cells ((encFact a1).toArray : Array Value) 78 (0, 0)) :: (R9450 ++ (R9453 ++ (R17 ++ (R9 ++ L9454)))))) ∧ E 3 = (.pointer (some ⟨b1, 0, none⟩)) ∧ E 6 = v8 ∧ E 7 = v16 ∧ E 8 = (.pointer (some ⟨b23, 0, none⟩)) ∧ E 9 = (.func (.func 154) #[] #[(.pointer (some ⟨b23, 0, none⟩))]) ∧ E 10 = v9447 ∧ E 11 = (.int .i64 ((l6382.length : Int))) ∧ E 28 = v8 ∧ E 29 = (.int .i64 ((r3.length : Int))) ∧ E 30 = (.int .i64 ((i8796 : Int))) ∧ Row 89 encStep 12 v9447 l9448 R9450 ∧ MapRow (fun (x : Fact) => (.agg (encFact x).toArray)) (fun (x : Bool) => (Value.bool x)) (.map (some m25)) l9451 R9453 ∧ (m_chain_grown_L2 r11 a1 xs8798 l9448 l9451) = some s8793) ?_ ?_
          · replace hST : ST true NoF w _ _ ((b9332, Obj.cells ((encCred x8797).toArray : Array Value) 83 (0, 0)) :: ((b23, Obj.cells (#[(.map (some m25))] : Array Value) 155 (0, 0)) :: ((b1, Obj.cells ((encFact a1).toArray : Array Value) 78 (0, 0)) :: (R9341 ++ (R9052 ++ (R9055 ++ (R17 ++ (R9 ++ L9318)))))))) := hST
            replace hST : ST true NoF w _ _ ((b9332, Obj.cells ((encCred x8797).toArray : Array Value) 83 (0, 0)) :: ((b23, Obj.cells (#[(.map (some m25))] : Array Value) 155 (0, 0)) :: ((b1, Obj.cells ((encFact a1).toArray : Array Value) 78 (0, 0)) :: (R9052 ++ (R9055 ++ (R9341 ++ (R17 ++ (R9 ++ L9318)))))))) := hST.perm (permD [[(b9332, Obj.cells ((encCred x8797).toArray : Array Value) 83 (0, 0))], [(b23, Obj.cells (#[(.map (some m25))] : Array Value) 155 (0, 0))], [(b1, Obj.cells ((encFact a1).toArray : Array Value) 78 (0, 0))], R9341, R9052, R9055] [0, 1, 2, 3, 4, 5] [0, 1, 2, 4, 5, 3] ((R17 ++ (R9 ++ L9318))) (by decide) rfl rfl)
            refine CW_range (fun i E W => ∃ (v9495 : Value) (l9496 : List Step) (R9498 : List (Nat × Obj)) (l9499 : List (Fact × Bool)) (R9501 : List (Nat × Obj)) (L9540 : List (Nat × Obj)), (E 39 = .int .i64 (i : Nat) ∧ E 38 = .int .i64 (r9335.length : Nat)) ∧ ST true NoF w W μ9338 ((b9332, Obj.cells ((encCred x8797).toArray : Array Value) 83 (0, 0)) :: ((b23, Obj.cells (#[(.map (some m25))] : Array Value) 155 (0, 0)) :: ((b1, Obj.cells ((encFact a1).toArray : Array Value) 78 (0, 0)) :: (R9498 ++ (R9501 ++ (R9341 ++ (R17 ++ (R9 ++ L9540)))))))) ∧ E 3 = (.pointer (some ⟨b1, 0, none⟩)) ∧ E 6 = v8 ∧ E 7 = v16 ∧ E 8 = (.pointer (some ⟨b23, 0, none⟩)) ∧ E 9 = (.func (.func 154) #[] #[(.pointer (some ⟨b23, 0, none⟩))]) ∧ E 10 = v9495 ∧ E 11 = (.int .i64 ((l6382.length : Int))) ∧ E 13 = (.pointer (some ⟨b9332, 0, none⟩)) ∧ E 28 = v8 ∧ E 29 = (.int .i64 ((r3.length : Int))) ∧ E 30 = (.int .i64 ((i8796 : Int))) ∧ E 37 = v9340 ∧ Row 89 encStep 12 v9495 l9496 R9498 ∧ MapRow (fun (x : Fact) => (.agg (encFact x).toArray)) (fun (x : Bool) => (Value.bool x)) (.map (some m25)) l9499 R9501 ∧ m_chain_grown_L3 x8797 a1 (r9335.drop i) l9496 l9499 = some s9466) r9335.length hR9342.len ⟨v9049, l9050, R9052, l9053, R9055, _, ⟨rfl, rfl⟩, (hST.sublist (List.Sublist.refl _)), e9321, e9322, e9323, e9324, e9325, e9326, e9327, rfl, e9328, eN, eI, rfl, hs9051, hs9054, hm9467⟩ (by decide) (by decide) (by decide) (fun _ _ _ h => by obtain ⟨_, _, _, _, _, _, eIN, _⟩ := h; exact eIN) ?_ ?_
            · rintro i9469 E W hi9475 ⟨v9495, l9496, R9498, l9499, R9501, L9540, ⟨eI, eN⟩, hST, e9542, e9543, e9544, e9545, e9546, e9547, e9548, e9549, e9550, e9551, e9552, e9553, hs9497, hs9500, hm9541⟩
              obtain ⟨x9470, xs9471, hx9473, hx9472, hx9474⟩ := drop_cons hi9475
              rw [hx9473] at hm9541
              rw [m_chain_grown_L3] at hm9541
              refine CW_block ?_
              refine CW_seq ?_
              refine CW_region ?_
              refine LQ (R_indexRow (i := (i9469 : Int)) (x0 := x9470) Tryz.underlying53 Tryz.sizeOf78 e9553 eI hR9342 (Int.natCast_nonneg _) hx9472) (fun p9554 hp9555 => ?_)
              refine LV (R_load (v := (.agg (encFact x9470).toArray)) rfl (load_ixA hST.has (fun p hq => by simp [hq]) hR9342 lenFact hp9555 hx9472 Tryz.isAgg78 Tryz.sizeOf78)) ?_
              refine LE (E_alloc hST Tryz.zeroValue78 (fun W9558 b9557 hST => ?_))
              refine LW_e0 (.inl rfl) rfl (E_store [] (.agg (encFact x9470).toArray) ((encFact x9470).toArray) hST rfl rfl Tryz.sizeOf78 (oneFact x9470) (Nat.le_of_ble_eq_true rfl) rfl (fun W9559 hST => ?_))
              refine LW_nil ?_
              refine sq_n ?_
              refine CW_seq ?_
              refine CW_seq ?_
              refine CW_region ?_
              refine LV (R_load (v := (.map (some m25))) e9545 (load_box1 hST.has (.tail _ (.tail _ (.head _))) rfl Tryz.isAgg155)) ?_
              refine LV (R_load (v := (.agg (encFact x9470).toArray)) rfl (load_boxA hST.has (.head _) (encFact x9470) rfl Tryz.isAgg78 Tryz.sizeOf78)) ?_
              replace hST : ST true NoF w _ _ ((b9557, Obj.cells ((encFact x9470).toArray : Array Value) 78 (0, 0)) :: ((b9332, Obj.cells ((encCred x8797).toArray : Array Value) 83 (0, 0)) :: ((b23, Obj.cells (#[(.map (some m25))] : Array Value) 155 (0, 0)) :: ((b1, Obj.cells ((encFact a1).toArray : Array Value) 78 (0, 0)) :: (R9498 ++ (R9501 ++ (R9341 ++ (R17 ++ (R9 ++ L9540))))))))) := hST
              refine LV (R_lookupD (k := x9470) (z := false) (vf := (fun (x : Bool) => (Value.bool x))) kl78 Tryz.underlying155 Tryz.zeroValue4 rfl rfl (hs9500.at (fun b o hq => hST.has.2 b o (.tail _ (.tail _ (.tail _ (.tail _ (List.mem_append_right _ (List.mem_append_left _ hq))))))))) ?_
              refine LW_nil ?_
              refine sq_n ?_
              refine CW_if (b := (mgetD beqFact l9499 x9470 false)) rfl (fun hb9560 => ?_) (fun hb9560 => ?_)
              · replace hm9541 := if_t hb9560 hm9541
                refine CW_exit ?_
                refine sq_e (bq_e ?_)
                refine sq_n ?_
                replace hST : ST true NoF w _ _ ((b9332, Obj.cells ((encCred x8797).toArray : Array Value) 83 (0, 0)) :: ((b23, Obj.cells (#[(.map (some m25))] : Array Value) 155 (0, 0)) :: ((b1, Obj.cells ((encFact a1).toArray : Array Value) 78 (0, 0)) :: (R9498 ++ (R9501 ++ (R9341 ++ (R17 ++ (R9 ++ L9540)))))))) := hST.sublist (List.Sublist.cons _ (List.Sublist.refl _))
                exact ⟨eI, v9495, l9496, R9498, l9499, R9501, _, ⟨rfl, eN⟩, (hST.sublist (List.Sublist.refl _)), e9542, e9543, e9544, e9545, e9546, e9547, e9548, e9549, e9550, e9551, e9552, e9553, hs9497, hs9500, (by rw [hx9474]; exact hm9541)⟩
              · replace hm9541 := if_f hb9560 hm9541
                refine CW_skip ?_
                refine sq_n ?_
                refine CW_seq ?_
                refine CW_region ?_
                refine LV (R_load (v := (.map (some m25))) e9545 (load_box1 hST.has (.tail _ (.tail _ (.head _))) rfl Tryz.isAgg155)) ?_
                refine LV (R_load (v := (.agg (encFact x9470).toArray)) rfl (load_boxA hST.has (.head _) (encFact x9470) rfl Tryz.isAgg78 Tryz.sizeOf78)) ?_
                replace hST : ST true NoF w _ _ ((b9557, Obj.cells ((encFact x9470).toArray : Array Value) 78 (0, 0)) :: ((b9332, Obj.cells ((encCred x8797).toArray : Array Value) 83 (0, 0)) :: ((b23, Obj.cells (#[(.map (some m25))] : Array Value) 155 (0, 0)) :: ((b1, Obj.cells ((encFact a1).toArray : Array Value) 78 (0, 0)) :: (R9501 ++ (R9498 ++ (R9341 ++ (R17 ++ (R9 ++ L9540))))))))) := hST.perm (permD [[(b9557, Obj.cells ((encFact x9470).toArray : Array Value) 78 (0, 0))], [(b9332, Obj.cells ((encCred x8797).toArray : Array Value) 83 (0, 0))], [(b23, Obj.cells (#[(.map (some m25))] : Array Value) 155 (0, 0))], [(b1, Obj.cells ((encFact a1).toArray : Array Value) 78 (0, 0))], R9498, R9501] [0, 1, 2, 3, 4, 5] [0, 1, 2, 3, 5, 4] ((R9341 ++ (R17 ++ (R9 ++ L9540)))) (by decide) rfl rfl)
                refine LW_e0 (.inl rfl) rfl (E_mapUpdate (k := x9470) (v := true) (vf := (fun (x : Bool) => (Value.bool x))) [_, _, _, _] kl78 Tryz.underlying155 hST hs9500 rfl rfl rfl (fun W9561 R9562 hST hR9563 => ?_))
                refine LW_nil ?_
                refine sq_n ?_
                refine CW_seq ?_
                refine CW_region ?_
                refine LV (R_move (v := v9495) e9547) ?_
                refine LV (R_load (v := (.agg (encCred x8797).toArray)) e9549 (load_boxA hST.has (.tail _ (.head _)) (encCred x8797) rfl Tryz.isAgg83 Tryz.sizeOf83)) ?_
                refine LV (R_load (v := (.agg (encFact x9470).toArray)) rfl (load_boxA hST.has (.head _) (encFact x9470) rfl Tryz.isAgg78 Tryz.sizeOf78)) ?_
                refine LV (R_build (qs := #[(0, (.agg (encCred x8797).toArray)), (1, (.agg (encFact x9470).toArray))]) (v := (.agg (encStep ((⟨x8797, x9470⟩ : Step))).toArray)) (parts2 rfl rfl) (run_build Tryz.zeroValue89 Tryz.underlying89 (pl89 _ Tryz.underlying89) (by kernel_rfl))) ?_
                refine LE (E_buildSlice (qs := #[(0, (.agg (encStep ((⟨x8797, x9470⟩ : Step))).toArray))]) (cs := (encStep ((⟨x8797, x9470⟩ : Step))).toArray) hST (parts1 rfl) (run_lit [(.agg (encStep ((⟨x8797, x9470⟩ : Step))).toArray)] Tryz.underlying79 Tryz.sizeOf89 Tryz.zeroValue89 (by decide) rfl (by intro v hv; simp only [List.mem_cons, List.not_mem_nil, or_false] at hv; rcases hv with rfl <;> rfl) rfl rfl) (fun W9565 b9564 hST => ?_))
                replace hST : ST true NoF w _ _ ((b9564, Obj.cells ((encStep ((⟨x8797, x9470⟩ : Step))).toArray : Array Value) 89 (0, 0)) :: ((b9557, Obj.cells ((encFact x9470).toArray : Array Value) 78 (0, 0)) :: ((b9332, Obj.cells ((encCred x8797).toArray : Array Value) 83 (0, 0)) :: ((b23, Obj.cells (#[(.map (some m25))] : Array Value) 155 (0, 0)) :: ((b1, Obj.cells ((encFact a1).toArray : Array Value) 78 (0, 0)) :: (R9562 ++ (R9498 ++ (R9341 ++ (R17 ++ (R9 ++ L9540)))))))))) := hST
                replace hST : ST true NoF w _ _ ((b9564, Obj.cells ((encStep ((⟨x8797, x9470⟩ : Step))).toArray : Array Value) 89 (0, 0)) :: ((b9557, Obj.cells ((encFact x9470).toArray : Array Value) 78 (0, 0)) :: ((b9332, Obj.cells ((encCred x8797).toArray : Array Value) 83 (0, 0)) :: ((b23, Obj.cells (#[(.map (some m25))] : Array Value) 155 (0, 0)) :: ((b1, Obj.cells ((encFact a1).toArray : Array Value) 78 (0, 0)) :: (R9498 ++ (R9562 ++ (R9341 ++ (R17 ++ (R9 ++ L9540)))))))))) := hST.perm (permD [[(b9564, Obj.cells ((encStep ((⟨x8797, x9470⟩ : Step))).toArray : Array Value) 89 (0, 0))], [(b9557, Obj.cells ((encFact x9470).toArray : Array Value) 78 (0, 0))], [(b9332, Obj.cells ((encCred x8797).toArray : Array Value) 83 (0, 0))], [(b23, Obj.cells (#[(.map (some m25))] : Array Value) 155 (0, 0))], [(b1, Obj.cells ((encFact a1).toArray : Array Value) 78 (0, 0))], R9562, R9498] [0, 1, 2, 3, 4, 5, 6] [0, 1, 2, 3, 4, 6, 5] ((R9341 ++ (R17 ++ (R9 ++ L9540)))) (by decide) rfl rfl)
                obtain ⟨l9566, hb9567, hm9541⟩ := bind_some hm9541
                refine LE (E_append (enc := encStep) (v := v9495) (vs := (.slice (some ⟨b9564, 0, none⟩) 1 1)) (R := R9498) [_, _, _, _, _] hST lenStep (by decide) oneStep Tryz.underlying79 info89.1 info89.2.1 rfl info89.2.2.1 info89.2.2.2 rfl rfl hs9497 (Sl.lit (enc := encStep) (l := [(⟨x8797, x9470⟩ : Step)]) lenStep rfl (Nat.le_of_ble_eq_true rfl) rfl (hST.at_ (.head _))) hb9567 (fun W9568 v9571 R9569 hST hR9570 => ?_))
                refine LV (R_assign (v := v9571) rfl) ?_
                refine LW_nil ?_
                refine sq_n ?_
                replace hST : ST true NoF w _ _ ((b9564, Obj.cells ((encStep ((⟨x8797, x9470⟩ : Step))).toArray : Array Value) 89 (0, 0)) :: ((b9557, Obj.cells ((encFact x9470).toArray : Array Value) 78 (0, 0)) :: ((b9332, Obj.cells ((encCred x8797).toArray : Array Value) 83 (0, 0)) :: ((b23, Obj.cells (#[(.map (some m25))] : Array Value) 155 (0, 0)) :: ((b1, Obj.cells ((encFact a1).toArray : Array Value) 78 (0, 0)) :: (R9569 ++ (R9562 ++ (R9341 ++ (R17 ++ (R9 ++ L9540)))))))))) := hST
                replace hST : ST true NoF w _ _ ((b9557, Obj.cells ((encFact x9470).toArray : Array Value) 78 (0, 0)) :: ((b9332, Obj.cells ((encCred x8797).toArray : Array Value) 83 (0, 0)) :: ((b23, Obj.cells (#[(.map (some m25))] : Array Value) 155 (0, 0)) :: ((b1, Obj.cells ((encFact a1).toArray : Array Value) 78 (0, 0)) :: (R9569 ++ (R9562 ++ (R9341 ++ (R17 ++ (R9 ++ L9540))))))))) := hST.sublist (List.Sublist.cons _ (List.Sublist.refl _))
                refine CW_seq ?_
                refine CW_region ?_
                refine LV (R_load (v := (.agg (encFact x9470).toArray)) rfl (load_boxA hST.has (.head _) (encFact x9470) rfl Tryz.isAgg78 Tryz.sizeOf78)) ?_
                refine LV (R_load (v := (.agg (encFact a1).toArray)) e9542 (load_boxA hST.has (.tail _ (.tail _ (.tail _ (.head _)))) (encFact a1) rfl Tryz.isAgg78 Tryz.sizeOf78)) ?_
                refine LV (R_eql (a := (encFact x9470).toArray) (b := (encFact a1).toArray) rfl rfl (guard_agg Tryz.eqGuardType78) (bin_eql (eqInFact _ x9470 a1))) ?_
                refine LW_nil ?_
                refine sq_n ?_
                replace hST : ST true NoF w _ _ ((b9332, Obj.cells ((encCred x8797).toArray : Array Value) 83 (0, 0)) :: ((b23, Obj.cells (#[(.map (some m25))] : Array Value) 155 (0, 0)) :: ((b1, Obj.cells ((encFact a1).toArray : Array Value) 78 (0, 0)) :: (R9569 ++ (R9562 ++ (R9341 ++ (R17 ++ (R9 ++ L9540)))))))) := hST.sublist (List.Sublist.cons _ (List.Sublist.refl _))
                refine CW_if (b := (beqFact x9470 a1)) rfl (fun hb9572 => ?_) (fun hb9572 => ?_)
                · replace hm9541 := if_t hb9572 hm9541
                  refine CW_seq ?_
                  refine CW_region ?_
                  refine LV (R_move (v := v9571) rfl) ?_
                  refine LV (R_assign (v := v9571) rfl) ?_
                  refine LV (R_assign (v := (.bool true)) rfl) ?_
                  refine LW_nil ?_
                  refine sq_n ?_
                  replace hST : ST true NoF w _ _ (R9569 ++ L9540) := hST.sublist (List.Sublist.cons _ (List.Sublist.cons _ (List.Sublist.cons _ (List.Sublist.append (List.Sublist.refl _) (((((List.Sublist.refl _).trans (List.sublist_append_right _ _)).trans (List.sublist_append_right _ _)).trans (List.sublist_append_right _ _)).trans (List.sublist_append_right _ _))))))
                  refine CW_ret ?_
                  refine bq_r (sq_r (bq_r (sq_r (bq_r (sq_r (bq_r (sq_r (bq_r (sq_r (bq_r (sq_r ?_)))))))))))
                  replace hm9541 := Option.some.inj hm9541; subst hm9541
                  replace hm9468 : some (Sum.inl (l9566, true)) = some s8793 := hm9468
                  replace hm9468 := Option.some.inj hm9468; subst hm9468
                  replace hm8795 : some (l9566, true) = some r := hm8795
                  replace hm8795 := Option.some.inj hm8795; subst hm8795
                  refine retQ_2 (v := v9571) (u := (.bool true)) rfl rfl rfl ?_
                  replace hST : ST true NoF w _ _ (R9569 ++ L9540) := hST
                  exact ⟨_, (R9569 ++ []), rfl, (ST.backL (L1 := (R9569 ++ [])) (by have hh : ST true NoF w _ _ (R9569 ++ L9540) := hST.perm (List.Perm.refl _); simpa only [List.append_assoc, List.cons_append, List.nil_append] using hh)), v9571, R9569, rfl, rfl, hR9570⟩
                · replace hm9541 := if_f hb9572 hm9541
                  refine CW_skip ?_
                  refine bq_n ?_
                  refine sq_n ?_
                  exact ⟨eI, v9571, l9566, R9569, ((mput beqFact l9499 x9470 true)), R9562, _, ⟨rfl, eN⟩, (hST.sublist (List.Sublist.refl _)), e9542, e9543, e9544, e9545, e9546, rfl, e9548, e9549, e9550, e9551, e9552, e9553, hR9570, hR9563, (by rw [hx9474]; exact hm9541)⟩
            · rintro E W ⟨v9495, l9496, R9498, l9499, R9501, L9540, ⟨eI, eN⟩, hST, e9542, e9543, e9544, e9545, e9546, e9547, e9548, e9549, e9550, e9551, e9552, e9553, hs9497, hs9500, hm9541⟩
              rw [List.drop_length] at hm9541
              rw [m_chain_grown_L3] at hm9541
              refine sq_n ?_
              replace hm9541 := Option.some.inj hm9541; subst hm9541
              exact ⟨v9495, l9496, R9498, l9499, R9501, _, (hST.sublist (List.Sublist.cons _ (List.Sublist.cons_cons _ (List.Sublist.cons_cons _ (List.Sublist.append (List.Sublist.refl _) (List.Sublist.append (List.Sublist.refl _) ((List.Sublist.refl _).trans (List.sublist_append_right _ _)))))))), e9542, e9543, e9544, e9545, e9546, e9547, e9548, e9550, e9551, e9552, hs9497, hs9500, hm9468⟩
          · rintro E W ⟨v9447, l9448, R9450, l9451, R9453, L9454, hST, e9456, e9457, e9458, e9459, e9460, e9461, e9462, e9463, e9464, e9465, hs9449, hs9452, hm9455⟩
            refine bq_n ?_
            refine sq_n ?_
            exact ⟨e9465, v9447, l9448, R9450, l9451, R9453, μ9338, _, ⟨rfl, e9464⟩, (hle9320.trans hle9339), (hST.sublist (List.Sublist.refl _)), e9456, e9457, e9458, e9459, e9460, e9461, e9462, e9463, hs9449, hs9452, (by rw [hx8801]; exact hm9455)⟩
        · rintro E W ⟨v9049, l9050, R9052, l9053, R9055, μ9048, L9318, ⟨eI, eN⟩, hle9320, hST, e9321, e9322, e9323, e9324, e9325, e9326, e9327, e9328, hs9051, hs9054, hm9319⟩
          rw [List.drop_length] at hm9319
          rw [m_chain_grown_L2] at hm9319
          refine sq_n ?_
          replace hm9319 := Option.some.inj hm9319; subst hm9319
          exact ⟨v9049, l9050, R9052, l9053, R9055, μ9048, _, hle9320, (hST.sublist (List.Sublist.refl _)), e9321, e9322, e9323, e9324, e9325, e9326, e9327, hs9051, hs9054, hm8795⟩
      · rintro E W ⟨v8776, l8777, R8779, l8780, R8782, μ8775, L8783, hle8785, hST, e8786, e8787, e8788, e8789, e8790, e8791, e8792, hs8778, hs8781, hm8784⟩
        refine bq_n ?_
        refine sq_n ?_
        exact ⟨n7987, Nat.lt_succ_self _, v8776, l8777, R8779, ((l6382.length : Int)), l8780, R8782, μ8775, _, (hle7988.trans hle8785), (hST.sublist (List.Sublist.refl _)), e8786, e8787, e8788, e8789, e8790, e8791, e8792, hs8778, hs8781, hm8784⟩
    · replace hm7986 := if_f hb7996 hm7986
      refine CW_exit ?_
      refine sq_e (sq_e (bq_e ?_))
      refine sq_n ?_
      replace hST : ST true NoF w _ _ L7985 := hST.sublist (List.Sublist.cons _ (List.Sublist.cons _ (((((List.Sublist.refl _).trans (List.sublist_append_right _ _)).trans (List.sublist_append_right _ _)).trans (List.sublist_append_right _ _)).trans (List.sublist_append_right _ _))))
      refine CW_seq ?_
      refine CW_region ?_
      refine LV (R_assign (v := (.slice none 0 0)) rfl) ?_
      refine LV (R_assign (v := (.bool false)) rfl) ?_
      refine LW_nil ?_
      refine sq_n ?_
      refine CW_ret ?_
      replace hm7986 := Option.some.inj hm7986; subst hm7986
      refine retQ_2 (v := (.slice none 0 0)) (u := (.bool false)) rfl rfl rfl ?_
      replace hST : ST true NoF w _ _ ([] ++ L7985) := hST.cast (by simp)
      replace hST : ST true NoF w _ _ ([] ++ L7985) := hST
      exact ⟨_, ([] ++ []), rfl, (ST.backL (L1 := ([] ++ [])) (by have hh : ST true NoF w _ _ ([] ++ L7985) := hST.perm (List.Perm.refl _); simpa only [List.append_assoc, List.cons_append, List.nil_append] using hh)), (.slice none 0 0), [], rfl, rfl, (Row.nil _ _ _)⟩
theorem w_check_facts (v_a0 : Value) (a0 : List Step) (r : List Fact) (w : World) (h_a0 : Sl (Pl encStep) 12 (hp w) v_a0 a0) (hm : m_check_facts a0 = some r) :
    GivesRow true Tryz.prog 115 [v_a0] w 78 encFact 3 r := by
  have hST := ST.start (dd := true) w
  unfold m_check_facts at hm
  refine calls_of_CW (n := 19) Tryz.func115 rfl rfl (Nat.le_of_ble_eq_true rfl) ?_
  refine CW_seq ?_
  refine CW_region ?_
  refine LV (R_assign (v := (.slice none 0 0)) rfl) ?_
  refine LW_nil ?_
  refine sq_n ?_
  refine CW_seq ?_
  refine CW_region ?_
  refine LV (R_assign (v := (.slice none 0 0)) rfl) ?_
  refine LW_nil ?_
  refine sq_n ?_
  refine CW_seq ?_
  refine CW_seq ?_
  refine CW_region ?_
  refine LV (R_move (v := v_a0) rfl) ?_
  refine LV (R_len Tryz.underlying79 rfl h_a0) ?_
  refine LV (R_move (v := (.int .i64 0)) rfl) ?_
  refine LW_nil ?_
  refine sq_n ?_
  refine CW_range (fun i E W => ∃ (v85 : Value) (l86 : List Fact) (R88 : List (Nat × Obj)) (L109 : List (Nat × Obj)), (E 8 = .int .i64 (i : Nat) ∧ E 7 = .int .i64 (a0.length : Nat)) ∧ ST true NoF w W (hp w) (R88 ++ L109) ∧ E 3 = v85 ∧ E 6 = v_a0 ∧ Row 78 encFact 3 v85 l86 R88 ∧ m_check_facts_L1 (a0.drop i) l86 = some r) a0.length h_a0.len ⟨(.slice none 0 0), ([]), [], _, ⟨rfl, rfl⟩, (hST.sublist (List.Sublist.refl _)), rfl, rfl, (Row.nil _ _ _), hm⟩ (by decide) (by decide) (by decide) (fun _ _ _ h => by obtain ⟨_, _, _, _, eIN, _⟩ := h; exact eIN) ?_ ?_
  · rintro i64 E W hi70 ⟨v85, l86, R88, L109, ⟨eI, eN⟩, hST, e111, e112, hs87, hm110⟩
    obtain ⟨x65, xs66, hx68, hx67, hx69⟩ := drop_cons hi70
    rw [hx68] at hm110
    rw [m_check_facts_L1] at hm110
    refine CW_block ?_
    refine CW_seq ?_
    refine CW_region ?_
    refine LQ (R_indexP (enc := encStep) (i := (i64 : Int)) (x0 := x65) Tryz.underlying79 Tryz.sizeOf89 e112 eI h_a0 (Int.natCast_nonneg _) hx67) (fun p113 hp114 => ?_)
    refine LV (R_load rfl (load_atA hST.has hp114 Tryz.isAgg89 Tryz.sizeOf89)) ?_
    refine LE (E_alloc hST Tryz.zeroValue89 (fun W117 b116 hST => ?_))
    refine LW_e0 (.inl rfl) rfl (E_store [] (.agg (encStep x65).toArray) ((encStep x65).toArray) hST rfl rfl Tryz.sizeOf89 (oneStep x65) (Nat.le_of_ble_eq_true rfl) rfl (fun W118 hST => ?_))
    refine LW_nil ?_
    refine sq_n ?_
    refine CW_region ?_
    refine LV (R_move (v := v85) e111) ?_
    refine LV (R_field fa89_1 rfl) ?_
    refine LV (R_load (v := (.agg (encFact x65.Fact).toArray)) rfl (load_boxA hST.has (.head _) (encFact x65.Fact) rfl Tryz.isAgg78 Tryz.sizeOf78)) ?_
    refine LE (E_buildSlice (qs := #[(0, (.agg (encFact x65.Fact).toArray))]) (cs := (encFact x65.Fact).toArray) hST (parts1 rfl) (run_lit [(.agg (encFact x65.Fact).toArray)] Tryz.underlying53 Tryz.sizeOf78 Tryz.zeroValue78 (by decide) rfl (by intro v hv; simp only [List.mem_cons, List.not_mem_nil, or_false] at hv; rcases hv with rfl <;> rfl) rfl rfl) (fun W120 b119 hST => ?_))
    replace hST : ST true NoF w _ _ ((b119, Obj.cells ((encFact x65.Fact).toArray : Array Value) 78 (0, 0)) :: ((b116, Obj.cells ((encStep x65).toArray : Array Value) 89 (0, 0)) :: (R88 ++ L109))) := hST
    obtain ⟨l121, hb122, hm110⟩ := bind_some hm110
    refine LE (E_append (enc := encFact) (v := v85) (vs := (.slice (some ⟨b119, 0, none⟩) 1 1)) (R := R88) [_, _] hST lenFact (by decide) oneFact Tryz.underlying53 info78.1 info78.2.1 rfl info78.2.2.1 info78.2.2.2 rfl rfl hs87 (Sl.lit (enc := encFact) (l := [x65.Fact]) lenFact rfl (Nat.le_of_ble_eq_true rfl) rfl (hST.at_ (.head _))) hb122 (fun W123 v126 R124 hST hR125 => ?_))
    refine LV (R_assign (v := v126) rfl) ?_
    refine LW_nil ?_
    refine bq_n ?_
    refine sq_n ?_
    replace hST : ST true NoF w _ _ ((b119, Obj.cells ((encFact x65.Fact).toArray : Array Value) 78 (0, 0)) :: ((b116, Obj.cells ((encStep x65).toArray : Array Value) 89 (0, 0)) :: (R124 ++ L109))) := hST
    replace hST : ST true NoF w _ _ (R124 ++ L109) := hST.sublist (List.Sublist.cons _ (List.Sublist.cons _ (List.Sublist.refl _)))
    exact ⟨eI, v126, l121, R124, _, ⟨rfl, eN⟩, (hST.sublist (List.Sublist.refl _)), rfl, e112, hR125, (by rw [hx69]; exact hm110)⟩
  · rintro E W ⟨v85, l86, R88, L109, ⟨eI, eN⟩, hST, e111, e112, hs87, hm110⟩
    rw [List.drop_length] at hm110
    rw [m_check_facts_L1] at hm110
    refine sq_n ?_
    refine CW_seq ?_
    refine CW_region ?_
    refine LV (R_move (v := v85) e111) ?_
    refine LV (R_assign (v := v85) rfl) ?_
    refine LW_nil ?_
    refine sq_n ?_
    refine CW_ret ?_
    replace hm110 := Option.some.inj hm110; subst hm110
    refine retQ_1 (v := v85) rfl rfl ?_
    exact ⟨_, R88, rfl, hST.backRow (fun p hq => by simp [hq]) hs87.nd, hs87⟩
theorem w_slices_Index_Fact (v_a0 : Value) (a0 : List Fact) (a1 : Fact) (r : Int) (w : World) (h_a0 : Sl (Pl encFact) 3 (hp w) v_a0 a0) (hm : m_slices_Index_Fact a0 a1 = some r) :
    Gives true Tryz.prog 163 [v_a0, (.agg (encFact a1).toArray)] w (.int .i64 r) := by
  have hST := ST.start (dd := true) w
  unfold m_slices_Index_Fact at hm
  refine calls_of_CW (n := 19) Tryz.func163 rfl rfl (Nat.le_of_ble_eq_true rfl) ?_
  refine CW_seq ?_
  refine CW_region ?_
  refine LE (E_box (v := (.agg (encFact a1).toArray)) hST rfl (fun W2 b1 hST => ?_))
  refine LV (R_assign (v := (.int .i64 0)) rfl) ?_
  refine LW_nil ?_
  refine sq_n ?_
  refine CW_seq ?_
  refine CW_seq ?_
  refine CW_region ?_
  refine LV (R_move (v := v_a0) rfl) ?_
  refine LV (R_len Tryz.underlying53 rfl h_a0) ?_
  refine LV (R_move (v := (.int .i64 0)) rfl) ?_
  refine LW_nil ?_
  refine sq_n ?_
  refine CW_range (fun i E W => ∃  (L75 : List (Nat × Obj)), (E 8 = .int .i64 (i : Nat) ∧ E 7 = .int .i64 (a0.length : Nat)) ∧ ST true NoF w W (hp w) ((b1, Obj.cells ((encFact a1).toArray : Array Value) 78 (0, 0)) :: L75) ∧ E 0 = v_a0 ∧ E 3 = (.pointer (some ⟨b1, 0, none⟩)) ∧ m_slices_Index_Fact_L1 a1 (a0.drop i) i = some r) a0.length h_a0.len ⟨_, ⟨rfl, rfl⟩, (hST.sublist (List.Sublist.refl _)), rfl, rfl, hm⟩ (by decide) (by decide) (by decide) (fun _ _ _ h => by obtain ⟨_, eIN, _⟩ := h; exact eIN) ?_ ?_
  · rintro i46 E W hi52 ⟨L75, ⟨eI, eN⟩, hST, e77, e78, hm76⟩
    obtain ⟨x47, xs48, hx50, hx49, hx51⟩ := drop_cons hi52
    rw [hx50] at hm76
    rw [m_slices_Index_Fact_L1] at hm76
    refine CW_block ?_
    refine CW_seq ?_
    refine CW_region ?_
    refine LV (R_move (v := (.int .i64 ((i46 : Int)))) eI) ?_
    refine LV (R_assign (v := (.int .i64 ((i46 : Int)))) rfl) ?_
    refine LW_nil ?_
    refine sq_n ?_
    refine CW_seq ?_
    refine PX_start (fun l W => Has (hp w) ((b1, Obj.cells ((encFact a1).toArray : Array Value) 78 (0, 0)) :: []) W) Tryz_mixed ?_
    replace hST := hST.drew
    have hS0 : Has (hp w) ((b1, Obj.cells ((encFact a1).toArray : Array Value) 78 (0, 0)) :: []) _ := hST.has.sub (Sub.refl _) (fun p hq => ((List.mem_cons.1 hq).elim (fun hq => by rw [hq]; exact (.head _)) (fun hq => (absurd hq List.not_mem_nil))))
    refine PX_v 0 rfl (by kernel_rfl) (.inl rfl) rfl (by decide) (fun _ _ h => h) hS0 (fun l W hpd hs => have hS := hs; R_load (v := (.agg (encFact a1).toArray)) e78 (load_boxA hS (.head _) (encFact a1) rfl Tryz.isAgg78 Tryz.sizeOf78)) ?_
    refine PV 1 rfl hS0 (R_move (v := v_a0) e77) ?_
    refine PV 2 rfl hS0 (R_move (v := (.int .i64 ((i46 : Int)))) rfl) ?_
    refine PX_q 3 rfl (by kernel_rfl) (.inl rfl) rfl (by decide) (fun _ _ h => h) hS0 (R_indexP (enc := encFact) (i := (i46 : Int)) (x0 := x47) Tryz.underlying53 Tryz.sizeOf78 rfl rfl h_a0 (Int.natCast_nonneg _) hx49) (fun p85 hp86 => ?_)
    refine PX_v 4 rfl (by kernel_rfl) (.inl rfl) rfl (by decide) (fun _ _ h => h) hS0 (fun l W hpd hs => have hS := hs; R_load rfl (load_atA hS hp86 Tryz.isAgg78 Tryz.sizeOf78)) ?_
    refine PV 5 rfl hS0 (R_eql (a := (encFact a1).toArray) (b := (encFact x47).toArray) rfl rfl (guard_agg Tryz.eqGuardType78) (bin_eql (eqInFact _ a1 x47))) ?_
    refine PX_done (by kernel_rfl) ?_
    refine sq_n ?_
    refine CW_if (b := (beqFact a1 x47)) rfl (fun hb88 => ?_) (fun hb88 => ?_)
    · replace hm76 := if_t hb88 hm76
      refine CW_seq ?_
      refine CW_region ?_
      refine LV (R_move (v := (.int .i64 ((i46 : Int)))) rfl) ?_
      refine LV (R_assign (v := (.int .i64 ((i46 : Int)))) rfl) ?_
      refine LW_nil ?_
      refine sq_n ?_
      replace hST : ST true NoF w _ _ L75 := hST.sublist (List.Sublist.cons _ (List.Sublist.refl _))
      refine CW_ret ?_
      refine bq_r (sq_r (bq_r (sq_r ?_)))
      replace hm76 := Option.some.inj hm76; subst hm76
      refine retQ_1 (v := (.int .i64 ((i46 : Int)))) rfl rfl ?_
      exact ⟨rfl, hST.ex⟩
    · replace hm76 := if_f hb88 hm76
      refine CW_skip ?_
      refine bq_n ?_
      refine sq_n ?_
      exact ⟨eI, _, ⟨rfl, eN⟩, (hST.sublist (List.Sublist.refl _)), e77, e78, (by rw [hx51]; exact hm76)⟩
  · rintro E W ⟨L75, ⟨eI, eN⟩, hST, e77, e78, hm76⟩
    rw [List.drop_length] at hm76
    rw [m_slices_Index_Fact_L1] at hm76
    refine sq_n ?_
    replace hST : ST true NoF w _ _ L75 := hST.sublist (List.Sublist.cons _ (List.Sublist.refl _))
    refine CW_seq ?_
    refine CW_region ?_
    refine LV (R_assign (v := (.int .i64 ((-1)))) rfl) ?_
    refine LW_nil ?_
    refine sq_n ?_
    refine CW_ret ?_
    replace hm76 := Option.some.inj hm76; subst hm76
    refine retQ_1 (v := (.int .i64 ((-1)))) rfl rfl ?_
    exact ⟨rfl, hST.ex⟩
theorem w_slices_Contains_Fact (v_a0 : Value) (a0 : List Fact) (a1 : Fact) (r : Bool) (w : World) (h_a0 : Sl (Pl encFact) 3 (hp w) v_a0 a0) (hm : m_slices_Contains_Fact a0 a1 = some r) :
    Gives true Tryz.prog 117 [v_a0, (.agg (encFact a1).toArray)] w (.bool r) := by
  have hST := ST.start (dd := true) w
  unfold m_slices_Contains_Fact at hm
  refine calls_of_CW (n := 9) Tryz.func117 rfl rfl (Nat.le_of_ble_eq_true rfl) ?_
  refine CW_seq ?_
  refine CW_region ?_
  refine LE (E_box (v := (.agg (encFact a1).toArray)) hST rfl (fun W2 b1 hST => ?_))
  refine LV (R_assign (v := (.bool false)) rfl) ?_
  refine LW_nil ?_
  refine sq_n ?_
  refine CW_seq ?_
  refine CW_region ?_
  refine LV (R_move (v := v_a0) rfl) ?_
  refine LV (R_load (v := (.agg (encFact a1).toArray)) rfl (load_boxA hST.has (.head _) (encFact a1) rfl Tryz.isAgg78 Tryz.sizeOf78)) ?_
  obtain ⟨r3, hr4, hm⟩ := bind_some hm
  refine LE (E_gives (args := [v_a0, (.agg (encFact a1).toArray)]) hST rfl Tryz.call163 (by exact args2 rfl rfl) ((w_slices_Index_Fact v_a0 a0 a1 _ _ (h_a0.mono (Pl.mono _) hST.sub_hp) hr4)) (fun W5 hST => ?_))
  refine LV (R_int (k := .i64) (a := r3) (b := 0) (v := (.bool ((decide (r3 ≥ 0))))) rfl rfl rfl) ?_
  refine LV (R_assign (v := (.bool ((decide (r3 ≥ 0))))) rfl) ?_
  refine LW_nil ?_
  refine sq_n ?_
  replace hST : ST true NoF w _ _ [] := hST.sublist (List.Sublist.cons _ (List.Sublist.refl _))
  refine CW_ret ?_
  replace hm := Option.some.inj hm; subst hm
  refine retQ_1 (v := (.bool ((decide (r3 ≥ 0))))) rfl rfl ?_
  exact ⟨rfl, hST.ex⟩
theorem w_slices_Index_had_Fact (v_a0 : Value) (a0 : List Fact) (a1 : Fact) (r : Int) (w : World) (h_a0 : Sl (Pl encFact) 3 (hp w) v_a0 a0) (hm : m_slices_Index_had_Fact a0 a1 = some r) :
    Gives true Tryz.prog 234 [v_a0, (.agg (encFact a1).toArray)] w (.int .i64 r) := by
  have hST := ST.start (dd := true) w
  unfold m_slices_Index_had_Fact at hm
  refine calls_of_CW (n := 19) Tryz.func234 rfl rfl (Nat.le_of_ble_eq_true rfl) ?_
  refine CW_seq ?_
  refine CW_region ?_
  refine LE (E_box (v := (.agg (encFact a1).toArray)) hST rfl (fun W2 b1 hST => ?_))
  refine LV (R_assign (v := (.int .i64 0)) rfl) ?_
  refine LW_nil ?_
  refine sq_n ?_
  refine CW_seq ?_
  refine CW_seq ?_
  refine CW_region ?_
  refine LV (R_move (v := v_a0) rfl) ?_
  refine LV (R_len Tryz.underlying184 rfl h_a0) ?_
  refine LV (R_move (v := (.int .i64 0)) rfl) ?_
  refine LW_nil ?_
  refine sq_n ?_
  refine CW_range (fun i E W => ∃  (L75 : List (Nat × Obj)), (E 8 = .int .i64 (i : Nat) ∧ E 7 = .int .i64 (a0.length : Nat)) ∧ ST true NoF w W (hp w) ((b1, Obj.cells ((encFact a1).toArray : Array Value) 78 (0, 0)) :: L75) ∧ E 0 = v_a0 ∧ E 3 = (.pointer (some ⟨b1, 0, none⟩)) ∧ m_slices_Index_had_Fact_L1 a1 (a0.drop i) i = some r) a0.length h_a0.len ⟨_, ⟨rfl, rfl⟩, (hST.sublist (List.Sublist.refl _)), rfl, rfl, hm⟩ (by decide) (by decide) (by decide) (fun _ _ _ h => by obtain ⟨_, eIN, _⟩ := h; exact eIN) ?_ ?_
  · rintro i46 E W hi52 ⟨L75, ⟨eI, eN⟩, hST, e77, e78, hm76⟩
    obtain ⟨x47, xs48, hx50, hx49, hx51⟩ := drop_cons hi52
    rw [hx50] at hm76
    rw [m_slices_Index_had_Fact_L1] at hm76
    refine CW_block ?_
    refine CW_seq ?_
    refine CW_region ?_
    refine LV (R_move (v := (.int .i64 ((i46 : Int)))) eI) ?_
    refine LV (R_assign (v := (.int .i64 ((i46 : Int)))) rfl) ?_
    refine LW_nil ?_
    refine sq_n ?_
    refine CW_seq ?_
    refine PX_start (fun l W => Has (hp w) ((b1, Obj.cells ((encFact a1).toArray : Array Value) 78 (0, 0)) :: []) W) Tryz_mixed ?_
    replace hST := hST.drew
    have hS0 : Has (hp w) ((b1, Obj.cells ((encFact a1).toArray : Array Value) 78 (0, 0)) :: []) _ := hST.has.sub (Sub.refl _) (fun p hq => ((List.mem_cons.1 hq).elim (fun hq => by rw [hq]; exact (.head _)) (fun hq => (absurd hq List.not_mem_nil))))
    refine PX_v 0 rfl (by kernel_rfl) (.inl rfl) rfl (by decide) (fun _ _ h => h) hS0 (fun l W hpd hs => have hS := hs; R_load (v := (.agg (encFact a1).toArray)) e78 (load_boxA hS (.head _) (encFact a1) rfl Tryz.isAgg78 Tryz.sizeOf78)) ?_
    refine PV 1 rfl hS0 (R_move (v := v_a0) e77) ?_
    refine PV 2 rfl hS0 (R_move (v := (.int .i64 ((i46 : Int)))) rfl) ?_
    refine PX_q 3 rfl (by kernel_rfl) (.inl rfl) rfl (by decide) (fun _ _ h => h) hS0 (R_indexP (enc := encFact) (i := (i46 : Int)) (x0 := x47) Tryz.underlying184 Tryz.sizeOf78 rfl rfl h_a0 (Int.natCast_nonneg _) hx49) (fun p85 hp86 => ?_)
    refine PX_v 4 rfl (by kernel_rfl) (.inl rfl) rfl (by decide) (fun _ _ h => h) hS0 (fun l W hpd hs => have hS := hs; R_load rfl (load_atA hS hp86 Tryz.isAgg78 Tryz.sizeOf78)) ?_
    refine PV 5 rfl hS0 (R_eql (a := (encFact a1).toArray) (b := (encFact x47).toArray) rfl rfl (guard_agg Tryz.eqGuardType78) (bin_eql (eqInFact _ a1 x47))) ?_
    refine PX_done (by kernel_rfl) ?_
    refine sq_n ?_
    refine CW_if (b := (beqFact a1 x47)) rfl (fun hb88 => ?_) (fun hb88 => ?_)
    · replace hm76 := if_t hb88 hm76
      refine CW_seq ?_
      refine CW_region ?_
      refine LV (R_move (v := (.int .i64 ((i46 : Int)))) rfl) ?_
      refine LV (R_assign (v := (.int .i64 ((i46 : Int)))) rfl) ?_
      refine LW_nil ?_
      refine sq_n ?_
      replace hST : ST true NoF w _ _ L75 := hST.sublist (List.Sublist.cons _ (List.Sublist.refl _))
      refine CW_ret ?_
      refine bq_r (sq_r (bq_r (sq_r ?_)))
      replace hm76 := Option.some.inj hm76; subst hm76
      refine retQ_1 (v := (.int .i64 ((i46 : Int)))) rfl rfl ?_
      exact ⟨rfl, hST.ex⟩
    · replace hm76 := if_f hb88 hm76
      refine CW_skip ?_
      refine bq_n ?_
      refine sq_n ?_
      exact ⟨eI, _, ⟨rfl, eN⟩, (hST.sublist (List.Sublist.refl _)), e77, e78, (by rw [hx51]; exact hm76)⟩
  · rintro E W ⟨L75, ⟨eI, eN⟩, hST, e77, e78, hm76⟩
    rw [List.drop_length] at hm76
    rw [m_slices_Index_had_Fact_L1] at hm76
    refine sq_n ?_
    replace hST : ST true NoF w _ _ L75 := hST.sublist (List.Sublist.cons _ (List.Sublist.refl _))
    refine CW_seq ?_
    refine CW_region ?_
    refine LV (R_assign (v := (.int .i64 ((-1)))) rfl) ?_
    refine LW_nil ?_
    refine sq_n ?_
    refine CW_ret ?_
    replace hm76 := Option.some.inj hm76; subst hm76
    refine retQ_1 (v := (.int .i64 ((-1)))) rfl rfl ?_
    exact ⟨rfl, hST.ex⟩
theorem w_slices_Contains_had_Fact (v_a0 : Value) (a0 : List Fact) (a1 : Fact) (r : Bool) (w : World) (h_a0 : Sl (Pl encFact) 3 (hp w) v_a0 a0) (hm : m_slices_Contains_had_Fact a0 a1 = some r) :
    Gives true Tryz.prog 191 [v_a0, (.agg (encFact a1).toArray)] w (.bool r) := by
  have hST := ST.start (dd := true) w
  unfold m_slices_Contains_had_Fact at hm
  refine calls_of_CW (n := 9) Tryz.func191 rfl rfl (Nat.le_of_ble_eq_true rfl) ?_
  refine CW_seq ?_
  refine CW_region ?_
  refine LE (E_box (v := (.agg (encFact a1).toArray)) hST rfl (fun W2 b1 hST => ?_))
  refine LV (R_assign (v := (.bool false)) rfl) ?_
  refine LW_nil ?_
  refine sq_n ?_
  refine CW_seq ?_
  refine CW_region ?_
  refine LV (R_move (v := v_a0) rfl) ?_
  refine LV (R_load (v := (.agg (encFact a1).toArray)) rfl (load_boxA hST.has (.head _) (encFact a1) rfl Tryz.isAgg78 Tryz.sizeOf78)) ?_
  obtain ⟨r3, hr4, hm⟩ := bind_some hm
  refine LE (E_gives (args := [v_a0, (.agg (encFact a1).toArray)]) hST rfl Tryz.call234 (by exact args2 rfl rfl) ((w_slices_Index_had_Fact v_a0 a0 a1 _ _ (h_a0.mono (Pl.mono _) hST.sub_hp) hr4)) (fun W5 hST => ?_))
  refine LV (R_int (k := .i64) (a := r3) (b := 0) (v := (.bool ((decide (r3 ≥ 0))))) rfl rfl rfl) ?_
  refine LV (R_assign (v := (.bool ((decide (r3 ≥ 0))))) rfl) ?_
  refine LW_nil ?_
  refine sq_n ?_
  replace hST : ST true NoF w _ _ [] := hST.sublist (List.Sublist.cons _ (List.Sublist.refl _))
  refine CW_ret ?_
  replace hm := Option.some.inj hm; subst hm
  refine retQ_1 (v := (.bool ((decide (r3 ≥ 0))))) rfl rfl ?_
  exact ⟨rfl, hST.ex⟩
theorem w_check_had_in (v_a0 : Value) (a0 : List Fact) (a1 : Role) (a2 : ByteArray) (r : Bool) (w : World) (h_a0 : Sl (Pl encFact) 3 (hp w) v_a0 a0) (hm : m_check_had_in a0 a1 a2 = some r) :
    Gives true Tryz.prog 161 [v_a0, (.agg (encRole a1).toArray), (.string a2)] w (.bool r) := by
  have hST := ST.start (dd := true) w
  unfold m_check_had_in at hm
  refine calls_of_CW (n := 12) Tryz.func161 rfl rfl (Nat.le_of_ble_eq_true rfl) ?_
  refine CW_seq ?_
  refine CW_region ?_
  refine LE (E_box (v := (.agg (encRole a1).toArray)) hST rfl (fun W2 b1 hST => ?_))
  refine LV (R_assign (v := (.bool false)) rfl) ?_
  refine LW_nil ?_
  refine sq_n ?_
  refine CW_seq ?_
  refine CW_region ?_
  refine LV (R_move (v := v_a0) rfl) ?_
  refine LV (R_load (v := (.agg (encRole a1).toArray)) rfl (load_boxA hST.has (.head _) (encRole a1) rfl Tryz.isAgg47 Tryz.sizeOf47)) ?_
  refine LV (R_move (v := (.string a2)) rfl) ?_
  refine LV (R_build (qs := #[(0, (.agg (encRole a1).toArray)), (1, (.string a2))]) (v := (.agg (encFact ((⟨a1, a2⟩ : Fact))).toArray)) (parts2 rfl rfl) (run_build Tryz.zeroValue78 Tryz.underlying78 (pl78 _ Tryz.underlying78) (by kernel_rfl))) ?_
  obtain ⟨r3, hr4, hm⟩ := bind_some hm
  refine LE (E_gives (args := [v_a0, (.agg (encFact ((⟨a1, a2⟩ : Fact))).toArray)]) hST rfl Tryz.call191 (by exact args2 rfl rfl) ((w_slices_Contains_had_Fact v_a0 a0 ((⟨a1, a2⟩ : Fact)) _ _ (h_a0.mono (Pl.mono _) hST.sub_hp) hr4)) (fun W5 hST => ?_))
  refine LV (R_assign (v := (.bool r3)) rfl) ?_
  refine LW_nil ?_
  refine sq_n ?_
  replace hST : ST true NoF w _ _ [] := hST.sublist (List.Sublist.cons _ (List.Sublist.refl _))
  refine CW_ret ?_
  replace hm := Option.some.inj hm; subst hm
  refine retQ_1 (v := (.bool r3)) rfl rfl ?_
  exact ⟨rfl, hST.ex⟩
theorem w_slices_IndexFunc_had_Fact (v_a0 : Value) (a0 : List Fact) (v_a1 : Value) (f1 : Fact → Option Bool) (r : Int) (w : World) (h_a0 : Sl (Pl encFact) 3 (hp w) v_a0 a0) (h_a1 : CbOk Tryz.prog v_a1 (hp w) (fun (x : Fact) => [(.agg (encFact x).toArray)]) (fun (r : Bool) => (.bool r)) f1) (hm : m_slices_IndexFunc_had_Fact a0 f1 = some r) :
    Gives true Tryz.prog 235 [v_a0, v_a1] w (.int .i64 r) := by
  have hST := ST.start (dd := true) w
  unfold m_slices_IndexFunc_had_Fact at hm
  refine calls_of_CW (n := 19) Tryz.func235 rfl rfl (Nat.le_of_ble_eq_true rfl) ?_
  refine CW_seq ?_
  refine CW_region ?_
  refine LV (R_assign (v := (.int .i64 0)) rfl) ?_
  refine LW_nil ?_
  refine sq_n ?_
  refine CW_seq ?_
  refine CW_seq ?_
  refine CW_region ?_
  refine LV (R_move (v := v_a0) rfl) ?_
  refine LV (R_len Tryz.underlying184 rfl h_a0) ?_
  refine LV (R_move (v := (.int .i64 0)) rfl) ?_
  refine LW_nil ?_
  refine sq_n ?_
  refine CW_range (fun i E W => ∃  (L58 : List (Nat × Obj)), (E 8 = .int .i64 (i : Nat) ∧ E 7 = .int .i64 (a0.length : Nat)) ∧ ST true NoF w W (hp w) L58 ∧ E 0 = v_a0 ∧ E 1 = v_a1 ∧ m_slices_IndexFunc_had_Fact_L1 f1 (a0.drop i) i = some r) a0.length h_a0.len ⟨_, ⟨rfl, rfl⟩, (hST.sublist (List.Sublist.refl _)), rfl, rfl, hm⟩ (by decide) (by decide) (by decide) (fun _ _ _ h => by obtain ⟨_, eIN, _⟩ := h; exact eIN) ?_ ?_
  · rintro i35 E W hi41 ⟨L58, ⟨eI, eN⟩, hST, e60, e61, hm59⟩
    obtain ⟨x36, xs37, hx39, hx38, hx40⟩ := drop_cons hi41
    rw [hx39] at hm59
    rw [m_slices_IndexFunc_had_Fact_L1] at hm59
    refine CW_block ?_
    refine CW_seq ?_
    refine CW_region ?_
    refine LV (R_move (v := (.int .i64 ((i35 : Int)))) eI) ?_
    refine LV (R_assign (v := (.int .i64 ((i35 : Int)))) rfl) ?_
    refine LW_nil ?_
    refine sq_n ?_
    refine CW_seq ?_
    refine CW_region ?_
    refine LV (R_move (v := v_a1) e61) ?_
    refine LV (R_move (v := v_a0) e60) ?_
    refine LV (R_move (v := (.int .i64 ((i35 : Int)))) rfl) ?_
    refine LQ (R_indexP (enc := encFact) (i := (i35 : Int)) (x0 := x36) Tryz.underlying184 Tryz.sizeOf78 rfl rfl h_a0 (Int.natCast_nonneg _) hx38) (fun p62 hp63 => ?_)
    refine LV (R_load rfl (load_atA hST.has hp63 Tryz.isAgg78 Tryz.sizeOf78)) ?_
    obtain ⟨r65, hr66, hm59⟩ := bind_some hm59
    refine LE (E_cb x36 hST h_a1 (Sub.refl _) rfl (args1 rfl) hr66 (fun W67 hST => ?_))
    refine LW_nil ?_
    refine sq_n ?_
    refine CW_if (b := r65) rfl (fun hb68 => ?_) (fun hb68 => ?_)
    · replace hm59 := if_t hb68 hm59
      refine CW_seq ?_
      refine CW_region ?_
      refine LV (R_move (v := (.int .i64 ((i35 : Int)))) rfl) ?_
      refine LV (R_assign (v := (.int .i64 ((i35 : Int)))) rfl) ?_
      refine LW_nil ?_
      refine sq_n ?_
      refine CW_ret ?_
      refine bq_r (sq_r (bq_r (sq_r ?_)))
      replace hm59 := Option.some.inj hm59; subst hm59
      refine retQ_1 (v := (.int .i64 ((i35 : Int)))) rfl rfl ?_
      exact ⟨rfl, hST.ex⟩
    · replace hm59 := if_f hb68 hm59
      refine CW_skip ?_
      refine bq_n ?_
      refine sq_n ?_
      exact ⟨eI, _, ⟨rfl, eN⟩, (hST.sublist (List.Sublist.refl _)), e60, e61, (by rw [hx40]; exact hm59)⟩
  · rintro E W ⟨L58, ⟨eI, eN⟩, hST, e60, e61, hm59⟩
    rw [List.drop_length] at hm59
    rw [m_slices_IndexFunc_had_Fact_L1] at hm59
    refine sq_n ?_
    refine CW_seq ?_
    refine CW_region ?_
    refine LV (R_assign (v := (.int .i64 ((-1)))) rfl) ?_
    refine LW_nil ?_
    refine sq_n ?_
    refine CW_ret ?_
    replace hm59 := Option.some.inj hm59; subst hm59
    refine retQ_1 (v := (.int .i64 ((-1)))) rfl rfl ?_
    exact ⟨rfl, hST.ex⟩
theorem w_slices_ContainsFunc_had_Fact (v_a0 : Value) (a0 : List Fact) (v_a1 : Value) (f1 : Fact → Option Bool) (r : Bool) (w : World) (h_a0 : Sl (Pl encFact) 3 (hp w) v_a0 a0) (h_a1 : CbOk Tryz.prog v_a1 (hp w) (fun (x : Fact) => [(.agg (encFact x).toArray)]) (fun (r : Bool) => (.bool r)) f1) (hm : m_slices_ContainsFunc_had_Fact a0 f1 = some r) :
    Gives true Tryz.prog 192 [v_a0, v_a1] w (.bool r) := by
  have hST := ST.start (dd := true) w
  unfold m_slices_ContainsFunc_had_Fact at hm
  refine calls_of_CW (n := 9) Tryz.func192 rfl rfl (Nat.le_of_ble_eq_true rfl) ?_
  refine CW_seq ?_
  refine CW_region ?_
  refine LV (R_assign (v := (.bool false)) rfl) ?_
  refine LW_nil ?_
  refine sq_n ?_
  refine CW_seq ?_
  refine CW_region ?_
  refine LV (R_move (v := v_a0) rfl) ?_
  refine LV (R_move (v := v_a1) rfl) ?_
  obtain ⟨r1, hr2, hm⟩ := bind_some hm
  refine LE (E_gives (args := [v_a0, v_a1]) hST rfl Tryz.call235 (by exact args2 rfl rfl) ((w_slices_IndexFunc_had_Fact v_a0 a0 v_a1 f1 _ _ (h_a0.mono (Pl.mono _) hST.sub_hp) (h_a1.mono hST.sub_hp) hr2)) (fun W3 hST => ?_))
  refine LV (R_int (k := .i64) (a := r1) (b := 0) (v := (.bool ((decide (r1 ≥ 0))))) rfl rfl rfl) ?_
  refine LV (R_assign (v := (.bool ((decide (r1 ≥ 0))))) rfl) ?_
  refine LW_nil ?_
  refine sq_n ?_
  refine CW_ret ?_
  replace hm := Option.some.inj hm; subst hm
  refine retQ_1 (v := (.bool ((decide (r1 ≥ 0))))) rfl rfl ?_
  exact ⟨rfl, hST.ex⟩
theorem w_check_had_linked_c1 (a0 : Fact) (b_c0 : Nat) (c0 : Role) (b_c1 : Nat) (v_c1 : Value) (c1 : List Fact) (b_c2 : Nat) (c2 : ByteArray) (b_c3 : Nat) (c3 : ByteArray) (r : Bool) (w : World) (hA_c0 : At (hp w) (.pointer (some ⟨b_c0, 0, none⟩)) (encRole c0)) (h_c1 : Sl (Pl encFact) 3 (hp w) v_c1 c1) (hA_c1 : At (hp w) (.pointer (some ⟨b_c1, 0, none⟩)) [v_c1]) (hA_c2 : At (hp w) (.pointer (some ⟨b_c2, 0, none⟩)) [(.string c2)]) (hA_c3 : At (hp w) (.pointer (some ⟨b_c3, 0, none⟩)) [(.string c3)]) (hm : m_check_had_linked_c1 a0 c0 c1 c2 c3 = some r) :
    Gives true Tryz.prog 193 [(.agg (encFact a0).toArray), (.pointer (some ⟨b_c0, 0, none⟩)), (.pointer (some ⟨b_c1, 0, none⟩)), (.pointer (some ⟨b_c2, 0, none⟩)), (.pointer (some ⟨b_c3, 0, none⟩))] w (.bool r) := by
  have hST := ST.start (dd := true) w
  unfold m_check_had_linked_c1 at hm
  refine calls_of_CW (n := 20) Tryz.func193 rfl rfl (Nat.le_of_ble_eq_true rfl) ?_
  refine CW_seq ?_
  refine CW_region ?_
  refine LE (E_box (v := (.agg (encFact a0).toArray)) hST rfl (fun W2 b1 hST => ?_))
  refine LV (R_assign (v := (.bool false)) rfl) ?_
  refine LW_nil ?_
  refine sq_n ?_
  refine CW_seq ?_
  refine CW_region ?_
  refine LV (R_field fa78_0 rfl) ?_
  refine LV (R_load (v := (.agg (encRole a0.Role).toArray)) rfl (load_boxA hST.has (.head _) (encRole a0.Role) rfl Tryz.isAgg47 Tryz.sizeOf47)) ?_
  refine LV (R_load rfl (load_atA hST.has hA_c0 Tryz.isAgg47 Tryz.sizeOf47)) ?_
  refine LV (R_eql (a := (encRole a0.Role).toArray) (b := (encRole c0).toArray) rfl rfl (guard_agg Tryz.eqGuardType47) (bin_eql (eqInRole _ a0.Role c0))) ?_
  refine LV (R_move (v := (.bool ((beqRole a0.Role c0)))) rfl) ?_
  obtain ⟨s12, hm13, hm14⟩ := bind_some hm
  refine LW_join (J := fun E W => ∃ (x7 : Bool) (L8 : List (Nat × Obj)), ST true NoF w W (hp w) L8 ∧ E 6 = (.bool false) ∧ E 19 = (.bool x7) ∧ some x7 = some r) 8 ?_ (fun key15 => ?_)
  · rintro E W ⟨x7, L8, hST, e10, e11, hm9⟩
    refine LV (R_assign (v := (.bool x7)) e11) ?_
    refine LW_nil ?_
    refine sq_n ?_
    refine CW_ret ?_
    replace hm9 := Option.some.inj hm9; subst hm9
    refine retQ_1 (v := (.bool x7)) rfl rfl ?_
    exact ⟨rfl, hST.ex⟩
  · rcases bool_cases ((beqRole a0.Role c0)) with hb3 | hb3
    · replace hm13 := if_t hb3 hm13
      refine LW_v (.inr ⟨4, true, 11, rfl, rfl, by decide, (congrArg Value.bool hb3)⟩) rfl (by decide) (R_load rfl (load_at1 hST.has (y := v_c1) hA_c1 Tryz.isAgg184)) ?_
      refine LW_v (.inr ⟨4, true, 11, rfl, rfl, by decide, (congrArg Value.bool hb3)⟩) rfl (by decide) (R_field fa78_1 rfl) ?_
      refine LW_v (.inr ⟨4, true, 11, rfl, rfl, by decide, (congrArg Value.bool hb3)⟩) rfl (by decide) (R_load (v := (.string a0.Who)) rfl (load_box1 hST.has (.head _) rfl Tryz.isAgg9)) ?_
      refine LW_v (.inr ⟨4, true, 11, rfl, rfl, by decide, (congrArg Value.bool hb3)⟩) rfl (by decide) (R_load rfl (load_at1 hST.has (y := (.string c2)) hA_c2 Tryz.isAgg9)) ?_
      refine LW_v (.inr ⟨4, true, 11, rfl, rfl, by decide, (congrArg Value.bool hb3)⟩) rfl (by decide) (R_build (qs := #[(0, (.string a0.Who)), (1, (.string c2))]) (v := (.agg (encRole ((⟨a0.Who, c2⟩ : Role))).toArray)) (parts2 rfl rfl) (run_build Tryz.zeroValue47 Tryz.underlying47 (pl47 _ Tryz.underlying47) (by kernel_rfl))) ?_
      refine LW_v (.inr ⟨4, true, 11, rfl, rfl, by decide, (congrArg Value.bool hb3)⟩) rfl (by decide) (R_load rfl (load_at1 hST.has (y := (.string c3)) hA_c3 Tryz.isAgg9)) ?_
      obtain ⟨r16, hr17, hm13⟩ := bind_some hm13
      refine LW_e (.inr ⟨4, true, 11, rfl, rfl, by decide, (congrArg Value.bool hb3)⟩) rfl (by decide) (E_gives (args := [v_c1, (.agg (encRole ((⟨a0.Who, c2⟩ : Role))).toArray), (.string c3)]) hST rfl Tryz.call161 (by exact args3 rfl rfl rfl) ((w_check_had_in v_c1 c1 ((⟨a0.Who, c2⟩ : Role)) c3 _ _ (h_c1.mono (Pl.mono _) hST.sub_hp) hr17)) (fun W18 hST => ?_))
      refine LV (R_pickT (v := (.bool r16)) (congrArg Value.bool hb3) rfl) ?_
      replace hm13 := Option.some.inj hm13; subst hm13
      exact key15 _ _ ⟨r16, _, (hST.sublist (List.Sublist.cons _ (List.Sublist.refl _))), rfl, rfl, hm14⟩
    · replace hm13 := if_f hb3 hm13
      refine LW_no rfl (by decide) rfl rfl (by decide) (congrArg Value.bool hb3) ?_
      refine LW_no rfl (by decide) rfl rfl (by decide) (congrArg Value.bool hb3) ?_
      refine LW_no rfl (by decide) rfl rfl (by decide) (congrArg Value.bool hb3) ?_
      refine LW_no rfl (by decide) rfl rfl (by decide) (congrArg Value.bool hb3) ?_
      refine LW_no rfl (by decide) rfl rfl (by decide) (congrArg Value.bool hb3) ?_
      refine LW_no rfl (by decide) rfl rfl (by decide) (congrArg Value.bool hb3) ?_
      refine LW_no rfl (by decide) rfl rfl (by decide) (congrArg Value.bool hb3) ?_
      refine LV (R_pickF (v := (.bool false)) (congrArg Value.bool hb3) rfl) ?_
      replace hm13 := Option.some.inj hm13; subst hm13
      exact key15 _ _ ⟨false, _, (hST.sublist (List.Sublist.cons _ (List.Sublist.refl _))), rfl, rfl, hm14⟩
theorem w_check_had_linked (v_a0 : Value) (a0 : List Fact) (a1 : Role) (a2 : ByteArray) (a3 : ByteArray) (r : Bool) (w : World) (h_a0 : Sl (Pl encFact) 3 (hp w) v_a0 a0) (hm : m_check_had_linked a0 a1 a2 a3 = some r) :
    Gives true Tryz.prog 162 [v_a0, (.agg (encRole a1).toArray), (.string a2), (.string a3)] w (.bool r) := by
  have hST := ST.start (dd := true) w
  unfold m_check_had_linked at hm
  refine calls_of_CW (n := 12) Tryz.func162 rfl rfl (Nat.le_of_ble_eq_true rfl) ?_
  refine CW_seq ?_
  refine CW_region ?_
  obtain ⟨A1, c2, rfl⟩ := h_a0.form
  refine LE (E_box (v := (.slice A1 a0.length c2)) hST rfl (fun W4 b3 hST => ?_))
  refine LE (E_box (v := (.agg (encRole a1).toArray)) hST rfl (fun W6 b5 hST => ?_))
  refine LE (E_box (v := (.string a2)) hST rfl (fun W8 b7 hST => ?_))
  refine LE (E_box (v := (.string a3)) hST rfl (fun W10 b9 hST => ?_))
  refine LV (R_assign (v := (.bool false)) rfl) ?_
  refine LW_nil ?_
  refine sq_n ?_
  refine CW_seq ?_
  refine CW_region ?_
  refine LV (R_load (v := (.slice A1 a0.length c2)) rfl (load_box1 hST.has (.tail _ (.tail _ (.tail _ (.head _)))) rfl Tryz.isAgg184)) ?_
  refine LV (R_makeFuncC (by exact args4 rfl rfl rfl rfl) rfl) ?_
  obtain ⟨r11, hr12, hm⟩ := bind_some hm
  refine LE (E_gives (args := [(.slice A1 a0.length c2), (.func (.func 193) #[] #[(.pointer (some ⟨b5, 0, none⟩)), (.pointer (some ⟨b3, 0, none⟩)), (.pointer (some ⟨b7, 0, none⟩)), (.pointer (some ⟨b9, 0, none⟩))])]) hST rfl Tryz.call192 (by exact args2 rfl rfl) ((w_slices_ContainsFunc_had_Fact (.slice A1 a0.length c2) a0 (.func (.func 193) #[] #[(.pointer (some ⟨b5, 0, none⟩)), (.pointer (some ⟨b3, 0, none⟩)), (.pointer (some ⟨b7, 0, none⟩)), (.pointer (some ⟨b9, 0, none⟩))]) (fun (x : Fact) => m_check_had_linked_c1 x a1 a0 a2 a3) _ _ (h_a0.mono (Pl.mono _) hST.sub_hp) ⟨193, #[], #[(.pointer (some ⟨b5, 0, none⟩)), (.pointer (some ⟨b3, 0, none⟩)), (.pointer (some ⟨b7, 0, none⟩)), (.pointer (some ⟨b9, 0, none⟩))], rfl, Tryz.call193, fun W x r hs hm => w_check_had_linked_c1 x b5 a1 b3 (.slice A1 a0.length c2) a0 b7 a2 b9 a3 r W (At.of (hs _ _ (hST.at_ (.tail _ (.tail _ (.head _))))) _ rfl) (h_a0.mono (Pl.mono _) (hST.sub_hp.trans hs)) (At.of (hs _ _ (hST.at_ (.tail _ (.tail _ (.tail _ (.head _)))))) _ rfl) (At.of (hs _ _ (hST.at_ (.tail _ (.head _)))) _ rfl) (At.of (hs _ _ (hST.at_ (.head _))) _ rfl) hm⟩ hr12)) (fun W13 hST => ?_))
  refine LV (R_assign (v := (.bool r11)) rfl) ?_
  refine LW_nil ?_
  refine sq_n ?_
  replace hST : ST true NoF w _ _ [] := hST.sublist (List.Sublist.cons _ (List.Sublist.cons _ (List.Sublist.cons _ (List.Sublist.cons _ (List.Sublist.refl _)))))
  refine CW_ret ?_
  replace hm := Option.some.inj hm; subst hm
  refine retQ_1 (v := (.bool r11)) rfl rfl ?_
  exact ⟨rfl, hST.ex⟩
theorem w_check_Follows (a0 : Step) (v_a1 : Value) (a1 : List Fact) (r : Bool) (w : World) (h_a1 : Sl (Pl encFact) 3 (hp w) v_a1 a1) (hm : m_check_Follows a0 a1 = some r) :
    Gives true Tryz.prog 116 [(.agg (encStep a0).toArray), v_a1] w (.bool r) := by
  have hST := ST.start (dd := true) w
  unfold m_check_Follows at hm
  refine calls_of_CW (n := 67) Tryz.func116 rfl rfl (Nat.le_of_ble_eq_true rfl) ?_
  refine CW_seq ?_
  refine CW_region ?_
  refine LE (E_box (v := (.agg (encStep a0).toArray)) hST rfl (fun W2 b1 hST => ?_))
  refine LV (R_assign (v := (.bool false)) rfl) ?_
  refine LW_nil ?_
  refine sq_n ?_
  refine CW_seq ?_
  refine PX_start (fun l W => Has (hp w) ((b1, Obj.cells ((encStep a0).toArray : Array Value) 89 (0, 0)) :: []) W) Tryz_mixed ?_
  replace hST := hST.drew
  have hS0 : Has (hp w) ((b1, Obj.cells ((encStep a0).toArray : Array Value) 89 (0, 0)) :: []) _ := hST.has.sub (Sub.refl _) (fun p hq => ((List.mem_cons.1 hq).elim (fun hq => by rw [hq]; exact (.head _)) (fun hq => (absurd hq List.not_mem_nil))))
  refine PV 0 rfl hS0 (R_move (v := v_a1) rfl) ?_
  refine PV 1 rfl hS0 (R_field fa89_0 rfl) ?_
  refine PX_v 2 rfl (by kernel_rfl) (.inl rfl) rfl (by decide) (fun _ _ h => h) hS0 (fun l W hpd hs => have hS := hs; R_load (v := (.agg (encCred a0.Cred).toArray)) rfl (load_boxA hS (.head _) (encCred a0.Cred) rfl Tryz.isAgg83 Tryz.sizeOf83)) ?_
  refine PX_e 3 rfl (by kernel_rfl) (.inl rfl) rfl (by decide) (E_alloc hST Tryz.zeroValue83 (fun W10 b9 hST => ?_))
  have hS0 : Has (hp w) ((b1, Obj.cells ((encStep a0).toArray : Array Value) 89 (0, 0)) :: []) _ := hST.has.sub (Sub.refl _) (fun p hq => ((List.mem_cons.1 hq).elim (fun hq => by rw [hq]; exact (.tail _ (.head _))) (fun hq => (absurd hq List.not_mem_nil))))
  refine ⟨hS0, ?_⟩
  refine PV 4 rfl hS0 (R_assign (v := v_a1) rfl) ?_
  refine PX_e0 5 rfl (by kernel_rfl) (.inl rfl) rfl (E_store [] (.agg (encCred a0.Cred).toArray) ((encCred a0.Cred).toArray) hST rfl rfl Tryz.sizeOf83 (oneCred a0.Cred) (Nat.le_of_ble_eq_true rfl) rfl (fun W11 hST => ?_))
  replace hST : ST true NoF w _ _ ((b9, Obj.cells ((encCred a0.Cred).toArray : Array Value) 83 (0, 0)) :: ((b1, Obj.cells ((encStep a0).toArray : Array Value) 89 (0, 0)) :: [])) := hST
  have hS0 : Has (hp w) ((b1, Obj.cells ((encStep a0).toArray : Array Value) 89 (0, 0)) :: []) _ := hST.has.sub (Sub.refl _) (fun p hq => ((List.mem_cons.1 hq).elim (fun hq => by rw [hq]; exact (.tail _ (.head _))) (fun hq => (absurd hq List.not_mem_nil))))
  refine ⟨hS0, ?_⟩
  refine PX_done (by kernel_rfl) ?_
  refine sq_n ?_
  refine CW_seq ?_
  refine CW_seq ?_
  refine CW_region ?_
  refine LV (R_load (v := (.agg (encCred a0.Cred).toArray)) rfl (load_boxA hST.has (.head _) (encCred a0.Cred) rfl Tryz.isAgg83 Tryz.sizeOf83)) ?_
  obtain ⟨r12, hr13, hm⟩ := bind_some hm
  refine LE (E_gives (args := [(.agg (encCred a0.Cred).toArray)]) hST rfl Tryz.call98 (by exact args1 rfl) ((w_cred_Right a0.Cred _ _  hr13)) (fun W14 hST => ?_))
  refine LV (R_not (b := r12) rfl) ?_
  refine LV (R_move (v := (.bool ((!r12)))) rfl) ?_
  obtain ⟨s51, hm52, hm53⟩ := bind_some hm
  refine LW_join (J := fun E W => ∃ (x16 : Bool) (L17 : List (Nat × Obj)), ST true NoF w W (hp w) ((b9, Obj.cells ((encCred a0.Cred).toArray : Array Value) 83 (0, 0)) :: ((b1, Obj.cells ((encStep a0).toArray : Array Value) 89 (0, 0)) :: L17)) ∧ E 2 = (.pointer (some ⟨b1, 0, none⟩)) ∧ E 5 = v_a1 ∧ E 6 = (.pointer (some ⟨b9, 0, none⟩)) ∧ E 20 = (.bool x16) ∧ (if x16 then some false else (if (a0.Cred.Kind == 1) then some (beqS a0.Cred.Who a0.Fact.Who) else (if (a0.Cred.Kind == 2) then (((m_check_had_in a1 a0.Cred.B a0.Fact.Who)).bind fun r26 => some r26) else (if (a0.Cred.Kind == 3) then (((m_check_had_linked a1 a0.Cred.B a0.Cred.Word2 a0.Fact.Who)).bind fun r30 => some r30) else (((m_check_had_in a1 a0.Cred.B a0.Fact.Who)).bind fun r33 => (((if r33 then (((m_check_had_in a1 a0.Cred.C a0.Fact.Who)).bind fun r48 => some r48) else some false) : Option Bool).bind fun x40 => some x40)))))) = some r) 7 ?_ (fun key54 => ?_)
  · rintro E W ⟨x16, L17, hST, e19, e20, e21, e22, hm18⟩
    refine LW_nil ?_
    refine sq_n ?_
    refine CW_if (b := x16) e22 (fun hb23 => ?_) (fun hb23 => ?_)
    · replace hm18 := if_t hb23 hm18
      refine CW_seq ?_
      refine CW_region ?_
      refine LV (R_assign (v := (.bool false)) rfl) ?_
      refine LW_nil ?_
      refine sq_n ?_
      replace hST : ST true NoF w _ _ L17 := hST.sublist (List.Sublist.cons _ (List.Sublist.cons _ (List.Sublist.refl _)))
      refine CW_ret ?_
      refine sq_r ?_
      replace hm18 := Option.some.inj hm18; subst hm18
      refine retQ_1 (v := (.bool false)) rfl rfl ?_
      exact ⟨rfl, hST.ex⟩
    · replace hm18 := if_f hb23 hm18
      refine CW_skip ?_
      refine sq_n ?_
      refine CW_seq ?_
      refine CW_seq ?_
      refine CW_region ?_
      refine LV (R_field fa83_0 e21) ?_
      refine LV (R_load (v := (.int .i64 a0.Cred.Kind)) rfl (load_box1 hST.has (.head _) rfl Tryz.isAgg3)) ?_
      refine LW_nil ?_
      refine sq_n ?_
      refine CW_block ?_
      refine CW_seq ?_
      refine CW_region ?_
      refine LV (R_int (k := .i64) (a := a0.Cred.Kind) (b := 1) (v := (.bool ((a0.Cred.Kind == 1)))) rfl rfl rfl) ?_
      refine LV (R_assign (v := (.bool ((a0.Cred.Kind == 1)))) rfl) ?_
      refine LW_nil ?_
      refine sq_n ?_
      refine CW_if (b := (a0.Cred.Kind == 1)) rfl (fun hb24 => ?_) (fun hb24 => ?_)
      · replace hm18 := if_t hb24 hm18
        refine CW_seq ?_
        refine CW_region ?_
        refine LV (R_field fa83_2 e21) ?_
        refine LV (R_load (v := (.string a0.Cred.Who)) rfl (load_box1 hST.has (.head _) rfl Tryz.isAgg9)) ?_
        refine LV (R_field fa89_1 e19) ?_
        refine LV (R_field fa78_1 rfl) ?_
        refine LV (R_load (v := (.string a0.Fact.Who)) rfl (load_box1 hST.has (.tail _ (.head _)) rfl Tryz.isAgg9)) ?_
        refine LV (R_str (a := a0.Cred.Who) (b := a0.Fact.Who) (v := (.bool ((beqS a0.Cred.Who a0.Fact.Who)))) rfl rfl rfl) ?_
        refine LV (R_assign (v := (.bool ((beqS a0.Cred.Who a0.Fact.Who)))) rfl) ?_
        refine LW_nil ?_
        refine sq_n ?_
        replace hST : ST true NoF w _ _ L17 := hST.sublist (List.Sublist.cons _ (List.Sublist.cons _ (List.Sublist.refl _)))
        refine CW_ret ?_
        refine bq_r (sq_r ?_)
        replace hm18 := Option.some.inj hm18; subst hm18
        refine retQ_1 (v := (.bool ((beqS a0.Cred.Who a0.Fact.Who)))) rfl rfl ?_
        exact ⟨rfl, hST.ex⟩
      · replace hm18 := if_f hb24 hm18
        refine CW_seq ?_
        refine CW_region ?_
        refine LV (R_int (k := .i64) (a := a0.Cred.Kind) (b := 2) (v := (.bool ((a0.Cred.Kind == 2)))) rfl rfl rfl) ?_
        refine LV (R_assign (v := (.bool ((a0.Cred.Kind == 2)))) rfl) ?_
        refine LW_nil ?_
        refine sq_n ?_
        refine CW_if (b := (a0.Cred.Kind == 2)) rfl (fun hb25 => ?_) (fun hb25 => ?_)
        · replace hm18 := if_t hb25 hm18
          refine CW_seq ?_
          refine CW_region ?_
          refine LV (R_move (v := v_a1) e20) ?_
          refine LV (R_field fa83_3 e21) ?_
          refine LV (R_load (v := (.agg (encRole a0.Cred.B).toArray)) rfl (load_boxA hST.has (.head _) (encRole a0.Cred.B) rfl Tryz.isAgg47 Tryz.sizeOf47)) ?_
          refine LV (R_field fa89_1 e19) ?_
          refine LV (R_field fa78_1 rfl) ?_
          refine LV (R_load (v := (.string a0.Fact.Who)) rfl (load_box1 hST.has (.tail _ (.head _)) rfl Tryz.isAgg9)) ?_
          obtain ⟨r26, hr27, hm18⟩ := bind_some hm18
          refine LE (E_gives (args := [v_a1, (.agg (encRole a0.Cred.B).toArray), (.string a0.Fact.Who)]) hST rfl Tryz.call161 (by exact args3 rfl rfl rfl) ((w_check_had_in v_a1 a1 a0.Cred.B a0.Fact.Who _ _ (h_a1.mono (Pl.mono _) hST.sub_hp) hr27)) (fun W28 hST => ?_))
          refine LV (R_assign (v := (.bool r26)) rfl) ?_
          refine LW_nil ?_
          refine sq_n ?_
          replace hST : ST true NoF w _ _ L17 := hST.sublist (List.Sublist.cons _ (List.Sublist.cons _ (List.Sublist.refl _)))
          refine CW_ret ?_
          refine bq_r (sq_r ?_)
          replace hm18 := Option.some.inj hm18; subst hm18
          refine retQ_1 (v := (.bool r26)) rfl rfl ?_
          exact ⟨rfl, hST.ex⟩
        · replace hm18 := if_f hb25 hm18
          refine CW_seq ?_
          refine CW_region ?_
          refine LV (R_int (k := .i64) (a := a0.Cred.Kind) (b := 3) (v := (.bool ((a0.Cred.Kind == 3)))) rfl rfl rfl) ?_
          refine LV (R_assign (v := (.bool ((a0.Cred.Kind == 3)))) rfl) ?_
          refine LW_nil ?_
          refine sq_n ?_
          refine CW_if (b := (a0.Cred.Kind == 3)) rfl (fun hb29 => ?_) (fun hb29 => ?_)
          · replace hm18 := if_t hb29 hm18
            refine CW_seq ?_
            refine CW_region ?_
            refine LV (R_move (v := v_a1) e20) ?_
            refine LV (R_field fa83_3 e21) ?_
            refine LV (R_load (v := (.agg (encRole a0.Cred.B).toArray)) rfl (load_boxA hST.has (.head _) (encRole a0.Cred.B) rfl Tryz.isAgg47 Tryz.sizeOf47)) ?_
            refine LV (R_field fa83_5 e21) ?_
            refine LV (R_load (v := (.string a0.Cred.Word2)) rfl (load_box1 hST.has (.head _) rfl Tryz.isAgg9)) ?_
            refine LV (R_field fa89_1 e19) ?_
            refine LV (R_field fa78_1 rfl) ?_
            refine LV (R_load (v := (.string a0.Fact.Who)) rfl (load_box1 hST.has (.tail _ (.head _)) rfl Tryz.isAgg9)) ?_
            obtain ⟨r30, hr31, hm18⟩ := bind_some hm18
            refine LE (E_gives (args := [v_a1, (.agg (encRole a0.Cred.B).toArray), (.string a0.Cred.Word2), (.string a0.Fact.Who)]) hST rfl Tryz.call162 (by exact args4 rfl rfl rfl rfl) ((w_check_had_linked v_a1 a1 a0.Cred.B a0.Cred.Word2 a0.Fact.Who _ _ (h_a1.mono (Pl.mono _) hST.sub_hp) hr31)) (fun W32 hST => ?_))
            refine LV (R_assign (v := (.bool r30)) rfl) ?_
            refine LW_nil ?_
            refine sq_n ?_
            replace hST : ST true NoF w _ _ L17 := hST.sublist (List.Sublist.cons _ (List.Sublist.cons _ (List.Sublist.refl _)))
            refine CW_ret ?_
            refine bq_r (sq_r ?_)
            replace hm18 := Option.some.inj hm18; subst hm18
            refine retQ_1 (v := (.bool r30)) rfl rfl ?_
            exact ⟨rfl, hST.ex⟩
          · replace hm18 := if_f hb29 hm18
            refine CW_skip ?_
            refine bq_n ?_
            refine sq_n ?_
            refine CW_seq ?_
            refine CW_region ?_
            refine LV (R_move (v := v_a1) e20) ?_
            refine LV (R_field fa83_3 e21) ?_
            refine LV (R_load (v := (.agg (encRole a0.Cred.B).toArray)) rfl (load_boxA hST.has (.head _) (encRole a0.Cred.B) rfl Tryz.isAgg47 Tryz.sizeOf47)) ?_
            refine LV (R_field fa89_1 e19) ?_
            refine LV (R_field fa78_1 rfl) ?_
            refine LV (R_load (v := (.string a0.Fact.Who)) rfl (load_box1 hST.has (.tail _ (.head _)) rfl Tryz.isAgg9)) ?_
            obtain ⟨r33, hr34, hm18⟩ := bind_some hm18
            refine LE (E_gives (args := [v_a1, (.agg (encRole a0.Cred.B).toArray), (.string a0.Fact.Who)]) hST rfl Tryz.call161 (by exact args3 rfl rfl rfl) ((w_check_had_in v_a1 a1 a0.Cred.B a0.Fact.Who _ _ (h_a1.mono (Pl.mono _) hST.sub_hp) hr34)) (fun W35 hST => ?_))
            refine LV (R_move (v := (.bool r33)) rfl) ?_
            obtain ⟨s44, hm45, hm46⟩ := bind_some hm18
            refine LW_join (J := fun E W => ∃ (x40 : Bool) (L41 : List (Nat × Obj)), ST true NoF w W (hp w) L41 ∧ E 66 = (.bool x40) ∧ some x40 = some r) 8 ?_ (fun key47 => ?_)
            · rintro E W ⟨x40, L41, hST, e43, hm42⟩
              refine LV (R_assign (v := (.bool x40)) e43) ?_
              refine LW_nil ?_
              refine sq_n ?_
              refine CW_ret ?_
              replace hm42 := Option.some.inj hm42; subst hm42
              refine retQ_1 (v := (.bool x40)) rfl rfl ?_
              exact ⟨rfl, hST.ex⟩
            · rcases bool_cases r33 with hb36 | hb36
              · replace hm45 := if_t hb36 hm45
                refine LW_v (.inr ⟨7, true, 58, rfl, rfl, by decide, (congrArg Value.bool hb36)⟩) rfl (by decide) (R_move (v := v_a1) e20) ?_
                refine LW_v (.inr ⟨7, true, 58, rfl, rfl, by decide, (congrArg Value.bool hb36)⟩) rfl (by decide) (R_field fa83_4 e21) ?_
                refine LW_v (.inr ⟨7, true, 58, rfl, rfl, by decide, (congrArg Value.bool hb36)⟩) rfl (by decide) (R_load (v := (.agg (encRole a0.Cred.C).toArray)) rfl (load_boxA hST.has (.head _) (encRole a0.Cred.C) rfl Tryz.isAgg47 Tryz.sizeOf47)) ?_
                refine LW_v (.inr ⟨7, true, 58, rfl, rfl, by decide, (congrArg Value.bool hb36)⟩) rfl (by decide) (R_field fa89_1 e19) ?_
                refine LW_v (.inr ⟨7, true, 58, rfl, rfl, by decide, (congrArg Value.bool hb36)⟩) rfl (by decide) (R_field fa78_1 rfl) ?_
                refine LW_v (.inr ⟨7, true, 58, rfl, rfl, by decide, (congrArg Value.bool hb36)⟩) rfl (by decide) (R_load (v := (.string a0.Fact.Who)) rfl (load_box1 hST.has (.tail _ (.head _)) rfl Tryz.isAgg9)) ?_
                obtain ⟨r48, hr49, hm45⟩ := bind_some hm45
                refine LW_e (.inr ⟨7, true, 58, rfl, rfl, by decide, (congrArg Value.bool hb36)⟩) rfl (by decide) (E_gives (args := [v_a1, (.agg (encRole a0.Cred.C).toArray), (.string a0.Fact.Who)]) hST rfl Tryz.call161 (by exact args3 rfl rfl rfl) ((w_check_had_in v_a1 a1 a0.Cred.C a0.Fact.Who _ _ (h_a1.mono (Pl.mono _) hST.sub_hp) hr49)) (fun W50 hST => ?_))
                refine LV (R_pickT (v := (.bool r48)) (congrArg Value.bool hb36) rfl) ?_
                replace hm45 := Option.some.inj hm45; subst hm45
                exact key47 _ _ ⟨r48, _, (hST.sublist (List.Sublist.cons _ (List.Sublist.cons _ (List.Sublist.refl _)))), rfl, hm46⟩
              · replace hm45 := if_f hb36 hm45
                refine LW_no rfl (by decide) rfl rfl (by decide) (congrArg Value.bool hb36) ?_
                refine LW_no rfl (by decide) rfl rfl (by decide) (congrArg Value.bool hb36) ?_
                refine LW_no rfl (by decide) rfl rfl (by decide) (congrArg Value.bool hb36) ?_
                refine LW_no rfl (by decide) rfl rfl (by decide) (congrArg Value.bool hb36) ?_
                refine LW_no rfl (by decide) rfl rfl (by decide) (congrArg Value.bool hb36) ?_
                refine LW_no rfl (by decide) rfl rfl (by decide) (congrArg Value.bool hb36) ?_
                refine LW_no rfl (by decide) rfl rfl (by decide) (congrArg Value.bool hb36) ?_
                refine LV (R_pickF (v := (.bool false)) (congrArg Value.bool hb36) rfl) ?_
                replace hm45 := Option.some.inj hm45; subst hm45
                exact key47 _ _ ⟨false, _, (hST.sublist (List.Sublist.cons _ (List.Sublist.cons _ (List.Sublist.refl _)))), rfl, hm46⟩
  · rcases bool_cases ((!r12)) with hb15 | hb15
    · replace hm52 := if_t hb15 hm52
      refine LW_no rfl (by decide) rfl rfl (by decide) (congrArg Value.bool hb15) ?_
      refine LW_no rfl (by decide) rfl rfl (by decide) (congrArg Value.bool hb15) ?_
      refine LW_no rfl (by decide) rfl rfl (by decide) (congrArg Value.bool hb15) ?_
      refine LW_no rfl (by decide) rfl rfl (by decide) (congrArg Value.bool hb15) ?_
      refine LW_no rfl (by decide) rfl rfl (by decide) (congrArg Value.bool hb15) ?_
      refine LW_no rfl (by decide) rfl rfl (by decide) (congrArg Value.bool hb15) ?_
      refine LV (R_pickT (v := (.bool true)) (congrArg Value.bool hb15) rfl) ?_
      replace hm52 := Option.some.inj hm52; subst hm52
      exact key54 _ _ ⟨true, _, (hST.sublist (List.Sublist.refl _)), rfl, rfl, rfl, rfl, hm53⟩
    · replace hm52 := if_f hb15 hm52
      refine LW_v (.inr ⟨3, false, 13, rfl, rfl, by decide, (congrArg Value.bool hb15)⟩) rfl (by decide) (R_field fa89_1 rfl) ?_
      refine LW_v (.inr ⟨3, false, 13, rfl, rfl, by decide, (congrArg Value.bool hb15)⟩) rfl (by decide) (R_field fa78_0 rfl) ?_
      refine LW_v (.inr ⟨3, false, 13, rfl, rfl, by decide, (congrArg Value.bool hb15)⟩) rfl (by decide) (R_load (v := (.agg (encRole a0.Fact.Role).toArray)) rfl (load_boxA hST.has (.tail _ (.head _)) (encRole a0.Fact.Role) rfl Tryz.isAgg47 Tryz.sizeOf47)) ?_
      refine LW_v (.inr ⟨3, false, 13, rfl, rfl, by decide, (congrArg Value.bool hb15)⟩) rfl (by decide) (R_field fa83_1 rfl) ?_
      refine LW_v (.inr ⟨3, false, 13, rfl, rfl, by decide, (congrArg Value.bool hb15)⟩) rfl (by decide) (R_load (v := (.agg (encRole a0.Cred.Head).toArray)) rfl (load_boxA hST.has (.head _) (encRole a0.Cred.Head) rfl Tryz.isAgg47 Tryz.sizeOf47)) ?_
      refine LW_v (.inr ⟨3, false, 13, rfl, rfl, by decide, (congrArg Value.bool hb15)⟩) rfl (by decide) (R_neq (a := (encRole a0.Fact.Role).toArray) (b := (encRole a0.Cred.Head).toArray) rfl rfl (guard_agg Tryz.eqGuardType47) (bin_neq (eqInRole _ a0.Fact.Role a0.Cred.Head))) ?_
      refine LV (R_pickF (v := (.bool ((!(beqRole a0.Fact.Role a0.Cred.Head))))) (congrArg Value.bool hb15) rfl) ?_
      replace hm52 := Option.some.inj hm52; subst hm52
      exact key54 _ _ ⟨((!(beqRole a0.Fact.Role a0.Cred.Head))), _, (hST.sublist (List.Sublist.refl _)), rfl, rfl, rfl, rfl, hm53⟩
theorem w_check_stands (v_a0 : Value) (a0 : List Step) (r : Bool) (w : World) (h_a0 : Sl (Pl encStep) 12 (hp w) v_a0 a0) (hm : m_check_stands a0 = some r) :
    Gives true Tryz.prog 190 [v_a0] w (.bool r) := by
  have hST := ST.start (dd := true) w
  unfold m_check_stands at hm
  refine calls_of_CW (n := 22) Tryz.func190 rfl rfl (Nat.le_of_ble_eq_true rfl) ?_
  refine CW_seq ?_
  refine CW_region ?_
  refine LV (R_assign (v := (.bool false)) rfl) ?_
  refine LW_nil ?_
  refine sq_n ?_
  refine CW_seq ?_
  refine CW_region ?_
  refine LV (R_move (v := v_a0) rfl) ?_
  obtain ⟨r1, hr2, hm⟩ := bind_some hm
  refine LE (E_givesRow (args := [v_a0]) [] _ hST rfl Tryz.call115 (by exact args1 rfl) ((w_check_facts v_a0 a0 _ _ (h_a0.mono (Pl.mono _) hST.sub_hp) hr2)) (fun W3 v6 μ4 R7 hST hle5 hR8 => ?_))
  refine LV (R_assign (v := v6) rfl) ?_
  refine LW_nil ?_
  refine sq_n ?_
  refine CW_seq ?_
  refine CW_seq ?_
  refine CW_region ?_
  refine LV (R_move (v := v_a0) rfl) ?_
  refine LV (R_len Tryz.underlying79 rfl h_a0) ?_
  refine LV (R_move (v := (.int .i64 0)) rfl) ?_
  refine LW_nil ?_
  refine sq_n ?_
  replace hST : ST true NoF w _ _ (R7 ++ []) := hST
  refine CW_range (fun i E W => ∃  (L156 : List (Nat × Obj)), (E 10 = .int .i64 (i : Nat) ∧ E 9 = .int .i64 (a0.length : Nat)) ∧ ST true NoF w W μ4 (R7 ++ L156) ∧ E 3 = v6 ∧ E 8 = v_a0 ∧ m_check_stands_L1 r1 (a0.drop i) i = some r) a0.length h_a0.len ⟨_, ⟨rfl, rfl⟩, (hST.sublist (List.Sublist.refl _)), rfl, rfl, hm⟩ (by decide) (by decide) (by decide) (fun _ _ _ h => by obtain ⟨_, eIN, _⟩ := h; exact eIN) ?_ ?_
  · rintro i97 E W hi103 ⟨L156, ⟨eI, eN⟩, hST, e158, e159, hm157⟩
    obtain ⟨x98, xs99, hx101, hx100, hx102⟩ := drop_cons hi103
    rw [hx101] at hm157
    rw [m_check_stands_L1] at hm157
    refine CW_block ?_
    refine CW_seq ?_
    refine CW_region ?_
    refine LV (R_move (v := (.int .i64 ((i97 : Int)))) eI) ?_
    refine LQ (R_indexP (enc := encStep) (i := (i97 : Int)) (x0 := x98) Tryz.underlying79 Tryz.sizeOf89 e159 eI (h_a0.mono (Pl.mono _) hle5) (Int.natCast_nonneg _) hx100) (fun p160 hp161 => ?_)
    refine LV (R_load rfl (load_atA hST.has hp161 Tryz.isAgg89 Tryz.sizeOf89)) ?_
    refine LE (E_alloc hST Tryz.zeroValue89 (fun W164 b163 hST => ?_))
    refine LV (R_assign (v := (.int .i64 ((i97 : Int)))) rfl) ?_
    refine LW_e0 (.inl rfl) rfl (E_store [] (.agg (encStep x98).toArray) ((encStep x98).toArray) hST rfl rfl Tryz.sizeOf89 (oneStep x98) (Nat.le_of_ble_eq_true rfl) rfl (fun W165 hST => ?_))
    refine LW_nil ?_
    refine sq_n ?_
    refine CW_seq ?_
    refine PX_start (fun l W => Has μ4 ((b163, Obj.cells ((encStep x98).toArray : Array Value) 89 (0, 0)) :: []) W) Tryz_mixed ?_
    replace hST := hST.drew
    replace hST : ST true NoF w _ _ ((b163, Obj.cells ((encStep x98).toArray : Array Value) 89 (0, 0)) :: (R7 ++ L156)) := hST
    have hS0 : Has μ4 ((b163, Obj.cells ((encStep x98).toArray : Array Value) 89 (0, 0)) :: []) _ := hST.has.sub (Sub.refl _) (fun p hq => ((List.mem_cons.1 hq).elim (fun hq => by rw [hq]; exact (.head _)) (fun hq => (absurd hq List.not_mem_nil))))
    refine PX_v 0 rfl (by kernel_rfl) (.inl rfl) rfl (by decide) (fun _ _ h => h) hS0 (fun l W hpd hs => have hS := hs; R_load (v := (.agg (encStep x98).toArray)) rfl (load_boxA hS (.head _) (encStep x98) rfl Tryz.isAgg89 Tryz.sizeOf89)) ?_
    refine PV 1 rfl hS0 (R_move (v := v6) e158) ?_
    refine PV 2 rfl hS0 (R_move (v := (.int .i64 ((i97 : Int)))) rfl) ?_
    obtain ⟨_, hg180, hm157⟩ := bind_some hm157
    refine PX_q 3 rfl (by kernel_rfl) (.inl rfl) rfl (by decide) (fun _ _ h => h) hS0 (R_sliceTo (i := (i97 : Int)) Tryz.underlying53 Tryz.sizeOf78 rfl rfl hR8 lenFact (chk_1 hg180) (chk_2 hg180)) (fun v178 hs179 => ?_)
    obtain ⟨r181, hr182, hm157⟩ := bind_some hm157
    refine PX_e 4 rfl (by kernel_rfl) (.inl rfl) rfl (by decide) (E_gives (args := [(.agg (encStep x98).toArray), v178]) hST rfl Tryz.call116 (by exact args2 rfl rfl) ((w_check_Follows x98 v178 ((r1.take (Int.toNat ((i97 : Int))))) _ _ (hs179.sl lenFact (fun b o hq => hST.at_ (.tail _ (List.mem_append_left _ hq)))) hr182)) (fun W183 hST => ?_))
    have hS0 : Has μ4 ((b163, Obj.cells ((encStep x98).toArray : Array Value) 89 (0, 0)) :: []) _ := hST.has.sub (Sub.refl _) (fun p hq => ((List.mem_cons.1 hq).elim (fun hq => by rw [hq]; exact (.head _)) (fun hq => (absurd hq List.not_mem_nil))))
    refine ⟨hS0, ?_⟩
    refine PV 5 rfl hS0 (R_not (b := r181) rfl) ?_
    refine PX_done (by kernel_rfl) ?_
    refine sq_n ?_
    replace hST : ST true NoF w _ _ (R7 ++ L156) := hST.sublist (List.Sublist.cons _ (List.Sublist.refl _))
    refine CW_if (b := (!r181)) rfl (fun hb184 => ?_) (fun hb184 => ?_)
    · replace hm157 := if_t hb184 hm157
      refine CW_seq ?_
      refine CW_region ?_
      refine LV (R_assign (v := (.bool false)) rfl) ?_
      refine LW_nil ?_
      refine sq_n ?_
      replace hST : ST true NoF w _ _ L156 := hST.sublist ((List.Sublist.refl _).trans (List.sublist_append_right _ _))
      refine CW_ret ?_
      refine bq_r (sq_r (bq_r (sq_r ?_)))
      replace hm157 := Option.some.inj hm157; subst hm157
      refine retQ_1 (v := (.bool false)) rfl rfl ?_
      exact ⟨rfl, hST.ex⟩
    · replace hm157 := if_f hb184 hm157
      refine CW_skip ?_
      refine bq_n ?_
      refine sq_n ?_
      exact ⟨eI, _, ⟨rfl, eN⟩, (hST.sublist (List.Sublist.refl _)), e158, e159, (by rw [hx102]; exact hm157)⟩
  · rintro E W ⟨L156, ⟨eI, eN⟩, hST, e158, e159, hm157⟩
    rw [List.drop_length] at hm157
    rw [m_check_stands_L1] at hm157
    refine sq_n ?_
    replace hST : ST true NoF w _ _ L156 := hST.sublist ((List.Sublist.refl _).trans (List.sublist_append_right _ _))
    refine CW_seq ?_
    refine CW_region ?_
    refine LV (R_assign (v := (.bool true)) rfl) ?_
    refine LW_nil ?_
    refine sq_n ?_
    refine CW_ret ?_
    replace hm157 := Option.some.inj hm157; subst hm157
    refine retQ_1 (v := (.bool true)) rfl rfl ?_
    exact ⟨rfl, hST.ex⟩
theorem w_slices_Clone_Step (v_a0 : Value) (a0 : List Step) (r : List Step) (w : World) (h_a0 : Sl (Pl encStep) 12 (hp w) v_a0 a0) (hm : m_slices_Clone_Step a0 = some r) :
    GivesRow true Tryz.prog 157 [v_a0] w 89 encStep 12 r := by
  have hST := ST.start (dd := true) w
  unfold m_slices_Clone_Step at hm
  refine calls_of_CW (n := 8) Tryz.func157 rfl rfl (Nat.le_of_ble_eq_true rfl) ?_
  refine CW_seq ?_
  refine CW_region ?_
  refine LV (R_assign (v := (.slice none 0 0)) rfl) ?_
  refine LW_nil ?_
  refine sq_n ?_
  refine CW_seq ?_
  refine CW_seq ?_
  refine CW_region ?_
  refine LV (R_move (v := v_a0) rfl) ?_
  obtain ⟨A1, c2, rfl⟩ := h_a0.form
  refine LV (R_slEqNil Tryz.underlying79 rfl rfl) ?_
  refine LW_nil ?_
  refine sq_n ?_
  rcases A1 with _ | A5
  · have hn4 := h_a0.isNil
    replace hm : some [] = some r := by rw [hn4] at hm; simpa [appB, maxLen] using hm
    refine CW_if_true (rfl) ?_
    refine CW_seq ?_
    refine CW_region ?_
    refine LV (R_assign (v := (.slice none 0 0)) rfl) ?_
    refine LW_nil ?_
    refine sq_n ?_
    refine CW_ret ?_
    refine sq_r ?_
    replace hm := Option.some.inj hm; subst hm
    refine retQ_1 (v := (.slice none 0 0)) rfl rfl ?_
    exact ⟨_, [], rfl, hST.backRow (fun p hq => by cases hq) (by simp), Row.nil _ _ _⟩
  · refine CW_if_false (rfl) ?_
    refine CW_skip ?_
    refine sq_n ?_
    refine CW_seq ?_
    refine CW_region ?_
    refine LE (E_buildSlice (qs := #[]) (cs := #[]) hST parts0 (run_lit [] Tryz.underlying79 Tryz.sizeOf89 Tryz.zeroValue89 (by decide) rfl (by simp) rfl rfl) (fun W7 b6 hST => ?_))
    refine LV (R_move (v := (.slice (some A5) a0.length c2)) rfl) ?_
    obtain ⟨l8, hb9, hm⟩ := bind_some hm
    replace hST := hST.perm (List.Perm.append_left [] (List.perm_middle (l₁ := [])).symm)
    refine LE (E_append (enc := encStep) (v := (.slice (some ⟨b6, 0, none⟩) 0 0)) (vs := (.slice (some A5) a0.length c2)) (R := [(b6, Obj.cells (#[] : Array Value) 89 (0, 0))]) [] hST lenStep (by decide) oneStep Tryz.underlying79 info89.1 info89.2.1 rfl info89.2.2.1 info89.2.2.2 rfl rfl (Row.lit (l := []) (enc := encStep) rfl (by decide) rfl rfl) (h_a0.mono (Pl.mono _) hST.sub_hp) hb9 (fun W10 v13 R11 hST hR12 => ?_))
    refine LV (R_assign (v := v13) rfl) ?_
    refine LW_nil ?_
    refine sq_n ?_
    refine CW_ret ?_
    replace hm := Option.some.inj hm; subst hm
    refine retQ_1 (v := v13) rfl rfl ?_
    exact ⟨_, R11, rfl, hST.backRow (fun p hq => by simp [hq]) hR12.nd, hR12⟩
theorem w_slices_Delete_Step (v_a0 : Value) (a0 : List Step) (R_a0 : List (Nat × Obj)) (a1 : Int) (a2 : Int) (r : List Step) (w : World) {μ0 : Mem} (hH : Held (R_a0 ++ []) w) (hN : (((R_a0 ++ []) : List (Nat × Obj)).map (·.1)).Nodup) (hS0 : Sub μ0 (hpx w (R_a0 ++ []))) (h_a0 : Row 89 encStep 12 v_a0 a0 R_a0) (hm : m_slices_Delete_Step a0 a1 a2 = some r) :
    GivesM true Tryz.prog 156 [v_a0, (.int .i64 a1), (.int .i64 a2)] w (R_a0 ++ []) (fun v L1 W' => ∃ (y1 : Value) (S2 : List (Nat × Obj)), v = y1 ∧ L1 = (S2 ++ []) ∧ Row 89 encStep 12 y1 r S2) := by
  have hST := (ST.startM (dd := true) hH hN).weak hS0
  unfold m_slices_Delete_Step at hm
  refine calls_of_CW (n := 33) Tryz.func156 rfl rfl (Nat.le_of_ble_eq_true rfl) ?_
  refine CW_seq ?_
  refine CW_region ?_
  refine LV (R_assign (v := (.slice none 0 0)) rfl) ?_
  refine LW_nil ?_
  refine sq_n ?_
  refine CW_seq ?_
  refine CW_region ?_
  refine LV (R_move (v := v_a0) rfl) ?_
  refine LV (R_move (v := (.int .i64 a1)) rfl) ?_
  refine LV (R_move (v := (.int .i64 a2)) rfl) ?_
  refine LV (R_move (v := v_a0) rfl) ?_
  refine LV (R_lenRow Tryz.underlying79 rfl h_a0) ?_
  obtain ⟨_, hg3, hm⟩ := bind_some hm
  refine LQ (R_slice3 (a := a1) (b := a2) (m := (a0.length : Int)) Tryz.underlying79 Tryz.sizeOf89 h_a0 rfl rfl rfl rfl (chkP hg3).1 (chkP hg3).2.1 (chkP hg3).2.2.1 (chkP hg3).2.2.2) (fun v1 hs2 => ?_)
  refine LW_nil ?_
  refine sq_n ?_
  refine CW_seq ?_
  refine CW_seq ?_
  refine CW_region ?_
  refine LV (R_move (v := (.int .i64 a1)) rfl) ?_
  refine LV (R_move (v := (.int .i64 a2)) rfl) ?_
  refine LV (R_int (k := .i64) (a := a1) (b := a2) (v := (.bool ((a1 == a2)))) rfl rfl rfl) ?_
  refine LW_nil ?_
  refine sq_n ?_
  refine CW_if (b := (a1 == a2)) rfl (fun hb4 => ?_) (fun hb4 => ?_)
  · replace hm := if_t hb4 hm
    refine CW_seq ?_
    refine CW_region ?_
    refine LV (R_move (v := v_a0) rfl) ?_
    refine LV (R_assign (v := v_a0) rfl) ?_
    refine LW_nil ?_
    refine sq_n ?_
    refine CW_ret ?_
    refine sq_r ?_
    replace hm := Option.some.inj hm; subst hm
    refine retQ_1 (v := v_a0) rfl rfl ?_
    replace hST : ST true (keys (R_a0 ++ [])) w _ _ (R_a0 ++ []) := hST
    exact ⟨_, (R_a0 ++ []), rfl, (ST.backM (L1 := (R_a0 ++ [])) (by have hh : ST true (keys (R_a0 ++ [])) w _ _ (R_a0 ++ []) := hST.perm (List.Perm.refl _); simpa only [List.append_assoc, List.cons_append, List.nil_append] using hh)), v_a0, R_a0, rfl, rfl, h_a0⟩
  · replace hm := if_f hb4 hm
    refine CW_skip ?_
    refine sq_n ?_
    refine CW_seq ?_
    refine CW_region ?_
    refine LV (R_move (v := v_a0) rfl) ?_
    refine LV (R_lenRow Tryz.underlying79 rfl h_a0) ?_
    refine LV (R_assign (v := (.int .i64 ((a0.length : Int)))) rfl) ?_
    refine LW_nil ?_
    refine sq_n ?_
    refine CW_seq ?_
    refine PX_start (fun l W => Has μ0 [] W) Tryz_mixed ?_
    replace hST := hST.drew
    have hS0 : Has μ0 [] _ := hST.has.sub (Sub.refl _) (fun p hq => (absurd hq List.not_mem_nil))
    refine PV 0 rfl hS0 (R_move (v := v_a0) rfl) ?_
    refine PV 1 rfl hS0 (R_move (v := (.int .i64 a1)) rfl) ?_
    obtain ⟨_, hg33, hm⟩ := bind_some hm
    refine PX_q 2 rfl (by kernel_rfl) (.inl rfl) rfl (by decide) (fun _ _ h => h) hS0 (R_sliceTo (i := a1) Tryz.underlying79 Tryz.sizeOf89 rfl rfl h_a0 lenStep (chk_1 hg33) (chk_2 hg33)) (fun v31 hs32 => ?_)
    refine PV 3 rfl hS0 (R_move (v := v_a0) rfl) ?_
    refine PV 4 rfl hS0 (R_move (v := (.int .i64 a2)) rfl) ?_
    obtain ⟨_, hg36, hm⟩ := bind_some hm
    refine PX_q 5 rfl (by kernel_rfl) (.inl rfl) rfl (by decide) (fun _ _ h => h) hS0 (R_sliceTail (i := a2) Tryz.underlying79 Tryz.sizeOf89 rfl rfl h_a0 (chk_1 hg36) (chk_2 hg36)) (fun v34 hs35 => ?_)
    obtain ⟨u37, hb38, hm⟩ := bind_some hm
    refine PX_e 6 rfl (by kernel_rfl) (.inl rfl) rfl (by decide) (E_appendTail (i := (Int.toNat a1)) (j := (Int.toNat a2)) [] hST h_a0 hs32 lenStep (by decide) oneStep Tryz.underlying79 info89.1 info89.2.2.1 (chkP hb38).1 (chkP hb38).2 hs35 rfl rfl (fun W39 v41 R40 hST hR42 hR43 => ?_))
    replace hST : ST true (keys (R_a0 ++ [])) w _ _ (R40 ++ []) := hST
    have hS0 : Has μ0 [] _ := hST.has.sub (Sub.refl _) (fun p hq => (absurd hq List.not_mem_nil))
    refine ⟨hS0, ?_⟩
    refine PV 7 rfl hS0 (R_assign (v := v41) rfl) ?_
    refine PX_done (by kernel_rfl) ?_
    refine sq_n ?_
    refine CW_seq ?_
    refine CW_region ?_
    refine LV (R_move (v := v41) rfl) ?_
    refine LV (R_move (v := v41) rfl) ?_
    refine LV (R_lenRow Tryz.underlying79 rfl hR43) ?_
    refine LV (R_move (v := (.int .i64 ((a0.length : Int)))) rfl) ?_
    obtain ⟨_, hg46, hm⟩ := bind_some hm
    refine LQ (R_sliceUp (a := (((a0.take (Int.toNat a1) ++ a0.drop (Int.toNat a2))).length : Int)) (b := (a0.length : Int)) Tryz.underlying79 Tryz.sizeOf89 (by decide) hR42 hR43 rfl rfl rfl (chkP hg46).1 (chkP hg46).2.1 (chkP hg46).2.2.1 (chkP hg46).2.2.2) (fun v44 hs45 => ?_)
    refine LW_e0 (.inl rfl) rfl (E_clearTail (z := (⟨(⟨0, (⟨zS, zS⟩ : Role), zS, (⟨zS, zS⟩ : Role), (⟨zS, zS⟩ : Role), zS⟩ : Cred), (⟨(⟨zS, zS⟩ : Role), zS⟩ : Fact)⟩ : Step)) [] hST hR42 lenStep oneStep Tryz.underlying79 Tryz.zeroValue89 hs45 rfl rfl (fun W47 R48 hST hR49 => ?_))
    refine LW_nil ?_
    refine sq_n ?_
    refine CW_seq ?_
    refine CW_region ?_
    refine LV (R_move (v := v41) rfl) ?_
    refine LV (R_assign (v := v41) rfl) ?_
    refine LW_nil ?_
    refine sq_n ?_
    refine CW_ret ?_
    replace hm := Option.some.inj hm; subst hm
    refine retQ_1 (v := v41) rfl rfl ?_
    replace hST : ST true (keys (R_a0 ++ [])) w _ _ (R48 ++ []) := hST
    exact ⟨_, (R48 ++ []), rfl, (ST.backM (L1 := (R48 ++ [])) (by have hh : ST true (keys (R_a0 ++ [])) w _ _ (R48 ++ []) := hST.perm (List.Perm.refl _); simpa only [List.append_assoc, List.cons_append, List.nil_append] using hh)), v41, R48, rfl, rfl, (Row.keep (by decide) lenStep hR42 hR43 hR49 (by have := chkP hg46; rw [clearT_length _ _ _ (by omega)]; omega))⟩
theorem w_check_Tight (v_a0 : Value) (a0 : List Step) (r : Bool) (w : World) (h_a0 : Sl (Pl encStep) 12 (hp w) v_a0 a0) (hm : m_check_Tight a0 = some r) :
    Gives true Tryz.prog 155 [v_a0] w (.bool r) := by
  have hST := ST.start (dd := true) w
  unfold m_check_Tight at hm
  refine calls_of_CW (n := 40) Tryz.func155 rfl rfl (Nat.le_of_ble_eq_true rfl) ?_
  refine CW_seq ?_
  refine CW_region ?_
  refine LV (R_assign (v := (.bool false)) rfl) ?_
  refine LW_nil ?_
  refine sq_n ?_
  refine CW_seq ?_
  refine CW_region ?_
  refine LV (R_move (v := v_a0) rfl) ?_
  obtain ⟨r1, hr2, hm⟩ := bind_some hm
  refine LE (E_givesRow (args := [v_a0]) [] _ hST rfl Tryz.call115 (by exact args1 rfl) ((w_check_facts v_a0 a0 _ _ (h_a0.mono (Pl.mono _) hST.sub_hp) hr2)) (fun W3 v6 μ4 R7 hST hle5 hR8 => ?_))
  refine LV (R_assign (v := v6) rfl) ?_
  refine LW_nil ?_
  refine sq_n ?_
  refine CW_seq ?_
  refine CW_seq ?_
  refine CW_region ?_
  refine LV (R_move (v := v6) rfl) ?_
  refine LV (R_lenRow Tryz.underlying53 rfl hR8) ?_
  refine LV (R_move (v := (.int .i64 0)) rfl) ?_
  refine LW_nil ?_
  refine sq_n ?_
  replace hST : ST true NoF w _ _ (R7 ++ []) := hST
  refine CW_range (fun i E W => ∃  (L159 : List (Nat × Obj)), (E 11 = .int .i64 (i : Nat) ∧ E 10 = .int .i64 (r1.length : Nat)) ∧ ST true NoF w W μ4 (R7 ++ L159) ∧ E 0 = v_a0 ∧ E 3 = v6 ∧ E 9 = v6 ∧ m_check_Tight_L1 r1 a0 (r1.drop i) i = some r) r1.length hR8.len ⟨_, ⟨rfl, rfl⟩, (hST.sublist (List.Sublist.refl _)), rfl, rfl, rfl, hm⟩ (by decide) (by decide) (by decide) (fun _ _ _ h => by obtain ⟨_, eIN, _⟩ := h; exact eIN) ?_ ?_
  · rintro i99 E W hi105 ⟨L159, ⟨eI, eN⟩, hST, e161, e162, e163, hm160⟩
    obtain ⟨x100, xs101, hx103, hx102, hx104⟩ := drop_cons hi105
    rw [hx103] at hm160
    rw [m_check_Tight_L1] at hm160
    refine CW_block ?_
    refine CW_seq ?_
    refine CW_region ?_
    refine LV (R_move (v := (.int .i64 ((i99 : Int)))) eI) ?_
    refine LQ (R_indexRow (i := (i99 : Int)) (x0 := x100) Tryz.underlying53 Tryz.sizeOf78 e163 eI hR8 (Int.natCast_nonneg _) hx102) (fun p164 hp165 => ?_)
    refine LV (R_load (v := (.agg (encFact x100).toArray)) rfl (load_ixA hST.has (fun p hq => by simp [hq]) hR8 lenFact hp165 hx102 Tryz.isAgg78 Tryz.sizeOf78)) ?_
    refine LE (E_alloc hST Tryz.zeroValue78 (fun W168 b167 hST => ?_))
    refine LV (R_assign (v := (.int .i64 ((i99 : Int)))) rfl) ?_
    refine LW_e0 (.inl rfl) rfl (E_store [] (.agg (encFact x100).toArray) ((encFact x100).toArray) hST rfl rfl Tryz.sizeOf78 (oneFact x100) (Nat.le_of_ble_eq_true rfl) rfl (fun W169 hST => ?_))
    refine LW_nil ?_
    refine sq_n ?_
    refine CW_seq ?_
    refine PX_start (fun l W => Has μ4 ((b167, Obj.cells ((encFact x100).toArray : Array Value) 78 (0, 0)) :: []) W) Tryz_mixed ?_
    replace hST := hST.drew
    replace hST : ST true NoF w _ _ ((b167, Obj.cells ((encFact x100).toArray : Array Value) 78 (0, 0)) :: (R7 ++ L159)) := hST
    have hS0 : Has μ4 ((b167, Obj.cells ((encFact x100).toArray : Array Value) 78 (0, 0)) :: []) _ := hST.has.sub (Sub.refl _) (fun p hq => ((List.mem_cons.1 hq).elim (fun hq => by rw [hq]; exact (.head _)) (fun hq => (absurd hq List.not_mem_nil))))
    refine PV 0 rfl hS0 (R_move (v := v6) e162) ?_
    refine PV 1 rfl hS0 (R_move (v := (.int .i64 ((i99 : Int)))) rfl) ?_
    obtain ⟨_, hg184, hm160⟩ := bind_some hm160
    refine PX_q 2 rfl (by kernel_rfl) (.inl rfl) rfl (by decide) (fun _ _ h => h) hS0 (R_sliceTo (i := (i99 : Int)) Tryz.underlying53 Tryz.sizeOf78 rfl rfl hR8 lenFact (chk_1 hg184) (chk_2 hg184)) (fun v182 hs183 => ?_)
    refine PX_v 3 rfl (by kernel_rfl) (.inl rfl) rfl (by decide) (fun _ _ h => h) hS0 (fun l W hpd hs => have hS := hs; R_load (v := (.agg (encFact x100).toArray)) rfl (load_boxA hS (.head _) (encFact x100) rfl Tryz.isAgg78 Tryz.sizeOf78)) ?_
    obtain ⟨r185, hr186, hm160⟩ := bind_some hm160
    refine PX_e 4 rfl (by kernel_rfl) (.inl rfl) rfl (by decide) (E_gives (args := [v182, (.agg (encFact x100).toArray)]) hST rfl Tryz.call117 (by exact args2 rfl rfl) ((w_slices_Contains_Fact v182 ((r1.take (Int.toNat ((i99 : Int))))) x100 _ _ (hs183.sl lenFact (fun b o hq => hST.at_ (.tail _ (List.mem_append_left _ hq)))) hr186)) (fun W187 hST => ?_))
    have hS0 : Has μ4 ((b167, Obj.cells ((encFact x100).toArray : Array Value) 78 (0, 0)) :: []) _ := hST.has.sub (Sub.refl _) (fun p hq => ((List.mem_cons.1 hq).elim (fun hq => by rw [hq]; exact (.head _)) (fun hq => (absurd hq List.not_mem_nil))))
    refine ⟨hS0, ?_⟩
    refine PX_done (by kernel_rfl) ?_
    refine sq_n ?_
    replace hST : ST true NoF w _ _ (R7 ++ L159) := hST.sublist (List.Sublist.cons _ (List.Sublist.refl _))
    refine CW_if (b := r185) rfl (fun hb188 => ?_) (fun hb188 => ?_)
    · replace hm160 := if_t hb188 hm160
      refine CW_seq ?_
      refine CW_region ?_
      refine LV (R_assign (v := (.bool false)) rfl) ?_
      refine LW_nil ?_
      refine sq_n ?_
      replace hST : ST true NoF w _ _ L159 := hST.sublist ((List.Sublist.refl _).trans (List.sublist_append_right _ _))
      refine CW_ret ?_
      refine bq_r (sq_r (bq_r (sq_r ?_)))
      replace hm160 := Option.some.inj hm160; subst hm160
      refine retQ_1 (v := (.bool false)) rfl rfl ?_
      exact ⟨rfl, hST.ex⟩
    · replace hm160 := if_f hb188 hm160
      refine CW_skip ?_
      refine bq_n ?_
      refine sq_n ?_
      exact ⟨eI, _, ⟨rfl, eN⟩, (hST.sublist (List.Sublist.refl _)), e161, e162, e163, (by rw [hx104]; exact hm160)⟩
  · rintro E W ⟨L159, ⟨eI, eN⟩, hST, e161, e162, e163, hm160⟩
    rw [List.drop_length] at hm160
    rw [m_check_Tight_L1] at hm160
    refine sq_n ?_
    replace hST : ST true NoF w _ _ L159 := hST.sublist ((List.Sublist.refl _).trans (List.sublist_append_right _ _))
    refine CW_seq ?_
    refine CW_seq ?_
    refine CW_region ?_
    refine LV (R_move (v := v_a0) e161) ?_
    obtain ⟨r189, hr190, hm160⟩ := bind_some hm160
    refine LE (E_gives (args := [v_a0]) hST rfl Tryz.call190 (by exact args1 rfl) ((w_check_stands v_a0 a0 _ _ (h_a0.mono (Pl.mono _) (hle5.trans hST.sub_hp)) hr190)) (fun W191 hST => ?_))
    refine LV (R_not (b := r189) rfl) ?_
    refine LW_nil ?_
    refine sq_n ?_
    refine CW_if (b := (!r189)) rfl (fun hb192 => ?_) (fun hb192 => ?_)
    · replace hm160 := if_t hb192 hm160
      refine CW_seq ?_
      refine CW_region ?_
      refine LV (R_assign (v := (.bool false)) rfl) ?_
      refine LW_nil ?_
      refine sq_n ?_
      refine CW_ret ?_
      refine sq_r ?_
      replace hm160 := Option.some.inj hm160; subst hm160
      refine retQ_1 (v := (.bool false)) rfl rfl ?_
      exact ⟨rfl, hST.ex⟩
    · replace hm160 := if_f hb192 hm160
      refine CW_skip ?_
      refine sq_n ?_
      refine CW_seq ?_
      refine CW_seq ?_
      refine CW_region ?_
      refine LV (R_move (v := v_a0) e161) ?_
      refine LV (R_len Tryz.underlying79 rfl h_a0) ?_
      refine LV (R_int (k := .i64) (a := ((a0.length : Int))) (b := 1) (v := (.int .i64 ((IntKind.i64.wrap (((a0.length : Int)) - 1))))) rfl rfl rfl) ?_
      refine LV (R_max2 (k := .i64) rfl rfl) ?_
      refine LV (R_move (v := (.int .i64 0)) rfl) ?_
      refine LW_nil ?_
      refine sq_n ?_
      obtain ⟨s287, hm288, hm289⟩ := bind_some hm160
      refine CW_cut (fun E W => ∃  (μ283 : Mem) (L284 : List (Nat × Obj)), Sub μ4 μ283 ∧ ST true NoF w W μ283 L284 ∧ some true = some r) ?_ ?_
      · refine CW_block (CW_loop (fun m E W => ∃ (x316 : Int) (μ315 : Mem) (L348 : List (Nat × Obj)), Sub μ4 μ315 ∧ ST true NoF w W μ315 L348 ∧ E 0 = v_a0 ∧ E 28 = (.int .i64 ((if 0 > (IntKind.i64.wrap (((a0.length : Int)) - 1)) then 0 else (IntKind.i64.wrap (((a0.length : Int)) - 1))))) ∧ E 29 = (.int .i64 x316) ∧ m_check_Tight_L2 a0 m x316 = some s287) FUEL ⟨0, μ4, _, (Sub.refl _), (hST.sublist (List.Sublist.refl _)), e161, rfl, rfl, hm288⟩ ?_)
        rintro m E W ⟨x316, μ315, L348, hle351, hST, e352, e353, e354, hm349⟩
        cases m with
        | zero => rw [m_check_Tight_L2] at hm349; cases hm349
        | succ n350 =>
          rw [m_check_Tight_L2] at hm349
          refine CW_seq ?_
          refine CW_region ?_
          refine LV (R_int (k := .i64) (a := x316) (b := ((if 0 > (IntKind.i64.wrap (((a0.length : Int)) - 1)) then 0 else (IntKind.i64.wrap (((a0.length : Int)) - 1))))) (v := (.bool ((decide (x316 < ((if 0 > (IntKind.i64.wrap (((a0.length : Int)) - 1)) then 0 else (IntKind.i64.wrap (((a0.length : Int)) - 1))))))))) e354 e353 rfl) ?_
          refine LW_nil ?_
          refine sq_n ?_
          refine CW_seq ?_
          refine CW_if (b := (decide (x316 < ((if 0 > (IntKind.i64.wrap (((a0.length : Int)) - 1)) then 0 else (IntKind.i64.wrap (((a0.length : Int)) - 1))))))) rfl (fun hb355 => ?_) (fun hb355 => ?_)
          · replace hm349 := if_t hb355 hm349
            refine CW_skip ?_
            refine sq_n ?_
            refine CW_seq ?_
            refine CW_block ?_
            refine CW_seq ?_
            refine CW_region ?_
            refine LV (R_move (v := (.int .i64 x316)) e354) ?_
            refine LV (R_assign (v := (.int .i64 x316)) rfl) ?_
            refine LW_nil ?_
            refine sq_n ?_
            refine CW_seq ?_
            refine CW_region ?_
            refine LV (R_move (v := v_a0) e352) ?_
            obtain ⟨r356, hr357, hm349⟩ := bind_some hm349
            refine LE (E_givesRow (args := [v_a0]) [] _ hST rfl Tryz.call157 (by exact args1 rfl) ((w_slices_Clone_Step v_a0 a0 _ _ (h_a0.mono (Pl.mono _) ((hle5.trans hle351).trans hST.sub_hp)) hr357)) (fun W358 v361 μ359 R362 hST hle360 hR363 => ?_))
            refine LV (R_move (v := (.int .i64 x316)) rfl) ?_
            refine LV (R_move (v := (.int .i64 x316)) rfl) ?_
            refine LV (R_int (k := .i64) (a := x316) (b := 1) (v := (.int .i64 ((IntKind.i64.wrap (x316 + 1))))) rfl rfl rfl) ?_
            replace hST : ST true NoF w _ _ (R362 ++ L348) := hST
            obtain ⟨r364, hr365, hm349⟩ := bind_some hm349
            replace hST : ST true NoF w _ _ (R362 ++ L348) := hST.perm (List.Perm.refl _)
            have hsz := hST.size
            refine LE (E_callM (args := [v361, (.int .i64 x316), (.int .i64 ((IntKind.i64.wrap (x316 + 1))))]) (caps := #[]) ((R362 ++ [])) L348 hST (by simp only [List.append_assoc, List.cons_append, List.nil_append]; exact List.Perm.refl _) rfl Tryz.call156 (by exact args3 rfl rfl rfl) (fun hH hN hsb hmm => (w_slices_Delete_Step v361 r356 R362 x316 ((IntKind.i64.wrap (x316 + 1))) _ _ hH hN (Sub.refl _) hR363 hr365)) (fun W366 v369 μ367 L371 hST hle368 hlift hK370 => ?_))
            obtain ⟨y372, S373, hv375, rfl, hy374⟩ := hK370
            replace hv375 := hv375.symm; subst hv375
            simp only [List.append_assoc, List.cons_append, List.nil_append] at hST
            replace hST : ST true NoF w _ _ (S373 ++ L348) := hST
            obtain ⟨r376, hr377, hm349⟩ := bind_some hm349
            refine LE (E_gives (args := [y372]) hST rfl Tryz.call190 (by exact args1 rfl) ((w_check_stands y372 r364 _ _ (hy374.sl lenStep (fun b o hq => hST.at_ (List.mem_append_left _ hq))) hr377)) (fun W378 hST => ?_))
            refine LW_nil ?_
            refine sq_n ?_
            replace hST : ST true NoF w _ _ L348 := hST.sublist ((List.Sublist.refl _).trans (List.sublist_append_right _ _))
            refine CW_if (b := r376) rfl (fun hb379 => ?_) (fun hb379 => ?_)
            · replace hm349 := if_t hb379 hm349
              refine CW_seq ?_
              refine CW_region ?_
              refine LV (R_assign (v := (.bool false)) rfl) ?_
              refine LW_nil ?_
              refine sq_n ?_
              refine CW_ret ?_
              refine bq_r (sq_r (sq_r (bq_r (sq_r ?_))))
              replace hm349 := Option.some.inj hm349; subst hm349
              replace hm289 : some false = some r := hm289
              replace hm289 := Option.some.inj hm289; subst hm289
              refine retQ_1 (v := (.bool false)) rfl rfl ?_
              exact ⟨rfl, hST.ex⟩
            · replace hm349 := if_f hb379 hm349
              refine CW_skip ?_
              refine bq_n ?_
              refine sq_n ?_
              refine CW_region ?_
              refine LV (R_int (k := .i64) (a := x316) (b := 1) (v := (.int .i64 ((IntKind.i64.wrap (x316 + 1))))) e354 rfl rfl) ?_
              refine LV (R_move (v := (.int .i64 ((IntKind.i64.wrap (x316 + 1))))) rfl) ?_
              refine LW_nil ?_
              refine sq_n ?_
              exact ⟨n350, Nat.lt_succ_self _, ((IntKind.i64.wrap (x316 + 1))), μ367, _, ((hle351.trans hle360).trans hle368), (hST.sublist (List.Sublist.refl _)), e352, e353, rfl, hm349⟩
          · replace hm349 := if_f hb355 hm349
            refine CW_exit ?_
            refine sq_e (sq_e (bq_e ?_))
            refine sq_n ?_
            replace hm349 := Option.some.inj hm349; subst hm349
            exact ⟨μ315, _, hle351, (hST.sublist (List.Sublist.refl _)), hm289⟩
      · rintro E W ⟨μ283, L284, hle286, hST, hm285⟩
        refine CW_seq ?_
        refine CW_region ?_
        refine LV (R_assign (v := (.bool true)) rfl) ?_
        refine LW_nil ?_
        refine sq_n ?_
        refine CW_ret ?_
        replace hm285 := Option.some.inj hm285; subst hm285
        refine retQ_1 (v := (.bool true)) rfl rfl ?_
        exact ⟨rfl, hST.ex⟩
theorem w_chain_stands (v_a0 : Value) (a0 : List Step) (r : Bool) (w : World) (h_a0 : Sl (Pl encStep) 12 (hp w) v_a0 a0) (hm : m_chain_stands a0 = some r) :
    Gives true Tryz.prog 158 [v_a0] w (.bool r) := by
  have hST := ST.start (dd := true) w
  unfold m_chain_stands at hm
  refine calls_of_CW (n := 22) Tryz.func158 rfl rfl (Nat.le_of_ble_eq_true rfl) ?_
  refine CW_seq ?_
  refine CW_region ?_
  refine LV (R_assign (v := (.bool false)) rfl) ?_
  refine LW_nil ?_
  refine sq_n ?_
  refine CW_seq ?_
  refine CW_region ?_
  refine LV (R_assign (v := (.slice none 0 0)) rfl) ?_
  refine LW_nil ?_
  refine sq_n ?_
  refine CW_seq ?_
  refine CW_seq ?_
  refine CW_region ?_
  refine LV (R_move (v := v_a0) rfl) ?_
  refine LV (R_len Tryz.underlying79 rfl h_a0) ?_
  refine LV (R_move (v := (.int .i64 0)) rfl) ?_
  refine LW_nil ?_
  refine sq_n ?_
  refine CW_range (fun i E W => ∃ (v101 : Value) (l102 : List Fact) (R104 : List (Nat × Obj)) (L129 : List (Nat × Obj)), (E 8 = .int .i64 (i : Nat) ∧ E 7 = .int .i64 (a0.length : Nat)) ∧ ST true NoF w W (hp w) (R104 ++ L129) ∧ E 3 = v101 ∧ E 6 = v_a0 ∧ Row 78 encFact 3 v101 l102 R104 ∧ m_chain_stands_L1 (a0.drop i) l102 = some r) a0.length h_a0.len ⟨(.slice none 0 0), ([]), [], _, ⟨rfl, rfl⟩, (hST.sublist (List.Sublist.refl _)), rfl, rfl, (Row.nil _ _ _), hm⟩ (by decide) (by decide) (by decide) (fun _ _ _ h => by obtain ⟨_, _, _, _, eIN, _⟩ := h; exact eIN) ?_ ?_
  · rintro i76 E W hi82 ⟨v101, l102, R104, L129, ⟨eI, eN⟩, hST, e131, e132, hs103, hm130⟩
    obtain ⟨x77, xs78, hx80, hx79, hx81⟩ := drop_cons hi82
    rw [hx80] at hm130
    rw [m_chain_stands_L1] at hm130
    refine CW_block ?_
    refine CW_seq ?_
    refine CW_region ?_
    refine LQ (R_indexP (enc := encStep) (i := (i76 : Int)) (x0 := x77) Tryz.underlying79 Tryz.sizeOf89 e132 eI h_a0 (Int.natCast_nonneg _) hx79) (fun p133 hp134 => ?_)
    refine LV (R_load rfl (load_atA hST.has hp134 Tryz.isAgg89 Tryz.sizeOf89)) ?_
    refine LE (E_alloc hST Tryz.zeroValue89 (fun W137 b136 hST => ?_))
    refine LW_e0 (.inl rfl) rfl (E_store [] (.agg (encStep x77).toArray) ((encStep x77).toArray) hST rfl rfl Tryz.sizeOf89 (oneStep x77) (Nat.le_of_ble_eq_true rfl) rfl (fun W138 hST => ?_))
    refine LW_nil ?_
    refine sq_n ?_
    refine CW_seq ?_
    refine CW_seq ?_
    refine CW_region ?_
    refine LV (R_load (v := (.agg (encStep x77).toArray)) rfl (load_boxA hST.has (.head _) (encStep x77) rfl Tryz.isAgg89 Tryz.sizeOf89)) ?_
    refine LV (R_move (v := v101) e131) ?_
    replace hST : ST true NoF w _ _ ((b136, Obj.cells ((encStep x77).toArray : Array Value) 89 (0, 0)) :: (R104 ++ L129)) := hST
    obtain ⟨r139, hr140, hm130⟩ := bind_some hm130
    refine LE (E_gives (args := [(.agg (encStep x77).toArray), v101]) hST rfl Tryz.call116 (by exact args2 rfl rfl) ((w_check_Follows x77 v101 l102 _ _ (hs103.sl lenFact (fun b o hq => hST.at_ (.tail _ (List.mem_append_left _ hq)))) hr140)) (fun W141 hST => ?_))
    refine LV (R_not (b := r139) rfl) ?_
    refine LW_nil ?_
    refine sq_n ?_
    refine CW_if (b := (!r139)) rfl (fun hb142 => ?_) (fun hb142 => ?_)
    · replace hm130 := if_t hb142 hm130
      refine CW_seq ?_
      refine CW_region ?_
      refine LV (R_assign (v := (.bool false)) rfl) ?_
      refine LW_nil ?_
      refine sq_n ?_
      replace hST : ST true NoF w _ _ L129 := hST.sublist (List.Sublist.cons _ ((List.Sublist.refl _).trans (List.sublist_append_right _ _)))
      refine CW_ret ?_
      refine sq_r (bq_r (sq_r (bq_r (sq_r ?_))))
      replace hm130 := Option.some.inj hm130; subst hm130
      refine retQ_1 (v := (.bool false)) rfl rfl ?_
      exact ⟨rfl, hST.ex⟩
    · replace hm130 := if_f hb142 hm130
      refine CW_skip ?_
      refine sq_n ?_
      refine CW_region ?_
      refine LV (R_move (v := v101) e131) ?_
      refine LV (R_field fa89_1 rfl) ?_
      refine LV (R_load (v := (.agg (encFact x77.Fact).toArray)) rfl (load_boxA hST.has (.head _) (encFact x77.Fact) rfl Tryz.isAgg78 Tryz.sizeOf78)) ?_
      refine LE (E_buildSlice (qs := #[(0, (.agg (encFact x77.Fact).toArray))]) (cs := (encFact x77.Fact).toArray) hST (parts1 rfl) (run_lit [(.agg (encFact x77.Fact).toArray)] Tryz.underlying53 Tryz.sizeOf78 Tryz.zeroValue78 (by decide) rfl (by intro v hv; simp only [List.mem_cons, List.not_mem_nil, or_false] at hv; rcases hv with rfl <;> rfl) rfl rfl) (fun W144 b143 hST => ?_))
      obtain ⟨l145, hb146, hm130⟩ := bind_some hm130
      refine LE (E_append (enc := encFact) (v := v101) (vs := (.slice (some ⟨b143, 0, none⟩) 1 1)) (R := R104) [_, _] hST lenFact (by decide) oneFact Tryz.underlying53 info78.1 info78.2.1 rfl info78.2.2.1 info78.2.2.2 rfl rfl hs103 (Sl.lit (enc := encFact) (l := [x77.Fact]) lenFact rfl (Nat.le_of_ble_eq_true rfl) rfl (hST.at_ (.head _))) hb146 (fun W147 v150 R148 hST hR149 => ?_))
      refine LV (R_assign (v := v150) rfl) ?_
      refine LW_nil ?_
      refine bq_n ?_
      refine sq_n ?_
      replace hST : ST true NoF w _ _ ((b143, Obj.cells ((encFact x77.Fact).toArray : Array Value) 78 (0, 0)) :: ((b136, Obj.cells ((encStep x77).toArray : Array Value) 89 (0, 0)) :: (R148 ++ L129))) := hST
      replace hST : ST true NoF w _ _ (R148 ++ L129) := hST.sublist (List.Sublist.cons _ (List.Sublist.cons _ (List.Sublist.refl _)))
      exact ⟨eI, v150, l145, R148, _, ⟨rfl, eN⟩, (hST.sublist (List.Sublist.refl _)), rfl, e132, hR149, (by rw [hx81]; exact hm130)⟩
  · rintro E W ⟨v101, l102, R104, L129, ⟨eI, eN⟩, hST, e131, e132, hs103, hm130⟩
    rw [List.drop_length] at hm130
    rw [m_chain_stands_L1] at hm130
    refine sq_n ?_
    replace hST : ST true NoF w _ _ L129 := hST.sublist ((List.Sublist.refl _).trans (List.sublist_append_right _ _))
    refine CW_seq ?_
    refine CW_region ?_
    refine LV (R_assign (v := (.bool true)) rfl) ?_
    refine LW_nil ?_
    refine sq_n ?_
    refine CW_ret ?_
    replace hm130 := Option.some.inj hm130; subst hm130
    refine retQ_1 (v := (.bool true)) rfl rfl ?_
    exact ⟨rfl, hST.ex⟩
theorem w_chain_tightened (v_a0 : Value) (a0 : List Step) (R_a0 : List (Nat × Obj)) (r : List Step) (w : World) {μ0 : Mem} (hH : Held (R_a0 ++ []) w) (hN : (((R_a0 ++ []) : List (Nat × Obj)).map (·.1)).Nodup) (hS0 : Sub μ0 (hpx w (R_a0 ++ []))) (h_a0 : Row 89 encStep 12 v_a0 a0 R_a0) (hm : m_chain_tightened a0 = some r) :
    GivesM true Tryz.prog 110 [v_a0] w (R_a0 ++ []) (fun v L1 W' => ∃ (y1 : Value) (S2 : List (Nat × Obj)), v = y1 ∧ L1 = (S2 ++ []) ∧ Row 89 encStep 12 y1 r S2) := by
  have hST := (ST.startM (dd := true) hH hN).weak hS0
  unfold m_chain_tightened at hm
  refine calls_of_CW (n := 25) Tryz.func110 rfl rfl (Nat.le_of_ble_eq_true rfl) ?_
  refine CW_seq ?_
  refine CW_region ?_
  refine LV (R_assign (v := (.slice none 0 0)) rfl) ?_
  refine LW_nil ?_
  refine sq_n ?_
  refine CW_seq ?_
  refine CW_block (CW_loop (fun m E W => ∃ (v1739 : Value) (l1740 : List Step) (R1742 : List (Nat × Obj)) (μ1738 : Mem) (L2180 : List (Nat × Obj)), Sub μ0 μ1738 ∧ ST true (keys (R_a0 ++ [])) w W μ1738 (R1742 ++ L2180) ∧ E 0 = v1739 ∧ Row 89 encStep 12 v1739 l1740 R1742 ∧ m_chain_tightened_L1 m l1740 = some r) FUEL ⟨v_a0, a0, R_a0, μ0, _, (Sub.refl _), (hST.sublist (List.Sublist.refl _)), rfl, h_a0, hm⟩ ?_)
  rintro m E W ⟨v1739, l1740, R1742, μ1738, L2180, hle2183, hST, e2184, hs1741, hm2181⟩
  cases m with
  | zero => rw [m_chain_tightened_L1] at hm2181; cases hm2181
  | succ n2182 =>
    rw [m_chain_tightened_L1] at hm2181
    refine CW_seq ?_
    refine CW_seq ?_
    refine CW_region ?_
    refine LV (R_move (v := v1739) e2184) ?_
    obtain ⟨r2185, hr2186, hm2181⟩ := bind_some hm2181
    refine LE (E_gives (args := [v1739]) hST rfl Tryz.call155 (by exact args1 rfl) ((w_check_Tight v1739 l1740 _ _ (hs1741.sl lenStep (fun b o hq => hST.at_ (List.mem_append_left _ hq))) hr2186)) (fun W2187 hST => ?_))
    refine LV (R_not (b := r2185) rfl) ?_
    refine LW_nil ?_
    refine sq_n ?_
    refine CW_if (b := (!r2185)) rfl (fun hb2188 => ?_) (fun hb2188 => ?_)
    · replace hm2181 := if_t hb2188 hm2181
      refine CW_skip ?_
      refine sq_n ?_
      refine CW_block ?_
      refine CW_seq ?_
      refine CW_region ?_
      refine LV (R_move (v := v1739) e2184) ?_
      refine LV (R_lenRow Tryz.underlying79 rfl hs1741) ?_
      refine LV (R_int (k := .i64) (a := ((l1740.length : Int))) (b := 2) (v := (.int .i64 ((IntKind.i64.wrap (((l1740.length : Int)) - 2))))) rfl rfl rfl) ?_
      refine LV (R_assign (v := (.int .i64 ((IntKind.i64.wrap (((l1740.length : Int)) - 2))))) rfl) ?_
      refine LW_nil ?_
      refine sq_n ?_
      refine CW_tail ?_
      obtain ⟨s2405, hm2406, hm2407⟩ := bind_some hm2181
      refine CW_cut (fun E W => ∃ (v2397 : Value) (l2398 : List Step) (R2400 : List (Nat × Obj)) (μ2396 : Mem) (L2401 : List (Nat × Obj)), Sub μ1738 μ2396 ∧ ST true (keys (R_a0 ++ [])) w W μ2396 (R2400 ++ L2401) ∧ E 0 = v2397 ∧ Row 89 encStep 12 v2397 l2398 R2400 ∧ (m_chain_tightened_L1 n2182 l2398) = some r) ?_ ?_
      · refine CW_block (CW_loop (fun m E W => ∃ (v2471 : Value) (l2472 : List Step) (R2474 : List (Nat × Obj)) (x2475 : Int) (μ2470 : Mem) (L2547 : List (Nat × Obj)), Sub μ1738 μ2470 ∧ ST true (keys (R_a0 ++ [])) w W μ2470 (R2474 ++ L2547) ∧ E 0 = v2471 ∧ E 3 = (.int .i64 x2475) ∧ Row 89 encStep 12 v2471 l2472 R2474 ∧ m_chain_tightened_L2 m l2472 x2475 = some s2405) FUEL ⟨v1739, l1740, R1742, ((IntKind.i64.wrap (((l1740.length : Int)) - 2))), μ1738, _, (Sub.refl _), (hST.sublist (List.Sublist.refl _)), e2184, rfl, hs1741, hm2406⟩ ?_)
        rintro m E W ⟨v2471, l2472, R2474, x2475, μ2470, L2547, hle2550, hST, e2551, e2552, hs2473, hm2548⟩
        cases m with
        | zero => rw [m_chain_tightened_L2] at hm2548; cases hm2548
        | succ n2549 =>
          rw [m_chain_tightened_L2] at hm2548
          refine CW_seq ?_
          refine CW_seq ?_
          refine CW_region ?_
          refine LV (R_move (v := (.int .i64 x2475)) e2552) ?_
          refine LV (R_int (k := .i64) (a := x2475) (b := 0) (v := (.bool ((decide (x2475 ≥ 0))))) rfl rfl rfl) ?_
          refine LW_nil ?_
          refine sq_n ?_
          refine CW_if (b := (decide (x2475 ≥ 0))) rfl (fun hb2553 => ?_) (fun hb2553 => ?_)
          · replace hm2548 := if_t hb2553 hm2548
            refine CW_skip ?_
            refine sq_n ?_
            refine CW_seq ?_
            obtain ⟨s2588, hm2589, hm2590⟩ := bind_some hm2548
            refine CW_cut (fun E W => ∃ (v2579 : Value) (l2580 : List Step) (R2582 : List (Nat × Obj)) (μ2578 : Mem) (L2583 : List (Nat × Obj)), Sub μ2470 μ2578 ∧ ST true (keys (R_a0 ++ [])) w W μ2578 (R2582 ++ L2583) ∧ E 0 = v2579 ∧ E 3 = (.int .i64 x2475) ∧ Row 89 encStep 12 v2579 l2580 R2582 ∧ (m_chain_tightened_L2 n2549 l2580 ((IntKind.i64.wrap (x2475 - 1)))) = some s2405) ?_ ?_
            · refine CW_block ?_
              refine CW_seq ?_
              refine CW_region ?_
              refine LV (R_move (v := v2471) e2551) ?_
              obtain ⟨r2591, hr2592, hm2589⟩ := bind_some hm2589
              refine LE (E_givesRow (args := [v2471]) [] _ hST rfl Tryz.call157 (by exact args1 rfl) ((w_slices_Clone_Step v2471 l2472 _ _ (hs2473.sl lenStep (fun b o hq => hST.at_ (List.mem_append_left _ hq))) hr2592)) (fun W2593 v2596 μ2594 R2597 hST hle2595 hR2598 => ?_))
              refine LV (R_move (v := (.int .i64 x2475)) e2552) ?_
              refine LV (R_move (v := (.int .i64 x2475)) e2552) ?_
              refine LV (R_int (k := .i64) (a := x2475) (b := 1) (v := (.int .i64 ((IntKind.i64.wrap (x2475 + 1))))) rfl rfl rfl) ?_
              replace hST : ST true (keys (R_a0 ++ [])) w _ _ (R2597 ++ (R2474 ++ L2547)) := hST
              obtain ⟨r2599, hr2600, hm2589⟩ := bind_some hm2589
              replace hST : ST true (keys (R_a0 ++ [])) w _ _ (R2597 ++ (R2474 ++ L2547)) := hST.perm (List.Perm.refl _)
              have hsz := hST.size
              refine LE (E_callM (args := [v2596, (.int .i64 x2475), (.int .i64 ((IntKind.i64.wrap (x2475 + 1))))]) (caps := #[]) ((R2597 ++ [])) ((R2474 ++ L2547)) hST (by simp only [List.append_assoc, List.cons_append, List.nil_append]; exact List.Perm.refl _) rfl Tryz.call156 (by exact args3 rfl rfl rfl) (fun hH hN hsb hmm => (w_slices_Delete_Step v2596 r2591 R2597 x2475 ((IntKind.i64.wrap (x2475 + 1))) _ _ hH hN (Sub.refl _) hR2598 hr2600)) (fun W2601 v2604 μ2602 L2606 hST hle2603 hlift hK2605 => ?_))
              obtain ⟨y2607, S2608, hv2610, rfl, hy2609⟩ := hK2605
              replace hv2610 := hv2610.symm; subst hv2610
              simp only [List.append_assoc, List.cons_append, List.nil_append] at hST
              refine LV (R_assign (v := y2607) rfl) ?_
              refine LW_nil ?_
              refine sq_n ?_
              refine CW_seq ?_
              refine CW_region ?_
              refine LV (R_move (v := y2607) rfl) ?_
              replace hST : ST true (keys (R_a0 ++ [])) w _ _ (S2608 ++ (R2474 ++ L2547)) := hST
              obtain ⟨r2611, hr2612, hm2589⟩ := bind_some hm2589
              refine LE (E_gives (args := [y2607]) hST rfl Tryz.call158 (by exact args1 rfl) ((w_chain_stands y2607 r2599 _ _ (hy2609.sl lenStep (fun b o hq => hST.at_ (List.mem_append_left _ hq))) hr2612)) (fun W2613 hST => ?_))
              refine LW_nil ?_
              refine sq_n ?_
              refine CW_if (b := r2611) rfl (fun hb2614 => ?_) (fun hb2614 => ?_)
              · replace hm2589 := if_t hb2614 hm2589
                refine CW_region ?_
                refine LV (R_move (v := y2607) rfl) ?_
                refine LV (R_assign (v := y2607) rfl) ?_
                refine LW_nil ?_
                refine bq_n ?_
                refine sq_n ?_
                replace hm2589 := Option.some.inj hm2589; subst hm2589
                exact ⟨y2607, r2599, S2608, μ2602, _, (hle2595.trans hle2603), (hST.sublist (List.Sublist.append (List.Sublist.refl _) ((List.Sublist.refl _).trans (List.sublist_append_right _ _)))), rfl, e2552, hy2609, hm2590⟩
              · replace hm2589 := if_f hb2614 hm2589
                refine CW_skip ?_
                refine bq_n ?_
                refine sq_n ?_
                replace hm2589 := Option.some.inj hm2589; subst hm2589
                exact ⟨v2471, l2472, R2474, μ2602, _, (hle2595.trans hle2603), (hST.sublist ((List.Sublist.refl _).trans (List.sublist_append_right _ _))), e2551, e2552, hs2473, hm2590⟩
            · rintro E W ⟨v2579, l2580, R2582, μ2578, L2583, hle2585, hST, e2586, e2587, hs2581, hm2584⟩
              refine CW_region ?_
              refine LV (R_move (v := (.int .i64 x2475)) e2587) ?_
              refine LV (R_int (k := .i64) (a := x2475) (b := 1) (v := (.int .i64 ((IntKind.i64.wrap (x2475 - 1))))) rfl rfl rfl) ?_
              refine LV (R_assign (v := (.int .i64 ((IntKind.i64.wrap (x2475 - 1))))) rfl) ?_
              refine LW_nil ?_
              refine sq_n ?_
              exact ⟨n2549, Nat.lt_succ_self _, v2579, l2580, R2582, ((IntKind.i64.wrap (x2475 - 1))), μ2578, _, (hle2550.trans hle2585), (hST.sublist (List.Sublist.refl _)), e2586, rfl, hs2581, hm2584⟩
          · replace hm2548 := if_f hb2553 hm2548
            refine CW_exit ?_
            refine sq_e (sq_e (bq_e ?_))
            refine sq_n ?_
            replace hm2548 := Option.some.inj hm2548; subst hm2548
            exact ⟨v2471, l2472, R2474, μ2470, _, hle2550, (hST.sublist (List.Sublist.refl _)), e2551, hs2473, hm2407⟩
      · rintro E W ⟨v2397, l2398, R2400, μ2396, L2401, hle2403, hST, e2404, hs2399, hm2402⟩
        refine bq_n ?_
        refine sq_n ?_
        exact ⟨n2182, Nat.lt_succ_self _, v2397, l2398, R2400, μ2396, _, (hle2183.trans hle2403), (hST.sublist (List.Sublist.refl _)), e2404, hs2399, hm2402⟩
    · replace hm2181 := if_f hb2188 hm2181
      refine CW_exit ?_
      refine sq_e (sq_e (bq_e ?_))
      refine sq_n ?_
      refine CW_seq ?_
      refine CW_region ?_
      refine LV (R_move (v := v1739) e2184) ?_
      refine LV (R_assign (v := v1739) rfl) ?_
      refine LW_nil ?_
      refine sq_n ?_
      refine CW_ret ?_
      replace hm2181 := Option.some.inj hm2181; subst hm2181
      refine retQ_1 (v := v1739) rfl rfl ?_
      replace hST : ST true (keys (R_a0 ++ [])) w _ _ (R1742 ++ L2180) := hST
      exact ⟨_, (R1742 ++ []), rfl, (ST.backM (L1 := (R1742 ++ [])) (by have hh : ST true (keys (R_a0 ++ [])) w _ _ (R1742 ++ L2180) := hST.perm (List.Perm.refl _); simpa only [List.append_assoc, List.cons_append, List.nil_append] using hh)), v1739, R1742, rfl, rfl, hs1741⟩
theorem w_chain_Find (v_a0 : Value) (a0 : List Cred) (a1 : Fact) (r : ((List Step) × Bool)) (w : World) (h_a0 : Sl (Pl encCred) 9 (hp w) v_a0 a0) (hm : m_chain_Find a0 a1 = some r) :
    GivesM true Tryz.prog 53 [v_a0, (.agg (encFact a1).toArray)] w [] (fun v L1 W' => ∃ (y1 : Value) (S2 : List (Nat × Obj)), v = (.tuple #[y1, (.bool (r.2))]) ∧ L1 = (S2 ++ []) ∧ Row 89 encStep 12 y1 r.1 S2) := by
  have hST := ST.start (dd := true) w
  unfold m_chain_Find at hm
  refine calls_of_CW (n := 18) Tryz.func53 rfl rfl (Nat.le_of_ble_eq_true rfl) ?_
  refine CW_seq ?_
  refine CW_region ?_
  refine LE (E_box (v := (.agg (encFact a1).toArray)) hST rfl (fun W2 b1 hST => ?_))
  refine LV (R_assign (v := (.slice none 0 0)) rfl) ?_
  refine LV (R_assign (v := (.bool false)) rfl) ?_
  refine LW_nil ?_
  refine sq_n ?_
  refine CW_seq ?_
  refine CW_region ?_
  refine LV (R_move (v := v_a0) rfl) ?_
  refine LV (R_load (v := (.agg (encFact a1).toArray)) rfl (load_boxA hST.has (.head _) (encFact a1) rfl Tryz.isAgg78 Tryz.sizeOf78)) ?_
  obtain ⟨r3, hr4, hm⟩ := bind_some hm
  have hsz := hST.size
  refine LE (E_callM (args := [v_a0, (.agg (encFact a1).toArray)]) (caps := #[]) [] (((b1, Obj.cells ((encFact a1).toArray : Array Value) 78 (0, 0)) :: [])) hST (List.Perm.refl _) rfl Tryz.call109 (by exact args2 rfl rfl) (fun _ _ _ _ => (w_chain_grown v_a0 a0 a1 _ _ (h_a0.mono (Pl.mono _) hST.sub_hp) hr4)) (fun W5 v8 μ6 L10 hST hle7 hlift hK9 => ?_))
  obtain ⟨y11, S12, hv14, rfl, hy13⟩ := hK9
  replace hv14 := hv14.symm; subst hv14
  simp only [List.append_assoc, List.cons_append, List.nil_append] at hST
  replace hST : ST true NoF w _ _ ((b1, Obj.cells ((encFact a1).toArray : Array Value) 78 (0, 0)) :: (S12 ++ [])) := hST.perm (permD [S12, [(b1, Obj.cells ((encFact a1).toArray : Array Value) 78 (0, 0))]] [0, 1] [1, 0] ([]) (by decide) rfl rfl)
  refine LV (R_move (v := (.tuple #[y11, (.bool r3.2)])) rfl) ?_
  refine LV (R_extract (v := y11) rfl rfl) ?_
  refine LV (R_extract (v := (.bool r3.2)) rfl rfl) ?_
  refine LV (R_assign (v := y11) rfl) ?_
  refine LV (R_assign (v := (.bool r3.2)) rfl) ?_
  refine LW_nil ?_
  refine sq_n ?_
  replace hST : ST true NoF w _ _ (S12 ++ []) := hST.sublist (List.Sublist.cons _ (List.Sublist.refl _))
  refine CW_seq ?_
  refine CW_seq ?_
  refine CW_region ?_
  refine LV (R_move (v := (.bool r3.2)) rfl) ?_
  refine LV (R_not (b := r3.2) rfl) ?_
  refine LW_nil ?_
  refine sq_n ?_
  refine CW_if (b := (!r3.2)) rfl (fun hb15 => ?_) (fun hb15 => ?_)
  · replace hm := if_t hb15 hm
    refine CW_seq ?_
    refine CW_region ?_
    refine LV (R_assign (v := (.slice none 0 0)) rfl) ?_
    refine LV (R_assign (v := (.bool false)) rfl) ?_
    refine LW_nil ?_
    refine sq_n ?_
    replace hST : ST true NoF w _ _ [] := hST.sublist ((List.Sublist.refl _).trans (List.sublist_append_right _ _))
    refine CW_ret ?_
    refine sq_r ?_
    replace hm := Option.some.inj hm; subst hm
    refine retQ_2 (v := (.slice none 0 0)) (u := (.bool false)) rfl rfl rfl ?_
    replace hST : ST true NoF w _ _ ([] ++ []) := hST.cast (by simp)
    replace hST : ST true NoF w _ _ ([] ++ []) := hST
    exact ⟨_, ([] ++ []), rfl, (ST.backL (L1 := ([] ++ [])) (by have hh : ST true NoF w _ _ ([] ++ []) := hST.perm (List.Perm.refl _); simpa only [List.append_assoc, List.cons_append, List.nil_append] using hh)), (.slice none 0 0), [], rfl, rfl, (Row.nil _ _ _)⟩
  · replace hm := if_f hb15 hm
    refine CW_skip ?_
    refine sq_n ?_
    refine CW_seq ?_
    refine CW_region ?_
    refine LV (R_move (v := y11) rfl) ?_
    obtain ⟨r16, hr17, hm⟩ := bind_some hm
    replace hST : ST true NoF w _ _ (S12 ++ []) := hST.perm (List.Perm.refl _)
    have hsz := hST.size
    refine LE (E_callM (args := [y11]) (caps := #[]) ((S12 ++ [])) ([]) hST (by simp only [List.append_assoc, List.cons_append, List.nil_append]; exact List.Perm.refl _) rfl Tryz.call110 (by exact args1 rfl) (fun hH hN hsb hmm => (w_chain_tightened y11 r3.1 S12 _ _ hH hN (Sub.refl _) hy13 hr17)) (fun W18 v21 μ19 L23 hST hle20 hlift hK22 => ?_))
    obtain ⟨y24, S25, hv27, rfl, hy26⟩ := hK22
    replace hv27 := hv27.symm; subst hv27
    simp only [List.append_assoc, List.cons_append, List.nil_append] at hST
    refine LV (R_assign (v := y24) rfl) ?_
    refine LV (R_assign (v := (.bool true)) rfl) ?_
    refine LW_nil ?_
    refine sq_n ?_
    refine CW_ret ?_
    replace hm := Option.some.inj hm; subst hm
    refine retQ_2 (v := y24) (u := (.bool true)) rfl rfl rfl ?_
    replace hST : ST true NoF w _ _ (S25 ++ []) := hST
    exact ⟨_, (S25 ++ []), rfl, (ST.backL (L1 := (S25 ++ [])) (by have hh : ST true NoF w _ _ (S25 ++ []) := hST.perm (List.Perm.refl _); simpa only [List.append_assoc, List.cons_append, List.nil_append] using hh)), y24, S25, rfl, rfl, hy26⟩
theorem w_chain_Used (v_a0 : Value) (a0 : List Step) (r : List Cred) (w : World) (h_a0 : Sl (Pl encStep) 12 (hp w) v_a0 a0) (hm : m_chain_Used a0 = some r) :
    GivesRow true Tryz.prog 58 [v_a0] w 83 encCred 9 r := by
  have hST := ST.start (dd := true) w
  unfold m_chain_Used at hm
  refine calls_of_CW (n := 20) Tryz.func58 rfl rfl (Nat.le_of_ble_eq_true rfl) ?_
  refine CW_seq ?_
  refine CW_region ?_
  refine LV (R_assign (v := (.slice none 0 0)) rfl) ?_
  refine LW_nil ?_
  refine sq_n ?_
  refine CW_seq ?_
  refine CW_region ?_
  refine LV (R_assign (v := (.slice none 0 0)) rfl) ?_
  refine LW_nil ?_
  refine sq_n ?_
  refine CW_seq ?_
  refine CW_seq ?_
  refine CW_region ?_
  refine LV (R_move (v := v_a0) rfl) ?_
  refine LV (R_len Tryz.underlying79 rfl h_a0) ?_
  refine LV (R_move (v := (.int .i64 0)) rfl) ?_
  refine LW_nil ?_
  refine sq_n ?_
  refine CW_range (fun i E W => ∃ (v85 : Value) (l86 : List Cred) (R88 : List (Nat × Obj)) (L109 : List (Nat × Obj)), (E 8 = .int .i64 (i : Nat) ∧ E 7 = .int .i64 (a0.length : Nat)) ∧ ST true NoF w W (hp w) (R88 ++ L109) ∧ E 3 = v85 ∧ E 6 = v_a0 ∧ Row 83 encCred 9 v85 l86 R88 ∧ m_chain_Used_L1 (a0.drop i) l86 = some r) a0.length h_a0.len ⟨(.slice none 0 0), ([]), [], _, ⟨rfl, rfl⟩, (hST.sublist (List.Sublist.refl _)), rfl, rfl, (Row.nil _ _ _), hm⟩ (by decide) (by decide) (by decide) (fun _ _ _ h => by obtain ⟨_, _, _, _, eIN, _⟩ := h; exact eIN) ?_ ?_
  · rintro i64 E W hi70 ⟨v85, l86, R88, L109, ⟨eI, eN⟩, hST, e111, e112, hs87, hm110⟩
    obtain ⟨x65, xs66, hx68, hx67, hx69⟩ := drop_cons hi70
    rw [hx68] at hm110
    rw [m_chain_Used_L1] at hm110
    refine CW_block ?_
    refine CW_seq ?_
    refine CW_region ?_
    refine LQ (R_indexP (enc := encStep) (i := (i64 : Int)) (x0 := x65) Tryz.underlying79 Tryz.sizeOf89 e112 eI h_a0 (Int.natCast_nonneg _) hx67) (fun p113 hp114 => ?_)
    refine LV (R_load rfl (load_atA hST.has hp114 Tryz.isAgg89 Tryz.sizeOf89)) ?_
    refine LE (E_alloc hST Tryz.zeroValue89 (fun W117 b116 hST => ?_))
    refine LW_e0 (.inl rfl) rfl (E_store [] (.agg (encStep x65).toArray) ((encStep x65).toArray) hST rfl rfl Tryz.sizeOf89 (oneStep x65) (Nat.le_of_ble_eq_true rfl) rfl (fun W118 hST => ?_))
    refine LW_nil ?_
    refine sq_n ?_
    refine CW_region ?_
    refine LV (R_move (v := v85) e111) ?_
    refine LV (R_field fa89_0 rfl) ?_
    refine LV (R_load (v := (.agg (encCred x65.Cred).toArray)) rfl (load_boxA hST.has (.head _) (encCred x65.Cred) rfl Tryz.isAgg83 Tryz.sizeOf83)) ?_
    refine LE (E_buildSlice (qs := #[(0, (.agg (encCred x65.Cred).toArray))]) (cs := (encCred x65.Cred).toArray) hST (parts1 rfl) (run_lit [(.agg (encCred x65.Cred).toArray)] Tryz.underlying22 Tryz.sizeOf83 Tryz.zeroValue83 (by decide) rfl (by intro v hv; simp only [List.mem_cons, List.not_mem_nil, or_false] at hv; rcases hv with rfl <;> rfl) rfl rfl) (fun W120 b119 hST => ?_))
    replace hST : ST true NoF w _ _ ((b119, Obj.cells ((encCred x65.Cred).toArray : Array Value) 83 (0, 0)) :: ((b116, Obj.cells ((encStep x65).toArray : Array Value) 89 (0, 0)) :: (R88 ++ L109))) := hST
    obtain ⟨l121, hb122, hm110⟩ := bind_some hm110
    refine LE (E_append (enc := encCred) (v := v85) (vs := (.slice (some ⟨b119, 0, none⟩) 1 1)) (R := R88) [_, _] hST lenCred (by decide) oneCred Tryz.underlying22 info83.1 info83.2.1 rfl info83.2.2.1 info83.2.2.2 rfl rfl hs87 (Sl.lit (enc := encCred) (l := [x65.Cred]) lenCred rfl (Nat.le_of_ble_eq_true rfl) rfl (hST.at_ (.head _))) hb122 (fun W123 v126 R124 hST hR125 => ?_))
    refine LV (R_assign (v := v126) rfl) ?_
    refine LW_nil ?_
    refine bq_n ?_
    refine sq_n ?_
    replace hST : ST true NoF w _ _ ((b119, Obj.cells ((encCred x65.Cred).toArray : Array Value) 83 (0, 0)) :: ((b116, Obj.cells ((encStep x65).toArray : Array Value) 89 (0, 0)) :: (R124 ++ L109))) := hST
    replace hST : ST true NoF w _ _ (R124 ++ L109) := hST.sublist (List.Sublist.cons _ (List.Sublist.cons _ (List.Sublist.refl _)))
    exact ⟨eI, v126, l121, R124, _, ⟨rfl, eN⟩, (hST.sublist (List.Sublist.refl _)), rfl, e112, hR125, (by rw [hx69]; exact hm110)⟩
  · rintro E W ⟨v85, l86, R88, L109, ⟨eI, eN⟩, hST, e111, e112, hs87, hm110⟩
    rw [List.drop_length] at hm110
    rw [m_chain_Used_L1] at hm110
    refine sq_n ?_
    refine CW_seq ?_
    refine CW_region ?_
    refine LV (R_move (v := v85) e111) ?_
    obtain ⟨r127, hr128, hm110⟩ := bind_some hm110
    refine LE (E_givesRow (args := [v85]) [] _ hST rfl Tryz.call77 (by exact args1 rfl) ((w_cred_Set v85 l86 _ _ (hs87.sl lenCred (fun b o hq => hST.at_ (List.mem_append_left _ hq))) hr128)) (fun W129 v132 μ130 R133 hST hle131 hR134 => ?_))
    refine LV (R_assign (v := v132) rfl) ?_
    refine LW_nil ?_
    refine sq_n ?_
    replace hST : ST true NoF w _ _ (R133 ++ (R88 ++ L109)) := hST
    replace hST : ST true NoF w _ _ (R133 ++ L109) := hST.sublist (List.Sublist.append (List.Sublist.refl _) ((List.Sublist.refl _).trans (List.sublist_append_right _ _)))
    refine CW_ret ?_
    replace hm110 := Option.some.inj hm110; subst hm110
    refine retQ_1 (v := v132) rfl rfl ?_
    exact ⟨_, R133, rfl, hST.backRow (fun p hq => by simp [hq]) hR134.nd, hR134⟩
theorem w_slices_Grow_Step_nil (a1 : Int) (r : List Step) (w : World)  (hm : m_slices_Grow_Step_nil a1 = some r) :
    GivesRow true Tryz.prog 160 [(.slice none 0 0), (.int .i64 a1)] w 89 encStep 12 r := by
  have hST := ST.start (dd := true) w
  unfold m_slices_Grow_Step_nil at hm
  refine calls_of_CW (n := 27) Tryz.func160 rfl rfl (Nat.le_of_ble_eq_true rfl) ?_
  refine CW_seq ?_
  refine CW_region ?_
  refine LV (R_assign (v := (.slice none 0 0)) rfl) ?_
  refine LW_nil ?_
  refine sq_n ?_
  refine CW_seq ?_
  refine CW_seq ?_
  refine CW_region ?_
  refine LV (R_move (v := (.int .i64 a1)) rfl) ?_
  refine LV (R_int (k := .i64) (a := a1) (b := 0) (v := (.bool ((decide (a1 < 0))))) rfl rfl rfl) ?_
  refine LW_nil ?_
  refine sq_n ?_
  refine CW_if (b := (decide (a1 < 0))) rfl (fun hb1 => ?_) (fun hb1 => ?_)
  · replace hm := if_t hb1 hm
    cases hm
  · replace hm := if_f hb1 hm
    refine CW_skip ?_
    refine sq_n ?_
    refine CW_seq ?_
    obtain ⟨s21, hm22, hm23⟩ := bind_some hm
    refine CW_cut (fun E W => ∃ (v14 : Value) (l15 : List Step) (R17 : List (Nat × Obj)) (L18 : List (Nat × Obj)), ST true NoF w W (hp w) (R17 ++ L18) ∧ E 0 = v14 ∧ Row 89 encStep 12 v14 l15 R17 ∧ some l15 = some r) ?_ ?_
    · refine CW_seq ?_
      refine CW_region ?_
      refine LV (R_move (v := (.int .i64 a1)) rfl) ?_
      refine LV (R_move (v := (.slice none 0 0)) rfl) ?_
      refine LV (R_capNil Tryz.underlying79 rfl) ?_
      refine LV (R_move (v := (.slice none 0 0)) rfl) ?_
      refine LV (R_lenSl Tryz.underlying79 rfl) ?_
      refine LV (R_int (k := .i64) (a := 0) (b := 0) (v := (.int .i64 ((IntKind.i64.wrap (0 - 0))))) rfl rfl rfl) ?_
      refine LV (R_int (k := .i64) (a := a1) (b := ((IntKind.i64.wrap (0 - 0)))) (v := (.int .i64 ((IntKind.i64.wrap (a1 - ((IntKind.i64.wrap (0 - 0)))))))) rfl rfl rfl) ?_
      refine LV (R_assign (v := (.int .i64 ((IntKind.i64.wrap (a1 - ((IntKind.i64.wrap (0 - 0)))))))) rfl) ?_
      refine LW_nil ?_
      refine sq_n ?_
      refine CW_seq ?_
      refine CW_region ?_
      refine LV (R_move (v := (.int .i64 ((IntKind.i64.wrap (a1 - ((IntKind.i64.wrap (0 - 0)))))))) rfl) ?_
      refine LV (R_int (k := .i64) (a := ((IntKind.i64.wrap (a1 - ((IntKind.i64.wrap (0 - 0))))))) (b := 0) (v := (.bool ((decide (((IntKind.i64.wrap (a1 - ((IntKind.i64.wrap (0 - 0)))))) > 0))))) rfl rfl rfl) ?_
      refine LW_nil ?_
      refine sq_n ?_
      refine CW_if (b := (decide (((IntKind.i64.wrap (a1 - ((IntKind.i64.wrap (0 - 0)))))) > 0))) rfl (fun hb24 => ?_) (fun hb24 => ?_)
      · replace hm22 := if_t hb24 hm22
        refine CW_region ?_
        refine LV (R_move (v := (.slice none 0 0)) rfl) ?_
        refine LV (R_move (v := (.slice none 0 0)) rfl) ?_
        refine LV (R_capNil Tryz.underlying79 rfl) ?_
        refine LV (R_sliceNil Tryz.underlying79 Tryz.sizeOf89 rfl rfl) ?_
        refine LV (R_move (v := (.int .i64 ((IntKind.i64.wrap (a1 - ((IntKind.i64.wrap (0 - 0)))))))) rfl) ?_
        obtain ⟨l27, hb28, hm22⟩ := bind_some hm22
        refine LE (E_appendMake (enc := encStep) (z := (⟨(⟨0, (⟨zS, zS⟩ : Role), zS, (⟨zS, zS⟩ : Role), (⟨zS, zS⟩ : Role), zS⟩ : Cred), (⟨(⟨zS, zS⟩ : Role), zS⟩ : Fact)⟩ : Step)) [] hST lenStep (by decide) Tryz.underlying79 Tryz.underlying3 info89.1 info89.2.1 info89.2.2.1 info89.2.2.2 rfl rfl rfl hb28 (fun W29 v32 R30 hST hR31 => ?_))
        refine LV (R_move (v := (.slice none 0 0)) rfl) ?_
        refine LV (R_lenSl Tryz.underlying79 rfl) ?_
        obtain ⟨_, hg35, hm22⟩ := bind_some hm22
        refine LQ (R_sliceTo (i := 0) Tryz.underlying79 Tryz.sizeOf89 rfl rfl hR31 lenStep (chk_1 hg35) (chk_2 hg35)) (fun v33 hs34 => ?_)
        refine LV (R_assign (v := v33) rfl) ?_
        refine LW_nil ?_
        refine sq_n ?_
        replace hm22 := Option.some.inj hm22; subst hm22
        replace hST : ST true NoF w _ _ (R30 ++ []) := hST
        exact ⟨v33, ((l27.take (Int.toNat 0))), R30, _, (hST.sublist (List.Sublist.refl _)), rfl, hs34, hm23⟩
      · replace hm22 := if_f hb24 hm22
        refine CW_skip ?_
        refine sq_n ?_
        replace hm22 := Option.some.inj hm22; subst hm22
        exact ⟨(.slice none 0 0), ([]), [], _, (hST.sublist (List.Sublist.refl _)), rfl, (Row.nil _ _ _), hm23⟩
    · rintro E W ⟨v14, l15, R17, L18, hST, e20, hs16, hm19⟩
      refine CW_seq ?_
      refine CW_region ?_
      refine LV (R_move (v := v14) e20) ?_
      refine LV (R_assign (v := v14) rfl) ?_
      refine LW_nil ?_
      refine sq_n ?_
      refine CW_ret ?_
      replace hm19 := Option.some.inj hm19; subst hm19
      refine retQ_1 (v := v14) rfl rfl ?_
      exact ⟨_, R17, rfl, hST.backRow (fun p hq => by simp [hq]) hs16.nd, hs16⟩
theorem w_slices_Concat_Step (v_a0 : Value) (a0 : List (List Step)) (r : List Step) (w : World) (h_a0 : Sl (SlR encStep 12) 1 (hp w) v_a0 a0) (hm : m_slices_Concat_Step a0 = some r) :
    GivesRow true Tryz.prog 114 [v_a0] w 89 encStep 12 r := by
  have hST := ST.start (dd := true) w
  unfold m_slices_Concat_Step at hm
  refine calls_of_CW (n := 36) Tryz.func114 rfl rfl (Nat.le_of_ble_eq_true rfl) ?_
  refine CW_seq ?_
  refine CW_region ?_
  refine LV (R_assign (v := (.slice none 0 0)) rfl) ?_
  refine LW_nil ?_
  refine sq_n ?_
  refine CW_seq ?_
  refine CW_region ?_
  refine LV (R_assign (v := (.int .i64 0)) rfl) ?_
  refine LW_nil ?_
  refine sq_n ?_
  refine CW_seq ?_
  refine CW_seq ?_
  refine CW_region ?_
  refine LV (R_move (v := v_a0) rfl) ?_
  refine LV (R_len Tryz.underlying91 rfl h_a0) ?_
  refine LV (R_move (v := (.int .i64 0)) rfl) ?_
  refine LW_nil ?_
  refine sq_n ?_
  refine CW_range (fun i E W => ∃ (x49 : Int) (L60 : List (Nat × Obj)), (E 11 = .int .i64 (i : Nat) ∧ E 10 = .int .i64 (a0.length : Nat)) ∧ ST true NoF w W (hp w) L60 ∧ E 0 = v_a0 ∧ E 3 = (.int .i64 x49) ∧ E 9 = v_a0 ∧ m_slices_Concat_Step_L1 a0 (a0.drop i) x49 = some r) a0.length h_a0.len ⟨0, _, ⟨rfl, rfl⟩, (hST.sublist (List.Sublist.refl _)), rfl, rfl, rfl, hm⟩ (by decide) (by decide) (by decide) (fun _ _ _ h => by obtain ⟨_, _, eIN, _⟩ := h; exact eIN) ?_ ?_
  · rintro i36 E W hi42 ⟨x49, L60, ⟨eI, eN⟩, hST, e62, e63, e64, hm61⟩
    obtain ⟨x37, xs38, hx40, hx39, hx41⟩ := drop_cons hi42
    rw [hx40] at hm61
    rw [m_slices_Concat_Step_L1] at hm61
    refine CW_block ?_
    refine CW_seq ?_
    refine CW_region ?_
    refine LQ (R_indexN (enc := encStep) (k2 := 12) (i := (i36 : Int)) (x0 := x37) Tryz.underlying91 Tryz.sizeOf79 e64 eI h_a0 (Int.natCast_nonneg _) hx39) (fun p65 ⟨v68, hp66, hs69⟩ => ?_)
    refine LV (R_load rfl (load_at1 hST.has (y := v68) hp66 Tryz.isAgg79)) ?_
    refine LV (R_assign (v := v68) rfl) ?_
    refine LW_nil ?_
    refine sq_n ?_
    refine CW_seq ?_
    refine CW_region ?_
    refine LV (R_move (v := (.int .i64 x49)) e63) ?_
    refine LV (R_move (v := v68) rfl) ?_
    refine LV (R_len Tryz.underlying79 rfl hs69) ?_
    refine LV (R_int (k := .i64) (a := x49) (b := ((x37.length : Int))) (v := (.int .i64 ((IntKind.i64.wrap (x49 + ((x37.length : Int))))))) rfl rfl rfl) ?_
    refine LV (R_assign (v := (.int .i64 ((IntKind.i64.wrap (x49 + ((x37.length : Int))))))) rfl) ?_
    refine LW_nil ?_
    refine sq_n ?_
    refine CW_seq ?_
    refine CW_region ?_
    refine LV (R_move (v := (.int .i64 ((IntKind.i64.wrap (x49 + ((x37.length : Int))))))) rfl) ?_
    refine LV (R_int (k := .i64) (a := ((IntKind.i64.wrap (x49 + ((x37.length : Int)))))) (b := 0) (v := (.bool ((decide (((IntKind.i64.wrap (x49 + ((x37.length : Int))))) < 0))))) rfl rfl rfl) ?_
    refine LW_nil ?_
    refine sq_n ?_
    refine CW_if (b := (decide (((IntKind.i64.wrap (x49 + ((x37.length : Int))))) < 0))) rfl (fun hb70 => ?_) (fun hb70 => ?_)
    · replace hm61 := if_t hb70 hm61
      cases hm61
    · replace hm61 := if_f hb70 hm61
      refine CW_skip ?_
      refine bq_n ?_
      refine sq_n ?_
      exact ⟨eI, ((IntKind.i64.wrap (x49 + ((x37.length : Int))))), _, ⟨rfl, eN⟩, (hST.sublist (List.Sublist.refl _)), e62, rfl, e64, (by rw [hx41]; exact hm61)⟩
  · rintro E W ⟨x49, L60, ⟨eI, eN⟩, hST, e62, e63, e64, hm61⟩
    rw [List.drop_length] at hm61
    rw [m_slices_Concat_Step_L1] at hm61
    refine sq_n ?_
    refine CW_seq ?_
    refine CW_region ?_
    refine LV (R_move (v := (.int .i64 x49)) e63) ?_
    obtain ⟨r71, hr72, hm61⟩ := bind_some hm61
    refine LE (E_givesRow (args := [(.slice none 0 0), (.int .i64 x49)]) [] _ hST rfl Tryz.call160 (by exact args2 rfl rfl) ((w_slices_Grow_Step_nil x49 _ _  hr72)) (fun W73 v76 μ74 R77 hST hle75 hR78 => ?_))
    refine LV (R_assign (v := v76) rfl) ?_
    refine LW_nil ?_
    refine sq_n ?_
    refine CW_seq ?_
    refine CW_seq ?_
    refine CW_region ?_
    refine LV (R_move (v := v_a0) e62) ?_
    refine LV (R_len Tryz.underlying91 rfl h_a0) ?_
    refine LV (R_move (v := (.int .i64 0)) rfl) ?_
    refine LW_nil ?_
    refine sq_n ?_
    obtain ⟨s140, hm141, hm142⟩ := bind_some hm61
    refine CW_cut (fun E W => ∃ (v133 : Value) (l134 : List Step) (R136 : List (Nat × Obj)) (L137 : List (Nat × Obj)), ST true NoF w W μ74 (R136 ++ L137) ∧ E 6 = v133 ∧ Row 89 encStep 12 v133 l134 R136 ∧ some l134 = some r) ?_ ?_
    · replace hST : ST true NoF w _ _ (R77 ++ L60) := hST
      refine CW_range (fun i E W => ∃ (v161 : Value) (l162 : List Step) (R164 : List (Nat × Obj)) (L182 : List (Nat × Obj)), (E 27 = .int .i64 (i : Nat) ∧ E 26 = .int .i64 (a0.length : Nat)) ∧ ST true NoF w W μ74 (R164 ++ L182) ∧ E 6 = v161 ∧ E 25 = v_a0 ∧ Row 89 encStep 12 v161 l162 R164 ∧ m_slices_Concat_Step_L2 (a0.drop i) l162 = some s140) a0.length h_a0.len ⟨v76, r71, R77, _, ⟨rfl, rfl⟩, (hST.sublist (List.Sublist.refl _)), rfl, rfl, hR78, hm141⟩ (by decide) (by decide) (by decide) (fun _ _ _ h => by obtain ⟨_, _, _, _, eIN, _⟩ := h; exact eIN) ?_ ?_
      · rintro i143 E W hi149 ⟨v161, l162, R164, L182, ⟨eI, eN⟩, hST, e184, e185, hs163, hm183⟩
        obtain ⟨x144, xs145, hx147, hx146, hx148⟩ := drop_cons hi149
        rw [hx147] at hm183
        rw [m_slices_Concat_Step_L2] at hm183
        refine CW_block ?_
        refine CW_seq ?_
        refine CW_region ?_
        refine LQ (R_indexN (enc := encStep) (k2 := 12) (i := (i143 : Int)) (x0 := x144) Tryz.underlying91 Tryz.sizeOf79 e185 eI (h_a0.mono (SlR.mono _ _) hle75) (Int.natCast_nonneg _) hx146) (fun p186 ⟨v189, hp187, hs190⟩ => ?_)
        refine LV (R_load rfl (load_at1 hST.has (y := v189) hp187 Tryz.isAgg79)) ?_
        refine LV (R_assign (v := v189) rfl) ?_
        refine LW_nil ?_
        refine sq_n ?_
        refine CW_region ?_
        refine LV (R_move (v := v161) e184) ?_
        refine LV (R_move (v := v189) rfl) ?_
        obtain ⟨l191, hb192, hm183⟩ := bind_some hm183
        refine LE (E_append (enc := encStep) (v := v161) (vs := v189) (R := R164) [] hST lenStep (by decide) oneStep Tryz.underlying79 info89.1 info89.2.1 rfl info89.2.2.1 info89.2.2.2 rfl rfl hs163 (hs190.mono (Pl.mono _) hST.sub_hp) hb192 (fun W193 v196 R194 hST hR195 => ?_))
        refine LV (R_assign (v := v196) rfl) ?_
        refine LW_nil ?_
        refine bq_n ?_
        refine sq_n ?_
        replace hST : ST true NoF w _ _ (R194 ++ L182) := hST
        exact ⟨eI, v196, l191, R194, _, ⟨rfl, eN⟩, (hST.sublist (List.Sublist.refl _)), rfl, e185, hR195, (by rw [hx148]; exact hm183)⟩
      · rintro E W ⟨v161, l162, R164, L182, ⟨eI, eN⟩, hST, e184, e185, hs163, hm183⟩
        rw [List.drop_length] at hm183
        rw [m_slices_Concat_Step_L2] at hm183
        refine sq_n ?_
        replace hm183 := Option.some.inj hm183; subst hm183
        exact ⟨v161, l162, R164, _, (hST.sublist (List.Sublist.refl _)), e184, hs163, hm142⟩
    · rintro E W ⟨v133, l134, R136, L137, hST, e139, hs135, hm138⟩
      refine CW_seq ?_
      refine CW_region ?_
      refine LV (R_move (v := v133) e139) ?_
      refine LV (R_assign (v := v133) rfl) ?_
      refine LW_nil ?_
      refine sq_n ?_
      refine CW_ret ?_
      replace hm138 := Option.some.inj hm138; subst hm138
      refine retQ_1 (v := v133) rfl rfl ?_
      exact ⟨_, R136, rfl, hST.backRow (fun p hq => by simp [hq]) hs135.nd, hs135⟩
theorem w_chain_Merge (v_a0 : Value) (a0 : List (List Step)) (r : List Step) (w : World) (h_a0 : Sl (SlR encStep 12) 1 (hp w) v_a0 a0) (hm : m_chain_Merge a0 = some r) :
    GivesRow true Tryz.prog 60 [v_a0] w 89 encStep 12 r := by
  have hST := ST.start (dd := true) w
  unfold m_chain_Merge at hm
  refine calls_of_CW (n := 29) Tryz.func60 rfl rfl (Nat.le_of_ble_eq_true rfl) ?_
  refine CW_seq ?_
  refine CW_region ?_
  refine LV (R_assign (v := (.slice none 0 0)) rfl) ?_
  refine LW_nil ?_
  refine sq_n ?_
  refine CW_seq ?_
  refine CW_region ?_
  refine LE (E_makeMap (P := Tryz.prog) (fun (x : Fact) => (.agg (encFact x).toArray)) (fun (x : Bool) => (Value.bool x)) hST (fun W1 v4 R2 hST hR3 => ?_))
  refine LV (R_assign (v := v4) rfl) ?_
  refine LW_nil ?_
  refine sq_n ?_
  refine CW_seq ?_
  refine CW_region ?_
  refine LV (R_assign (v := (.slice none 0 0)) rfl) ?_
  refine LW_nil ?_
  refine sq_n ?_
  refine CW_seq ?_
  refine CW_seq ?_
  refine CW_region ?_
  refine LV (R_move (v := v_a0) rfl) ?_
  replace hST : ST true NoF w _ _ (R2 ++ []) := hST
  obtain ⟨r5, hr6, hm⟩ := bind_some hm
  refine LE (E_givesRow (args := [v_a0]) [] _ hST rfl Tryz.call114 (by exact args1 rfl) ((w_slices_Concat_Step v_a0 a0 _ _ (h_a0.mono (SlR.mono _ _) hST.sub_hp) hr6)) (fun W7 v10 μ8 R11 hST hle9 hR12 => ?_))
  refine LV (R_lenRow Tryz.underlying79 rfl hR12) ?_
  refine LV (R_move (v := (.int .i64 0)) rfl) ?_
  refine LW_nil ?_
  refine sq_n ?_
  replace hST : ST true NoF w _ _ (R11 ++ (R2 ++ [])) := hST
  refine CW_range (fun i E W => ∃ (l121 : List (Fact × Bool)) (R123 : List (Nat × Obj)) (v124 : Value) (l125 : List Step) (R127 : List (Nat × Obj)) (L156 : List (Nat × Obj)), (E 11 = .int .i64 (i : Nat) ∧ E 10 = .int .i64 (r5.length : Nat)) ∧ ST true NoF w W μ8 (R127 ++ (R11 ++ (R123 ++ L156))) ∧ E 3 = v4 ∧ E 4 = v124 ∧ E 9 = v10 ∧ MapRow (fun (x : Fact) => (.agg (encFact x).toArray)) (fun (x : Bool) => (Value.bool x)) v4 l121 R123 ∧ Row 89 encStep 12 v124 l125 R127 ∧ m_chain_Merge_L1 (r5.drop i) l121 l125 = some r) r5.length hR12.len ⟨([]), R2, (.slice none 0 0), ([]), [], _, ⟨rfl, rfl⟩, (hST.sublist (List.Sublist.refl _)), rfl, rfl, rfl, hR3, (Row.nil _ _ _), hm⟩ (by decide) (by decide) (by decide) (fun _ _ _ h => by obtain ⟨_, _, _, _, _, _, eIN, _⟩ := h; exact eIN) ?_ ?_
  · rintro i96 E W hi102 ⟨l121, R123, v124, l125, R127, L156, ⟨eI, eN⟩, hST, e158, e159, e160, hs122, hs126, hm157⟩
    obtain ⟨x97, xs98, hx100, hx99, hx101⟩ := drop_cons hi102
    rw [hx100] at hm157
    rw [m_chain_Merge_L1] at hm157
    refine CW_block ?_
    refine CW_seq ?_
    refine CW_region ?_
    refine LQ (R_indexRow (i := (i96 : Int)) (x0 := x97) Tryz.underlying79 Tryz.sizeOf89 e160 eI hR12 (Int.natCast_nonneg _) hx99) (fun p161 hp162 => ?_)
    refine LV (R_load (v := (.agg (encStep x97).toArray)) rfl (load_ixA hST.has (fun p hq => by simp [hq]) hR12 lenStep hp162 hx99 Tryz.isAgg89 Tryz.sizeOf89)) ?_
    refine LE (E_alloc hST Tryz.zeroValue89 (fun W165 b164 hST => ?_))
    refine LW_e0 (.inl rfl) rfl (E_store [] (.agg (encStep x97).toArray) ((encStep x97).toArray) hST rfl rfl Tryz.sizeOf89 (oneStep x97) (Nat.le_of_ble_eq_true rfl) rfl (fun W166 hST => ?_))
    refine LW_nil ?_
    refine sq_n ?_
    refine CW_seq ?_
    refine CW_region ?_
    refine LV (R_move (v := v4) e158) ?_
    refine LV (R_field fa89_1 rfl) ?_
    refine LV (R_load (v := (.agg (encFact x97.Fact).toArray)) rfl (load_boxA hST.has (.head _) (encFact x97.Fact) rfl Tryz.isAgg78 Tryz.sizeOf78)) ?_
    replace hST : ST true NoF w _ _ ((b164, Obj.cells ((encStep x97).toArray : Array Value) 89 (0, 0)) :: (R127 ++ (R11 ++ (R123 ++ L156)))) := hST
    refine LV (R_lookupD (k := x97.Fact) (z := false) (vf := (fun (x : Bool) => (Value.bool x))) kl78 Tryz.underlying155 Tryz.zeroValue4 rfl rfl (hs122.at (fun b o hq => hST.has.2 b o (.tail _ (List.mem_append_right _ (List.mem_append_right _ (List.mem_append_left _ hq))))))) ?_
    refine LV (R_not (b := (mgetD beqFact l121 x97.Fact false)) rfl) ?_
    refine LW_nil ?_
    refine sq_n ?_
    refine CW_if (b := (!((mgetD beqFact l121 x97.Fact false)))) rfl (fun hb167 => ?_) (fun hb167 => ?_)
    · replace hm157 := if_t hb167 hm157
      refine CW_seq ?_
      refine CW_region ?_
      refine LV (R_move (v := v4) e158) ?_
      refine LV (R_field fa89_1 rfl) ?_
      refine LV (R_load (v := (.agg (encFact x97.Fact).toArray)) rfl (load_boxA hST.has (.head _) (encFact x97.Fact) rfl Tryz.isAgg78 Tryz.sizeOf78)) ?_
      replace hST : ST true NoF w _ _ ((b164, Obj.cells ((encStep x97).toArray : Array Value) 89 (0, 0)) :: (R123 ++ (R127 ++ (R11 ++ L156)))) := hST.perm (permD [[(b164, Obj.cells ((encStep x97).toArray : Array Value) 89 (0, 0))], R127, R11, R123] [0, 1, 2, 3] [0, 3, 1, 2] L156 (by decide) rfl rfl)
      refine LW_e0 (.inl rfl) rfl (E_mapUpdate (k := x97.Fact) (v := true) (vf := (fun (x : Bool) => (Value.bool x))) [_] kl78 Tryz.underlying155 hST hs122 rfl rfl rfl (fun W168 R169 hST hR170 => ?_))
      refine LW_nil ?_
      refine sq_n ?_
      refine CW_region ?_
      refine LV (R_move (v := v124) e159) ?_
      refine LV (R_load (v := (.agg (encStep x97).toArray)) rfl (load_boxA hST.has (.head _) (encStep x97) rfl Tryz.isAgg89 Tryz.sizeOf89)) ?_
      refine LE (E_buildSlice (qs := #[(0, (.agg (encStep x97).toArray))]) (cs := (encStep x97).toArray) hST (parts1 rfl) (run_lit [(.agg (encStep x97).toArray)] Tryz.underlying79 Tryz.sizeOf89 Tryz.zeroValue89 (by decide) rfl (by intro v hv; simp only [List.mem_cons, List.not_mem_nil, or_false] at hv; rcases hv with rfl <;> rfl) rfl rfl) (fun W172 b171 hST => ?_))
      replace hST : ST true NoF w _ _ ((b171, Obj.cells ((encStep x97).toArray : Array Value) 89 (0, 0)) :: ((b164, Obj.cells ((encStep x97).toArray : Array Value) 89 (0, 0)) :: (R169 ++ (R127 ++ (R11 ++ L156))))) := hST
      replace hST : ST true NoF w _ _ ((b171, Obj.cells ((encStep x97).toArray : Array Value) 89 (0, 0)) :: ((b164, Obj.cells ((encStep x97).toArray : Array Value) 89 (0, 0)) :: (R127 ++ (R169 ++ (R11 ++ L156))))) := hST.perm (permD [[(b171, Obj.cells ((encStep x97).toArray : Array Value) 89 (0, 0))], [(b164, Obj.cells ((encStep x97).toArray : Array Value) 89 (0, 0))], R169, R127] [0, 1, 2, 3] [0, 1, 3, 2] ((R11 ++ L156)) (by decide) rfl rfl)
      obtain ⟨l173, hb174, hm157⟩ := bind_some hm157
      refine LE (E_append (enc := encStep) (v := v124) (vs := (.slice (some ⟨b171, 0, none⟩) 1 1)) (R := R127) [_, _] hST lenStep (by decide) oneStep Tryz.underlying79 info89.1 info89.2.1 rfl info89.2.2.1 info89.2.2.2 rfl rfl hs126 (Sl.lit (enc := encStep) (l := [x97]) lenStep rfl (Nat.le_of_ble_eq_true rfl) rfl (hST.at_ (.head _))) hb174 (fun W175 v178 R176 hST hR177 => ?_))
      refine LV (R_assign (v := v178) rfl) ?_
      refine LW_nil ?_
      refine bq_n ?_
      refine sq_n ?_
      replace hST : ST true NoF w _ _ ((b171, Obj.cells ((encStep x97).toArray : Array Value) 89 (0, 0)) :: ((b164, Obj.cells ((encStep x97).toArray : Array Value) 89 (0, 0)) :: (R176 ++ (R169 ++ (R11 ++ L156))))) := hST
      replace hST : ST true NoF w _ _ (R176 ++ (R169 ++ (R11 ++ L156))) := hST.sublist (List.Sublist.cons _ (List.Sublist.cons _ (List.Sublist.refl _)))
      replace hST : ST true NoF w _ _ (R176 ++ (R11 ++ (R169 ++ L156))) := hST.perm (permD [R176, R169, R11] [0, 1, 2] [0, 2, 1] L156 (by decide) rfl rfl)
      exact ⟨eI, ((mput beqFact l121 x97.Fact true)), R169, v178, l173, R176, _, ⟨rfl, eN⟩, (hST.sublist (List.Sublist.refl _)), e158, rfl, e160, hR170, hR177, (by rw [hx101]; exact hm157)⟩
    · replace hm157 := if_f hb167 hm157
      refine CW_skip ?_
      refine bq_n ?_
      refine sq_n ?_
      replace hST : ST true NoF w _ _ (R127 ++ (R11 ++ (R123 ++ L156))) := hST.sublist (List.Sublist.cons _ (List.Sublist.refl _))
      exact ⟨eI, l121, R123, v124, l125, R127, _, ⟨rfl, eN⟩, (hST.sublist (List.Sublist.refl _)), e158, e159, e160, hs122, hs126, (by rw [hx101]; exact hm157)⟩
  · rintro E W ⟨l121, R123, v124, l125, R127, L156, ⟨eI, eN⟩, hST, e158, e159, e160, hs122, hs126, hm157⟩
    rw [List.drop_length] at hm157
    rw [m_chain_Merge_L1] at hm157
    refine sq_n ?_
    replace hST : ST true NoF w _ _ (R127 ++ L156) := hST.sublist (List.Sublist.append (List.Sublist.refl _) (((List.Sublist.refl _).trans (List.sublist_append_right _ _)).trans (List.sublist_append_right _ _)))
    refine CW_seq ?_
    refine CW_region ?_
    refine LV (R_move (v := v124) e159) ?_
    refine LV (R_assign (v := v124) rfl) ?_
    refine LW_nil ?_
    refine sq_n ?_
    refine CW_ret ?_
    replace hm157 := Option.some.inj hm157; subst hm157
    refine retQ_1 (v := v124) rfl rfl ?_
    exact ⟨_, R127, rfl, hST.backRow (fun p hq => by simp [hq]) hs126.nd, hs126⟩
theorem w_law10_first  (r : Bool) (w : World)  (hm : m_law10_first  = some r) :
    Gives true Tryz.prog 52 [] w (.bool r) := by
  have hST := ST.start (dd := true) w
  unfold m_law10_first at hm
  refine calls_of_CW (n := 57) Tryz.func52 rfl rfl (Nat.le_of_ble_eq_true rfl) ?_
  refine CW_seq ?_
  refine CW_region ?_
  refine LV (R_assign (v := (.bool false)) rfl) ?_
  refine LW_nil ?_
  refine sq_n ?_
  refine CW_seq ?_
  refine CW_region ?_
  refine LV (R_build (qs := #[(0, (.string ((⟨#[98]⟩ : ByteArray)))), (1, (.string ((⟨#[115]⟩ : ByteArray))))]) (v := (.agg (encRole ((⟨(⟨#[98]⟩ : ByteArray), (⟨#[115]⟩ : ByteArray)⟩ : Role))).toArray)) (parts2 rfl rfl) (run_build Tryz.zeroValue47 Tryz.underlying47 (pl47 _ Tryz.underlying47) (by kernel_rfl))) ?_
  refine LV (R_build (qs := #[(0, (.int .i64 1)), (1, (.agg (encRole ((⟨(⟨#[98]⟩ : ByteArray), (⟨#[115]⟩ : ByteArray)⟩ : Role))).toArray)), (2, (.string ((⟨#[100]⟩ : ByteArray))))]) (v := (.agg (encCred ((⟨1, (⟨(⟨#[98]⟩ : ByteArray), (⟨#[115]⟩ : ByteArray)⟩ : Role), (⟨#[100]⟩ : ByteArray), (⟨zS, zS⟩ : Role), (⟨zS, zS⟩ : Role), zS⟩ : Cred))).toArray)) (parts3 rfl rfl rfl) (run_build Tryz.zeroValue83 Tryz.underlying83 (pl83 _ Tryz.underlying83) (by kernel_rfl))) ?_
  refine LE (E_alloc hST Tryz.zeroValue83 (fun W2 b1 hST => ?_))
  refine LW_e0 (.inl rfl) rfl (E_store [] (.agg (encCred ((⟨1, (⟨(⟨#[98]⟩ : ByteArray), (⟨#[115]⟩ : ByteArray)⟩ : Role), (⟨#[100]⟩ : ByteArray), (⟨zS, zS⟩ : Role), (⟨zS, zS⟩ : Role), zS⟩ : Cred))).toArray) ((encCred ((⟨1, (⟨(⟨#[98]⟩ : ByteArray), (⟨#[115]⟩ : ByteArray)⟩ : Role), (⟨#[100]⟩ : ByteArray), (⟨zS, zS⟩ : Role), (⟨zS, zS⟩ : Role), zS⟩ : Cred))).toArray) hST rfl rfl Tryz.sizeOf83 (oneCred ((⟨1, (⟨(⟨#[98]⟩ : ByteArray), (⟨#[115]⟩ : ByteArray)⟩ : Role), (⟨#[100]⟩ : ByteArray), (⟨zS, zS⟩ : Role), (⟨zS, zS⟩ : Role), zS⟩ : Cred))) (Nat.le_of_ble_eq_true rfl) rfl (fun W3 hST => ?_))
  refine LW_nil ?_
  refine sq_n ?_
  refine CW_seq ?_
  refine CW_region ?_
  refine LV (R_field fa83_1 rfl) ?_
  refine LV (R_load (v := (.agg (encRole ((⟨(⟨#[98]⟩ : ByteArray), (⟨#[115]⟩ : ByteArray)⟩ : Role))).toArray)) rfl (load_boxA hST.has (.head _) (encRole ((⟨(⟨#[98]⟩ : ByteArray), (⟨#[115]⟩ : ByteArray)⟩ : Role))) rfl Tryz.isAgg47 Tryz.sizeOf47)) ?_
  refine LV (R_build (qs := #[(0, (.agg (encRole ((⟨(⟨#[98]⟩ : ByteArray), (⟨#[115]⟩ : ByteArray)⟩ : Role))).toArray)), (1, (.string ((⟨#[100]⟩ : ByteArray))))]) (v := (.agg (encFact ((⟨(⟨(⟨#[98]⟩ : ByteArray), (⟨#[115]⟩ : ByteArray)⟩ : Role), (⟨#[100]⟩ : ByteArray)⟩ : Fact))).toArray)) (parts2 rfl rfl) (run_build Tryz.zeroValue78 Tryz.underlying78 (pl78 _ Tryz.underlying78) (by kernel_rfl))) ?_
  refine LE (E_alloc hST Tryz.zeroValue78 (fun W5 b4 hST => ?_))
  refine LW_e0 (.inl rfl) rfl (E_store [] (.agg (encFact ((⟨(⟨(⟨#[98]⟩ : ByteArray), (⟨#[115]⟩ : ByteArray)⟩ : Role), (⟨#[100]⟩ : ByteArray)⟩ : Fact))).toArray) ((encFact ((⟨(⟨(⟨#[98]⟩ : ByteArray), (⟨#[115]⟩ : ByteArray)⟩ : Role), (⟨#[100]⟩ : ByteArray)⟩ : Fact))).toArray) hST rfl rfl Tryz.sizeOf78 (oneFact ((⟨(⟨(⟨#[98]⟩ : ByteArray), (⟨#[115]⟩ : ByteArray)⟩ : Role), (⟨#[100]⟩ : ByteArray)⟩ : Fact))) (Nat.le_of_ble_eq_true rfl) rfl (fun W6 hST => ?_))
  refine LW_nil ?_
  refine sq_n ?_
  refine CW_seq ?_
  refine CW_region ?_
  refine LV (R_load (v := (.agg (encCred ((⟨1, (⟨(⟨#[98]⟩ : ByteArray), (⟨#[115]⟩ : ByteArray)⟩ : Role), (⟨#[100]⟩ : ByteArray), (⟨zS, zS⟩ : Role), (⟨zS, zS⟩ : Role), zS⟩ : Cred))).toArray)) rfl (load_boxA hST.has (.tail _ (.head _)) (encCred ((⟨1, (⟨(⟨#[98]⟩ : ByteArray), (⟨#[115]⟩ : ByteArray)⟩ : Role), (⟨#[100]⟩ : ByteArray), (⟨zS, zS⟩ : Role), (⟨zS, zS⟩ : Role), zS⟩ : Cred))) rfl Tryz.isAgg83 Tryz.sizeOf83)) ?_
  refine LE (E_buildSlice (qs := #[(0, (.agg (encCred ((⟨1, (⟨(⟨#[98]⟩ : ByteArray), (⟨#[115]⟩ : ByteArray)⟩ : Role), (⟨#[100]⟩ : ByteArray), (⟨zS, zS⟩ : Role), (⟨zS, zS⟩ : Role), zS⟩ : Cred))).toArray))]) (cs := (encCred ((⟨1, (⟨(⟨#[98]⟩ : ByteArray), (⟨#[115]⟩ : ByteArray)⟩ : Role), (⟨#[100]⟩ : ByteArray), (⟨zS, zS⟩ : Role), (⟨zS, zS⟩ : Role), zS⟩ : Cred))).toArray) hST (parts1 rfl) (run_lit [(.agg (encCred ((⟨1, (⟨(⟨#[98]⟩ : ByteArray), (⟨#[115]⟩ : ByteArray)⟩ : Role), (⟨#[100]⟩ : ByteArray), (⟨zS, zS⟩ : Role), (⟨zS, zS⟩ : Role), zS⟩ : Cred))).toArray)] Tryz.underlying22 Tryz.sizeOf83 Tryz.zeroValue83 (by decide) rfl (by intro v hv; simp only [List.mem_cons, List.not_mem_nil, or_false] at hv; rcases hv with rfl <;> rfl) rfl rfl) (fun W8 b7 hST => ?_))
  refine LV (R_load (v := (.agg (encFact ((⟨(⟨(⟨#[98]⟩ : ByteArray), (⟨#[115]⟩ : ByteArray)⟩ : Role), (⟨#[100]⟩ : ByteArray)⟩ : Fact))).toArray)) rfl (load_boxA hST.has (.tail _ (.head _)) (encFact ((⟨(⟨(⟨#[98]⟩ : ByteArray), (⟨#[115]⟩ : ByteArray)⟩ : Role), (⟨#[100]⟩ : ByteArray)⟩ : Fact))) rfl Tryz.isAgg78 Tryz.sizeOf78)) ?_
  replace hST : ST true NoF w _ _ ((b7, Obj.cells ((encCred ((⟨1, (⟨(⟨#[98]⟩ : ByteArray), (⟨#[115]⟩ : ByteArray)⟩ : Role), (⟨#[100]⟩ : ByteArray), (⟨zS, zS⟩ : Role), (⟨zS, zS⟩ : Role), zS⟩ : Cred))).toArray : Array Value) 83 (0, 0)) :: ((b4, Obj.cells ((encFact ((⟨(⟨(⟨#[98]⟩ : ByteArray), (⟨#[115]⟩ : ByteArray)⟩ : Role), (⟨#[100]⟩ : ByteArray)⟩ : Fact))).toArray : Array Value) 78 (0, 0)) :: ((b1, Obj.cells ((encCred ((⟨1, (⟨(⟨#[98]⟩ : ByteArray), (⟨#[115]⟩ : ByteArray)⟩ : Role), (⟨#[100]⟩ : ByteArray), (⟨zS, zS⟩ : Role), (⟨zS, zS⟩ : Role), zS⟩ : Cred))).toArray : Array Value) 83 (0, 0)) :: []))) := hST
  obtain ⟨r9, hr10, hm⟩ := bind_some hm
  have hsz := hST.size
  refine LE (E_callM (args := [(.slice (some ⟨b7, 0, none⟩) 1 1), (.agg (encFact ((⟨(⟨(⟨#[98]⟩ : ByteArray), (⟨#[115]⟩ : ByteArray)⟩ : Role), (⟨#[100]⟩ : ByteArray)⟩ : Fact))).toArray)]) (caps := #[]) [] (((b7, Obj.cells ((encCred ((⟨1, (⟨(⟨#[98]⟩ : ByteArray), (⟨#[115]⟩ : ByteArray)⟩ : Role), (⟨#[100]⟩ : ByteArray), (⟨zS, zS⟩ : Role), (⟨zS, zS⟩ : Role), zS⟩ : Cred))).toArray : Array Value) 83 (0, 0)) :: ((b4, Obj.cells ((encFact ((⟨(⟨(⟨#[98]⟩ : ByteArray), (⟨#[115]⟩ : ByteArray)⟩ : Role), (⟨#[100]⟩ : ByteArray)⟩ : Fact))).toArray : Array Value) 78 (0, 0)) :: ((b1, Obj.cells ((encCred ((⟨1, (⟨(⟨#[98]⟩ : ByteArray), (⟨#[115]⟩ : ByteArray)⟩ : Role), (⟨#[100]⟩ : ByteArray), (⟨zS, zS⟩ : Role), (⟨zS, zS⟩ : Role), zS⟩ : Cred))).toArray : Array Value) 83 (0, 0)) :: [])))) hST (List.Perm.refl _) rfl Tryz.call53 (by exact args2 rfl rfl) (fun _ _ _ _ => (w_chain_Find (.slice (some ⟨b7, 0, none⟩) 1 1) ([(⟨1, (⟨(⟨#[98]⟩ : ByteArray), (⟨#[115]⟩ : ByteArray)⟩ : Role), (⟨#[100]⟩ : ByteArray), (⟨zS, zS⟩ : Role), (⟨zS, zS⟩ : Role), zS⟩ : Cred)]) ((⟨(⟨(⟨#[98]⟩ : ByteArray), (⟨#[115]⟩ : ByteArray)⟩ : Role), (⟨#[100]⟩ : ByteArray)⟩ : Fact)) _ _ (Sl.lit (enc := encCred) (l := [(⟨1, (⟨(⟨#[98]⟩ : ByteArray), (⟨#[115]⟩ : ByteArray)⟩ : Role), (⟨#[100]⟩ : ByteArray), (⟨zS, zS⟩ : Role), (⟨zS, zS⟩ : Role), zS⟩ : Cred)]) lenCred rfl (Nat.le_of_ble_eq_true rfl) rfl (hST.at_ (.head _))) hr10)) (fun W11 v14 μ12 L16 hST hle13 hlift hK15 => ?_))
  obtain ⟨y17, S18, hv20, rfl, hy19⟩ := hK15
  replace hv20 := hv20.symm; subst hv20
  simp only [List.append_assoc, List.cons_append, List.nil_append] at hST
  replace hST : ST true NoF w _ _ ((b7, Obj.cells ((encCred ((⟨1, (⟨(⟨#[98]⟩ : ByteArray), (⟨#[115]⟩ : ByteArray)⟩ : Role), (⟨#[100]⟩ : ByteArray), (⟨zS, zS⟩ : Role), (⟨zS, zS⟩ : Role), zS⟩ : Cred))).toArray : Array Value) 83 (0, 0)) :: ((b4, Obj.cells ((encFact ((⟨(⟨(⟨#[98]⟩ : ByteArray), (⟨#[115]⟩ : ByteArray)⟩ : Role), (⟨#[100]⟩ : ByteArray)⟩ : Fact))).toArray : Array Value) 78 (0, 0)) :: ((b1, Obj.cells ((encCred ((⟨1, (⟨(⟨#[98]⟩ : ByteArray), (⟨#[115]⟩ : ByteArray)⟩ : Role), (⟨#[100]⟩ : ByteArray), (⟨zS, zS⟩ : Role), (⟨zS, zS⟩ : Role), zS⟩ : Cred))).toArray : Array Value) 83 (0, 0)) :: (S18 ++ [])))) := hST.perm (permD [S18, [(b7, Obj.cells ((encCred ((⟨1, (⟨(⟨#[98]⟩ : ByteArray), (⟨#[115]⟩ : ByteArray)⟩ : Role), (⟨#[100]⟩ : ByteArray), (⟨zS, zS⟩ : Role), (⟨zS, zS⟩ : Role), zS⟩ : Cred))).toArray : Array Value) 83 (0, 0))], [(b4, Obj.cells ((encFact ((⟨(⟨(⟨#[98]⟩ : ByteArray), (⟨#[115]⟩ : ByteArray)⟩ : Role), (⟨#[100]⟩ : ByteArray)⟩ : Fact))).toArray : Array Value) 78 (0, 0))], [(b1, Obj.cells ((encCred ((⟨1, (⟨(⟨#[98]⟩ : ByteArray), (⟨#[115]⟩ : ByteArray)⟩ : Role), (⟨#[100]⟩ : ByteArray), (⟨zS, zS⟩ : Role), (⟨zS, zS⟩ : Role), zS⟩ : Cred))).toArray : Array Value) 83 (0, 0))]] [0, 1, 2, 3] [1, 2, 3, 0] ([]) (by decide) rfl rfl)
  refine LV (R_move (v := (.tuple #[y17, (.bool r9.2)])) rfl) ?_
  refine LV (R_extract (v := y17) rfl rfl) ?_
  refine LV (R_extract (v := (.bool r9.2)) rfl rfl) ?_
  refine LV (R_assign (v := y17) rfl) ?_
  refine LV (R_assign (v := (.bool r9.2)) rfl) ?_
  refine LW_nil ?_
  refine sq_n ?_
  replace hST : ST true NoF w _ _ ((b4, Obj.cells ((encFact ((⟨(⟨(⟨#[98]⟩ : ByteArray), (⟨#[115]⟩ : ByteArray)⟩ : Role), (⟨#[100]⟩ : ByteArray)⟩ : Fact))).toArray : Array Value) 78 (0, 0)) :: ((b1, Obj.cells ((encCred ((⟨1, (⟨(⟨#[98]⟩ : ByteArray), (⟨#[115]⟩ : ByteArray)⟩ : Role), (⟨#[100]⟩ : ByteArray), (⟨zS, zS⟩ : Role), (⟨zS, zS⟩ : Role), zS⟩ : Cred))).toArray : Array Value) 83 (0, 0)) :: (S18 ++ []))) := hST.sublist (List.Sublist.cons _ (List.Sublist.refl _))
  refine CW_seq ?_
  refine CW_region ?_
  refine LV (R_load (v := (.agg (encFact ((⟨(⟨(⟨#[98]⟩ : ByteArray), (⟨#[115]⟩ : ByteArray)⟩ : Role), (⟨#[100]⟩ : ByteArray)⟩ : Fact))).toArray)) rfl (load_boxA hST.has (.head _) (encFact ((⟨(⟨(⟨#[98]⟩ : ByteArray), (⟨#[115]⟩ : ByteArray)⟩ : Role), (⟨#[100]⟩ : ByteArray)⟩ : Fact))) rfl Tryz.isAgg78 Tryz.sizeOf78)) ?_
  obtain ⟨r21, hr22, hm⟩ := bind_some hm
  have hsz := hST.size
  refine LE (E_callM (args := [(.slice none 0 0), (.agg (encFact ((⟨(⟨(⟨#[98]⟩ : ByteArray), (⟨#[115]⟩ : ByteArray)⟩ : Role), (⟨#[100]⟩ : ByteArray)⟩ : Fact))).toArray)]) (caps := #[]) [] (((b4, Obj.cells ((encFact ((⟨(⟨(⟨#[98]⟩ : ByteArray), (⟨#[115]⟩ : ByteArray)⟩ : Role), (⟨#[100]⟩ : ByteArray)⟩ : Fact))).toArray : Array Value) 78 (0, 0)) :: ((b1, Obj.cells ((encCred ((⟨1, (⟨(⟨#[98]⟩ : ByteArray), (⟨#[115]⟩ : ByteArray)⟩ : Role), (⟨#[100]⟩ : ByteArray), (⟨zS, zS⟩ : Role), (⟨zS, zS⟩ : Role), zS⟩ : Cred))).toArray : Array Value) 83 (0, 0)) :: (S18 ++ [])))) hST (List.Perm.refl _) rfl Tryz.call53 (by exact args2 rfl rfl) (fun _ _ _ _ => (w_chain_Find (.slice none 0 0) ([]) ((⟨(⟨(⟨#[98]⟩ : ByteArray), (⟨#[115]⟩ : ByteArray)⟩ : Role), (⟨#[100]⟩ : ByteArray)⟩ : Fact)) _ _ (Sl.nil _ _ _) hr22)) (fun W23 v26 μ24 L28 hST hle25 hlift hK27 => ?_))
  obtain ⟨y29, S30, hv32, rfl, hy31⟩ := hK27
  replace hv32 := hv32.symm; subst hv32
  simp only [List.append_assoc, List.cons_append, List.nil_append] at hST
  replace hST : ST true NoF w _ _ ((b4, Obj.cells ((encFact ((⟨(⟨(⟨#[98]⟩ : ByteArray), (⟨#[115]⟩ : ByteArray)⟩ : Role), (⟨#[100]⟩ : ByteArray)⟩ : Fact))).toArray : Array Value) 78 (0, 0)) :: ((b1, Obj.cells ((encCred ((⟨1, (⟨(⟨#[98]⟩ : ByteArray), (⟨#[115]⟩ : ByteArray)⟩ : Role), (⟨#[100]⟩ : ByteArray), (⟨zS, zS⟩ : Role), (⟨zS, zS⟩ : Role), zS⟩ : Cred))).toArray : Array Value) 83 (0, 0)) :: (S30 ++ (S18 ++ [])))) := hST.perm (permD [S30, [(b4, Obj.cells ((encFact ((⟨(⟨(⟨#[98]⟩ : ByteArray), (⟨#[115]⟩ : ByteArray)⟩ : Role), (⟨#[100]⟩ : ByteArray)⟩ : Fact))).toArray : Array Value) 78 (0, 0))], [(b1, Obj.cells ((encCred ((⟨1, (⟨(⟨#[98]⟩ : ByteArray), (⟨#[115]⟩ : ByteArray)⟩ : Role), (⟨#[100]⟩ : ByteArray), (⟨zS, zS⟩ : Role), (⟨zS, zS⟩ : Role), zS⟩ : Cred))).toArray : Array Value) 83 (0, 0))]] [0, 1, 2] [1, 2, 0] ((S18 ++ [])) (by decide) rfl rfl)
  refine LV (R_move (v := (.tuple #[y29, (.bool r21.2)])) rfl) ?_
  refine LV (R_extract (v := y29) rfl rfl) ?_
  refine LV (R_extract (v := (.bool r21.2)) rfl rfl) ?_
  refine LV (R_assign (v := y29) rfl) ?_
  refine LV (R_assign (v := (.bool r21.2)) rfl) ?_
  refine LW_nil ?_
  refine sq_n ?_
  replace hST : ST true NoF w _ _ ((b4, Obj.cells ((encFact ((⟨(⟨(⟨#[98]⟩ : ByteArray), (⟨#[115]⟩ : ByteArray)⟩ : Role), (⟨#[100]⟩ : ByteArray)⟩ : Fact))).toArray : Array Value) 78 (0, 0)) :: ((b1, Obj.cells ((encCred ((⟨1, (⟨(⟨#[98]⟩ : ByteArray), (⟨#[115]⟩ : ByteArray)⟩ : Role), (⟨#[100]⟩ : ByteArray), (⟨zS, zS⟩ : Role), (⟨zS, zS⟩ : Role), zS⟩ : Cred))).toArray : Array Value) 83 (0, 0)) :: (S18 ++ []))) := hST.sublist (List.Sublist.cons_cons _ (List.Sublist.cons_cons _ ((List.Sublist.refl _).trans (List.sublist_append_right _ _))))
  refine CW_seq ?_
  refine PX_start (fun l W => Has μ24 ((b4, Obj.cells ((encFact ((⟨(⟨(⟨#[98]⟩ : ByteArray), (⟨#[115]⟩ : ByteArray)⟩ : Role), (⟨#[100]⟩ : ByteArray)⟩ : Fact))).toArray : Array Value) 78 (0, 0)) :: ((b1, Obj.cells ((encCred ((⟨1, (⟨(⟨#[98]⟩ : ByteArray), (⟨#[115]⟩ : ByteArray)⟩ : Role), (⟨#[100]⟩ : ByteArray), (⟨zS, zS⟩ : Role), (⟨zS, zS⟩ : Role), zS⟩ : Cred))).toArray : Array Value) 83 (0, 0)) :: (S18 ++ []))) W) Tryz_mixed ?_
  replace hST := hST.drew
  have hS0 : Has μ24 ((b4, Obj.cells ((encFact ((⟨(⟨(⟨#[98]⟩ : ByteArray), (⟨#[115]⟩ : ByteArray)⟩ : Role), (⟨#[100]⟩ : ByteArray)⟩ : Fact))).toArray : Array Value) 78 (0, 0)) :: ((b1, Obj.cells ((encCred ((⟨1, (⟨(⟨#[98]⟩ : ByteArray), (⟨#[115]⟩ : ByteArray)⟩ : Role), (⟨#[100]⟩ : ByteArray), (⟨zS, zS⟩ : Role), (⟨zS, zS⟩ : Role), zS⟩ : Cred))).toArray : Array Value) 83 (0, 0)) :: (S18 ++ []))) _ := hST.has.sub (Sub.refl _) (fun p hq => ((List.mem_cons.1 hq).elim (fun hq => by rw [hq]; exact (.head _)) (fun hq => ((List.mem_cons.1 hq).elim (fun hq => by rw [hq]; exact (.tail _ (.head _))) (fun hq => ((List.mem_append.1 hq).elim (fun hq => (.tail _ (.tail _ (List.mem_append_left _ hq)))) (fun hq => (absurd hq List.not_mem_nil))))))))
  refine PV 0 rfl hS0 (R_move (v := (.bool r9.2)) rfl) ?_
  refine PV 1 rfl hS0 (R_move (v := (.bool r9.2)) rfl) ?_
  obtain ⟨s365, hm366, hm367⟩ := bind_some hm
  refine PX_join (J := fun E W => ∃ (x258 : Bool) (L259 : List (Nat × Obj)), ST true NoF w W μ24 ((b4, Obj.cells ((encFact ((⟨(⟨(⟨#[98]⟩ : ByteArray), (⟨#[115]⟩ : ByteArray)⟩ : Role), (⟨#[100]⟩ : ByteArray)⟩ : Fact))).toArray : Array Value) 78 (0, 0)) :: ((b1, Obj.cells ((encCred ((⟨1, (⟨(⟨#[98]⟩ : ByteArray), (⟨#[115]⟩ : ByteArray)⟩ : Role), (⟨#[100]⟩ : ByteArray), (⟨zS, zS⟩ : Role), (⟨zS, zS⟩ : Role), zS⟩ : Cred))).toArray : Array Value) 83 (0, 0)) :: (S18 ++ L259))) ∧ E 0 = (.bool false) ∧ E 1 = (.pointer (some ⟨b1, 0, none⟩)) ∧ E 2 = (.pointer (some ⟨b4, 0, none⟩)) ∧ E 3 = y17 ∧ E 28 = (.bool x258) ∧ (((if x258 then some ((((r9.1.length : Int)) == 1)) else some false) : Option Bool).bind fun x267 => (((if x267 then (((idx r9.1 0)).bind fun x359 => some ((beqStep x359 ((⟨(⟨1, (⟨(⟨#[98]⟩ : ByteArray), (⟨#[115]⟩ : ByteArray)⟩ : Role), (⟨#[100]⟩ : ByteArray), (⟨zS, zS⟩ : Role), (⟨zS, zS⟩ : Role), zS⟩ : Cred), (⟨(⟨(⟨#[98]⟩ : ByteArray), (⟨#[115]⟩ : ByteArray)⟩ : Role), (⟨#[100]⟩ : ByteArray)⟩ : Fact)⟩ : Step))))) else some false) : Option Bool).bind fun x281 => (((if x281 then (((m_chain_Used r9.1)).bind fun r344 => some ((((r344.length : Int)) == 1))) else some false) : Option Bool).bind fun x297 => (((if x297 then (((m_chain_Merge ([r9.1, r9.1]))).bind fun r332 => some ((((r332.length : Int)) == 1))) else some false) : Option Bool).bind fun x318 => some x318)))) = some r) #[true, true, true, true, true, false, false, false, false, false, false, false, false, false, false, false, false, false, false, false, false, false, false, false, false, false, false, false, false, false, false, false, false, false] 29 ?_ (fun key368 => ?_)
  · rintro E W ⟨x258, L259, hST, e261, e262, e263, e264, e265, hm260⟩
    have hS0 : Has μ24 ((b4, Obj.cells ((encFact ((⟨(⟨(⟨#[98]⟩ : ByteArray), (⟨#[115]⟩ : ByteArray)⟩ : Role), (⟨#[100]⟩ : ByteArray)⟩ : Fact))).toArray : Array Value) 78 (0, 0)) :: ((b1, Obj.cells ((encCred ((⟨1, (⟨(⟨#[98]⟩ : ByteArray), (⟨#[115]⟩ : ByteArray)⟩ : Role), (⟨#[100]⟩ : ByteArray), (⟨zS, zS⟩ : Role), (⟨zS, zS⟩ : Role), zS⟩ : Cred))).toArray : Array Value) 83 (0, 0)) :: (S18 ++ []))) _ := hST.has.sub (Sub.refl _) (fun p hq => ((List.mem_cons.1 hq).elim (fun hq => by rw [hq]; exact (.head _)) (fun hq => ((List.mem_cons.1 hq).elim (fun hq => by rw [hq]; exact (.tail _ (.head _))) (fun hq => ((List.mem_append.1 hq).elim (fun hq => (.tail _ (.tail _ (List.mem_append_left _ hq)))) (fun hq => (absurd hq List.not_mem_nil))))))))
    refine PV 5 rfl hS0 (R_move (v := (.bool x258)) e265) ?_
    obtain ⟨s361, hm362, hm363⟩ := bind_some hm260
    refine PX_join (J := fun E W => ∃ (x267 : Bool) (L268 : List (Nat × Obj)), ST true NoF w W μ24 ((b4, Obj.cells ((encFact ((⟨(⟨(⟨#[98]⟩ : ByteArray), (⟨#[115]⟩ : ByteArray)⟩ : Role), (⟨#[100]⟩ : ByteArray)⟩ : Fact))).toArray : Array Value) 78 (0, 0)) :: ((b1, Obj.cells ((encCred ((⟨1, (⟨(⟨#[98]⟩ : ByteArray), (⟨#[115]⟩ : ByteArray)⟩ : Role), (⟨#[100]⟩ : ByteArray), (⟨zS, zS⟩ : Role), (⟨zS, zS⟩ : Role), zS⟩ : Cred))).toArray : Array Value) 83 (0, 0)) :: (S18 ++ L268))) ∧ E 0 = (.bool false) ∧ E 1 = (.pointer (some ⟨b1, 0, none⟩)) ∧ E 2 = (.pointer (some ⟨b4, 0, none⟩)) ∧ E 3 = y17 ∧ E 33 = (.bool x267) ∧ (((if x267 then (((idx r9.1 0)).bind fun x359 => some ((beqStep x359 ((⟨(⟨1, (⟨(⟨#[98]⟩ : ByteArray), (⟨#[115]⟩ : ByteArray)⟩ : Role), (⟨#[100]⟩ : ByteArray), (⟨zS, zS⟩ : Role), (⟨zS, zS⟩ : Role), zS⟩ : Cred), (⟨(⟨(⟨#[98]⟩ : ByteArray), (⟨#[115]⟩ : ByteArray)⟩ : Role), (⟨#[100]⟩ : ByteArray)⟩ : Fact)⟩ : Step))))) else some false) : Option Bool).bind fun x281 => (((if x281 then (((m_chain_Used r9.1)).bind fun r344 => some ((((r344.length : Int)) == 1))) else some false) : Option Bool).bind fun x297 => (((if x297 then (((m_chain_Merge ([r9.1, r9.1]))).bind fun r332 => some ((((r332.length : Int)) == 1))) else some false) : Option Bool).bind fun x318 => some x318))) = some r) #[true, true, true, true, true, true, true, true, true, true, false, false, false, false, false, false, false, false, false, false, false, false, false, false, false, false, false, false, false, false, false, false, false, false] 24 ?_ (fun key364 => ?_)
    · rintro E W ⟨x267, L268, hST, e270, e271, e272, e273, e274, hm269⟩
      have hS0 : Has μ24 ((b4, Obj.cells ((encFact ((⟨(⟨(⟨#[98]⟩ : ByteArray), (⟨#[115]⟩ : ByteArray)⟩ : Role), (⟨#[100]⟩ : ByteArray)⟩ : Fact))).toArray : Array Value) 78 (0, 0)) :: ((b1, Obj.cells ((encCred ((⟨1, (⟨(⟨#[98]⟩ : ByteArray), (⟨#[115]⟩ : ByteArray)⟩ : Role), (⟨#[100]⟩ : ByteArray), (⟨zS, zS⟩ : Role), (⟨zS, zS⟩ : Role), zS⟩ : Cred))).toArray : Array Value) 83 (0, 0)) :: (S18 ++ []))) _ := hST.has.sub (Sub.refl _) (fun p hq => ((List.mem_cons.1 hq).elim (fun hq => by rw [hq]; exact (.head _)) (fun hq => ((List.mem_cons.1 hq).elim (fun hq => by rw [hq]; exact (.tail _ (.head _))) (fun hq => ((List.mem_append.1 hq).elim (fun hq => (.tail _ (.tail _ (List.mem_append_left _ hq)))) (fun hq => (absurd hq List.not_mem_nil))))))))
      refine PV 10 rfl hS0 (R_move (v := (.bool x267)) e274) ?_
      obtain ⟨s352, hm353, hm354⟩ := bind_some hm269
      refine PX_join (J := fun E W => ∃ (x281 : Bool) (L282 : List (Nat × Obj)), ST true NoF w W μ24 ((b4, Obj.cells ((encFact ((⟨(⟨(⟨#[98]⟩ : ByteArray), (⟨#[115]⟩ : ByteArray)⟩ : Role), (⟨#[100]⟩ : ByteArray)⟩ : Fact))).toArray : Array Value) 78 (0, 0)) :: ((b1, Obj.cells ((encCred ((⟨1, (⟨(⟨#[98]⟩ : ByteArray), (⟨#[115]⟩ : ByteArray)⟩ : Role), (⟨#[100]⟩ : ByteArray), (⟨zS, zS⟩ : Role), (⟨zS, zS⟩ : Role), zS⟩ : Cred))).toArray : Array Value) 83 (0, 0)) :: (S18 ++ L282))) ∧ E 0 = (.bool false) ∧ E 3 = y17 ∧ E 42 = (.bool x281) ∧ (((if x281 then (((m_chain_Used r9.1)).bind fun r344 => some ((((r344.length : Int)) == 1))) else some false) : Option Bool).bind fun x297 => (((if x297 then (((m_chain_Merge ([r9.1, r9.1]))).bind fun r332 => some ((((r332.length : Int)) == 1))) else some false) : Option Bool).bind fun x318 => some x318)) = some r) #[true, true, true, true, true, true, true, true, true, true, true, true, true, true, true, true, true, true, true, false, false, false, false, false, false, false, false, false, false, false, false, false, false, false] 15 ?_ (fun key355 => ?_)
      · rintro E W ⟨x281, L282, hST, e284, e285, e286, hm283⟩
        have hS0 : Has μ24 ((b4, Obj.cells ((encFact ((⟨(⟨(⟨#[98]⟩ : ByteArray), (⟨#[115]⟩ : ByteArray)⟩ : Role), (⟨#[100]⟩ : ByteArray)⟩ : Fact))).toArray : Array Value) 78 (0, 0)) :: ((b1, Obj.cells ((encCred ((⟨1, (⟨(⟨#[98]⟩ : ByteArray), (⟨#[115]⟩ : ByteArray)⟩ : Role), (⟨#[100]⟩ : ByteArray), (⟨zS, zS⟩ : Role), (⟨zS, zS⟩ : Role), zS⟩ : Cred))).toArray : Array Value) 83 (0, 0)) :: (S18 ++ []))) _ := hST.has.sub (Sub.refl _) (fun p hq => ((List.mem_cons.1 hq).elim (fun hq => by rw [hq]; exact (.head _)) (fun hq => ((List.mem_cons.1 hq).elim (fun hq => by rw [hq]; exact (.tail _ (.head _))) (fun hq => ((List.mem_append.1 hq).elim (fun hq => (.tail _ (.tail _ (List.mem_append_left _ hq)))) (fun hq => (absurd hq List.not_mem_nil))))))))
        refine PV 19 rfl hS0 (R_move (v := (.bool x281)) e286) ?_
        obtain ⟨s340, hm341, hm342⟩ := bind_some hm283
        refine PX_join (J := fun E W => ∃ (x297 : Bool) (μ296 : Mem) (L298 : List (Nat × Obj)), Sub μ24 μ296 ∧ ST true NoF w W μ296 ((b4, Obj.cells ((encFact ((⟨(⟨(⟨#[98]⟩ : ByteArray), (⟨#[115]⟩ : ByteArray)⟩ : Role), (⟨#[100]⟩ : ByteArray)⟩ : Fact))).toArray : Array Value) 78 (0, 0)) :: ((b1, Obj.cells ((encCred ((⟨1, (⟨(⟨#[98]⟩ : ByteArray), (⟨#[115]⟩ : ByteArray)⟩ : Role), (⟨#[100]⟩ : ByteArray), (⟨zS, zS⟩ : Role), (⟨zS, zS⟩ : Role), zS⟩ : Cred))).toArray : Array Value) 83 (0, 0)) :: (S18 ++ L298))) ∧ E 0 = (.bool false) ∧ E 3 = y17 ∧ E 48 = (.bool x297) ∧ (((if x297 then (((m_chain_Merge ([r9.1, r9.1]))).bind fun r332 => some ((((r332.length : Int)) == 1))) else some false) : Option Bool).bind fun x318 => some x318) = some r) #[true, true, true, true, true, true, true, true, true, true, true, true, true, true, true, true, true, true, true, true, true, true, true, true, true, false, false, false, false, false, false, false, false, false] 9 ?_ (fun key343 => ?_)
        · rintro E W ⟨x297, μ296, L298, hle300, hST, e301, e302, e303, hm299⟩
          have hS0 : Has μ24 ((b4, Obj.cells ((encFact ((⟨(⟨(⟨#[98]⟩ : ByteArray), (⟨#[115]⟩ : ByteArray)⟩ : Role), (⟨#[100]⟩ : ByteArray)⟩ : Fact))).toArray : Array Value) 78 (0, 0)) :: ((b1, Obj.cells ((encCred ((⟨1, (⟨(⟨#[98]⟩ : ByteArray), (⟨#[115]⟩ : ByteArray)⟩ : Role), (⟨#[100]⟩ : ByteArray), (⟨zS, zS⟩ : Role), (⟨zS, zS⟩ : Role), zS⟩ : Cred))).toArray : Array Value) 83 (0, 0)) :: (S18 ++ []))) _ := hST.has.sub hle300 (fun p hq => ((List.mem_cons.1 hq).elim (fun hq => by rw [hq]; exact (.head _)) (fun hq => ((List.mem_cons.1 hq).elim (fun hq => by rw [hq]; exact (.tail _ (.head _))) (fun hq => ((List.mem_append.1 hq).elim (fun hq => (.tail _ (.tail _ (List.mem_append_left _ hq)))) (fun hq => (absurd hq List.not_mem_nil))))))))
          refine PV 25 rfl hS0 (R_move (v := (.bool x297)) e303) ?_
          obtain ⟨s324, hm325, hm326⟩ := bind_some hm299
          refine PX_join (J := fun E W => ∃ (x318 : Bool) (μ317 : Mem) (L319 : List (Nat × Obj)), Sub μ296 μ317 ∧ ST true NoF w W μ317 ((b4, Obj.cells ((encFact ((⟨(⟨(⟨#[98]⟩ : ByteArray), (⟨#[115]⟩ : ByteArray)⟩ : Role), (⟨#[100]⟩ : ByteArray)⟩ : Fact))).toArray : Array Value) 78 (0, 0)) :: ((b1, Obj.cells ((encCred ((⟨1, (⟨(⟨#[98]⟩ : ByteArray), (⟨#[115]⟩ : ByteArray)⟩ : Role), (⟨#[100]⟩ : ByteArray), (⟨zS, zS⟩ : Role), (⟨zS, zS⟩ : Role), zS⟩ : Cred))).toArray : Array Value) 83 (0, 0)) :: (S18 ++ L319))) ∧ E 0 = (.bool false) ∧ E 56 = (.bool x318) ∧ some x318 = some r) #[true, true, true, true, true, true, true, true, true, true, true, true, true, true, true, true, true, true, true, true, true, true, true, true, true, true, true, true, true, true, true, true, true, false] 1 ?_ (fun key327 => ?_)
          · rintro E W ⟨x318, μ317, L319, hle321, hST, e322, e323, hm320⟩
            have hS0 : Has μ24 ((b4, Obj.cells ((encFact ((⟨(⟨(⟨#[98]⟩ : ByteArray), (⟨#[115]⟩ : ByteArray)⟩ : Role), (⟨#[100]⟩ : ByteArray)⟩ : Fact))).toArray : Array Value) 78 (0, 0)) :: ((b1, Obj.cells ((encCred ((⟨1, (⟨(⟨#[98]⟩ : ByteArray), (⟨#[115]⟩ : ByteArray)⟩ : Role), (⟨#[100]⟩ : ByteArray), (⟨zS, zS⟩ : Role), (⟨zS, zS⟩ : Role), zS⟩ : Cred))).toArray : Array Value) 83 (0, 0)) :: (S18 ++ []))) _ := hST.has.sub (hle300.trans hle321) (fun p hq => ((List.mem_cons.1 hq).elim (fun hq => by rw [hq]; exact (.head _)) (fun hq => ((List.mem_cons.1 hq).elim (fun hq => by rw [hq]; exact (.tail _ (.head _))) (fun hq => ((List.mem_append.1 hq).elim (fun hq => (.tail _ (.tail _ (List.mem_append_left _ hq)))) (fun hq => (absurd hq List.not_mem_nil))))))))
            refine PV 33 rfl hS0 (R_assign (v := (.bool x318)) e323) ?_
            refine PX_done (by kernel_rfl) ?_
            refine sq_n ?_
            replace hST : ST true NoF w _ _ L319 := hST.sublist (List.Sublist.cons _ (List.Sublist.cons _ ((List.Sublist.refl _).trans (List.sublist_append_right _ _))))
            refine CW_ret ?_
            replace hm320 := Option.some.inj hm320; subst hm320
            refine retQ_1 (v := (.bool x318)) rfl rfl ?_
            exact ⟨rfl, hST.ex⟩
          · rcases bool_cases x297 with hb304 | hb304
            · replace hm325 := if_t hb304 hm325
              refine PX_v 26 rfl (by kernel_rfl) (.inr ⟨25, true, 49, rfl, rfl, by decide, (congrArg Value.bool hb304)⟩) rfl (by decide) (fun _ _ h => h) hS0 (fun _ _ _ _ => R_move (v := y17) e302) ?_
              refine PX_v 27 rfl (by kernel_rfl) (.inr ⟨25, true, 49, rfl, rfl, by decide, (congrArg Value.bool hb304)⟩) rfl (by decide) (fun _ _ h => h) hS0 (fun _ _ _ _ => R_move (v := y17) e302) ?_
              obtain ⟨A328, c329, rfl⟩ := hy19.form
              refine PX_e 28 rfl (by kernel_rfl) (.inr ⟨25, true, 49, rfl, rfl, by decide, (congrArg Value.bool hb304)⟩) rfl (by decide) (E_buildSlice (qs := #[(0, (.slice A328 r9.1.length c329)), (1, (.slice A328 r9.1.length c329))]) (cs := #[(.slice A328 r9.1.length c329), (.slice A328 r9.1.length c329)]) hST (parts2 rfl rfl) (run_lit [(.slice A328 r9.1.length c329), (.slice A328 r9.1.length c329)] Tryz.underlying91 Tryz.sizeOf79 Tryz.zeroValue79 (by decide) rfl (by intro v hv; simp only [List.mem_cons, List.not_mem_nil, or_false] at hv; rcases hv with rfl | rfl <;> rfl) rfl rfl) (fun W331 b330 hST => ?_))
              have hS0 : Has μ24 ((b4, Obj.cells ((encFact ((⟨(⟨(⟨#[98]⟩ : ByteArray), (⟨#[115]⟩ : ByteArray)⟩ : Role), (⟨#[100]⟩ : ByteArray)⟩ : Fact))).toArray : Array Value) 78 (0, 0)) :: ((b1, Obj.cells ((encCred ((⟨1, (⟨(⟨#[98]⟩ : ByteArray), (⟨#[115]⟩ : ByteArray)⟩ : Role), (⟨#[100]⟩ : ByteArray), (⟨zS, zS⟩ : Role), (⟨zS, zS⟩ : Role), zS⟩ : Cred))).toArray : Array Value) 83 (0, 0)) :: (S18 ++ []))) _ := hST.has.sub hle300 (fun p hq => ((List.mem_cons.1 hq).elim (fun hq => by rw [hq]; exact (.tail _ (.head _))) (fun hq => ((List.mem_cons.1 hq).elim (fun hq => by rw [hq]; exact (.tail _ (.tail _ (.head _)))) (fun hq => ((List.mem_append.1 hq).elim (fun hq => (.tail _ (.tail _ (.tail _ (List.mem_append_left _ hq))))) (fun hq => (absurd hq List.not_mem_nil))))))))
              refine ⟨hS0, ?_⟩
              obtain ⟨r332, hr333, hm325⟩ := bind_some hm325
              refine PX_e 29 rfl (by kernel_rfl) (.inr ⟨25, true, 49, rfl, rfl, by decide, (congrArg Value.bool hb304)⟩) rfl (by decide) (E_givesRow (args := [(.slice (some ⟨b330, 0, none⟩) 2 2)]) [_, _, _] _ hST rfl Tryz.call60 (by exact args1 rfl) ((w_chain_Merge (.slice (some ⟨b330, 0, none⟩) 2 2) ([r9.1, r9.1]) _ _ (SlR.lit (l := [r9.1, r9.1]) (vs := [(.slice A328 r9.1.length c329), (.slice A328 r9.1.length c329)]) rfl (Nat.le_of_ble_eq_true rfl) (hST.at_ (.head _)) (.cons (hy19.sl lenStep (fun b o hq => hST.at_ (.tail _ (.tail _ (.tail _ (List.mem_append_left _ hq)))))) (.cons (hy19.sl lenStep (fun b o hq => hST.at_ (.tail _ (.tail _ (.tail _ (List.mem_append_left _ hq)))))) .nil))) hr333)) (fun W334 v337 μ335 R338 hST hle336 hR339 => ?_))
              replace hST : ST true NoF w _ _ ((b330, Obj.cells (#[(.slice A328 r9.1.length c329), (.slice A328 r9.1.length c329)] : Array Value) 79 (0, 0)) :: ((b4, Obj.cells ((encFact ((⟨(⟨(⟨#[98]⟩ : ByteArray), (⟨#[115]⟩ : ByteArray)⟩ : Role), (⟨#[100]⟩ : ByteArray)⟩ : Fact))).toArray : Array Value) 78 (0, 0)) :: ((b1, Obj.cells ((encCred ((⟨1, (⟨(⟨#[98]⟩ : ByteArray), (⟨#[115]⟩ : ByteArray)⟩ : Role), (⟨#[100]⟩ : ByteArray), (⟨zS, zS⟩ : Role), (⟨zS, zS⟩ : Role), zS⟩ : Cred))).toArray : Array Value) 83 (0, 0)) :: (R338 ++ (S18 ++ L298))))) := hST
              have hS0 : Has μ24 ((b4, Obj.cells ((encFact ((⟨(⟨(⟨#[98]⟩ : ByteArray), (⟨#[115]⟩ : ByteArray)⟩ : Role), (⟨#[100]⟩ : ByteArray)⟩ : Fact))).toArray : Array Value) 78 (0, 0)) :: ((b1, Obj.cells ((encCred ((⟨1, (⟨(⟨#[98]⟩ : ByteArray), (⟨#[115]⟩ : ByteArray)⟩ : Role), (⟨#[100]⟩ : ByteArray), (⟨zS, zS⟩ : Role), (⟨zS, zS⟩ : Role), zS⟩ : Cred))).toArray : Array Value) 83 (0, 0)) :: (S18 ++ []))) _ := hST.has.sub (hle300.trans hle336) (fun p hq => ((List.mem_cons.1 hq).elim (fun hq => by rw [hq]; exact (.tail _ (.head _))) (fun hq => ((List.mem_cons.1 hq).elim (fun hq => by rw [hq]; exact (.tail _ (.tail _ (.head _)))) (fun hq => ((List.mem_append.1 hq).elim (fun hq => (.tail _ (.tail _ (.tail _ (List.mem_append_right _ (List.mem_append_left _ hq)))))) (fun hq => (absurd hq List.not_mem_nil))))))))
              refine ⟨hS0, ?_⟩
              refine PX_v 30 rfl (by kernel_rfl) (.inr ⟨25, true, 49, rfl, rfl, by decide, (congrArg Value.bool hb304)⟩) rfl (by decide) (fun _ _ h => h) hS0 (fun _ _ _ _ => R_lenRow Tryz.underlying79 rfl hR339) ?_
              refine PX_v 31 rfl (by kernel_rfl) (.inr ⟨25, true, 49, rfl, rfl, by decide, (congrArg Value.bool hb304)⟩) rfl (by decide) (fun _ _ h => h) hS0 (fun _ _ _ _ => R_int (k := .i64) (a := ((r332.length : Int))) (b := 1) (v := (.bool ((((r332.length : Int)) == 1)))) rfl rfl rfl) ?_
              refine PV 32 rfl hS0 (R_pickT (v := (.bool ((((r332.length : Int)) == 1)))) (congrArg Value.bool hb304) rfl) ?_
              replace hm325 := Option.some.inj hm325; subst hm325
              refine PX_at (by kernel_rfl) (key327 _ _ ⟨((((r332.length : Int)) == 1)), μ335, _, hle336, (hST.sublist (List.Sublist.cons _ (List.Sublist.cons_cons _ (List.Sublist.cons_cons _ ((List.Sublist.refl _).trans (List.sublist_append_right _ _)))))), e301, rfl, hm326⟩)
            · replace hm325 := if_f hb304 hm325
              refine PX_no 26 rfl (by kernel_rfl) rfl rfl (by decide) (congrArg Value.bool hb304) rfl (by decide) (fun _ _ h => h) hS0 ?_
              refine PX_no 27 rfl (by kernel_rfl) rfl rfl (by decide) (congrArg Value.bool hb304) rfl (by decide) (fun _ _ h => h) hS0 ?_
              refine PX_no 28 rfl (by kernel_rfl) rfl rfl (by decide) (congrArg Value.bool hb304) rfl (by decide) (fun _ _ h => h) hS0 ?_
              refine PX_no 29 rfl (by kernel_rfl) rfl rfl (by decide) (congrArg Value.bool hb304) rfl (by decide) (fun _ _ h => h) hS0 ?_
              refine PX_no 30 rfl (by kernel_rfl) rfl rfl (by decide) (congrArg Value.bool hb304) rfl (by decide) (fun _ _ h => h) hS0 ?_
              refine PX_no 31 rfl (by kernel_rfl) rfl rfl (by decide) (congrArg Value.bool hb304) rfl (by decide) (fun _ _ h => h) hS0 ?_
              refine PV 32 rfl hS0 (R_pickF (v := (.bool false)) (congrArg Value.bool hb304) rfl) ?_
              replace hm325 := Option.some.inj hm325; subst hm325
              refine PX_at (by kernel_rfl) (key327 _ _ ⟨false, μ296, _, (Sub.refl _), (hST.sublist (List.Sublist.refl _)), e301, rfl, hm326⟩)
        · rcases bool_cases x281 with hb287 | hb287
          · replace hm341 := if_t hb287 hm341
            refine PX_v 20 rfl (by kernel_rfl) (.inr ⟨19, true, 43, rfl, rfl, by decide, (congrArg Value.bool hb287)⟩) rfl (by decide) (fun _ _ h => h) hS0 (fun _ _ _ _ => R_move (v := y17) e285) ?_
            obtain ⟨r344, hr345, hm341⟩ := bind_some hm341
            refine PX_e 21 rfl (by kernel_rfl) (.inr ⟨19, true, 43, rfl, rfl, by decide, (congrArg Value.bool hb287)⟩) rfl (by decide) (E_givesRow (args := [y17]) [_, _] _ hST rfl Tryz.call58 (by exact args1 rfl) ((w_chain_Used y17 r9.1 _ _ (hy19.sl lenStep (fun b o hq => hST.at_ (.tail _ (.tail _ (List.mem_append_left _ hq))))) hr345)) (fun W346 v349 μ347 R350 hST hle348 hR351 => ?_))
            replace hST : ST true NoF w _ _ ((b4, Obj.cells ((encFact ((⟨(⟨(⟨#[98]⟩ : ByteArray), (⟨#[115]⟩ : ByteArray)⟩ : Role), (⟨#[100]⟩ : ByteArray)⟩ : Fact))).toArray : Array Value) 78 (0, 0)) :: ((b1, Obj.cells ((encCred ((⟨1, (⟨(⟨#[98]⟩ : ByteArray), (⟨#[115]⟩ : ByteArray)⟩ : Role), (⟨#[100]⟩ : ByteArray), (⟨zS, zS⟩ : Role), (⟨zS, zS⟩ : Role), zS⟩ : Cred))).toArray : Array Value) 83 (0, 0)) :: (R350 ++ (S18 ++ L282)))) := hST
            have hS0 : Has μ24 ((b4, Obj.cells ((encFact ((⟨(⟨(⟨#[98]⟩ : ByteArray), (⟨#[115]⟩ : ByteArray)⟩ : Role), (⟨#[100]⟩ : ByteArray)⟩ : Fact))).toArray : Array Value) 78 (0, 0)) :: ((b1, Obj.cells ((encCred ((⟨1, (⟨(⟨#[98]⟩ : ByteArray), (⟨#[115]⟩ : ByteArray)⟩ : Role), (⟨#[100]⟩ : ByteArray), (⟨zS, zS⟩ : Role), (⟨zS, zS⟩ : Role), zS⟩ : Cred))).toArray : Array Value) 83 (0, 0)) :: (S18 ++ []))) _ := hST.has.sub hle348 (fun p hq => ((List.mem_cons.1 hq).elim (fun hq => by rw [hq]; exact (.head _)) (fun hq => ((List.mem_cons.1 hq).elim (fun hq => by rw [hq]; exact (.tail _ (.head _))) (fun hq => ((List.mem_append.1 hq).elim (fun hq => (.tail _ (.tail _ (List.mem_append_right _ (List.mem_append_left _ hq))))) (fun hq => (absurd hq List.not_mem_nil))))))))
            refine ⟨hS0, ?_⟩
            refine PX_v 22 rfl (by kernel_rfl) (.inr ⟨19, true, 43, rfl, rfl, by decide, (congrArg Value.bool hb287)⟩) rfl (by decide) (fun _ _ h => h) hS0 (fun _ _ _ _ => R_lenRow Tryz.underlying22 rfl hR351) ?_
            refine PX_v 23 rfl (by kernel_rfl) (.inr ⟨19, true, 43, rfl, rfl, by decide, (congrArg Value.bool hb287)⟩) rfl (by decide) (fun _ _ h => h) hS0 (fun _ _ _ _ => R_int (k := .i64) (a := ((r344.length : Int))) (b := 1) (v := (.bool ((((r344.length : Int)) == 1)))) rfl rfl rfl) ?_
            refine PV 24 rfl hS0 (R_pickT (v := (.bool ((((r344.length : Int)) == 1)))) (congrArg Value.bool hb287) rfl) ?_
            replace hm341 := Option.some.inj hm341; subst hm341
            refine PX_at (by kernel_rfl) (key343 _ _ ⟨((((r344.length : Int)) == 1)), μ347, _, hle348, (hST.sublist (List.Sublist.cons_cons _ (List.Sublist.cons_cons _ ((List.Sublist.refl _).trans (List.sublist_append_right _ _))))), e284, e285, rfl, hm342⟩)
          · replace hm341 := if_f hb287 hm341
            refine PX_no 20 rfl (by kernel_rfl) rfl rfl (by decide) (congrArg Value.bool hb287) rfl (by decide) (fun _ _ h => h) hS0 ?_
            refine PX_no 21 rfl (by kernel_rfl) rfl rfl (by decide) (congrArg Value.bool hb287) rfl (by decide) (fun _ _ h => h) hS0 ?_
            refine PX_no 22 rfl (by kernel_rfl) rfl rfl (by decide) (congrArg Value.bool hb287) rfl (by decide) (fun _ _ h => h) hS0 ?_
            refine PX_no 23 rfl (by kernel_rfl) rfl rfl (by decide) (congrArg Value.bool hb287) rfl (by decide) (fun _ _ h => h) hS0 ?_
            refine PV 24 rfl hS0 (R_pickF (v := (.bool false)) (congrArg Value.bool hb287) rfl) ?_
            replace hm341 := Option.some.inj hm341; subst hm341
            refine PX_at (by kernel_rfl) (key343 _ _ ⟨false, μ24, _, (Sub.refl _), (hST.sublist (List.Sublist.refl _)), e284, e285, rfl, hm342⟩)
      · rcases bool_cases x267 with hb275 | hb275
        · replace hm353 := if_t hb275 hm353
          refine PX_v 11 rfl (by kernel_rfl) (.inr ⟨10, true, 34, rfl, rfl, by decide, (congrArg Value.bool hb275)⟩) rfl (by decide) (fun _ _ h => h) hS0 (fun _ _ _ _ => R_move (v := y17) e273) ?_
          obtain ⟨x359, hx360, hm353⟩ := bind_some hm353
          refine PX_q 12 rfl (by kernel_rfl) (.inr ⟨10, true, 34, rfl, rfl, by decide, (congrArg Value.bool hb275)⟩) rfl (by decide) (fun _ _ h => h) hS0 (R_indexRow (i := 0) (x0 := x359) Tryz.underlying79 Tryz.sizeOf89 rfl rfl hy19 (idx_nonneg hx360) (idx_get hx360)) (fun p356 hp357 => ?_)
          refine PX_v 13 rfl (by kernel_rfl) (.inr ⟨10, true, 34, rfl, rfl, by decide, (congrArg Value.bool hb275)⟩) rfl (by decide) (fun _ _ h => h) hS0 (fun l W hpd hs => have hS := hs; R_load (v := (.agg (encStep x359).toArray)) rfl (load_ixA hS (fun p hq => by simp [hq]) hy19 lenStep hp357 (idx_get hx360) Tryz.isAgg89 Tryz.sizeOf89)) ?_
          refine PX_v 14 rfl (by kernel_rfl) (.inr ⟨10, true, 34, rfl, rfl, by decide, (congrArg Value.bool hb275)⟩) rfl (by decide) (fun _ _ h => h) hS0 (fun l W hpd hs => have hS := hs; R_load (v := (.agg (encCred ((⟨1, (⟨(⟨#[98]⟩ : ByteArray), (⟨#[115]⟩ : ByteArray)⟩ : Role), (⟨#[100]⟩ : ByteArray), (⟨zS, zS⟩ : Role), (⟨zS, zS⟩ : Role), zS⟩ : Cred))).toArray)) e271 (load_boxA hS (.tail _ (.head _)) (encCred ((⟨1, (⟨(⟨#[98]⟩ : ByteArray), (⟨#[115]⟩ : ByteArray)⟩ : Role), (⟨#[100]⟩ : ByteArray), (⟨zS, zS⟩ : Role), (⟨zS, zS⟩ : Role), zS⟩ : Cred))) rfl Tryz.isAgg83 Tryz.sizeOf83)) ?_
          refine PX_v 15 rfl (by kernel_rfl) (.inr ⟨10, true, 34, rfl, rfl, by decide, (congrArg Value.bool hb275)⟩) rfl (by decide) (fun _ _ h => h) hS0 (fun l W hpd hs => have hS := hs; R_load (v := (.agg (encFact ((⟨(⟨(⟨#[98]⟩ : ByteArray), (⟨#[115]⟩ : ByteArray)⟩ : Role), (⟨#[100]⟩ : ByteArray)⟩ : Fact))).toArray)) e272 (load_boxA hS (.head _) (encFact ((⟨(⟨(⟨#[98]⟩ : ByteArray), (⟨#[115]⟩ : ByteArray)⟩ : Role), (⟨#[100]⟩ : ByteArray)⟩ : Fact))) rfl Tryz.isAgg78 Tryz.sizeOf78)) ?_
          refine PX_v 16 rfl (by kernel_rfl) (.inr ⟨10, true, 34, rfl, rfl, by decide, (congrArg Value.bool hb275)⟩) rfl (by decide) (fun _ _ h => h) hS0 (fun _ _ _ _ => R_build (qs := #[(0, (.agg (encCred ((⟨1, (⟨(⟨#[98]⟩ : ByteArray), (⟨#[115]⟩ : ByteArray)⟩ : Role), (⟨#[100]⟩ : ByteArray), (⟨zS, zS⟩ : Role), (⟨zS, zS⟩ : Role), zS⟩ : Cred))).toArray)), (1, (.agg (encFact ((⟨(⟨(⟨#[98]⟩ : ByteArray), (⟨#[115]⟩ : ByteArray)⟩ : Role), (⟨#[100]⟩ : ByteArray)⟩ : Fact))).toArray))]) (v := (.agg (encStep ((⟨(⟨1, (⟨(⟨#[98]⟩ : ByteArray), (⟨#[115]⟩ : ByteArray)⟩ : Role), (⟨#[100]⟩ : ByteArray), (⟨zS, zS⟩ : Role), (⟨zS, zS⟩ : Role), zS⟩ : Cred), (⟨(⟨(⟨#[98]⟩ : ByteArray), (⟨#[115]⟩ : ByteArray)⟩ : Role), (⟨#[100]⟩ : ByteArray)⟩ : Fact)⟩ : Step))).toArray)) (parts2 rfl rfl) (run_build Tryz.zeroValue89 Tryz.underlying89 (pl89 _ Tryz.underlying89) (by kernel_rfl))) ?_
          refine PX_v 17 rfl (by kernel_rfl) (.inr ⟨10, true, 34, rfl, rfl, by decide, (congrArg Value.bool hb275)⟩) rfl (by decide) (fun _ _ h => h) hS0 (fun _ _ _ _ => R_eql (a := (encStep x359).toArray) (b := (encStep ((⟨(⟨1, (⟨(⟨#[98]⟩ : ByteArray), (⟨#[115]⟩ : ByteArray)⟩ : Role), (⟨#[100]⟩ : ByteArray), (⟨zS, zS⟩ : Role), (⟨zS, zS⟩ : Role), zS⟩ : Cred), (⟨(⟨(⟨#[98]⟩ : ByteArray), (⟨#[115]⟩ : ByteArray)⟩ : Role), (⟨#[100]⟩ : ByteArray)⟩ : Fact)⟩ : Step))).toArray) rfl rfl (guard_agg Tryz.eqGuardType89) (bin_eql (eqInStep _ x359 ((⟨(⟨1, (⟨(⟨#[98]⟩ : ByteArray), (⟨#[115]⟩ : ByteArray)⟩ : Role), (⟨#[100]⟩ : ByteArray), (⟨zS, zS⟩ : Role), (⟨zS, zS⟩ : Role), zS⟩ : Cred), (⟨(⟨(⟨#[98]⟩ : ByteArray), (⟨#[115]⟩ : ByteArray)⟩ : Role), (⟨#[100]⟩ : ByteArray)⟩ : Fact)⟩ : Step))))) ?_
          refine PV 18 rfl hS0 (R_pickT (v := (.bool ((beqStep x359 ((⟨(⟨1, (⟨(⟨#[98]⟩ : ByteArray), (⟨#[115]⟩ : ByteArray)⟩ : Role), (⟨#[100]⟩ : ByteArray), (⟨zS, zS⟩ : Role), (⟨zS, zS⟩ : Role), zS⟩ : Cred), (⟨(⟨(⟨#[98]⟩ : ByteArray), (⟨#[115]⟩ : ByteArray)⟩ : Role), (⟨#[100]⟩ : ByteArray)⟩ : Fact)⟩ : Step)))))) (congrArg Value.bool hb275) rfl) ?_
          replace hm353 := Option.some.inj hm353; subst hm353
          refine PX_at (by kernel_rfl) (key355 _ _ ⟨((beqStep x359 ((⟨(⟨1, (⟨(⟨#[98]⟩ : ByteArray), (⟨#[115]⟩ : ByteArray)⟩ : Role), (⟨#[100]⟩ : ByteArray), (⟨zS, zS⟩ : Role), (⟨zS, zS⟩ : Role), zS⟩ : Cred), (⟨(⟨(⟨#[98]⟩ : ByteArray), (⟨#[115]⟩ : ByteArray)⟩ : Role), (⟨#[100]⟩ : ByteArray)⟩ : Fact)⟩ : Step)))), _, (hST.sublist (List.Sublist.refl _)), e270, e273, rfl, hm354⟩)
        · replace hm353 := if_f hb275 hm353
          refine PX_no 11 rfl (by kernel_rfl) rfl rfl (by decide) (congrArg Value.bool hb275) rfl (by decide) (fun _ _ h => h) hS0 ?_
          refine PX_no 12 rfl (by kernel_rfl) rfl rfl (by decide) (congrArg Value.bool hb275) rfl (by decide) (fun _ _ h => h) hS0 ?_
          refine PX_no 13 rfl (by kernel_rfl) rfl rfl (by decide) (congrArg Value.bool hb275) rfl (by decide) (fun _ _ h => h) hS0 ?_
          refine PX_no 14 rfl (by kernel_rfl) rfl rfl (by decide) (congrArg Value.bool hb275) rfl (by decide) (fun _ _ h => h) hS0 ?_
          refine PX_no 15 rfl (by kernel_rfl) rfl rfl (by decide) (congrArg Value.bool hb275) rfl (by decide) (fun _ _ h => h) hS0 ?_
          refine PX_no 16 rfl (by kernel_rfl) rfl rfl (by decide) (congrArg Value.bool hb275) rfl (by decide) (fun _ _ h => h) hS0 ?_
          refine PX_no 17 rfl (by kernel_rfl) rfl rfl (by decide) (congrArg Value.bool hb275) rfl (by decide) (fun _ _ h => h) hS0 ?_
          refine PV 18 rfl hS0 (R_pickF (v := (.bool false)) (congrArg Value.bool hb275) rfl) ?_
          replace hm353 := Option.some.inj hm353; subst hm353
          refine PX_at (by kernel_rfl) (key355 _ _ ⟨false, _, (hST.sublist (List.Sublist.refl _)), e270, e273, rfl, hm354⟩)
    · rcases bool_cases x258 with hb266 | hb266
      · replace hm362 := if_t hb266 hm362
        refine PX_v 6 rfl (by kernel_rfl) (.inr ⟨5, true, 29, rfl, rfl, by decide, (congrArg Value.bool hb266)⟩) rfl (by decide) (fun _ _ h => h) hS0 (fun _ _ _ _ => R_move (v := y17) e264) ?_
        refine PX_v 7 rfl (by kernel_rfl) (.inr ⟨5, true, 29, rfl, rfl, by decide, (congrArg Value.bool hb266)⟩) rfl (by decide) (fun _ _ h => h) hS0 (fun _ _ _ _ => R_lenRow Tryz.underlying79 rfl hy19) ?_
        refine PX_v 8 rfl (by kernel_rfl) (.inr ⟨5, true, 29, rfl, rfl, by decide, (congrArg Value.bool hb266)⟩) rfl (by decide) (fun _ _ h => h) hS0 (fun _ _ _ _ => R_int (k := .i64) (a := ((r9.1.length : Int))) (b := 1) (v := (.bool ((((r9.1.length : Int)) == 1)))) rfl rfl rfl) ?_
        refine PV 9 rfl hS0 (R_pickT (v := (.bool ((((r9.1.length : Int)) == 1)))) (congrArg Value.bool hb266) rfl) ?_
        replace hm362 := Option.some.inj hm362; subst hm362
        refine PX_at (by kernel_rfl) (key364 _ _ ⟨((((r9.1.length : Int)) == 1)), _, (hST.sublist (List.Sublist.refl _)), e261, e262, e263, e264, rfl, hm363⟩)
      · replace hm362 := if_f hb266 hm362
        refine PX_no 6 rfl (by kernel_rfl) rfl rfl (by decide) (congrArg Value.bool hb266) rfl (by decide) (fun _ _ h => h) hS0 ?_
        refine PX_no 7 rfl (by kernel_rfl) rfl rfl (by decide) (congrArg Value.bool hb266) rfl (by decide) (fun _ _ h => h) hS0 ?_
        refine PX_no 8 rfl (by kernel_rfl) rfl rfl (by decide) (congrArg Value.bool hb266) rfl (by decide) (fun _ _ h => h) hS0 ?_
        refine PV 9 rfl hS0 (R_pickF (v := (.bool false)) (congrArg Value.bool hb266) rfl) ?_
        replace hm362 := Option.some.inj hm362; subst hm362
        refine PX_at (by kernel_rfl) (key364 _ _ ⟨false, _, (hST.sublist (List.Sublist.refl _)), e261, e262, e263, e264, rfl, hm363⟩)
  · rcases bool_cases r9.2 with hb257 | hb257
    · replace hm366 := if_t hb257 hm366
      refine PX_v 2 rfl (by kernel_rfl) (.inr ⟨1, true, 25, rfl, rfl, by decide, (congrArg Value.bool hb257)⟩) rfl (by decide) (fun _ _ h => h) hS0 (fun _ _ _ _ => R_move (v := (.bool r21.2)) rfl) ?_
      refine PX_v 3 rfl (by kernel_rfl) (.inr ⟨1, true, 25, rfl, rfl, by decide, (congrArg Value.bool hb257)⟩) rfl (by decide) (fun _ _ h => h) hS0 (fun _ _ _ _ => R_not (b := r21.2) rfl) ?_
      refine PV 4 rfl hS0 (R_pickT (v := (.bool ((!r21.2)))) (congrArg Value.bool hb257) rfl) ?_
      replace hm366 := Option.some.inj hm366; subst hm366
      refine PX_at (by kernel_rfl) (key368 _ _ ⟨((!r21.2)), _, (hST.sublist (List.Sublist.refl _)), rfl, rfl, rfl, rfl, rfl, hm367⟩)
    · replace hm366 := if_f hb257 hm366
      refine PX_no 2 rfl (by kernel_rfl) rfl rfl (by decide) (congrArg Value.bool hb257) rfl (by decide) (fun _ _ h => h) hS0 ?_
      refine PX_no 3 rfl (by kernel_rfl) rfl rfl (by decide) (congrArg Value.bool hb257) rfl (by decide) (fun _ _ h => h) hS0 ?_
      refine PV 4 rfl hS0 (R_pickF (v := (.bool false)) (congrArg Value.bool hb257) rfl) ?_
      replace hm366 := Option.some.inj hm366; subst hm366
      refine PX_at (by kernel_rfl) (key368 _ _ ⟨false, _, (hST.sublist (List.Sublist.refl _)), rfl, rfl, rfl, rfl, rfl, hm367⟩)
theorem w_law05_Great (v_a0 : Value) (a0 : List Cred) (r : Int) (w : World) (h_a0 : Sl (Pl encCred) 9 (hp w) v_a0 a0) (hm : m_law05_Great a0 = some r) :
    Gives true Tryz.prog 16 [v_a0] w (.int .i64 r) := by
  have hST := ST.start (dd := true) w
  unfold m_law05_Great at hm
  refine calls_of_CW (n := 54) Tryz.func16 rfl rfl (Nat.le_of_ble_eq_true rfl) ?_
  refine CW_seq ?_
  refine CW_region ?_
  refine LV (R_assign (v := (.int .i64 0)) rfl) ?_
  refine LW_nil ?_
  refine sq_n ?_
  refine CW_seq ?_
  refine CW_region ?_
  refine LV (R_assign (v := (.int .i64 0)) rfl) ?_
  refine LW_nil ?_
  refine sq_n ?_
  refine CW_seq ?_
  refine CW_seq ?_
  refine CW_region ?_
  refine LV (R_move (v := v_a0) rfl) ?_
  refine LV (R_len Tryz.underlying22 rfl h_a0) ?_
  refine LV (R_move (v := (.int .i64 0)) rfl) ?_
  refine LW_nil ?_
  refine sq_n ?_
  refine CW_range (fun i E W => ∃ (x47 : Int) (L57 : List (Nat × Obj)), (E 8 = .int .i64 (i : Nat) ∧ E 7 = .int .i64 (a0.length : Nat)) ∧ ST true NoF w W (hp w) L57 ∧ E 3 = (.int .i64 x47) ∧ E 6 = v_a0 ∧ m_law05_Great_L1 (a0.drop i) x47 = some r) a0.length h_a0.len ⟨0, _, ⟨rfl, rfl⟩, (hST.sublist (List.Sublist.refl _)), rfl, rfl, hm⟩ (by decide) (by decide) (by decide) (fun _ _ _ h => by obtain ⟨_, _, eIN, _⟩ := h; exact eIN) ?_ ?_
  · rintro i34 E W hi40 ⟨x47, L57, ⟨eI, eN⟩, hST, e59, e60, hm58⟩
    obtain ⟨x35, xs36, hx38, hx37, hx39⟩ := drop_cons hi40
    rw [hx38] at hm58
    rw [m_law05_Great_L1] at hm58
    refine CW_block ?_
    refine CW_seq ?_
    refine CW_region ?_
    refine LQ (R_indexP (enc := encCred) (i := (i34 : Int)) (x0 := x35) Tryz.underlying22 Tryz.sizeOf83 e60 eI h_a0 (Int.natCast_nonneg _) hx37) (fun p61 hp62 => ?_)
    refine LV (R_load rfl (load_atA hST.has hp62 Tryz.isAgg83 Tryz.sizeOf83)) ?_
    refine LE (E_alloc hST Tryz.zeroValue83 (fun W65 b64 hST => ?_))
    refine LW_e0 (.inl rfl) rfl (E_store [] (.agg (encCred x35).toArray) ((encCred x35).toArray) hST rfl rfl Tryz.sizeOf83 (oneCred x35) (Nat.le_of_ble_eq_true rfl) rfl (fun W66 hST => ?_))
    refine LW_nil ?_
    refine sq_n ?_
    refine CW_region ?_
    refine LV (R_move (v := (.int .i64 x47)) e59) ?_
    refine LV (R_field fa83_1 rfl) ?_
    refine LV (R_field fa47_0 rfl) ?_
    refine LV (R_load (v := (.string x35.Head.Owner)) rfl (load_box1 hST.has (.head _) rfl Tryz.isAgg9)) ?_
    refine LV (R_lenStr (s := x35.Head.Owner) Tryz.underlying9 rfl) ?_
    refine LV (R_int (k := .i64) (a := 20) (b := ((x35.Head.Owner.size : Int))) (v := (.int .i64 ((IntKind.i64.wrap (20 + ((x35.Head.Owner.size : Int))))))) rfl rfl rfl) ?_
    refine LV (R_field fa83_1 rfl) ?_
    refine LV (R_field fa47_1 rfl) ?_
    refine LV (R_load (v := (.string x35.Head.Word)) rfl (load_box1 hST.has (.head _) rfl Tryz.isAgg9)) ?_
    refine LV (R_lenStr (s := x35.Head.Word) Tryz.underlying9 rfl) ?_
    refine LV (R_int (k := .i64) (a := ((IntKind.i64.wrap (20 + ((x35.Head.Owner.size : Int)))))) (b := ((x35.Head.Word.size : Int))) (v := (.int .i64 ((IntKind.i64.wrap (((IntKind.i64.wrap (20 + ((x35.Head.Owner.size : Int))))) + ((x35.Head.Word.size : Int))))))) rfl rfl rfl) ?_
    refine LV (R_field fa83_2 rfl) ?_
    refine LV (R_load (v := (.string x35.Who)) rfl (load_box1 hST.has (.head _) rfl Tryz.isAgg9)) ?_
    refine LV (R_lenStr (s := x35.Who) Tryz.underlying9 rfl) ?_
    refine LV (R_int (k := .i64) (a := ((IntKind.i64.wrap (((IntKind.i64.wrap (20 + ((x35.Head.Owner.size : Int))))) + ((x35.Head.Word.size : Int)))))) (b := ((x35.Who.size : Int))) (v := (.int .i64 ((IntKind.i64.wrap (((IntKind.i64.wrap (((IntKind.i64.wrap (20 + ((x35.Head.Owner.size : Int))))) + ((x35.Head.Word.size : Int))))) + ((x35.Who.size : Int))))))) rfl rfl rfl) ?_
    refine LV (R_field fa83_3 rfl) ?_
    refine LV (R_field fa47_0 rfl) ?_
    refine LV (R_load (v := (.string x35.B.Owner)) rfl (load_box1 hST.has (.head _) rfl Tryz.isAgg9)) ?_
    refine LV (R_lenStr (s := x35.B.Owner) Tryz.underlying9 rfl) ?_
    refine LV (R_int (k := .i64) (a := ((IntKind.i64.wrap (((IntKind.i64.wrap (((IntKind.i64.wrap (20 + ((x35.Head.Owner.size : Int))))) + ((x35.Head.Word.size : Int))))) + ((x35.Who.size : Int)))))) (b := ((x35.B.Owner.size : Int))) (v := (.int .i64 ((IntKind.i64.wrap (((IntKind.i64.wrap (((IntKind.i64.wrap (((IntKind.i64.wrap (20 + ((x35.Head.Owner.size : Int))))) + ((x35.Head.Word.size : Int))))) + ((x35.Who.size : Int))))) + ((x35.B.Owner.size : Int))))))) rfl rfl rfl) ?_
    refine LV (R_field fa83_3 rfl) ?_
    refine LV (R_field fa47_1 rfl) ?_
    refine LV (R_load (v := (.string x35.B.Word)) rfl (load_box1 hST.has (.head _) rfl Tryz.isAgg9)) ?_
    refine LV (R_lenStr (s := x35.B.Word) Tryz.underlying9 rfl) ?_
    refine LV (R_int (k := .i64) (a := ((IntKind.i64.wrap (((IntKind.i64.wrap (((IntKind.i64.wrap (((IntKind.i64.wrap (20 + ((x35.Head.Owner.size : Int))))) + ((x35.Head.Word.size : Int))))) + ((x35.Who.size : Int))))) + ((x35.B.Owner.size : Int)))))) (b := ((x35.B.Word.size : Int))) (v := (.int .i64 ((IntKind.i64.wrap (((IntKind.i64.wrap (((IntKind.i64.wrap (((IntKind.i64.wrap (((IntKind.i64.wrap (20 + ((x35.Head.Owner.size : Int))))) + ((x35.Head.Word.size : Int))))) + ((x35.Who.size : Int))))) + ((x35.B.Owner.size : Int))))) + ((x35.B.Word.size : Int))))))) rfl rfl rfl) ?_
    refine LV (R_field fa83_4 rfl) ?_
    refine LV (R_field fa47_0 rfl) ?_
    refine LV (R_load (v := (.string x35.C.Owner)) rfl (load_box1 hST.has (.head _) rfl Tryz.isAgg9)) ?_
    refine LV (R_lenStr (s := x35.C.Owner) Tryz.underlying9 rfl) ?_
    refine LV (R_int (k := .i64) (a := ((IntKind.i64.wrap (((IntKind.i64.wrap (((IntKind.i64.wrap (((IntKind.i64.wrap (((IntKind.i64.wrap (20 + ((x35.Head.Owner.size : Int))))) + ((x35.Head.Word.size : Int))))) + ((x35.Who.size : Int))))) + ((x35.B.Owner.size : Int))))) + ((x35.B.Word.size : Int)))))) (b := ((x35.C.Owner.size : Int))) (v := (.int .i64 ((IntKind.i64.wrap (((IntKind.i64.wrap (((IntKind.i64.wrap (((IntKind.i64.wrap (((IntKind.i64.wrap (((IntKind.i64.wrap (20 + ((x35.Head.Owner.size : Int))))) + ((x35.Head.Word.size : Int))))) + ((x35.Who.size : Int))))) + ((x35.B.Owner.size : Int))))) + ((x35.B.Word.size : Int))))) + ((x35.C.Owner.size : Int))))))) rfl rfl rfl) ?_
    refine LV (R_field fa83_4 rfl) ?_
    refine LV (R_field fa47_1 rfl) ?_
    refine LV (R_load (v := (.string x35.C.Word)) rfl (load_box1 hST.has (.head _) rfl Tryz.isAgg9)) ?_
    refine LV (R_lenStr (s := x35.C.Word) Tryz.underlying9 rfl) ?_
    refine LV (R_int (k := .i64) (a := ((IntKind.i64.wrap (((IntKind.i64.wrap (((IntKind.i64.wrap (((IntKind.i64.wrap (((IntKind.i64.wrap (((IntKind.i64.wrap (20 + ((x35.Head.Owner.size : Int))))) + ((x35.Head.Word.size : Int))))) + ((x35.Who.size : Int))))) + ((x35.B.Owner.size : Int))))) + ((x35.B.Word.size : Int))))) + ((x35.C.Owner.size : Int)))))) (b := ((x35.C.Word.size : Int))) (v := (.int .i64 ((IntKind.i64.wrap (((IntKind.i64.wrap (((IntKind.i64.wrap (((IntKind.i64.wrap (((IntKind.i64.wrap (((IntKind.i64.wrap (((IntKind.i64.wrap (20 + ((x35.Head.Owner.size : Int))))) + ((x35.Head.Word.size : Int))))) + ((x35.Who.size : Int))))) + ((x35.B.Owner.size : Int))))) + ((x35.B.Word.size : Int))))) + ((x35.C.Owner.size : Int))))) + ((x35.C.Word.size : Int))))))) rfl rfl rfl) ?_
    refine LV (R_field fa83_5 rfl) ?_
    refine LV (R_load (v := (.string x35.Word2)) rfl (load_box1 hST.has (.head _) rfl Tryz.isAgg9)) ?_
    refine LV (R_lenStr (s := x35.Word2) Tryz.underlying9 rfl) ?_
    refine LV (R_int (k := .i64) (a := ((IntKind.i64.wrap (((IntKind.i64.wrap (((IntKind.i64.wrap (((IntKind.i64.wrap (((IntKind.i64.wrap (((IntKind.i64.wrap (((IntKind.i64.wrap (20 + ((x35.Head.Owner.size : Int))))) + ((x35.Head.Word.size : Int))))) + ((x35.Who.size : Int))))) + ((x35.B.Owner.size : Int))))) + ((x35.B.Word.size : Int))))) + ((x35.C.Owner.size : Int))))) + ((x35.C.Word.size : Int)))))) (b := ((x35.Word2.size : Int))) (v := (.int .i64 ((IntKind.i64.wrap (((IntKind.i64.wrap (((IntKind.i64.wrap (((IntKind.i64.wrap (((IntKind.i64.wrap (((IntKind.i64.wrap (((IntKind.i64.wrap (((IntKind.i64.wrap (20 + ((x35.Head.Owner.size : Int))))) + ((x35.Head.Word.size : Int))))) + ((x35.Who.size : Int))))) + ((x35.B.Owner.size : Int))))) + ((x35.B.Word.size : Int))))) + ((x35.C.Owner.size : Int))))) + ((x35.C.Word.size : Int))))) + ((x35.Word2.size : Int))))))) rfl rfl rfl) ?_
    refine LV (R_int (k := .i64) (a := x47) (b := ((IntKind.i64.wrap (((IntKind.i64.wrap (((IntKind.i64.wrap (((IntKind.i64.wrap (((IntKind.i64.wrap (((IntKind.i64.wrap (((IntKind.i64.wrap (((IntKind.i64.wrap (20 + ((x35.Head.Owner.size : Int))))) + ((x35.Head.Word.size : Int))))) + ((x35.Who.size : Int))))) + ((x35.B.Owner.size : Int))))) + ((x35.B.Word.size : Int))))) + ((x35.C.Owner.size : Int))))) + ((x35.C.Word.size : Int))))) + ((x35.Word2.size : Int)))))) (v := (.int .i64 ((IntKind.i64.wrap (x47 + ((IntKind.i64.wrap (((IntKind.i64.wrap (((IntKind.i64.wrap (((IntKind.i64.wrap (((IntKind.i64.wrap (((IntKind.i64.wrap (((IntKind.i64.wrap (((IntKind.i64.wrap (20 + ((x35.Head.Owner.size : Int))))) + ((x35.Head.Word.size : Int))))) + ((x35.Who.size : Int))))) + ((x35.B.Owner.size : Int))))) + ((x35.B.Word.size : Int))))) + ((x35.C.Owner.size : Int))))) + ((x35.C.Word.size : Int))))) + ((x35.Word2.size : Int)))))))))) rfl rfl rfl) ?_
    refine LV (R_assign (v := (.int .i64 ((IntKind.i64.wrap (x47 + ((IntKind.i64.wrap (((IntKind.i64.wrap (((IntKind.i64.wrap (((IntKind.i64.wrap (((IntKind.i64.wrap (((IntKind.i64.wrap (((IntKind.i64.wrap (((IntKind.i64.wrap (20 + ((x35.Head.Owner.size : Int))))) + ((x35.Head.Word.size : Int))))) + ((x35.Who.size : Int))))) + ((x35.B.Owner.size : Int))))) + ((x35.B.Word.size : Int))))) + ((x35.C.Owner.size : Int))))) + ((x35.C.Word.size : Int))))) + ((x35.Word2.size : Int)))))))))) rfl) ?_
    refine LW_nil ?_
    refine bq_n ?_
    refine sq_n ?_
    replace hST : ST true NoF w _ _ ((b64, Obj.cells ((encCred x35).toArray : Array Value) 83 (0, 0)) :: L57) := hST
    replace hST : ST true NoF w _ _ L57 := hST.sublist (List.Sublist.cons _ (List.Sublist.refl _))
    exact ⟨eI, ((IntKind.i64.wrap (x47 + ((IntKind.i64.wrap (((IntKind.i64.wrap (((IntKind.i64.wrap (((IntKind.i64.wrap (((IntKind.i64.wrap (((IntKind.i64.wrap (((IntKind.i64.wrap (((IntKind.i64.wrap (20 + ((x35.Head.Owner.size : Int))))) + ((x35.Head.Word.size : Int))))) + ((x35.Who.size : Int))))) + ((x35.B.Owner.size : Int))))) + ((x35.B.Word.size : Int))))) + ((x35.C.Owner.size : Int))))) + ((x35.C.Word.size : Int))))) + ((x35.Word2.size : Int)))))))), _, ⟨rfl, eN⟩, (hST.sublist (List.Sublist.refl _)), rfl, e60, (by rw [hx39]; exact hm58)⟩
  · rintro E W ⟨x47, L57, ⟨eI, eN⟩, hST, e59, e60, hm58⟩
    rw [List.drop_length] at hm58
    rw [m_law05_Great_L1] at hm58
    refine sq_n ?_
    refine CW_seq ?_
    refine CW_region ?_
    refine LV (R_move (v := (.int .i64 x47)) e59) ?_
    refine LV (R_assign (v := (.int .i64 x47)) rfl) ?_
    refine LW_nil ?_
    refine sq_n ?_
    refine CW_ret ?_
    replace hm58 := Option.some.inj hm58; subst hm58
    refine retQ_1 (v := (.int .i64 x47)) rfl rfl ?_
    exact ⟨rfl, hST.ex⟩
theorem w_slices_Index_Cred (v_a0 : Value) (a0 : List Cred) (a1 : Cred) (r : Int) (w : World) (h_a0 : Sl (Pl encCred) 9 (hp w) v_a0 a0) (hm : m_slices_Index_Cred a0 a1 = some r) :
    Gives true Tryz.prog 186 [v_a0, (.agg (encCred a1).toArray)] w (.int .i64 r) := by
  have hST := ST.start (dd := true) w
  unfold m_slices_Index_Cred at hm
  refine calls_of_CW (n := 19) Tryz.func186 rfl rfl (Nat.le_of_ble_eq_true rfl) ?_
  refine CW_seq ?_
  refine CW_region ?_
  refine LE (E_box (v := (.agg (encCred a1).toArray)) hST rfl (fun W2 b1 hST => ?_))
  refine LV (R_assign (v := (.int .i64 0)) rfl) ?_
  refine LW_nil ?_
  refine sq_n ?_
  refine CW_seq ?_
  refine CW_seq ?_
  refine CW_region ?_
  refine LV (R_move (v := v_a0) rfl) ?_
  refine LV (R_len Tryz.underlying22 rfl h_a0) ?_
  refine LV (R_move (v := (.int .i64 0)) rfl) ?_
  refine LW_nil ?_
  refine sq_n ?_
  refine CW_range (fun i E W => ∃  (L75 : List (Nat × Obj)), (E 8 = .int .i64 (i : Nat) ∧ E 7 = .int .i64 (a0.length : Nat)) ∧ ST true NoF w W (hp w) ((b1, Obj.cells ((encCred a1).toArray : Array Value) 83 (0, 0)) :: L75) ∧ E 0 = v_a0 ∧ E 3 = (.pointer (some ⟨b1, 0, none⟩)) ∧ m_slices_Index_Cred_L1 a1 (a0.drop i) i = some r) a0.length h_a0.len ⟨_, ⟨rfl, rfl⟩, (hST.sublist (List.Sublist.refl _)), rfl, rfl, hm⟩ (by decide) (by decide) (by decide) (fun _ _ _ h => by obtain ⟨_, eIN, _⟩ := h; exact eIN) ?_ ?_
  · rintro i46 E W hi52 ⟨L75, ⟨eI, eN⟩, hST, e77, e78, hm76⟩
    obtain ⟨x47, xs48, hx50, hx49, hx51⟩ := drop_cons hi52
    rw [hx50] at hm76
    rw [m_slices_Index_Cred_L1] at hm76
    refine CW_block ?_
    refine CW_seq ?_
    refine CW_region ?_
    refine LV (R_move (v := (.int .i64 ((i46 : Int)))) eI) ?_
    refine LV (R_assign (v := (.int .i64 ((i46 : Int)))) rfl) ?_
    refine LW_nil ?_
    refine sq_n ?_
    refine CW_seq ?_
    refine PX_start (fun l W => Has (hp w) ((b1, Obj.cells ((encCred a1).toArray : Array Value) 83 (0, 0)) :: []) W) Tryz_mixed ?_
    replace hST := hST.drew
    have hS0 : Has (hp w) ((b1, Obj.cells ((encCred a1).toArray : Array Value) 83 (0, 0)) :: []) _ := hST.has.sub (Sub.refl _) (fun p hq => ((List.mem_cons.1 hq).elim (fun hq => by rw [hq]; exact (.head _)) (fun hq => (absurd hq List.not_mem_nil))))
    refine PX_v 0 rfl (by kernel_rfl) (.inl rfl) rfl (by decide) (fun _ _ h => h) hS0 (fun l W hpd hs => have hS := hs; R_load (v := (.agg (encCred a1).toArray)) e78 (load_boxA hS (.head _) (encCred a1) rfl Tryz.isAgg83 Tryz.sizeOf83)) ?_
    refine PV 1 rfl hS0 (R_move (v := v_a0) e77) ?_
    refine PV 2 rfl hS0 (R_move (v := (.int .i64 ((i46 : Int)))) rfl) ?_
    refine PX_q 3 rfl (by kernel_rfl) (.inl rfl) rfl (by decide) (fun _ _ h => h) hS0 (R_indexP (enc := encCred) (i := (i46 : Int)) (x0 := x47) Tryz.underlying22 Tryz.sizeOf83 rfl rfl h_a0 (Int.natCast_nonneg _) hx49) (fun p85 hp86 => ?_)
    refine PX_v 4 rfl (by kernel_rfl) (.inl rfl) rfl (by decide) (fun _ _ h => h) hS0 (fun l W hpd hs => have hS := hs; R_load rfl (load_atA hS hp86 Tryz.isAgg83 Tryz.sizeOf83)) ?_
    refine PV 5 rfl hS0 (R_eql (a := (encCred a1).toArray) (b := (encCred x47).toArray) rfl rfl (guard_agg Tryz.eqGuardType83) (bin_eql (eqInCred _ a1 x47))) ?_
    refine PX_done (by kernel_rfl) ?_
    refine sq_n ?_
    refine CW_if (b := (beqCred a1 x47)) rfl (fun hb88 => ?_) (fun hb88 => ?_)
    · replace hm76 := if_t hb88 hm76
      refine CW_seq ?_
      refine CW_region ?_
      refine LV (R_move (v := (.int .i64 ((i46 : Int)))) rfl) ?_
      refine LV (R_assign (v := (.int .i64 ((i46 : Int)))) rfl) ?_
      refine LW_nil ?_
      refine sq_n ?_
      replace hST : ST true NoF w _ _ L75 := hST.sublist (List.Sublist.cons _ (List.Sublist.refl _))
      refine CW_ret ?_
      refine bq_r (sq_r (bq_r (sq_r ?_)))
      replace hm76 := Option.some.inj hm76; subst hm76
      refine retQ_1 (v := (.int .i64 ((i46 : Int)))) rfl rfl ?_
      exact ⟨rfl, hST.ex⟩
    · replace hm76 := if_f hb88 hm76
      refine CW_skip ?_
      refine bq_n ?_
      refine sq_n ?_
      exact ⟨eI, _, ⟨rfl, eN⟩, (hST.sublist (List.Sublist.refl _)), e77, e78, (by rw [hx51]; exact hm76)⟩
  · rintro E W ⟨L75, ⟨eI, eN⟩, hST, e77, e78, hm76⟩
    rw [List.drop_length] at hm76
    rw [m_slices_Index_Cred_L1] at hm76
    refine sq_n ?_
    replace hST : ST true NoF w _ _ L75 := hST.sublist (List.Sublist.cons _ (List.Sublist.refl _))
    refine CW_seq ?_
    refine CW_region ?_
    refine LV (R_assign (v := (.int .i64 ((-1)))) rfl) ?_
    refine LW_nil ?_
    refine sq_n ?_
    refine CW_ret ?_
    replace hm76 := Option.some.inj hm76; subst hm76
    refine retQ_1 (v := (.int .i64 ((-1)))) rfl rfl ?_
    exact ⟨rfl, hST.ex⟩
theorem w_slices_Contains_Cred (v_a0 : Value) (a0 : List Cred) (a1 : Cred) (r : Bool) (w : World) (h_a0 : Sl (Pl encCred) 9 (hp w) v_a0 a0) (hm : m_slices_Contains_Cred a0 a1 = some r) :
    Gives true Tryz.prog 145 [v_a0, (.agg (encCred a1).toArray)] w (.bool r) := by
  have hST := ST.start (dd := true) w
  unfold m_slices_Contains_Cred at hm
  refine calls_of_CW (n := 9) Tryz.func145 rfl rfl (Nat.le_of_ble_eq_true rfl) ?_
  refine CW_seq ?_
  refine CW_region ?_
  refine LE (E_box (v := (.agg (encCred a1).toArray)) hST rfl (fun W2 b1 hST => ?_))
  refine LV (R_assign (v := (.bool false)) rfl) ?_
  refine LW_nil ?_
  refine sq_n ?_
  refine CW_seq ?_
  refine CW_region ?_
  refine LV (R_move (v := v_a0) rfl) ?_
  refine LV (R_load (v := (.agg (encCred a1).toArray)) rfl (load_boxA hST.has (.head _) (encCred a1) rfl Tryz.isAgg83 Tryz.sizeOf83)) ?_
  obtain ⟨r3, hr4, hm⟩ := bind_some hm
  refine LE (E_gives (args := [v_a0, (.agg (encCred a1).toArray)]) hST rfl Tryz.call186 (by exact args2 rfl rfl) ((w_slices_Index_Cred v_a0 a0 a1 _ _ (h_a0.mono (Pl.mono _) hST.sub_hp) hr4)) (fun W5 hST => ?_))
  refine LV (R_int (k := .i64) (a := r3) (b := 0) (v := (.bool ((decide (r3 ≥ 0))))) rfl rfl rfl) ?_
  refine LV (R_assign (v := (.bool ((decide (r3 ≥ 0))))) rfl) ?_
  refine LW_nil ?_
  refine sq_n ?_
  replace hST : ST true NoF w _ _ [] := hST.sublist (List.Sublist.cons _ (List.Sublist.refl _))
  refine CW_ret ?_
  replace hm := Option.some.inj hm; subst hm
  refine retQ_1 (v := (.bool ((decide (r3 ≥ 0))))) rfl rfl ?_
  exact ⟨rfl, hST.ex⟩
theorem w_cred_Has (v_a0 : Value) (a0 : List Cred) (a1 : Cred) (r : Bool) (w : World) (h_a0 : Sl (Pl encCred) 9 (hp w) v_a0 a0) (hm : m_cred_Has a0 a1 = some r) :
    Gives true Tryz.prog 99 [v_a0, (.agg (encCred a1).toArray)] w (.bool r) := by
  have hST := ST.start (dd := true) w
  unfold m_cred_Has at hm
  refine calls_of_CW (n := 8) Tryz.func99 rfl rfl (Nat.le_of_ble_eq_true rfl) ?_
  refine CW_seq ?_
  refine CW_region ?_
  refine LE (E_box (v := (.agg (encCred a1).toArray)) hST rfl (fun W2 b1 hST => ?_))
  refine LV (R_assign (v := (.bool false)) rfl) ?_
  refine LW_nil ?_
  refine sq_n ?_
  refine CW_seq ?_
  refine CW_region ?_
  refine LV (R_move (v := v_a0) rfl) ?_
  refine LV (R_load (v := (.agg (encCred a1).toArray)) rfl (load_boxA hST.has (.head _) (encCred a1) rfl Tryz.isAgg83 Tryz.sizeOf83)) ?_
  obtain ⟨r3, hr4, hm⟩ := bind_some hm
  refine LE (E_gives (args := [v_a0, (.agg (encCred a1).toArray)]) hST rfl Tryz.call145 (by exact args2 rfl rfl) ((w_slices_Contains_Cred v_a0 a0 a1 _ _ (h_a0.mono (Pl.mono _) hST.sub_hp) hr4)) (fun W5 hST => ?_))
  refine LV (R_assign (v := (.bool r3)) rfl) ?_
  refine LW_nil ?_
  refine sq_n ?_
  replace hST : ST true NoF w _ _ [] := hST.sublist (List.Sublist.cons _ (List.Sublist.refl _))
  refine CW_ret ?_
  replace hm := Option.some.inj hm; subst hm
  refine retQ_1 (v := (.bool r3)) rfl rfl ?_
  exact ⟨rfl, hST.ex⟩
theorem w_check_Check (v_a0 : Value) (a0 : List Step) (v_a1 : Value) (a1 : List Cred) (a2 : Fact) (r : (Int × Int)) (w : World) (h_a0 : Sl (Pl encStep) 12 (hp w) v_a0 a0) (h_a1 : Sl (Pl encCred) 9 (hp w) v_a1 a1) (hm : m_check_Check a0 a1 a2 = some r) :
    Gives true Tryz.prog 62 [v_a0, v_a1, (.agg (encFact a2).toArray)] w (.tuple #[(.int .i64 r.1), (.int .i64 r.2)]) := by
  have hST := ST.start (dd := true) w
  unfold m_check_Check at hm
  refine calls_of_CW (n := 43) Tryz.func62 rfl rfl (Nat.le_of_ble_eq_true rfl) ?_
  refine CW_seq ?_
  refine CW_region ?_
  refine LE (E_box (v := (.agg (encFact a2).toArray)) hST rfl (fun W2 b1 hST => ?_))
  refine LV (R_assign (v := (.int .i64 0)) rfl) ?_
  refine LV (R_assign (v := (.int .i64 0)) rfl) ?_
  refine LW_nil ?_
  refine sq_n ?_
  refine CW_seq ?_
  refine CW_region ?_
  refine LV (R_move (v := v_a0) rfl) ?_
  obtain ⟨r3, hr4, hm⟩ := bind_some hm
  refine LE (E_givesRow (args := [v_a0]) [_] _ hST rfl Tryz.call115 (by exact args1 rfl) ((w_check_facts v_a0 a0 _ _ (h_a0.mono (Pl.mono _) hST.sub_hp) hr4)) (fun W5 v8 μ6 R9 hST hle7 hR10 => ?_))
  refine LV (R_assign (v := v8) rfl) ?_
  refine LW_nil ?_
  refine sq_n ?_
  refine CW_seq ?_
  refine CW_seq ?_
  refine CW_region ?_
  refine LV (R_move (v := v_a0) rfl) ?_
  refine LV (R_len Tryz.underlying79 rfl h_a0) ?_
  refine LV (R_move (v := (.int .i64 0)) rfl) ?_
  refine LW_nil ?_
  refine sq_n ?_
  replace hST : ST true NoF w _ _ ((b1, Obj.cells ((encFact a2).toArray : Array Value) 78 (0, 0)) :: (R9 ++ [])) := hST
  refine CW_range (fun i E W => ∃  (L557 : List (Nat × Obj)), (E 15 = .int .i64 (i : Nat) ∧ E 14 = .int .i64 (a0.length : Nat)) ∧ ST true NoF w W μ6 ((b1, Obj.cells ((encFact a2).toArray : Array Value) 78 (0, 0)) :: (R9 ++ L557)) ∧ E 0 = v_a0 ∧ E 1 = v_a1 ∧ E 5 = (.pointer (some ⟨b1, 0, none⟩)) ∧ E 8 = v8 ∧ E 13 = v_a0 ∧ m_check_Check_L1 a1 r3 a2 a0 (a0.drop i) i = some r) a0.length h_a0.len ⟨_, ⟨rfl, rfl⟩, (hST.sublist (List.Sublist.refl _)), rfl, rfl, rfl, rfl, rfl, hm⟩ (by decide) (by decide) (by decide) (fun _ _ _ h => by obtain ⟨_, eIN, _⟩ := h; exact eIN) ?_ ?_
  · rintro i339 E W hi345 ⟨L557, ⟨eI, eN⟩, hST, e559, e560, e561, e562, e563, hm558⟩
    obtain ⟨x340, xs341, hx343, hx342, hx344⟩ := drop_cons hi345
    rw [hx343] at hm558
    rw [m_check_Check_L1] at hm558
    refine CW_block ?_
    refine CW_seq ?_
    refine CW_region ?_
    refine LV (R_move (v := (.int .i64 ((i339 : Int)))) eI) ?_
    refine LQ (R_indexP (enc := encStep) (i := (i339 : Int)) (x0 := x340) Tryz.underlying79 Tryz.sizeOf89 e563 eI (h_a0.mono (Pl.mono _) hle7) (Int.natCast_nonneg _) hx342) (fun p564 hp565 => ?_)
    refine LV (R_load rfl (load_atA hST.has hp565 Tryz.isAgg89 Tryz.sizeOf89)) ?_
    refine LE (E_alloc hST Tryz.zeroValue89 (fun W568 b567 hST => ?_))
    refine LV (R_assign (v := (.int .i64 ((i339 : Int)))) rfl) ?_
    refine LW_e0 (.inl rfl) rfl (E_store [] (.agg (encStep x340).toArray) ((encStep x340).toArray) hST rfl rfl Tryz.sizeOf89 (oneStep x340) (Nat.le_of_ble_eq_true rfl) rfl (fun W569 hST => ?_))
    refine LW_nil ?_
    refine sq_n ?_
    refine CW_seq ?_
    refine PX_start (fun l W => Has μ6 ((b567, Obj.cells ((encStep x340).toArray : Array Value) 89 (0, 0)) :: []) W) Tryz_mixed ?_
    replace hST := hST.drew
    replace hST : ST true NoF w _ _ ((b567, Obj.cells ((encStep x340).toArray : Array Value) 89 (0, 0)) :: ((b1, Obj.cells ((encFact a2).toArray : Array Value) 78 (0, 0)) :: (R9 ++ L557))) := hST
    have hS0 : Has μ6 ((b567, Obj.cells ((encStep x340).toArray : Array Value) 89 (0, 0)) :: []) _ := hST.has.sub (Sub.refl _) (fun p hq => ((List.mem_cons.1 hq).elim (fun hq => by rw [hq]; exact (.head _)) (fun hq => (absurd hq List.not_mem_nil))))
    refine PV 0 rfl hS0 (R_move (v := v_a1) e560) ?_
    refine PV 1 rfl hS0 (R_field fa89_0 rfl) ?_
    refine PX_v 2 rfl (by kernel_rfl) (.inl rfl) rfl (by decide) (fun _ _ h => h) hS0 (fun l W hpd hs => have hS := hs; R_load (v := (.agg (encCred x340.Cred).toArray)) rfl (load_boxA hS (.head _) (encCred x340.Cred) rfl Tryz.isAgg83 Tryz.sizeOf83)) ?_
    obtain ⟨r634, hr635, hm558⟩ := bind_some hm558
    refine PX_e 3 rfl (by kernel_rfl) (.inl rfl) rfl (by decide) (E_gives (args := [v_a1, (.agg (encCred x340.Cred).toArray)]) hST rfl Tryz.call99 (by exact args2 rfl rfl) ((w_cred_Has v_a1 a1 x340.Cred _ _ (h_a1.mono (Pl.mono _) (hle7.trans hST.sub_hp)) hr635)) (fun W636 hST => ?_))
    have hS0 : Has μ6 ((b567, Obj.cells ((encStep x340).toArray : Array Value) 89 (0, 0)) :: []) _ := hST.has.sub (Sub.refl _) (fun p hq => ((List.mem_cons.1 hq).elim (fun hq => by rw [hq]; exact (.head _)) (fun hq => (absurd hq List.not_mem_nil))))
    refine ⟨hS0, ?_⟩
    refine PV 4 rfl hS0 (R_not (b := r634) rfl) ?_
    refine PV 5 rfl hS0 (R_move (v := (.bool ((!r634)))) rfl) ?_
    obtain ⟨s657, hm658, hm659⟩ := bind_some hm558
    refine PX_join (J := fun E W => ∃ (x644 : Bool) (L645 : List (Nat × Obj)), ST true NoF w W μ6 ((b567, Obj.cells ((encStep x340).toArray : Array Value) 89 (0, 0)) :: ((b1, Obj.cells ((encFact a2).toArray : Array Value) 78 (0, 0)) :: (R9 ++ L645))) ∧ E 0 = v_a0 ∧ E 1 = v_a1 ∧ E 5 = (.pointer (some ⟨b1, 0, none⟩)) ∧ E 8 = v8 ∧ E 9 = (.int .i64 ((i339 : Int))) ∧ E 13 = v_a0 ∧ E 14 = (.int .i64 ((a0.length : Int))) ∧ E 15 = (.int .i64 ((i339 : Int))) ∧ E 32 = (.bool x644) ∧ (if x644 then some ((i339 : Int), 50) else (m_check_Check_L1 a1 r3 a2 a0 xs341 (i339 + 1))) = some r) #[true, true, true, true, true, true, true, true, true, true, true, true, true] 0 ?_ (fun key660 => ?_)
    · rintro E W ⟨x644, L645, hST, e647, e648, e649, e650, e651, e652, e653, e654, e655, hm646⟩
      have hS0 : Has μ6 ((b567, Obj.cells ((encStep x340).toArray : Array Value) 89 (0, 0)) :: []) _ := hST.has.sub (Sub.refl _) (fun p hq => ((List.mem_cons.1 hq).elim (fun hq => by rw [hq]; exact (.head _)) (fun hq => (absurd hq List.not_mem_nil))))
      refine PX_done (by kernel_rfl) ?_
      refine sq_n ?_
      replace hST : ST true NoF w _ _ ((b1, Obj.cells ((encFact a2).toArray : Array Value) 78 (0, 0)) :: (R9 ++ L645)) := hST.sublist (List.Sublist.cons _ (List.Sublist.refl _))
      refine CW_if (b := x644) e655 (fun hb656 => ?_) (fun hb656 => ?_)
      · replace hm646 := if_t hb656 hm646
        refine CW_seq ?_
        refine CW_region ?_
        refine LV (R_move (v := (.int .i64 ((i339 : Int)))) e651) ?_
        refine LV (R_assign (v := (.int .i64 ((i339 : Int)))) rfl) ?_
        refine LV (R_assign (v := (.int .i64 50)) rfl) ?_
        refine LW_nil ?_
        refine sq_n ?_
        replace hST : ST true NoF w _ _ L645 := hST.sublist (List.Sublist.cons _ ((List.Sublist.refl _).trans (List.sublist_append_right _ _)))
        refine CW_ret ?_
        refine bq_r (sq_r (bq_r (sq_r ?_)))
        replace hm646 := Option.some.inj hm646; subst hm646
        refine retQ_2 (v := (.int .i64 ((i339 : Int)))) (u := (.int .i64 50)) rfl rfl rfl ?_
        exact ⟨rfl, hST.ex⟩
      · replace hm646 := if_f hb656 hm646
        refine CW_skip ?_
        refine bq_n ?_
        refine sq_n ?_
        exact ⟨e654, _, ⟨rfl, e653⟩, (hST.sublist (List.Sublist.refl _)), e647, e648, e649, e650, e652, (by rw [hx344]; exact hm646)⟩
    · rcases bool_cases ((!r634)) with hb637 | hb637
      · replace hm658 := if_t hb637 hm658
        refine PX_no 6 rfl (by kernel_rfl) rfl rfl (by decide) (congrArg Value.bool hb637) rfl (by decide) (fun _ _ h => h) hS0 ?_
        refine PX_no 7 rfl (by kernel_rfl) rfl rfl (by decide) (congrArg Value.bool hb637) rfl (by decide) (fun _ _ h => h) hS0 ?_
        refine PX_no 8 rfl (by kernel_rfl) rfl rfl (by decide) (congrArg Value.bool hb637) rfl (by decide) (fun _ _ h => h) hS0 ?_
        refine PX_no 9 rfl (by kernel_rfl) rfl rfl (by decide) (congrArg Value.bool hb637) rfl (by decide) (fun _ _ h => h) hS0 ?_
        refine PX_no 10 rfl (by kernel_rfl) rfl rfl (by decide) (congrArg Value.bool hb637) rfl (by decide) (fun _ _ h => h) hS0 ?_
        refine PX_no 11 rfl (by kernel_rfl) rfl rfl (by decide) (congrArg Value.bool hb637) rfl (by decide) (fun _ _ h => h) hS0 ?_
        refine PV 12 rfl hS0 (R_pickT (v := (.bool true)) (congrArg Value.bool hb637) rfl) ?_
        replace hm658 := Option.some.inj hm658; subst hm658
        refine PX_at (by kernel_rfl) (key660 _ _ ⟨true, _, (hST.sublist (List.Sublist.refl _)), e559, e560, e561, e562, rfl, e563, eN, eI, rfl, hm659⟩)
      · replace hm658 := if_f hb637 hm658
        refine PX_v 6 rfl (by kernel_rfl) (.inr ⟨5, false, 25, rfl, rfl, by decide, (congrArg Value.bool hb637)⟩) rfl (by decide) (fun _ _ h => h) hS0 (fun l W hpd hs => have hS := hs; R_load (v := (.agg (encStep x340).toArray)) rfl (load_boxA hS (.head _) (encStep x340) rfl Tryz.isAgg89 Tryz.sizeOf89)) ?_
        refine PX_v 7 rfl (by kernel_rfl) (.inr ⟨5, false, 25, rfl, rfl, by decide, (congrArg Value.bool hb637)⟩) rfl (by decide) (fun _ _ h => h) hS0 (fun _ _ _ _ => R_move (v := v8) e562) ?_
        refine PX_v 8 rfl (by kernel_rfl) (.inr ⟨5, false, 25, rfl, rfl, by decide, (congrArg Value.bool hb637)⟩) rfl (by decide) (fun _ _ h => h) hS0 (fun _ _ _ _ => R_move (v := (.int .i64 ((i339 : Int)))) rfl) ?_
        obtain ⟨_, hg663, hm658⟩ := bind_some hm658
        refine PX_q 9 rfl (by kernel_rfl) (.inr ⟨5, false, 25, rfl, rfl, by decide, (congrArg Value.bool hb637)⟩) rfl (by decide) (fun _ _ h => h) hS0 (R_sliceTo (i := (i339 : Int)) Tryz.underlying53 Tryz.sizeOf78 rfl rfl hR10 lenFact (chk_1 hg663) (chk_2 hg663)) (fun v661 hs662 => ?_)
        obtain ⟨r664, hr665, hm658⟩ := bind_some hm658
        refine PX_e 10 rfl (by kernel_rfl) (.inr ⟨5, false, 25, rfl, rfl, by decide, (congrArg Value.bool hb637)⟩) rfl (by decide) (E_gives (args := [(.agg (encStep x340).toArray), v661]) hST rfl Tryz.call116 (by exact args2 rfl rfl) ((w_check_Follows x340 v661 ((r3.take (Int.toNat ((i339 : Int))))) _ _ (hs662.sl lenFact (fun b o hq => hST.at_ (.tail _ (.tail _ (List.mem_append_left _ hq))))) hr665)) (fun W666 hST => ?_))
        have hS0 : Has μ6 ((b567, Obj.cells ((encStep x340).toArray : Array Value) 89 (0, 0)) :: []) _ := hST.has.sub (Sub.refl _) (fun p hq => ((List.mem_cons.1 hq).elim (fun hq => by rw [hq]; exact (.head _)) (fun hq => (absurd hq List.not_mem_nil))))
        refine ⟨hS0, ?_⟩
        refine PX_v 11 rfl (by kernel_rfl) (.inr ⟨5, false, 25, rfl, rfl, by decide, (congrArg Value.bool hb637)⟩) rfl (by decide) (fun _ _ h => h) hS0 (fun _ _ _ _ => R_not (b := r664) rfl) ?_
        refine PV 12 rfl hS0 (R_pickF (v := (.bool ((!r664)))) (congrArg Value.bool hb637) rfl) ?_
        replace hm658 := Option.some.inj hm658; subst hm658
        refine PX_at (by kernel_rfl) (key660 _ _ ⟨((!r664)), _, (hST.sublist (List.Sublist.refl _)), e559, e560, e561, e562, rfl, e563, eN, eI, rfl, hm659⟩)
  · rintro E W ⟨L557, ⟨eI, eN⟩, hST, e559, e560, e561, e562, e563, hm558⟩
    rw [List.drop_length] at hm558
    rw [m_check_Check_L1] at hm558
    refine sq_n ?_
    refine CW_seq ?_
    refine CW_seq ?_
    refine CW_region ?_
    refine LV (R_move (v := v8) e562) ?_
    refine LV (R_load (v := (.agg (encFact a2).toArray)) e561 (load_boxA hST.has (.head _) (encFact a2) rfl Tryz.isAgg78 Tryz.sizeOf78)) ?_
    obtain ⟨r667, hr668, hm558⟩ := bind_some hm558
    refine LE (E_gives (args := [v8, (.agg (encFact a2).toArray)]) hST rfl Tryz.call117 (by exact args2 rfl rfl) ((w_slices_Contains_Fact v8 r3 a2 _ _ (hR10.sl lenFact (fun b o hq => hST.at_ (.tail _ (List.mem_append_left _ hq)))) hr668)) (fun W669 hST => ?_))
    refine LV (R_not (b := r667) rfl) ?_
    refine LW_nil ?_
    refine sq_n ?_
    replace hST : ST true NoF w _ _ L557 := hST.sublist (List.Sublist.cons _ ((List.Sublist.refl _).trans (List.sublist_append_right _ _)))
    refine CW_if (b := (!r667)) rfl (fun hb670 => ?_) (fun hb670 => ?_)
    · replace hm558 := if_t hb670 hm558
      refine CW_seq ?_
      refine CW_region ?_
      refine LV (R_move (v := v_a0) e559) ?_
      refine LV (R_len Tryz.underlying79 rfl h_a0) ?_
      refine LV (R_assign (v := (.int .i64 ((a0.length : Int)))) rfl) ?_
      refine LV (R_assign (v := (.int .i64 42)) rfl) ?_
      refine LW_nil ?_
      refine sq_n ?_
      refine CW_ret ?_
      refine sq_r ?_
      replace hm558 := Option.some.inj hm558; subst hm558
      refine retQ_2 (v := (.int .i64 ((a0.length : Int)))) (u := (.int .i64 42)) rfl rfl rfl ?_
      exact ⟨rfl, hST.ex⟩
    · replace hm558 := if_f hb670 hm558
      refine CW_skip ?_
      refine sq_n ?_
      refine CW_seq ?_
      refine CW_region ?_
      refine LV (R_move (v := v_a0) e559) ?_
      refine LV (R_len Tryz.underlying79 rfl h_a0) ?_
      refine LV (R_assign (v := (.int .i64 ((a0.length : Int)))) rfl) ?_
      refine LV (R_assign (v := (.int .i64 0)) rfl) ?_
      refine LW_nil ?_
      refine sq_n ?_
      refine CW_ret ?_
      replace hm558 := Option.some.inj hm558; subst hm558
      refine retQ_2 (v := (.int .i64 ((a0.length : Int)))) (u := (.int .i64 0)) rfl rfl rfl ?_
      exact ⟨rfl, hST.ex⟩
theorem w_law10_ChainStands (v_a0 : Value) (a0 : List Cred) (v_a1 : Value) (a1 : List Fact) (r : Bool) (w : World) (h_a0 : Sl (Pl encCred) 9 (hp w) v_a0 a0) (h_a1 : Sl (Pl encFact) 3 (hp w) v_a1 a1) (hm : m_law10_ChainStands a0 a1 = some r) :
    Gives true Tryz.prog 11 [v_a0, v_a1] w (.bool r) := by
  have hST := ST.start (dd := true) w
  unfold m_law10_ChainStands at hm
  refine calls_of_CW (n := 84) Tryz.func11 rfl rfl (Nat.le_of_ble_eq_true rfl) ?_
  refine CW_seq ?_
  refine CW_region ?_
  refine LV (R_assign (v := (.bool false)) rfl) ?_
  refine LW_nil ?_
  refine sq_n ?_
  refine CW_seq ?_
  refine CW_seq ?_
  refine CW_region ?_
  obtain ⟨r1, hr2, hm⟩ := bind_some hm
  refine LE (E_gives (args := []) hST rfl Tryz.call52 (by exact args0 ) ((w_law10_first  _ _  hr2)) (fun W3 hST => ?_))
  refine LV (R_not (b := r1) rfl) ?_
  refine LW_nil ?_
  refine sq_n ?_
  refine CW_if (b := (!r1)) rfl (fun hb4 => ?_) (fun hb4 => ?_)
  · replace hm := if_t hb4 hm
    refine CW_seq ?_
    refine CW_region ?_
    refine LV (R_assign (v := (.bool false)) rfl) ?_
    refine LW_nil ?_
    refine sq_n ?_
    refine CW_ret ?_
    refine sq_r ?_
    replace hm := Option.some.inj hm; subst hm
    refine retQ_1 (v := (.bool false)) rfl rfl ?_
    exact ⟨rfl, hST.ex⟩
  · replace hm := if_f hb4 hm
    refine CW_skip ?_
    refine sq_n ?_
    refine CW_seq ?_
    refine CW_seq ?_
    refine CW_region ?_
    refine LV (R_move (v := v_a0) rfl) ?_
    obtain ⟨r5, hr6, hm⟩ := bind_some hm
    refine LE (E_gives (args := [v_a0]) hST rfl Tryz.call16 (by exact args1 rfl) ((w_law05_Great v_a0 a0 _ _ (h_a0.mono (Pl.mono _) hST.sub_hp) hr6)) (fun W7 hST => ?_))
    refine LV (R_int (k := .i64) (a := r5) (b := 1000) (v := (.bool ((decide (r5 > 1000))))) rfl rfl rfl) ?_
    refine LV (R_move (v := (.bool ((decide (r5 > 1000))))) rfl) ?_
    obtain ⟨s390, hm391, hm392⟩ := bind_some hm
    refine LW_join (J := fun E W => ∃ (x9 : Bool) (L10 : List (Nat × Obj)), ST true NoF w W (hp w) L10 ∧ E 0 = v_a0 ∧ E 1 = v_a1 ∧ E 25 = (.bool x9) ∧ (if x9 then some true else m_law10_ChainStands_L1 a0 a1 ([])) = some r) 4 ?_ (fun key393 => ?_)
    · rintro E W ⟨x9, L10, hST, e12, e13, e14, hm11⟩
      refine LW_nil ?_
      refine sq_n ?_
      refine CW_if (b := x9) e14 (fun hb15 => ?_) (fun hb15 => ?_)
      · replace hm11 := if_t hb15 hm11
        refine CW_seq ?_
        refine CW_region ?_
        refine LV (R_assign (v := (.bool true)) rfl) ?_
        refine LW_nil ?_
        refine sq_n ?_
        refine CW_ret ?_
        refine sq_r ?_
        replace hm11 := Option.some.inj hm11; subst hm11
        refine retQ_1 (v := (.bool true)) rfl rfl ?_
        exact ⟨rfl, hST.ex⟩
      · replace hm11 := if_f hb15 hm11
        refine CW_skip ?_
        refine sq_n ?_
        refine CW_seq ?_
        refine CW_region ?_
        refine LV (R_assign (v := (.slice none 0 0)) rfl) ?_
        refine LW_nil ?_
        refine sq_n ?_
        refine CW_seq ?_
        refine CW_seq ?_
        refine CW_region ?_
        refine LV (R_move (v := v_a1) e13) ?_
        refine LV (R_len Tryz.underlying53 rfl h_a1) ?_
        refine LV (R_move (v := (.int .i64 0)) rfl) ?_
        refine LW_nil ?_
        refine sq_n ?_
        refine CW_range (fun i E W => ∃ (v199 : Value) (l200 : List Step) (R202 : List (Nat × Obj)) (μ198 : Mem) (L250 : List (Nat × Obj)), (E 28 = .int .i64 (i : Nat) ∧ E 27 = .int .i64 (a1.length : Nat)) ∧ Sub (hp w) μ198 ∧ ST true NoF w W μ198 (R202 ++ L250) ∧ E 0 = v_a0 ∧ E 5 = v199 ∧ E 26 = v_a1 ∧ Row 89 encStep 12 v199 l200 R202 ∧ m_law10_ChainStands_L1 a0 (a1.drop i) l200 = some r) a1.length h_a1.len ⟨(.slice none 0 0), ([]), [], (hp w), _, ⟨rfl, rfl⟩, (Sub.refl _), (hST.sublist (List.Sublist.refl _)), e12, rfl, rfl, (Row.nil _ _ _), hm11⟩ (by decide) (by decide) (by decide) (fun _ _ _ h => by obtain ⟨_, _, _, _, _, eIN, _⟩ := h; exact eIN) ?_ ?_
        · rintro i155 E W hi161 ⟨v199, l200, R202, μ198, L250, ⟨eI, eN⟩, hle252, hST, e253, e254, e255, hs201, hm251⟩
          obtain ⟨x156, xs157, hx159, hx158, hx160⟩ := drop_cons hi161
          rw [hx159] at hm251
          rw [m_law10_ChainStands_L1] at hm251
          refine CW_block ?_
          refine CW_seq ?_
          refine CW_region ?_
          refine LQ (R_indexP (enc := encFact) (i := (i155 : Int)) (x0 := x156) Tryz.underlying53 Tryz.sizeOf78 e255 eI (h_a1.mono (Pl.mono _) hle252) (Int.natCast_nonneg _) hx158) (fun p256 hp257 => ?_)
          refine LV (R_load rfl (load_atA hST.has hp257 Tryz.isAgg78 Tryz.sizeOf78)) ?_
          refine LE (E_alloc hST Tryz.zeroValue78 (fun W260 b259 hST => ?_))
          refine LW_e0 (.inl rfl) rfl (E_store [] (.agg (encFact x156).toArray) ((encFact x156).toArray) hST rfl rfl Tryz.sizeOf78 (oneFact x156) (Nat.le_of_ble_eq_true rfl) rfl (fun W261 hST => ?_))
          refine LW_nil ?_
          refine sq_n ?_
          refine CW_seq ?_
          refine CW_seq ?_
          refine CW_region ?_
          refine LV (R_field fa78_1 rfl) ?_
          refine LV (R_load (v := (.string x156.Who)) rfl (load_box1 hST.has (.head _) rfl Tryz.isAgg9)) ?_
          refine LV (R_lenStr (s := x156.Who) Tryz.underlying9 rfl) ?_
          refine LV (R_field fa78_0 rfl) ?_
          refine LV (R_field fa47_0 rfl) ?_
          refine LV (R_load (v := (.string x156.Role.Owner)) rfl (load_box1 hST.has (.head _) rfl Tryz.isAgg9)) ?_
          refine LV (R_lenStr (s := x156.Role.Owner) Tryz.underlying9 rfl) ?_
          refine LV (R_int (k := .i64) (a := ((x156.Who.size : Int))) (b := ((x156.Role.Owner.size : Int))) (v := (.int .i64 ((IntKind.i64.wrap (((x156.Who.size : Int)) + ((x156.Role.Owner.size : Int))))))) rfl rfl rfl) ?_
          refine LV (R_field fa78_0 rfl) ?_
          refine LV (R_field fa47_1 rfl) ?_
          refine LV (R_load (v := (.string x156.Role.Word)) rfl (load_box1 hST.has (.head _) rfl Tryz.isAgg9)) ?_
          refine LV (R_lenStr (s := x156.Role.Word) Tryz.underlying9 rfl) ?_
          refine LV (R_int (k := .i64) (a := ((IntKind.i64.wrap (((x156.Who.size : Int)) + ((x156.Role.Owner.size : Int)))))) (b := ((x156.Role.Word.size : Int))) (v := (.int .i64 ((IntKind.i64.wrap (((IntKind.i64.wrap (((x156.Who.size : Int)) + ((x156.Role.Owner.size : Int))))) + ((x156.Role.Word.size : Int))))))) rfl rfl rfl) ?_
          refine LV (R_int (k := .i64) (a := ((IntKind.i64.wrap (((IntKind.i64.wrap (((x156.Who.size : Int)) + ((x156.Role.Owner.size : Int))))) + ((x156.Role.Word.size : Int)))))) (b := 200) (v := (.bool ((decide (((IntKind.i64.wrap (((IntKind.i64.wrap (((x156.Who.size : Int)) + ((x156.Role.Owner.size : Int))))) + ((x156.Role.Word.size : Int))))) > 200))))) rfl rfl rfl) ?_
          refine LW_nil ?_
          refine sq_n ?_
          refine CW_if (b := (decide (((IntKind.i64.wrap (((IntKind.i64.wrap (((x156.Who.size : Int)) + ((x156.Role.Owner.size : Int))))) + ((x156.Role.Word.size : Int))))) > 200))) rfl (fun hb262 => ?_) (fun hb262 => ?_)
          · replace hm251 := if_t hb262 hm251
            refine CW_seq ?_
            refine CW_region ?_
            refine LV (R_assign (v := (.bool true)) rfl) ?_
            refine LW_nil ?_
            refine sq_n ?_
            replace hST : ST true NoF w _ _ ((b259, Obj.cells ((encFact x156).toArray : Array Value) 78 (0, 0)) :: (R202 ++ L250)) := hST
            replace hST : ST true NoF w _ _ L250 := hST.sublist (List.Sublist.cons _ ((List.Sublist.refl _).trans (List.sublist_append_right _ _)))
            refine CW_ret ?_
            refine sq_r (bq_r (sq_r (bq_r (sq_r ?_))))
            replace hm251 := Option.some.inj hm251; subst hm251
            refine retQ_1 (v := (.bool true)) rfl rfl ?_
            exact ⟨rfl, hST.ex⟩
          · replace hm251 := if_f hb262 hm251
            refine CW_skip ?_
            refine sq_n ?_
            refine CW_seq ?_
            refine CW_region ?_
            refine LV (R_move (v := v_a0) e253) ?_
            refine LV (R_load (v := (.agg (encFact x156).toArray)) rfl (load_boxA hST.has (.head _) (encFact x156) rfl Tryz.isAgg78 Tryz.sizeOf78)) ?_
            replace hST : ST true NoF w _ _ ((b259, Obj.cells ((encFact x156).toArray : Array Value) 78 (0, 0)) :: (R202 ++ L250)) := hST
            obtain ⟨r263, hr264, hm251⟩ := bind_some hm251
            have hsz := hST.size
            refine LE (E_callM (args := [v_a0, (.agg (encFact x156).toArray)]) (caps := #[]) [] (((b259, Obj.cells ((encFact x156).toArray : Array Value) 78 (0, 0)) :: (R202 ++ L250))) hST (List.Perm.refl _) rfl Tryz.call53 (by exact args2 rfl rfl) (fun _ _ _ _ => (w_chain_Find v_a0 a0 x156 _ _ (h_a0.mono (Pl.mono _) (hle252.trans hST.sub_hp)) hr264)) (fun W265 v268 μ266 L270 hST hle267 hlift hK269 => ?_))
            obtain ⟨y271, S272, hv274, rfl, hy273⟩ := hK269
            replace hv274 := hv274.symm; subst hv274
            simp only [List.append_assoc, List.cons_append, List.nil_append] at hST
            replace hST : ST true NoF w _ _ ((b259, Obj.cells ((encFact x156).toArray : Array Value) 78 (0, 0)) :: (S272 ++ (R202 ++ L250))) := hST.perm (permD [S272, [(b259, Obj.cells ((encFact x156).toArray : Array Value) 78 (0, 0))]] [0, 1] [1, 0] ((R202 ++ L250)) (by decide) rfl rfl)
            refine LV (R_move (v := (.tuple #[y271, (.bool r263.2)])) rfl) ?_
            refine LV (R_extract (v := y271) rfl rfl) ?_
            refine LV (R_extract (v := (.bool r263.2)) rfl rfl) ?_
            refine LV (R_assign (v := y271) rfl) ?_
            refine LV (R_assign (v := (.bool r263.2)) rfl) ?_
            refine LW_nil ?_
            refine sq_n ?_
            refine CW_seq ?_
            refine CW_region ?_
            refine LV (R_move (v := (.bool r263.2)) rfl) ?_
            refine LW_nil ?_
            refine sq_n ?_
            refine CW_if (b := r263.2) rfl (fun hb275 => ?_) (fun hb275 => ?_)
            · replace hm251 := if_t hb275 hm251
              refine CW_seq ?_
              refine CW_seq ?_
              refine CW_region ?_
              refine LV (R_move (v := y271) rfl) ?_
              refine LV (R_move (v := v_a0) e253) ?_
              refine LV (R_load (v := (.agg (encFact x156).toArray)) rfl (load_boxA hST.has (.head _) (encFact x156) rfl Tryz.isAgg78 Tryz.sizeOf78)) ?_
              obtain ⟨r276, hr277, hm251⟩ := bind_some hm251
              refine LE (E_gives (args := [y271, v_a0, (.agg (encFact x156).toArray)]) hST rfl Tryz.call62 (by exact args3 rfl rfl rfl) ((w_check_Check y271 r263.1 v_a0 a0 x156 _ _ (hy273.sl lenStep (fun b o hq => hST.at_ (.tail _ (List.mem_append_left _ hq)))) (h_a0.mono (Pl.mono _) ((hle252.trans hle267).trans hST.sub_hp)) hr277)) (fun W278 hST => ?_))
              refine LV (R_move (v := (.tuple #[(.int .i64 r276.1), (.int .i64 r276.2)])) rfl) ?_
              refine LV (R_extract (v := (.int .i64 r276.1)) rfl rfl) ?_
              refine LV (R_extract (v := (.int .i64 r276.2)) rfl rfl) ?_
              refine LV (R_assign (v := (.int .i64 r276.1)) rfl) ?_
              refine LV (R_assign (v := (.int .i64 r276.2)) rfl) ?_
              refine LW_nil ?_
              refine sq_n ?_
              replace hST : ST true NoF w _ _ (S272 ++ (R202 ++ L250)) := hST.sublist (List.Sublist.cons _ (List.Sublist.refl _))
              refine CW_seq ?_
              refine CW_region ?_
              refine LV (R_move (v := (.int .i64 r276.2)) rfl) ?_
              refine LV (R_int (k := .i64) (a := r276.2) (b := 0) (v := (.bool ((r276.2 != 0)))) rfl rfl rfl) ?_
              refine LW_nil ?_
              refine sq_n ?_
              refine CW_if (b := (r276.2 != 0)) rfl (fun hb279 => ?_) (fun hb279 => ?_)
              · replace hm251 := if_t hb279 hm251
                refine CW_seq ?_
                refine CW_region ?_
                refine LV (R_assign (v := (.bool false)) rfl) ?_
                refine LW_nil ?_
                refine sq_n ?_
                replace hST : ST true NoF w _ _ L250 := hST.sublist (((List.Sublist.refl _).trans (List.sublist_append_right _ _)).trans (List.sublist_append_right _ _))
                refine CW_ret ?_
                refine sq_r (bq_r (sq_r (bq_r (sq_r ?_))))
                replace hm251 := Option.some.inj hm251; subst hm251
                refine retQ_1 (v := (.bool false)) rfl rfl ?_
                exact ⟨rfl, hST.ex⟩
              · replace hm251 := if_f hb279 hm251
                refine CW_skip ?_
                refine sq_n ?_
                refine CW_region ?_
                refine LV (R_move (v := v199) e254) ?_
                refine LV (R_move (v := y271) rfl) ?_
                obtain ⟨A280, c281, rfl⟩ := hs201.form
                obtain ⟨A282, c283, rfl⟩ := hy273.form
                refine LE (E_buildSlice (qs := #[(0, (.slice A280 l200.length c281)), (1, (.slice A282 r263.1.length c283))]) (cs := #[(.slice A280 l200.length c281), (.slice A282 r263.1.length c283)]) hST (parts2 rfl rfl) (run_lit [(.slice A280 l200.length c281), (.slice A282 r263.1.length c283)] Tryz.underlying91 Tryz.sizeOf79 Tryz.zeroValue79 (by decide) rfl (by intro v hv; simp only [List.mem_cons, List.not_mem_nil, or_false] at hv; rcases hv with rfl | rfl <;> rfl) rfl rfl) (fun W285 b284 hST => ?_))
                obtain ⟨r286, hr287, hm251⟩ := bind_some hm251
                refine LE (E_givesRow (args := [(.slice (some ⟨b284, 0, none⟩) 2 2)]) [_] _ hST rfl Tryz.call60 (by exact args1 rfl) ((w_chain_Merge (.slice (some ⟨b284, 0, none⟩) 2 2) ([l200, r263.1]) _ _ (SlR.lit (l := [l200, r263.1]) (vs := [(.slice A280 l200.length c281), (.slice A282 r263.1.length c283)]) rfl (Nat.le_of_ble_eq_true rfl) (hST.at_ (.head _)) (.cons (hs201.sl lenStep (fun b o hq => hST.at_ (.tail _ (List.mem_append_right _ (List.mem_append_left _ hq))))) (.cons (hy273.sl lenStep (fun b o hq => hST.at_ (.tail _ (List.mem_append_left _ hq)))) .nil))) hr287)) (fun W288 v291 μ289 R292 hST hle290 hR293 => ?_))
                refine LV (R_assign (v := v291) rfl) ?_
                refine LW_nil ?_
                refine bq_n ?_
                refine sq_n ?_
                replace hST : ST true NoF w _ _ ((b284, Obj.cells (#[(.slice A280 l200.length c281), (.slice A282 r263.1.length c283)] : Array Value) 79 (0, 0)) :: (R292 ++ (S272 ++ (R202 ++ L250)))) := hST
                replace hST : ST true NoF w _ _ (R292 ++ L250) := hST.sublist (List.Sublist.cons _ (List.Sublist.append (List.Sublist.refl _) (((List.Sublist.refl _).trans (List.sublist_append_right _ _)).trans (List.sublist_append_right _ _))))
                exact ⟨eI, v291, r286, R292, μ289, _, ⟨rfl, eN⟩, ((hle252.trans hle267).trans hle290), (hST.sublist (List.Sublist.refl _)), e253, rfl, e255, hR293, (by rw [hx160]; exact hm251)⟩
            · replace hm251 := if_f hb275 hm251
              refine CW_skip ?_
              refine bq_n ?_
              refine sq_n ?_
              replace hST : ST true NoF w _ _ (R202 ++ L250) := hST.sublist (List.Sublist.cons _ ((List.Sublist.refl _).trans (List.sublist_append_right _ _)))
              exact ⟨eI, v199, l200, R202, μ266, _, ⟨rfl, eN⟩, (hle252.trans hle267), (hST.sublist (List.Sublist.refl _)), e253, e254, e255, hs201, (by rw [hx160]; exact hm251)⟩
        · rintro E W ⟨v199, l200, R202, μ198, L250, ⟨eI, eN⟩, hle252, hST, e253, e254, e255, hs201, hm251⟩
          rw [List.drop_length] at hm251
          rw [m_law10_ChainStands_L1] at hm251
          refine sq_n ?_
          refine CW_seq ?_
          refine CW_seq ?_
          refine CW_region ?_
          refine LV (R_move (v := v199) e254) ?_
          refine LV (R_lenRow Tryz.underlying79 rfl hs201) ?_
          refine LV (R_move (v := (.int .i64 0)) rfl) ?_
          refine LW_nil ?_
          refine sq_n ?_
          obtain ⟨s341, hm342, hm343⟩ := bind_some hm251
          refine CW_cut (fun E W => ∃  (L339 : List (Nat × Obj)), ST true NoF w W μ198 L339 ∧ some true = some r) ?_ ?_
          · refine CW_range (fun i E W => ∃  (L374 : List (Nat × Obj)), (E 69 = .int .i64 (i : Nat) ∧ E 68 = .int .i64 (l200.length : Nat)) ∧ ST true NoF w W μ198 (R202 ++ L374) ∧ E 0 = v_a0 ∧ E 5 = v199 ∧ E 67 = v199 ∧ m_law10_ChainStands_L2 l200 a0 (l200.drop i) = some s341) l200.length hs201.len ⟨_, ⟨rfl, rfl⟩, (hST.sublist (List.Sublist.refl _)), e253, e254, rfl, hm342⟩ (by decide) (by decide) (by decide) (fun _ _ _ h => by obtain ⟨_, eIN, _⟩ := h; exact eIN) ?_ ?_
            · rintro i344 E W hi350 ⟨L374, ⟨eI, eN⟩, hST, e376, e377, e378, hm375⟩
              obtain ⟨x345, xs346, hx348, hx347, hx349⟩ := drop_cons hi350
              rw [hx348] at hm375
              rw [m_law10_ChainStands_L2] at hm375
              refine CW_block ?_
              refine CW_seq ?_
              refine CW_region ?_
              refine LQ (R_indexRow (i := (i344 : Int)) (x0 := x345) Tryz.underlying79 Tryz.sizeOf89 e378 eI hs201 (Int.natCast_nonneg _) hx347) (fun p379 hp380 => ?_)
              refine LV (R_load (v := (.agg (encStep x345).toArray)) rfl (load_ixA hST.has (fun p hq => by simp [hq]) hs201 lenStep hp380 hx347 Tryz.isAgg89 Tryz.sizeOf89)) ?_
              refine LE (E_alloc hST Tryz.zeroValue89 (fun W383 b382 hST => ?_))
              refine LW_e0 (.inl rfl) rfl (E_store [] (.agg (encStep x345).toArray) ((encStep x345).toArray) hST rfl rfl Tryz.sizeOf89 (oneStep x345) (Nat.le_of_ble_eq_true rfl) rfl (fun W384 hST => ?_))
              refine LW_nil ?_
              refine sq_n ?_
              refine CW_seq ?_
              refine CW_region ?_
              refine LV (R_move (v := v199) e377) ?_
              refine LV (R_move (v := v_a0) e376) ?_
              refine LV (R_field fa89_1 rfl) ?_
              refine LV (R_load (v := (.agg (encFact x345.Fact).toArray)) rfl (load_boxA hST.has (.head _) (encFact x345.Fact) rfl Tryz.isAgg78 Tryz.sizeOf78)) ?_
              replace hST : ST true NoF w _ _ ((b382, Obj.cells ((encStep x345).toArray : Array Value) 89 (0, 0)) :: (R202 ++ L374)) := hST
              obtain ⟨r385, hr386, hm375⟩ := bind_some hm375
              refine LE (E_gives (args := [v199, v_a0, (.agg (encFact x345.Fact).toArray)]) hST rfl Tryz.call62 (by exact args3 rfl rfl rfl) ((w_check_Check v199 l200 v_a0 a0 x345.Fact _ _ (hs201.sl lenStep (fun b o hq => hST.at_ (.tail _ (List.mem_append_left _ hq)))) (h_a0.mono (Pl.mono _) (hle252.trans hST.sub_hp)) hr386)) (fun W387 hST => ?_))
              refine LV (R_move (v := (.tuple #[(.int .i64 r385.1), (.int .i64 r385.2)])) rfl) ?_
              refine LV (R_extract (v := (.int .i64 r385.1)) rfl rfl) ?_
              refine LV (R_extract (v := (.int .i64 r385.2)) rfl rfl) ?_
              refine LV (R_assign (v := (.int .i64 r385.1)) rfl) ?_
              refine LV (R_assign (v := (.int .i64 r385.2)) rfl) ?_
              refine LW_nil ?_
              refine sq_n ?_
              replace hST : ST true NoF w _ _ (R202 ++ L374) := hST.sublist (List.Sublist.cons _ (List.Sublist.refl _))
              refine CW_seq ?_
              refine CW_region ?_
              refine LV (R_move (v := (.int .i64 r385.2)) rfl) ?_
              refine LV (R_int (k := .i64) (a := r385.2) (b := 0) (v := (.bool ((r385.2 != 0)))) rfl rfl rfl) ?_
              refine LW_nil ?_
              refine sq_n ?_
              refine CW_if (b := (r385.2 != 0)) rfl (fun hb388 => ?_) (fun hb388 => ?_)
              · replace hm375 := if_t hb388 hm375
                refine CW_seq ?_
                refine CW_region ?_
                refine LV (R_assign (v := (.bool false)) rfl) ?_
                refine LW_nil ?_
                refine sq_n ?_
                replace hST : ST true NoF w _ _ L374 := hST.sublist ((List.Sublist.refl _).trans (List.sublist_append_right _ _))
                refine CW_ret ?_
                refine bq_r (sq_r (bq_r (sq_r ?_)))
                replace hm375 := Option.some.inj hm375; subst hm375
                replace hm343 : some false = some r := hm343
                replace hm343 := Option.some.inj hm343; subst hm343
                refine retQ_1 (v := (.bool false)) rfl rfl ?_
                exact ⟨rfl, hST.ex⟩
              · replace hm375 := if_f hb388 hm375
                refine CW_skip ?_
                refine bq_n ?_
                refine sq_n ?_
                exact ⟨eI, _, ⟨rfl, eN⟩, (hST.sublist (List.Sublist.refl _)), e376, e377, e378, (by rw [hx349]; exact hm375)⟩
            · rintro E W ⟨L374, ⟨eI, eN⟩, hST, e376, e377, e378, hm375⟩
              rw [List.drop_length] at hm375
              rw [m_law10_ChainStands_L2] at hm375
              refine sq_n ?_
              replace hm375 := Option.some.inj hm375; subst hm375
              exact ⟨_, (hST.sublist ((List.Sublist.refl _).trans (List.sublist_append_right _ _))), hm343⟩
          · rintro E W ⟨L339, hST, hm340⟩
            refine CW_seq ?_
            refine CW_region ?_
            refine LV (R_assign (v := (.bool true)) rfl) ?_
            refine LW_nil ?_
            refine sq_n ?_
            refine CW_ret ?_
            replace hm340 := Option.some.inj hm340; subst hm340
            refine retQ_1 (v := (.bool true)) rfl rfl ?_
            exact ⟨rfl, hST.ex⟩
    · rcases bool_cases ((decide (r5 > 1000))) with hb8 | hb8
      · replace hm391 := if_t hb8 hm391
        refine LW_no rfl (by decide) rfl rfl (by decide) (congrArg Value.bool hb8) ?_
        refine LW_no rfl (by decide) rfl rfl (by decide) (congrArg Value.bool hb8) ?_
        refine LW_no rfl (by decide) rfl rfl (by decide) (congrArg Value.bool hb8) ?_
        refine LV (R_pickT (v := (.bool true)) (congrArg Value.bool hb8) rfl) ?_
        replace hm391 := Option.some.inj hm391; subst hm391
        exact key393 _ _ ⟨true, _, (hST.sublist (List.Sublist.refl _)), rfl, rfl, rfl, hm392⟩
      · replace hm391 := if_f hb8 hm391
        refine LW_v (.inr ⟨3, false, 21, rfl, rfl, by decide, (congrArg Value.bool hb8)⟩) rfl (by decide) (R_move (v := v_a1) rfl) ?_
        refine LW_v (.inr ⟨3, false, 21, rfl, rfl, by decide, (congrArg Value.bool hb8)⟩) rfl (by decide) (R_len Tryz.underlying53 rfl h_a1) ?_
        refine LW_v (.inr ⟨3, false, 21, rfl, rfl, by decide, (congrArg Value.bool hb8)⟩) rfl (by decide) (R_int (k := .i64) (a := ((a1.length : Int))) (b := 8) (v := (.bool ((decide (((a1.length : Int)) > 8))))) rfl rfl rfl) ?_
        refine LV (R_pickF (v := (.bool ((decide (((a1.length : Int)) > 8))))) (congrArg Value.bool hb8) rfl) ?_
        replace hm391 := Option.some.inj hm391; subst hm391
        exact key393 _ _ ⟨((decide (((a1.length : Int)) > 8))), _, (hST.sublist (List.Sublist.refl _)), rfl, rfl, rfl, hm392⟩
end Go.Proofs.YtfjdjbdnnoijgaaGreat
