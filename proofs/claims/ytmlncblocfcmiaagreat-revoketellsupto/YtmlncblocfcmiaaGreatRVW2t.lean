/- a part of a proof of RevokeTells -/
import Derived.Test.YtmlncblocfcmiaaGreatRVW1t
set_option linter.all false
namespace Go.Proofs.YtmlncblocfcmiaaGreat
open Go.RowKit
set_option maxRecDepth 10000
theorem w_model_Model_settle_w (H : Nat) (a : Value) (f0 : List (Role × (List (ByteArray × Bool)))) (N : List (Nat × Obj)) (c : Value) (M : List Cred) (g : List (Nat × Obj)) (t : Value) (G : List (Role × (List Cred))) (y : List (Nat × Obj)) (f : Value) (B : List (ByteArray × (List Cred))) (j : List (Nat × Obj)) (K : Value) (d3 : List Fact) (J : List (Nat × Obj)) (a1 : Int) (r : ((List (Role × (List (ByteArray × Bool)))) × (List Fact) × Int)) (w : World) {μ0 : Mem} (h0 : Ent μ0 ((H, Obj.cells (#[a, c, t, f, K, (.int .i64 a1)] : Array Value) 294 (0, 0)) :: (N ++ (g ++ (y ++ (j ++ (J ++ [])))))) w) (h7 : DeepE (fun (x : Role) => (.agg (encRole x).toArray)) (MapRow Value.string (fun (x : Bool) => (Value.bool x))) a f0 N) (c5 : Row 53 encCred 9 c M g) (h1 : DeepE (fun (x : Role) => (.agg (encRole x).toArray)) (Row 53 encCred 9) t G y) (c6 : DeepE Value.string (Row 53 encCred 9) f B j) (g9 : Que 38 encFact 3 K d3 J) (hm : m_model_Model_settle_w f0 M G B d3 a1 = some r) :
    GivesM false Tryz.prog 326 [(.pointer (some ⟨H, 0, none⟩))] w ((H, Obj.cells (#[a, c, t, f, K, (.int .i64 a1)] : Array Value) 294 (0, 0)) :: (N ++ (g ++ (y ++ (j ++ (J ++ [])))))) (fun v L1 W' => ∃ (S1 : List (Nat × Obj)) (y3 : Value) (S4 : List (Nat × Obj)), v = (.tuple #[]) ∧ L1 = ((H, Obj.cells (#[a, c, t, f, y3, (.int .i64 (r.2.2))] : Array Value) 294 (0, 0)) :: (S1 ++ (g ++ (y ++ (j ++ (S4 ++ [])))))) ∧ DeepE (fun (x : Role) => (.agg (encRole x).toArray)) (MapRow Value.string (fun (x : Bool) => (Value.bool x))) a r.1 S1 ∧ Que 38 encFact 3 y3 r.2.1 S4) := by
  have hST := ST.startE (dd := false) h0
  unfold m_model_Model_settle_w at hm
  refine calls_of_CW (n := 75) Tryz.func326 rfl rfl (Nat.le_of_ble_eq_true rfl) (CW_tail (CW_block (CW_loop (fun m E W => ∃ (e2 : List (Role × (List (ByteArray × Bool)))) (c2 : List (Nat × Obj)) (e5 : Value) (U : List Fact) (c3 : List (Nat × Obj)) (d1 : Int) (b9 : Mem) (h8 : List (Nat × Obj)), Sub μ0 b9 ∧ ST false (keys ((H, Obj.cells (#[a, c, t, f, K, (.int .i64 a1)] : Array Value) 294 (0, 0)) :: (N ++ (g ++ (y ++ (j ++ (J ++ []))))))) w W b9 ((H, Obj.cells (#[a, c, t, f, e5, (.int .i64 d1)] : Array Value) 294 (0, 0)) :: (c2 ++ (g ++ (y ++ (j ++ (c3 ++ h8)))))) ∧ E 0 = (.pointer (some ⟨H, 0, none⟩)) ∧ DeepE (fun (x : Role) => (.agg (encRole x).toArray)) (MapRow Value.string (fun (x : Bool) => (Value.bool x))) a e2 c2 ∧ Que 38 encFact 3 e5 U c3 ∧ m_model_Model_settle_w_L1 M G B m e2 U d1 = some r) FUEL ⟨f0, N, K, d3, J, a1, μ0, _, (Sub.refl _), (hST.sel St), rfl, h7, g9, hm⟩ ?_)))
  rintro m E W ⟨e2, c2, e5, U, c3, d1, b9, h8, i3, hST, a9, h3, c9, I⟩
  cases m with
  | zero => rw [m_model_Model_settle_w_L1] at I; cases I
  | succ g6 =>
    rw [m_model_Model_settle_w_L1] at I
    refine CW_seq (CW_seq (CW_region (V (R_move a9) (V (R_nilCheck rfl) (V (R_field fa294_4 rfl) (V (R_load rfl (load_box1 hST.has Mh rfl Tryz.isAgg68)) (V (R_lenQue Tryz.underlying68 rfl c9) (V (R_int rfl rfl rfl) (LW_nil (sq_n (CW_if (b := (decide (((U.length : Int)) > 0))) rfl (fun f1 => ?_) (fun f1 => ?_))))))))))))
    · replace I := if_t f1 I
      refine CW_skip (sq_n (CW_block (CW_seq (CW_region (V (R_move a9) (V (R_nilCheck rfl) (V (R_field fa294_4 rfl) (V (R_load rfl (load_box1 hST.has Mh rfl Tryz.isAgg68)) ?_))))))))
      obtain ⟨u, h5, I⟩ := bind_some I
      refine VQ (R_indexP (enc := encFact) (i := 0) (x0 := u) Tryz.underlying68 Tryz.sizeOf38 rfl rfl (c9.slL lenFact) (idx_nonneg h5) (idx_get h5)) (fun p6 j8 => V (R_load rfl (load_atA (Has.hp _) (j8.mono (memL_held (fun b o hq => hST.has.2 b o (Mt (Ma (Ma (Ma (Ma (Ml hq))))))))) Tryz.isAgg38 Tryz.sizeOf38)) (VE (E_alloc hST Tryz.zeroValue38 (fun o5 a8 hST => VO (F_store (.agg (encFact u).toArray) ((encFact u).toArray) hST rfl rfl Tryz.sizeOf38 (oneFact u) (Nat.le_of_ble_eq_true rfl) rfl (fun o6 hST => LW_nil (sq_n (CW_seq (CW_region (V (R_move a9) (V (R_move a9) (V (R_nilCheck rfl) (V (R_field fa294_4 rfl) (V (R_load rfl (load_box1 hST.has (Mt Mh) rfl Tryz.isAgg68)) ?_))))))))))))))
      obtain ⟨_, h2, I⟩ := bind_some I
      refine VQ (R_sliceQue (i := 1) Tryz.underlying68 Tryz.sizeOf38 rfl rfl lenFact c9 (chk_1 h2) (chk_2 h2)) (fun p9 h4 => V (R_nilCheck rfl) (V (R_field fa294_4 rfl) ?_))
      obtain ⟨g1, g4, rfl⟩ := h4.form
      replace hST := hST.perm (Nb (Pb Pz) Nz)
      refine VO (F_store (.slice g1 ((U.drop (Int.toNat 1))).length g4) (#[a, c, t, f, (.slice g1 ((U.drop (Int.toNat 1))).length g4), (.int .i64 d1)]) hST rfl rfl Tryz.sizeOf68 (by simp [Value.cells, Value.oneCell']) (Nat.le_of_ble_eq_true rfl) rfl (fun o7 hST => LW_nil (sq_n (CW_seq (CW_seq ?_)))))
      replace hST := hST.drew
      have hS0 := hST.has.sel (Kb (Kb (Dr (Dr (Kr Sn)))))
      refine PX_start1 hS0 Tryz_mixed (X 0 rfl hS0 (R_move a9) (X 1 rfl hS0 (R_nilCheck rfl) (X 2 rfl hS0 (R_field fa294_2 rfl) (XH 3 rfl hS0 (fun _ hS => R_load rfl (load_box1 hS Mh rfl Tryz.isAgg291)) (X 4 rfl hS0 (R_field fa38_0 rfl) (XH 5 rfl hS0 (fun _ hS => R_load rfl (load_boxA hS (Mt Mh) (encRole u.Role) rfl Tryz.isAgg28 Tryz.sizeOf28)) ?_))))))
      obtain ⟨l8, c7⟩ := h1
      obtain ⟨o3, f4, k3⟩ := DeepV.rowAt beqRole_iff.1 c7 u.Role
      refine XH 6 rfl hS0 (fun _ hS => R_lookupDeep (k := u.Role) (z := (.slice none 0 0)) kl28 Tryz.underlying291 Tryz.zeroValue22 rfl rfl c7 (fun b o hq => hS.2 b o (Mt (Mt (Ml hq))))) (X 7 rfl hS0 (R_len Tryz.underlying22 rfl (f4.slL lenCred)) (X 8 rfl hS0 (R_move rfl) (PX_done (by kernel_rfl) (sq_n ?_))))
      obtain ⟨m8, j6, j7⟩ := bind_some I
      refine CW_cut (fun E W => ∃ (e3 : List (Role × (List (ByteArray × Bool)))) (d5 : List (Nat × Obj)) (e6 : Value) (e4 : List Fact) (d6 : List (Nat × Obj)) (e8 : Int) (c0 : Mem) (h9 : List (Nat × Obj)), Sub b9 c0 ∧ ST false (keys ((H, Obj.cells (#[a, c, t, f, K, (.int .i64 a1)] : Array Value) 294 (0, 0)) :: (N ++ (g ++ (y ++ (j ++ (J ++ []))))))) w W c0 ((H, Obj.cells (#[a, c, t, f, e6, (.int .i64 e8)] : Array Value) 294 (0, 0)) :: ((a8, Obj.cells ((encFact u).toArray : Array Value) 38 (0, 0)) :: (d5 ++ (g ++ (y ++ (j ++ (d6 ++ h9))))))) ∧ E 0 = (.pointer (some ⟨H, 0, none⟩)) ∧ E 2 = (.pointer (some ⟨a8, 0, none⟩)) ∧ DeepE (fun (x : Role) => (.agg (encRole x).toArray)) (MapRow Value.string (fun (x : Bool) => (Value.bool x))) a e3 d5 ∧ Que 38 encFact 3 e6 e4 d6 ∧ ((m_model_Model_settle_w_L2 u M G B (((mget beqS B u.Role.Word).getD [])) e3 e4 e8 : Option (((List (Role × (List (ByteArray × Bool)))) × (List Fact) × Int))).bind fun (b2, b3, b7) => (m_model_Model_settle_w_L1 M G B g6 b2 b3 b7)) = some r) ?_ ?_
      · refine CW_range (fun i E W => ∃ (b4 : List (Role × (List (ByteArray × Bool)))) (a6 : List (Nat × Obj)) (b6 : Value) (b5 : List Fact) (a7 : List (Nat × Obj)) (b8 : Int) (d2 : Mem) (g3 : List (Nat × Obj)), (E 35 = .int .i64 (i : Nat) ∧ E 34 = .int .i64 ((((mget beqRole G u.Role).getD [])).length : Nat)) ∧ Sub b9 d2 ∧ ST false (keys ((H, Obj.cells (#[a, c, t, f, K, (.int .i64 a1)] : Array Value) 294 (0, 0)) :: (N ++ (g ++ (y ++ (j ++ (J ++ []))))))) w W d2 ((H, Obj.cells (#[a, c, t, f, b6, (.int .i64 b8)] : Array Value) 294 (0, 0)) :: ((a8, Obj.cells ((encFact u).toArray : Array Value) 38 (0, 0)) :: (a6 ++ (g ++ (y ++ (j ++ (a7 ++ g3))))))) ∧ E 0 = (.pointer (some ⟨H, 0, none⟩)) ∧ E 2 = (.pointer (some ⟨a8, 0, none⟩)) ∧ E 33 = (valAt beqRole l8 u.Role (.slice none 0 0)) ∧ DeepE (fun (x : Role) => (.agg (encRole x).toArray)) (MapRow Value.string (fun (x : Bool) => (Value.bool x))) a b4 a6 ∧ Que 38 encFact 3 b6 b5 a7 ∧ m_model_Model_settle_w_L3 M G B u ((((mget beqRole G u.Role).getD [])).drop i) b4 b5 b8 = some m8) (((mget beqRole G u.Role).getD [])).length (f4.slL lenCred).len ⟨e2, c2, (.slice g1 ((U.drop (Int.toNat 1))).length g4), ((U.drop (Int.toNat 1))), c3, d1, b9, _, ⟨rfl, rfl⟩, (Sub.refl _), (hST.sel St), a9, rfl, rfl, h3, h4, j6⟩ (by decide) (by decide) (by decide) (fun _ _ _ h => by obtain ⟨_, _, _, _, _, _, _, _, eIN, _⟩ := h; exact eIN) ?_ ?_
        · rintro m6 E W j1 ⟨b4, a6, b6, b5, a7, b8, d2, g3, ⟨eI, eN⟩, d4, hST, e0, e1, g5, f7, f8, Q⟩
          obtain ⟨a5, n9, l2, l1, l3⟩ := drop_cons j1
          rw [l2] at Q
          rw [m_model_Model_settle_w_L3] at Q
          refine CW_block (CW_seq (CW_region (VQ (R_indexP (enc := encCred) (i := (m6 : Int)) (x0 := a5) Tryz.underlying22 Tryz.sizeOf53 g5 eI (f4.slL lenCred) (Int.natCast_nonneg _) l1) (fun p8 k0 => V (R_load rfl (load_atA (Has.hp _) (k0.mono (memL_held (fun b o hq => hST.has.2 b o (Mt (Mt (Ma (Ma (Ml (k3 b o hq))))))))) Tryz.isAgg53 Tryz.sizeOf53)) (VE (E_alloc hST Tryz.zeroValue53 (fun p1 p5 hST => VO (F_store (.agg (encCred a5).toArray) ((encCred a5).toArray) hST rfl rfl Tryz.sizeOf53 (oneCred a5) (Nat.le_of_ble_eq_true rfl) rfl (fun p2 hST => LW_nil (sq_n (CW_region (V (R_move e0) (V (R_load rfl (load_boxA hST.has Mh (encCred a5) rfl Tryz.isAgg53 Tryz.sizeOf53)) (V (R_load e1 (load_boxA hST.has (Mt (Mt Mh)) (encFact u) rfl Tryz.isAgg38 Tryz.sizeOf38)) ?_))))))))))))))
          obtain ⟨g8, k2, Q⟩ := bind_some Q
          have hsz := hST.size
          refine VE (E_callM (args := [(.pointer (some ⟨H, 0, none⟩)), (.agg (encCred a5).toArray), (.agg (encFact u).toArray)]) (caps := #[]) _ _ hST (Cb (Pb Pz) (Cr (Qb (Qb Qz)) (Cr (Qb (Qb Qz)) (Cr (Qb (Qb Qz)) (Cr (Qb (Qb Qz)) (Cr (Qb (Qb Qz)) Cn)))))) rfl Tryz.call371 (by exact args3 rfl rfl rfl) (fun hH hN hsb hmm => (w_model_Model_use_w H a b4 a6 c M g t G y f B j b6 b5 a7 b8 a5 u _ _ ⟨hH, hN, Sub.refl _⟩ f7 c5 c7.e c6 f8 k2)) (fun p3 q1 n2 o2 hST i7 hl3113 hlift i9 => ?_))
          obtain ⟨m2, n0, m3, g0, rfl, l6, l7⟩ := i9
          replace g0 := g0.symm; subst g0
          replace hST := hST.perm (Tb (Tr (Tr (Tr (Tr (Tr Tn))))))
          refine LW_nil (bq_n (sq_n ?_))
          replace hST := hST.sel (Kb (Kr (Kr (Kr (Kr (Kr (Db St)))))))
          exact ⟨eI, g8.1, m2, n0, g8.2.1, m3, g8.2.2, n2, _, ⟨rfl, eN⟩, (d4.trans i7), (hST.sel (Kb (Sb (Pr (Pr (Pr (Pr (Pr Pz))))) St))), e0, e1, g5, l6, l7, (by rw [l3]; exact Q)⟩
        rintro E W ⟨b4, a6, b6, b5, a7, b8, d2, g3, ⟨eI, eN⟩, d4, hST, e0, e1, g5, f7, f8, Q⟩
        rw [List.drop_length] at Q
        rw [m_model_Model_settle_w_L3] at Q
        refine sq_n ?_
        replace Q := Option.some.inj Q; subst Q
        exact ⟨b4, a6, b6, b5, a7, b8, d2, _, d4, (hST.sel St), e0, e1, f7, f8, j7⟩
      rintro E W ⟨e3, d5, e6, e4, d6, e8, c0, h9, i4, hST, i1, i2, k4, k5, j2⟩
      refine CW_seq ?_
      replace hST := hST.drew
      have hS0 := hST.has.sel (Kb (Kb (Dr (Dr (Dr (Kr Sn))))))
      refine PX_start1 hS0 Tryz_mixed (X 0 rfl hS0 (R_move i1) (X 1 rfl hS0 (R_nilCheck rfl) (X 2 rfl hS0 (R_field fa294_3 rfl) (XH 3 rfl hS0 (fun _ hS => R_load rfl (load_box1 hS Mh rfl Tryz.isAgg292)) (X 4 rfl hS0 (R_field fa38_0 i2) (X 5 rfl hS0 (R_field fa28_1 rfl) (XH 6 rfl hS0 (fun _ hS => R_load rfl (load_box1 hS (Mt Mh) rfl Tryz.isAgg9)) ?_)))))))
      obtain ⟨l9, f3⟩ := c6
      obtain ⟨o4, f5, k6⟩ := DeepV.rowAt beqS_iff.1 f3 u.Role.Word
      refine XH 7 rfl hS0 (fun _ hS => R_lookupDeep (k := u.Role.Word) (z := (.slice none 0 0)) kl9 Tryz.underlying292 Tryz.zeroValue22 rfl rfl f3 (fun b o hq => hS.2 b o (Mt (Mt (Ml hq))))) (X 8 rfl hS0 (R_len Tryz.underlying22 rfl (f5.slL lenCred)) (X 9 rfl hS0 (R_move rfl) (PX_done (by kernel_rfl) (sq_n (CW_tail ?_)))))
      obtain ⟨m7, j4, j5⟩ := bind_some j2
      refine CW_cut (fun E W => ∃ (b2 : List (Role × (List (ByteArray × Bool)))) (d7 : List (Nat × Obj)) (e7 : Value) (b3 : List Fact) (d8 : List (Nat × Obj)) (b7 : Int) (e9 : Mem) (i0 : List (Nat × Obj)), Sub c0 e9 ∧ ST false (keys ((H, Obj.cells (#[a, c, t, f, K, (.int .i64 a1)] : Array Value) 294 (0, 0)) :: (N ++ (g ++ (y ++ (j ++ (J ++ []))))))) w W e9 ((H, Obj.cells (#[a, c, t, f, e7, (.int .i64 b7)] : Array Value) 294 (0, 0)) :: (d7 ++ (g ++ (y ++ (j ++ (d8 ++ i0)))))) ∧ E 0 = (.pointer (some ⟨H, 0, none⟩)) ∧ DeepE (fun (x : Role) => (.agg (encRole x).toArray)) (MapRow Value.string (fun (x : Bool) => (Value.bool x))) a b2 d7 ∧ Que 38 encFact 3 e7 b3 d8 ∧ (m_model_Model_settle_w_L1 M G B g6 b2 b3 b7) = some r) ?_ ?_
      · refine CW_range (fun i E W => ∃ (Y : List (Role × (List (ByteArray × Bool)))) (Z : List (Nat × Obj)) (a3 : Value) (a2 : List Fact) (a0 : List (Nat × Obj)) (a4 : Int) (c1 : Mem) (g2 : List (Nat × Obj)), (E 53 = .int .i64 (i : Nat) ∧ E 52 = .int .i64 ((((mget beqS B u.Role.Word).getD [])).length : Nat)) ∧ Sub c0 c1 ∧ ST false (keys ((H, Obj.cells (#[a, c, t, f, K, (.int .i64 a1)] : Array Value) 294 (0, 0)) :: (N ++ (g ++ (y ++ (j ++ (J ++ []))))))) w W c1 ((H, Obj.cells (#[a, c, t, f, a3, (.int .i64 a4)] : Array Value) 294 (0, 0)) :: ((a8, Obj.cells ((encFact u).toArray : Array Value) 38 (0, 0)) :: (Z ++ (g ++ (y ++ (j ++ (a0 ++ g2))))))) ∧ E 0 = (.pointer (some ⟨H, 0, none⟩)) ∧ E 2 = (.pointer (some ⟨a8, 0, none⟩)) ∧ E 51 = (valAt beqS l9 u.Role.Word (.slice none 0 0)) ∧ DeepE (fun (x : Role) => (.agg (encRole x).toArray)) (MapRow Value.string (fun (x : Bool) => (Value.bool x))) a Y Z ∧ Que 38 encFact 3 a3 a2 a0 ∧ m_model_Model_settle_w_L2 u M G B ((((mget beqS B u.Role.Word).getD [])).drop i) Y a2 a4 = some m7) (((mget beqS B u.Role.Word).getD [])).length (f5.slL lenCred).len ⟨e3, d5, e6, e4, d6, e8, c0, _, ⟨rfl, rfl⟩, (Sub.refl _), (hST.sel St), i1, i2, rfl, k4, k5, j4⟩ (by decide) (by decide) (by decide) (fun _ _ _ h => by obtain ⟨_, _, _, _, _, _, _, _, eIN, _⟩ := h; exact eIN) ?_ ?_
        · rintro m5 E W j0 ⟨Y, Z, a3, a2, a0, a4, c1, g2, ⟨eI, eN⟩, b1, hST, b0, c4, d9, f6, d0, D⟩
          obtain ⟨T, n8, l0, k9, h6⟩ := drop_cons j0
          rw [l0] at D
          rw [m_model_Model_settle_w_L2] at D
          refine CW_block (CW_seq (CW_region (VQ (R_indexP (enc := encCred) (i := (m5 : Int)) (x0 := T) Tryz.underlying22 Tryz.sizeOf53 d9 eI (f5.slL lenCred) (Int.natCast_nonneg _) k9) (fun p7 j9 => V (R_load rfl (load_atA (Has.hp _) (j9.mono (memL_held (fun b o hq => hST.has.2 b o (Mt (Mt (Ma (Ma (Ma (Ml (k6 b o hq)))))))))) Tryz.isAgg53 Tryz.sizeOf53)) (VE (E_alloc hST Tryz.zeroValue53 (fun o8 p4 hST => VO (F_store (.agg (encCred T).toArray) ((encCred T).toArray) hST rfl rfl Tryz.sizeOf53 (oneCred T) (Nat.le_of_ble_eq_true rfl) rfl (fun o9 hST => LW_nil (sq_n (CW_seq ?_)))))))))))
          replace hST := hST.drew
          have hS0 := hST.has.sel (Kb (Kb (Kb (Kr Sn))))
          refine PX_start1 hS0 Tryz_mixed (X 0 rfl hS0 (R_move b0) (X 1 rfl hS0 (R_nilCheck rfl) (X 2 rfl hS0 (R_field fa294_0 rfl) (XH 3 rfl hS0 (fun _ hS => R_load rfl (load_box1 hS (Mt Mh) rfl Tryz.isAgg290)) (X 4 rfl hS0 (R_field fa53_3 rfl) (XH 5 rfl hS0 (fun _ hS => R_load rfl (load_boxA hS Mh (encRole T.B) rfl Tryz.isAgg28 Tryz.sizeOf28)) ?_))))))
          obtain ⟨n6, c8⟩ := f6
          refine XH 6 rfl hS0 (fun _ hS => R_lookupDeep (k := T.B) (z := (.map none)) kl28 Tryz.underlying290 Tryz.zeroValue296 rfl rfl c8 (fun b o hq => hS.2 b o (Mt (Mt (Mt (Ml hq)))))) (X 7 rfl hS0 (R_field fa38_0 c4) (X 8 rfl hS0 (R_field fa28_0 rfl) (XH 9 rfl hS0 (fun _ hS => R_load rfl (load_box1 hS (Mt (Mt Mh)) rfl Tryz.isAgg9)) (XH 10 rfl hS0 (fun _ hS => R_lookupD (k := u.Role.Owner) (z := false) (vf := (fun (x : Bool) => (Value.bool x))) kl9 Tryz.underlying296 Tryz.zeroValue4 rfl rfl (DeepV.mapAt (μ := hp _) beqRole_iff.1 c8 T.B (fun b o hq => hS.2 b o (Mt (Mt (Mt (Ml hq))))))) (PX_done (by kernel_rfl) (sq_n (CW_if (b := (mgetD beqS (((mget beqRole Y T.B).getD [])) u.Role.Owner false)) rfl (fun f2 => ?_) (fun f2 => ?_))))))))
          · replace D := if_t f2 D
            refine CW_region (V (R_move b0) (V (R_field fa53_1 rfl) (V (R_load rfl (load_boxA hST.has Mh (encRole T.Head) rfl Tryz.isAgg28 Tryz.sizeOf28)) (V (R_field fa38_1 c4) (V (R_load rfl (load_box1 hST.has (Mt (Mt Mh)) rfl Tryz.isAgg9)) ?_)))))
            obtain ⟨g7, k1, D⟩ := bind_some D
            have hsz := hST.size
            refine VE (E_callM (args := [(.pointer (some ⟨H, 0, none⟩)), (.agg (encRole T.Head).toArray), (.string u.Who)]) (caps := #[]) _ _ hST (Cb (Pb Pz) (Cr (Qb (Qb Qz)) (Cr (Qb (Qb Qz)) (Cr (Qb (Qb Qz)) (Cr (Qb (Qb Qz)) (Cr (Qb (Qb Qz)) Cn)))))) rfl Tryz.call370 (by exact args3 rfl rfl rfl) (fun hH hN hsb hmm => GivesM.weak (w_model_Model_tell_w H a Y Z c M g t G y f B j a3 a2 a0 a4 T.Head u.Who _ _ ⟨hH, hN, Sub.refl _⟩ c8.e c5 c7.e f3.e d0 k1)) (fun p0 q0 n1 o1 hST i6 hl3012 hlift i8 => ?_))
            obtain ⟨m0, m9, m1, f9, rfl, l4, l5⟩ := i8
            replace f9 := f9.symm; subst f9
            replace hST := hST.perm (Tb (Tr (Tr (Tr (Tr (Tr Tn))))))
            refine LW_nil (bq_n (sq_n ?_))
            replace hST := hST.sel (Kb (Kr (Kr (Kr (Kr (Kr (Db St)))))))
            exact ⟨eI, g7.1, m0, m9, g7.2.1, m1, g7.2.2, n1, _, ⟨rfl, eN⟩, (b1.trans i6), (hST.sel (Kb (Sb (Pr (Pr (Pr (Pr (Pr Pz))))) St))), b0, c4, d9, l4, l5, (by rw [h6]; exact D)⟩
          replace D := if_f f2 D
          refine CW_skip (bq_n (sq_n ?_))
          replace hST := hST.sel (Db St)
          exact ⟨eI, Y, Z, a3, a2, a0, a4, c1, _, ⟨rfl, eN⟩, b1, (hST.sel St), b0, c4, d9, c8.e, d0, (by rw [h6]; exact D)⟩
        rintro E W ⟨Y, Z, a3, a2, a0, a4, c1, g2, ⟨eI, eN⟩, b1, hST, b0, c4, d9, f6, d0, D⟩
        rw [List.drop_length] at D
        rw [m_model_Model_settle_w_L2] at D
        refine sq_n ?_
        replace D := Option.some.inj D; subst D
        exact ⟨Y, Z, a3, a2, a0, a4, c1, _, b1, (hST.sel (Kb (Db St))), b0, f6, d0, j5⟩
      rintro E W ⟨b2, d7, e7, b3, d8, b7, e9, i0, i5, hST, m4, k7, k8, j3⟩
      exact bq_n (sq_n ⟨g6, Nat.lt_succ_self _, b2, d7, e7, b3, d8, b7, e9, _, ((i3.trans i4).trans i5), (hST.sel St), m4, k7, k8, j3⟩)
    replace I := if_f f1 I
    refine CW_exit (sq_e (sq_e (bq_e (sq_n (retQ_n ?_)))))
    replace I := Option.some.inj I; subst I
    exact retQ_0 rfl ⟨_, _, rfl, (hST.bkM (Kb (Kr (Kr (Kr (Kr (Kr Sn))))))), c2, e5, c3, rfl, rfl, h3, c9⟩
theorem w_model_Model_Add_w (z : Nat) (f : Value) (c2 : List (Role × (List (ByteArray × Bool)))) (I : List (Nat × Obj)) (y : Value) (b0 : List Cred) (k : List (Nat × Obj)) (c : Value) (b9 : List (Role × (List Cred))) (G : List (Nat × Obj)) (a : Value) (b1 : List (ByteArray × (List Cred))) (t : List (Nat × Obj)) (H : Value) (b8 : List Fact) (D : List (Nat × Obj)) (N : Int) (d2 : Value) (a1 : List Cred) (r : (Int × (List (Role × (List (ByteArray × Bool)))) × (List Cred) × (List (Role × (List Cred))) × (List (ByteArray × (List Cred))) × (List Fact) × Int)) (w : World) {μ0 : Mem} (h0 : Ent μ0 ((z, Obj.cells (#[f, y, c, a, H, (.int .i64 N)] : Array Value) 294 (0, 0)) :: (I ++ (k ++ (G ++ (t ++ (D ++ [])))))) w) (d8 : DeepE (fun (x : Role) => (.agg (encRole x).toArray)) (MapRow Value.string (fun (x : Bool) => (Value.bool x))) f c2 I) (c6 : Row 53 encCred 9 y b0 k) (d5 : DeepE (fun (x : Role) => (.agg (encRole x).toArray)) (Row 53 encCred 9) c b9 G) (c7 : DeepE Value.string (Row 53 encCred 9) a b1 t) (d4 : Que 38 encFact 3 H b8 D) (d9 : Sl (Pl encCred) 9 μ0 d2 a1) (hm : m_model_Model_Add_w c2 b0 b9 b1 b8 N a1 = some r) :
    GivesM false Tryz.prog 233 [(.pointer (some ⟨z, 0, none⟩)), d2] w ((z, Obj.cells (#[f, y, c, a, H, (.int .i64 N)] : Array Value) 294 (0, 0)) :: (I ++ (k ++ (G ++ (t ++ (D ++ [])))))) (fun v L1 W' => ∃ (S1 : List (Nat × Obj)) (y3 : Value) (S4 : List (Nat × Obj)) (S6 : List (Nat × Obj)) (S8 : List (Nat × Obj)) (i0 : Value) (h9 : List (Nat × Obj)), v = (.int .i64 (r.1)) ∧ L1 = ((z, Obj.cells (#[f, y3, c, a, i0, (.int .i64 (r.2.2.2.2.2.2))] : Array Value) 294 (0, 0)) :: (S1 ++ (S4 ++ (S6 ++ (S8 ++ (h9 ++ [])))))) ∧ DeepE (fun (x : Role) => (.agg (encRole x).toArray)) (MapRow Value.string (fun (x : Bool) => (Value.bool x))) f r.2.1 S1 ∧ Row 53 encCred 9 y3 r.2.2.1 S4 ∧ DeepE (fun (x : Role) => (.agg (encRole x).toArray)) (Row 53 encCred 9) c r.2.2.2.1 S6 ∧ DeepE Value.string (Row 53 encCred 9) a r.2.2.2.2.1 S8 ∧ Que 38 encFact 3 i0 r.2.2.2.2.2.1 h9) := by
  have hST := ST.startE (dd := false) h0
  unfold m_model_Model_Add_w at hm
  refine calls_of_CW (n := 46) Tryz.func233 rfl rfl (Nat.le_of_ble_eq_true rfl) (CW_seq (CW_region (V (R_assign rfl) (LW_nil (sq_n (CW_seq (CW_seq (CW_region (V (R_move rfl) (V (R_ptrEqNil Tryz.underlying171 rfl rfl) (LW_nil (sq_n (CW_if_false rfl (CW_skip ?_))))))))))))))
  refine sq_n (CW_seq (CW_region (V (R_move rfl) (V (R_nilCheck rfl) (V (R_field fa294_5 rfl) (V (R_load rfl (load_box1 hST.has Mh rfl Tryz.isAgg3)) (V (R_assign rfl) (LW_nil (sq_n (CW_seq (CW_seq (CW_region (V (R_move rfl) (V (R_len Tryz.underlying22 rfl d9) ?_))))))))))))))
  refine V (R_move rfl) (LW_nil (sq_n (CW_range (fun i E W => ∃ (T : List (Role × (List (ByteArray × Bool)))) (a0 : List (Nat × Obj)) (Y : Value) (Z : List Cred) (a2 : List (Nat × Obj)) (a6 : List (Role × (List Cred))) (a3 : List (Nat × Obj)) (a7 : List (ByteArray × (List Cred))) (a4 : List (Nat × Obj)) (a8 : Value) (U : List Fact) (a5 : List (Nat × Obj)) (Q : Int) (c1 : Mem) (d7 : List (Nat × Obj)), (E 16 = .int .i64 (i : Nat) ∧ E 15 = .int .i64 (a1.length : Nat)) ∧ Sub μ0 c1 ∧ ST false (keys ((z, Obj.cells (#[f, y, c, a, H, (.int .i64 N)] : Array Value) 294 (0, 0)) :: (I ++ (k ++ (G ++ (t ++ (D ++ []))))))) w W c1 ((z, Obj.cells (#[f, Y, c, a, a8, (.int .i64 Q)] : Array Value) 294 (0, 0)) :: (a0 ++ (a2 ++ (a3 ++ (a4 ++ (a5 ++ d7)))))) ∧ E 0 = (.pointer (some ⟨z, 0, none⟩)) ∧ E 5 = (.int .i64 N) ∧ E 14 = d2 ∧ DeepE (fun (x : Role) => (.agg (encRole x).toArray)) (MapRow Value.string (fun (x : Bool) => (Value.bool x))) f T a0 ∧ Row 53 encCred 9 Y Z a2 ∧ DeepE (fun (x : Role) => (.agg (encRole x).toArray)) (Row 53 encCred 9) c a6 a3 ∧ DeepE Value.string (Row 53 encCred 9) a a7 a4 ∧ Que 38 encFact 3 a8 U a5 ∧ m_model_Model_Add_w_L1 N (a1.drop i) T Z a6 a7 U Q = some r) a1.length d9.len ⟨c2, I, y, b0, k, b9, G, b1, t, H, b8, D, N, μ0, _, ⟨rfl, rfl⟩, (Sub.refl _), (hST.sel St), rfl, rfl, rfl, d8, c6, d5, c7, d4, hm⟩ (by decide) (by decide) (by decide) (fun _ _ _ h => by obtain ⟨_, _, _, _, _, _, _, _, _, _, _, _, _, _, _, eIN, _⟩ := h; exact eIN) ?_ ?_)))
  · rintro f9 E W g4 ⟨T, a0, Y, Z, a2, a6, a3, a7, a4, a8, U, a5, Q, c1, d7, ⟨eI, eN⟩, b3, hST, c0, c3, c4, b4, a9, b5, b6, b7, u⟩
    obtain ⟨j, e5, h3, h2, e1⟩ := drop_cons g4
    rw [h3] at u
    rw [m_model_Model_Add_w_L1] at u
    refine CW_block (CW_seq (CW_region (VQ (R_indexP (enc := encCred) (i := (f9 : Int)) (x0 := j) Tryz.underlying22 Tryz.sizeOf53 c4 eI (d9.mono (Pl.mono _) b3) (Int.natCast_nonneg _) h2) (fun l0 g5 => V (R_load rfl (load_atA hST.has g5 Tryz.isAgg53 Tryz.sizeOf53)) (VE (E_alloc hST Tryz.zeroValue53 (fun k2 f1 hST => VO (F_store (.agg (encCred j).toArray) ((encCred j).toArray) hST rfl rfl Tryz.sizeOf53 (oneCred j) (Nat.le_of_ble_eq_true rfl) rfl (fun k3 hST => LW_nil (sq_n (CW_seq ?_)))))))))))
    replace hST := hST.drew
    have hS0 := hST.has.sel (Kb (Kb Sn))
    refine PX_start1 hS0 Tryz_mixed (XH 0 rfl hS0 (fun _ hS => R_load rfl (load_boxA hS Mh (encCred j) rfl Tryz.isAgg53 Tryz.sizeOf53)) ?_)
    obtain ⟨i6, g6, u⟩ := bind_some u
    refine XE 1 rfl (E_gives (args := [(.agg (encCred j).toArray)]) hST rfl Tryz.call137 (by exact args1 rfl) (Gives.weak (w_cred_Right j _ _  g6)) (fun k4 hST => ?_))
    have hS0 := hST.has.sel (Kb (Kb Sn))
    refine ⟨hS0, (X 2 rfl hS0 (R_move rfl) ?_)⟩
    obtain ⟨l1, B, e0⟩ := bind_some u
    refine PX_join (J := fun E W => ∃ (d3 : Bool) (e7 : List (Nat × Obj)), ST false (keys ((z, Obj.cells (#[f, y, c, a, H, (.int .i64 N)] : Array Value) 294 (0, 0)) :: (I ++ (k ++ (G ++ (t ++ (D ++ []))))))) w W c1 ((f1, Obj.cells ((encCred j).toArray : Array Value) 53 (0, 0)) :: ((z, Obj.cells (#[f, Y, c, a, a8, (.int .i64 Q)] : Array Value) 294 (0, 0)) :: (a0 ++ (a2 ++ (a3 ++ (a4 ++ (a5 ++ e7))))))) ∧ E 0 = (.pointer (some ⟨z, 0, none⟩)) ∧ E 5 = (.int .i64 N) ∧ E 7 = (.pointer (some ⟨f1, 0, none⟩)) ∧ E 14 = d2 ∧ E 15 = (.int .i64 ((a1.length : Int))) ∧ E 16 = (.int .i64 ((f9 : Int))) ∧ E 30 = (.bool d3) ∧ (if d3 then (((m_model_Model_note_w T Z a6 a7 U Q j)).bind fun K => (((m_model_Model_begin_w T K.1 K.2.1 K.2.2 U Q j)).bind fun b2 => (m_model_Model_Add_w_L1 N e5 b2.1 K.1 K.2.1 K.2.2 b2.2.1 b2.2.2))) else (m_model_Model_Add_w_L1 N e5 T Z a6 a7 U Q)) = some r) #[true, true, true, true, true, true, true, true, true, true, true] 0 ?_ (fun d6 => ?_)
    · rintro E W ⟨d3, e7, hST, c5, f2, f3, f4, f5, f6, i5, M⟩
      have hS0 := hST.has.sel (Kb (Kb Sn))
      refine PX_done (by kernel_rfl) (sq_n (CW_if (b := d3) i5 (fun c8 => ?_) (fun c8 => ?_)))
      · replace M := if_t c8 M
        refine CW_seq (CW_region (V (R_move c5) (V (R_load f3 (load_boxA hST.has Mh (encCred j) rfl Tryz.isAgg53 Tryz.sizeOf53)) ?_)))
        obtain ⟨K, g7, M⟩ := bind_some M
        have hsz := hST.size
        refine VE (E_callM (args := [(.pointer (some ⟨z, 0, none⟩)), (.agg (encCred j).toArray)]) (caps := #[]) _ _ hST (Cb (Pb Pz) (Cr (Qb Qz) (Cr (Qb Qz) (Cr (Qb Qz) (Cr (Qb Qz) (Cr (Qb Qz) Cn)))))) rfl Tryz.call324 (by exact args2 rfl rfl) (fun hH hN hsb hmm => GivesM.weak (w_model_Model_note_w z f T a0 Y Z a2 c a6 a3 a a7 a4 a8 U a5 Q j _ _ ⟨hH, hN, Sub.refl _⟩ b4 a9 b5 b6 b7 g7)) (fun k5 l2 l5 j9 hST f7 hl743 hlift g1 => ?_))
        obtain ⟨g0, e8, e9, f0, c9, rfl, e2, e3, e4⟩ := g1
        replace c9 := c9.symm; subst c9
        replace hST := hST.perm (Tb (Tr (Tr (Tr (Tr (Tr Tn))))))
        refine LW_nil (sq_n (CW_region (V (R_move c5) (V (R_load f3 (load_boxA hST.has (Mt (Ma (Ma (Ma (Ma (Ma Mh)))))) (encCred j) rfl Tryz.isAgg53 Tryz.sizeOf53)) ?_))))
        obtain ⟨b2, g8, M⟩ := bind_some M
        have hsz := hST.size
        refine VE (E_callM (args := [(.pointer (some ⟨z, 0, none⟩)), (.agg (encCred j).toArray)]) (caps := #[]) _ _ hST (Cb Pz (Cr Qz (Cr Qz (Cr Qz (Cr Qz (Cr Qz Cn)))))) rfl Tryz.call325 (by exact args2 rfl rfl) (fun hH hN hsb hmm => (w_model_Model_begin_w z f T a0 g0 K.1 e8 c K.2.1 e9 a K.2.2 f0 a8 U a5 Q j _ _ ⟨hH, hN, Sub.refl _⟩ b4 e2 e3 e4 b7 g8)) (fun k6 l3 j1 k0 hST f8 hl760 hlift g2 => ?_))
        obtain ⟨i1, i9, i2, d0, rfl, h4, h5⟩ := g2
        replace d0 := d0.symm; subst d0
        replace hST := hST.perm (Tb (Tr (Tr (Tr (Tr (Tr Tn))))))
        refine LW_nil (bq_n (sq_n ?_))
        replace hST := hST.sel (Kb (Kr (Kr (Kr (Kr (Kr (Db St)))))))
        exact ⟨f6, b2.1, i1, g0, K.1, e8, K.2.1, e9, K.2.2, f0, i9, b2.2.1, i2, b2.2.2, j1, _, ⟨rfl, f5⟩, ((b3.trans f7).trans f8), (hST.sel St), c5, f2, f4, h4, e2, e3, e4, h5, (by rw [e1]; exact M)⟩
      replace M := if_f c8 M
      refine CW_skip (bq_n (sq_n ?_))
      replace hST := hST.sel (Db St)
      exact ⟨f6, T, a0, Y, Z, a2, a6, a3, a7, a4, a8, U, a5, Q, c1, _, ⟨rfl, f5⟩, b3, (hST.sel St), c5, f2, f4, b4, a9, b5, b6, b7, (by rw [e1]; exact M)⟩
    rcases bool_cases i6 with g | g
    · replace B := if_t g B
      refine Xg 3 rfl rfl (congrArg Value.bool g) hS0 (R_move c0) (Xg 4 rfl rfl (congrArg Value.bool g) hS0 (R_nilCheck rfl) (Xg 5 rfl rfl (congrArg Value.bool g) hS0 (R_field fa294_1 rfl) (XgH 6 rfl rfl (congrArg Value.bool g) hS0 (fun _ hS => R_load rfl (load_box1 hS (Mt Mh) rfl Tryz.isAgg22)) (XgH 7 rfl rfl (congrArg Value.bool g) hS0 (fun _ hS => R_load rfl (load_boxA hS Mh (encCred j) rfl Tryz.isAgg53 Tryz.sizeOf53)) ?_))))
      obtain ⟨i7, g9, B⟩ := bind_some B
      refine XgE 8 rfl rfl (congrArg Value.bool g) (E_gives (args := [Y, (.agg (encCred j).toArray)]) hST rfl Tryz.call201 (by exact args2 rfl rfl) (Gives.weak (w_cred_Has Y Z j _ _ (a9.sl lenCred (fun b o hq => hST.at_ (Mt (Mt (Ma (Ml hq)))))) g9)) (fun k7 hST => ?_))
      have hS0 := hST.has.sel (Kb (Kb Sn))
      refine ⟨hS0, (Xg 9 rfl rfl (congrArg Value.bool g) hS0 (R_not rfl) (X 10 rfl hS0 (R_pickT (congrArg Value.bool g) rfl) ?_))⟩
      replace B := Option.some.inj B; subst B
      refine PX_at (by kernel_rfl) (d6 _ _ ⟨((!i7)), _, (hST.sel St), c0, c3, rfl, c4, eN, eI, rfl, e0⟩)
    replace B := if_f g B
    refine Xn 3 rfl rfl (congrArg Value.bool g) hS0 (Xn 4 rfl rfl (congrArg Value.bool g) hS0 (Xn 5 rfl rfl (congrArg Value.bool g) hS0 (Xn 6 rfl rfl (congrArg Value.bool g) hS0 (Xn 7 rfl rfl (congrArg Value.bool g) hS0 (Xn 8 rfl rfl (congrArg Value.bool g) hS0 (Xn 9 rfl rfl (congrArg Value.bool g) hS0 (X 10 rfl hS0 (R_pickF (congrArg Value.bool g) rfl) ?_)))))))
    replace B := Option.some.inj B; subst B
    refine PX_at (by kernel_rfl) (d6 _ _ ⟨false, _, (hST.sel St), c0, c3, rfl, c4, eN, eI, rfl, e0⟩)
  rintro E W ⟨T, a0, Y, Z, a2, a6, a3, a7, a4, a8, U, a5, Q, c1, d7, ⟨eI, eN⟩, b3, hST, c0, c3, c4, b4, a9, b5, b6, b7, u⟩
  rw [List.drop_length] at u
  rw [m_model_Model_Add_w_L1] at u
  refine sq_n (CW_seq (CW_region (V (R_move c0) ?_)))
  obtain ⟨i8, h1, u⟩ := bind_some u
  have hsz := hST.size
  refine VE (E_callM (args := [(.pointer (some ⟨z, 0, none⟩))]) (caps := #[]) _ _ hST (Cb Pz (Cr Qz (Cr Qz (Cr Qz (Cr Qz (Cr Qz Cn)))))) rfl Tryz.call326 (by exact args1 rfl) (fun hH hN hsb hmm => (w_model_Model_settle_w z f T a0 Y Z a2 c a6 a3 a a7 a4 a8 U a5 Q _ _ ⟨hH, hN, Sub.refl _⟩ b4 a9 b5 b6 b7 h1)) (fun k8 l4 l6 k1 hST j6 hl782 hlift g3 => ?_))
  obtain ⟨i3, j0, i4, d1, rfl, h6, h7⟩ := g3
  replace d1 := d1.symm; subst d1
  replace hST := hST.perm (Tb (Tr (Tr (Tr (Tr (Tr Tn))))))
  refine LW_nil (sq_n (CW_seq (CW_region (V (R_move c0) (V (R_nilCheck rfl) (V (R_field fa294_5 rfl) (V (R_load rfl (load_box1 hST.has Mh rfl Tryz.isAgg3)) (V (R_move c3) (V (R_int rfl rfl rfl) (V (R_assign rfl) (LW_nil (sq_n (CW_ret ?_)))))))))))))
  replace u := Option.some.inj u; subst u
  exact retQ_1 (v := (.int .i64 ((IntKind.i64.wrap (i8.2.2 - N))))) rfl rfl ⟨_, _, rfl, (hST.bkM (Kb (Kr (Kr (Kr (Kr (Kr Sn))))))), i3, Y, a2, a3, a4, j0, i4, rfl, rfl, h6, a9, b5, b6, h7⟩
theorem w_model_Of (a : Value) (G : List Cred) (r : ((List (Role × (List (ByteArray × Bool)))) × (List Cred) × (List (Role × (List Cred))) × (List (ByteArray × (List Cred))) × (List Fact) × Int)) (w : World) (I : Sl (Pl encCred) 9 (hp w) a G) (hm : m_model_Of G = some r) :
    GivesM false Tryz.prog 117 [a] w [] (fun v L1 W' => ∃ (b1 : Nat) (y2 : Value) (Z : List (Nat × Obj)) (y5 : Value) (S6 : List (Nat × Obj)) (y8 : Value) (S9 : List (Nat × Obj)) (B : Value) (t : List (Nat × Obj)) (D : Value) (u : List (Nat × Obj)), v = (.pointer (some ⟨b1, 0, none⟩)) ∧ L1 = ((b1, Obj.cells (#[y2, y5, y8, B, D, (.int .i64 (r.2.2.2.2.2))] : Array Value) 294 (0, 0)) :: (Z ++ (S6 ++ (S9 ++ (t ++ (u ++ [])))))) ∧ DeepE (fun (x : Role) => (.agg (encRole x).toArray)) (MapRow Value.string (fun (x : Bool) => (Value.bool x))) y2 r.1 Z ∧ Row 53 encCred 9 y5 r.2.1 S6 ∧ DeepE (fun (x : Role) => (.agg (encRole x).toArray)) (Row 53 encCred 9) y8 r.2.2.1 S9 ∧ DeepE Value.string (Row 53 encCred 9) B r.2.2.2.1 t ∧ Que 38 encFact 3 D r.2.2.2.2.1 u) := by
  have hST := ST.start (dd := false) w
  unfold m_model_Of at hm
  refine calls_of_CW (n := 13) Tryz.func117 rfl rfl (Nat.le_of_ble_eq_true rfl) (CW_seq (CW_region (V (R_assign rfl) (LW_nil (sq_n (CW_seq (CW_region (VE (E_makeMapD (P := Tryz.prog) (fun (x : Role) => (.agg (encRole x).toArray)) (MapRow Value.string (fun (x : Bool) => (Value.bool x))) hST (fun W1 v4 R2 hST y => VE (E_makeMapD (P := Tryz.prog) (fun (x : Role) => (.agg (encRole x).toArray)) (Row 53 encCred 9) hST (fun W5 v8 R6 hST z => VE (E_makeMapD (P := Tryz.prog) Value.string (Row 53 encCred 9) hST (fun W9 c2 U hST k => ?_))))))))))))))
  obtain ⟨c, rfl⟩ := y.form
  obtain ⟨f, rfl⟩ := z.form
  obtain ⟨g, rfl⟩ := k.form
  refine V (R_build (qs := #[(0, (.map (some c))), (2, (.map (some f))), (3, (.map (some g)))]) (v := (.agg #[(.map (some c)), (.slice none 0 0), (.map (some f)), (.map (some g)), (.slice none 0 0), (.int .i64 0)])) (parts3 rfl rfl rfl) (run_build Tryz.zeroValue294 Tryz.underlying294 (pl294 _ Tryz.underlying294) (by kernel_rfl))) (VE (E_box (v := (.agg #[(.map (some c)), (.slice none 0 0), (.map (some f)), (.map (some g)), (.slice none 0 0), (.int .i64 0)])) hST rfl (fun b9 j hST => V (R_assign rfl) (LW_nil (sq_n (CW_seq (CW_region (V (R_move rfl) (V (R_move rfl) ?_)))))))))
  obtain ⟨c1, J, hm⟩ := bind_some hm
  have hsz := hST.size
  refine VE (E_callM (args := [(.pointer (some ⟨j, 0, none⟩)), a]) (caps := #[]) _ _ hST (Cb Pz (Cr (Qr (Qr Qz)) (C0 (Cr (Qr Qz) (Cr Qz (C0 Cn)))))) rfl Tryz.call233 (by exact args2 rfl rfl) (fun hH hN hsb hmm => (w_model_Model_Add_w j (.map (some c)) ([]) R2 (.slice none 0 0) ([]) [] (.map (some f)) ([]) R6 (.map (some g)) ([]) U (.slice none 0 0) ([]) [] 0 a G _ _ ⟨hH, hN, Sub.refl _⟩ y (Row.nil _ _ _) z k (Que.nil _ _ _) (I.mono (Pl.mono _) hsb) J)) (fun c0 c3 c4 b8 hST b4 hl23 hlift H => ?_))
  obtain ⟨Y, a9, a1, a2, a3, b0, a4, i, rfl, K, M, N, Q, T⟩ := H
  replace i := i.symm; subst i
  replace hST := hST.perm (Tb (Tr (Tr (Tr (Tr (Tr Tn))))))
  refine LW_nil (sq_n (CW_seq (CW_region (V (R_move rfl) (V (R_assign rfl) (LW_nil (sq_n (CW_ret ?_))))))))
  replace hm := Option.some.inj hm; subst hm
  exact retQ_1 (v := (.pointer (some ⟨j, 0, none⟩))) rfl rfl ⟨_, _, rfl, (hST.bkL (Kb (Kr (Kr (Kr (Kr (Kr Sn))))))), j, (.map (some c)), Y, a9, a1, (.map (some f)), a2, (.map (some g)), a3, b0, a4, rfl, rfl, K, M, N, Q, T⟩
theorem w_sortF264 (c : Value) (j : List Fact) (a : List (Nat × Obj)) (f : Value) (k : ((Fact × Fact)) → Option Int) (r : List Fact) (w : World) {u : Mem} (t : Ent u (a ++ []) w) (g : Row 38 encFact 3 c j a) (i : CbO Tryz.prog f u (fun (x : (Fact × Fact)) => [(.agg (encFact x.1).toArray), (.agg (encFact x.2).toArray)]) (fun (r : Int) => (.int .i64 r)) k) (hm : sortF k j = some r) :
    GivesM true Tryz.prog 264 [c, f] w (a ++ []) (fun v y W' => ∃ (S : List (Nat × Obj)), v = (.tuple #[]) ∧ y = (S ++ []) ∧ Row 38 encFact 3 c r S) := sortF_gives (P := Tryz.prog) (ρ := ren264) lay264 3 Tryz.isAgg38 Tryz.sizeOf38 encFact lenFact oneFact t.H t.S g i hm
theorem w_model_Model_Facts_c1 (a : Fact) (c : Fact) (r : Int) (w : World)  (hm : m_model_Model_Facts_c1 a c = some r) :
    Gives true Tryz.prog 265 [(.agg (encFact a).toArray), (.agg (encFact c).toArray)] w (.int .i64 r) := by
  have hST := ST.start (dd := true) w
  unfold m_model_Model_Facts_c1 at hm
  refine calls_of_CW (n := 17) Tryz.func265 rfl rfl (Nat.le_of_ble_eq_true rfl) (CW_seq (CW_region (VE (E_box (v := (.agg (encFact a).toArray)) hST rfl (fun D H hST => VE (E_box (v := (.agg (encFact c).toArray)) hST rfl (fun G I hST => V (R_assign rfl) (LW_nil (sq_n (CW_seq ?_))))))))))
  replace hST := hST.drew
  have hS0 := hST.has.sel (Kb (Kb Sn))
  refine PX_start1 hS0 Tryz_mixed (X 0 rfl hS0 (R_field fa38_0 rfl) (XH 1 rfl hS0 (fun _ hS => R_load rfl (load_boxA hS (Mt Mh) (encRole a.Role) rfl Tryz.isAgg28 Tryz.sizeOf28)) (X 2 rfl hS0 (R_field fa38_0 rfl) (XH 3 rfl hS0 (fun _ hS => R_load rfl (load_boxA hS Mh (encRole c.Role) rfl Tryz.isAgg28 Tryz.sizeOf28)) (X 5 rfl hS0 (R_field fa38_1 rfl) (XH 6 rfl hS0 (fun _ hS => R_load rfl (load_box1 hS (Mt Mh) rfl Tryz.isAgg9)) (X 7 rfl hS0 (R_field fa38_1 rfl) (XH 8 rfl hS0 (fun _ hS => R_load rfl (load_box1 hS Mh rfl Tryz.isAgg9)) ?_))))))))
  obtain ⟨f, j, hm⟩ := bind_some hm
  refine XE 4 rfl (E_gives (args := [(.agg (encRole a.Role).toArray), (.agg (encRole c.Role).toArray)]) hST rfl Tryz.call123 (by exact args2 rfl rfl) ((w_role_Compare a.Role c.Role _ _  j)) (fun x hST => ?_))
  have hS0 := hST.has.sel (Kb (Kb Sn))
  refine ⟨hS0, ?_⟩
  obtain ⟨g, k, hm⟩ := bind_some hm
  refine XE 9 rfl (E_gives (args := [(.string a.Who), (.string c.Who)]) hST rfl Tryz.call239 (by exact args2 rfl rfl) ((w_strings_Compare a.Who c.Who _ _  k)) (fun y hST => ?_))
  have hS0 := hST.has.sel (Kb (Kb Sn))
  refine ⟨hS0, (XE 10 rfl (E_buildSlice (qs := #[(0, (.int .i64 f)), (1, (.int .i64 g))]) (cs := #[(.int .i64 f), (.int .i64 g)]) hST (parts2 rfl rfl) (run_lit [(.int .i64 f), (.int .i64 g)] Tryz.underlying256 Tryz.sizeOf3 Tryz.zeroValue3 (by decide) rfl (by intro v hv; simp only [List.mem_cons, List.not_mem_nil, or_false] at hv; rcases hv with rfl | rfl <;> rfl) rfl rfl) (fun z i hST => ?_)))⟩
  have hS0 := hST.has.sel (Db (Kb (Kb Sn)))
  refine ⟨hS0, ?_⟩
  obtain ⟨u, t, hm⟩ := bind_some hm
  refine XE 11 rfl (E_gives (args := [(.slice (some ⟨i, 0, none⟩) 2 2)]) hST rfl Tryz.call238 (by exact args1 rfl) ((w_cmp_Or_int (.slice (some ⟨i, 0, none⟩) 2 2) ([f, g]) _ _ (Sl.lit (enc := (encIk .i64)) (l := [f, g]) (fun _ => rfl) rfl (Nat.le_of_ble_eq_true rfl) rfl (hST.at_ Mh)) t)) (fun B hST => ?_))
  have hS0 := hST.has.sel (Db (Kb (Kb Sn)))
  refine ⟨hS0, (X 12 rfl hS0 (R_assign rfl) (PX_done (by kernel_rfl) (sq_n ?_)))⟩
  replace hST := hST.sel (Db (Db (Db St)))
  refine CW_ret ?_
  replace hm := Option.some.inj hm; subst hm
  exact retQ_1 (v := (.int .i64 u)) rfl rfl ⟨rfl, hST.ex⟩
theorem w_model_Model_Facts (D : Nat) (a : Value) (z : List (Role × (List (ByteArray × Bool)))) (c : Value) (j : List Cred) (i : Value) (u : List (Role × (List Cred))) (f : Value) (k : List (ByteArray × (List Cred))) (g : Value) (t : List Fact) (J : Int) (r : List Fact) (w : World) (G : DeepAt (fun (x : Role) => (.agg (encRole x).toArray)) (MapRow Value.string (fun (x : Bool) => (Value.bool x))) (hp w) a z) (Y : Sl (Pl encCred) 9 (hp w) c j) (a3 : DeepAt (fun (x : Role) => (.agg (encRole x).toArray)) (Row 53 encCred 9) (hp w) i u) (Z : DeepAt Value.string (Row 53 encCred 9) (hp w) f k) (a2 : Sl (Pl encFact) 3 (hp w) g t) (U : At (hp w) (.pointer (some ⟨D, 0, none⟩)) [a, c, i, f, g, (.int .i64 J)]) (hm : m_model_Model_Facts z j u k t J = some r) :
    GivesRow true Tryz.prog 147 [(.pointer (some ⟨D, 0, none⟩))] w 38 encFact 3 r := by
  have hST := ST.start (dd := true) w
  unfold m_model_Model_Facts at hm
  refine calls_of_CW (n := 34) Tryz.func147 rfl rfl (Nat.le_of_ble_eq_true rfl) (CW_seq (CW_region (V (R_assign rfl) (LW_nil (sq_n (CW_seq (CW_seq (CW_region (V (R_move rfl) (V (R_ptrEqNil Tryz.underlying171 rfl rfl) (LW_nil (sq_n (CW_if_false rfl (CW_skip ?_))))))))))))))
  refine sq_n (CW_seq (CW_region (V (R_assign rfl) (LW_nil (sq_n (CW_seq (CW_cut (fun E W => ∃ (v_f : Value) (l_f : List Fact) (R_f L_f : List (Nat × Obj)), ST true NoF w W (hp w) (R_f ++ L_f) ∧ E 3 = v_f ∧ Row 38 encFact 3 v_f l_f R_f ∧ (((sortF (fun (x : (Fact × Fact)) => m_model_Model_Facts_c1 x.1 x.2) l_f)).bind fun r4 => some r4) = some r) ?_ ?_)))))))
  · refine CW_seq (CW_region (LW_v (.inl rfl) rfl (by decide) (R_move (v := (.pointer (some ⟨D, 0, none⟩))) rfl) (LW_v (.inl rfl) rfl (by decide) (R_nilCheck rfl) (LW_q (.inl rfl) rfl (by decide) (R_fieldAt [a] fa294_0 rfl U rfl) (fun p1 b8 => LW_v (.inl rfl) rfl (by decide) (R_load rfl (load_at1 hST.has (y := a) b8 Tryz.isAgg290)) ?_)))))
    obtain ⟨ll, hll, hmat, hall⟩ := DeepAt.zip G
    refine LW_e (.inl rfl) rfl (by decide) (E_rangeM (M := (hp w)) Tryz.underlying290 hST rfl hmat (fun b o hb => hST.mem b o hb) (fun W v5 R6 hST hI => LW_nil (sq_n ?_)))
    obtain ⟨fs, hfs, hm⟩ := bind_some hm
    obtain ⟨b3, b5, b7⟩ := pairsB_some hfs
    replace hm := allOrders_spec hm
    have hP0 : (([] : List Fact) ++ ll.flatMap (fun (p : Role × (Value × List (ByteArray × Bool))) => p.2.2.map (fun (q : ByteArray × Bool) => (⟨p.1, q.1⟩ : Fact)))).Perm fs := by rw [← b7, ← hll, List.nil_append, List.flatMap_map]
    refine CW_block (CW_loop (fun m E W => ∃ (v : Value) (l : List Fact) (R L : List (Nat × Obj)) (lf : List (Role × (Value × List (ByteArray × Bool)))) (Ri : List (Nat × Obj)), m = lf.length ∧ ST true NoF w W (hp w) (R ++ (Ri ++ L)) ∧ E 3 = v ∧ E 13 = v5 ∧ Iter (fun (x : Role) => (.agg (encRole x).toArray)) (fun x => x.1) (hp w) v5 lf Ri ∧ Row 38 encFact 3 v l R ∧ (∀ p ∈ lf, MapAt Value.string (fun (x : Bool) => (Value.bool x)) (hp w) p.2.1 p.2.2) ∧ (l ++ lf.flatMap (fun (p : Role × (Value × List (ByteArray × Bool))) => p.2.2.map (fun (q : ByteArray × Bool) => (⟨p.1, q.1⟩ : Fact)))).Perm fs) _ ⟨.slice none 0 0, [], [], [], ll, R6, rfl, hST.perm (by simp), rfl, rfl, hI, Row.nil _ _ _, hall, hP0⟩ ?_)
    rintro m E W ⟨v, l, R, L, lf, Ri, rfl, hST, N, eit, hI, hR, hall, hP⟩
    refine CW_seq (CW_region (LW_e (.inl rfl) rfl (by decide) (E_nextM R hST (fun b o hb => hST.mem b o hb) hI eit (fun hend => ?_) (fun W R1 p B I hST hA => ?_))))
    · subst hend
      exact LW_v (.inl rfl) rfl (by decide) (R_extract (v := .bool false) rfl rfl) (LW_nil (sq_n (CW_seq (CW_if_false rfl (CW_exit (sq_e (sq_e (bq_e (sq_n ⟨v, l, R, Ri ++ L, hST, N, hR, hm l (by simpa using hP)⟩)))))))))
    · refine LW_v (.inl rfl) rfl (by decide) (R_extract (v := .bool true) rfl rfl) (LW_nil (sq_n (CW_seq (CW_if_true rfl (CW_skip (sq_n (CW_block (CW_seq (CW_region (LW_v (.inl rfl) rfl (by decide) (R_entryM (fun q hq => (hST.box q.1 q.2 (List.mem_append_right _ (List.mem_append_left _ hq))).1) (fun b o hb => hST.mem b o hb) hA eit) (LW_v (.inl rfl) rfl (by decide) (R_extract (v := (.agg (encRole p.1).toArray)) rfl rfl) (LW_v (.inl rfl) rfl (by decide) (R_extract (v := p.2.1) rfl rfl) (LW_e (.inl rfl) rfl (by decide) (E_alloc hST Tryz.zeroValue28 (fun W b4 hST => LW_e0 (.inl rfl) rfl (E_store [] (.agg (encRole p.1).toArray) ((encRole p.1).toArray) hST rfl rfl Tryz.sizeOf28 (oneRole p.1) (Nat.le_of_ble_eq_true rfl) rfl (fun W hST => LW_v (.inl rfl) rfl (by decide) (R_assign (v := p.2.1) rfl) (LW_nil (sq_n (CW_seq (CW_region (LW_v (.inl rfl) rfl (by decide) (R_move (v := p.2.1) rfl) (LW_e (.inl rfl) rfl (by decide) (E_rangeM (M := (hp w)) Tryz.underlying296 hST rfl (hall p (I.mem_iff.2 (.head _))) (fun b o hb => hST.mem b o hb) (fun W a5 a0 hST Q => LW_nil (sq_n ?_))))))))))))))))))))))))))
      have hall1 : ∀ p ∈ B, MapAt Value.string (fun (x : Bool) => (Value.bool x)) (hp w) p.2.1 p.2.2 := fun p hp => hall p (I.mem_iff.2 (.tail _ hp))
      have hP1 : (l ++ (p.2.2.map (fun q => (⟨p.1, q.1⟩ : Fact)) ++ B.flatMap (fun (p : Role × (Value × List (ByteArray × Bool))) => p.2.2.map (fun (q : ByteArray × Bool) => (⟨p.1, q.1⟩ : Fact))))).Perm fs := (List.Perm.append_left l (List.Perm.flatMap_right (fun (p : Role × (Value × List (ByteArray × Bool))) => p.2.2.map (fun (q : ByteArray × Bool) => (⟨p.1, q.1⟩ : Fact))) I)).symm.trans hP
      refine CW_block (CW_loop (fun m E W => ∃ (v : Value) (l : List Fact) (R L : List (Nat × Obj)) (lg : List (ByteArray × Bool)) (Rj : List (Nat × Obj)), m = lg.length ∧ ST true NoF w W (hp w) ((b4, Obj.cells (encRole p.1).toArray 28 (0, 0)) :: (R ++ (Rj ++ (R1 ++ L)))) ∧ E 3 = v ∧ E 13 = v5 ∧ E 4 = .pointer (some ⟨b4, 0, none⟩) ∧ E 20 = a5 ∧ Iter Value.string (fun (x : Bool) => (Value.bool x)) (hp w) a5 lg Rj ∧ Row 38 encFact 3 v l R ∧ (l ++ (lg.map (fun q => (⟨p.1, q.1⟩ : Fact)) ++ B.flatMap (fun (p : Role × (Value × List (ByteArray × Bool))) => p.2.2.map (fun (q : ByteArray × Bool) => (⟨p.1, q.1⟩ : Fact))))).Perm fs) _ ⟨v, l, R, L, p.2.2, a0, rfl, ?_, N, eit, rfl, rfl, Q, hR, hP1⟩ ?_)
      · refine hST.perm ?_
        show (a0 ++ ((b4, Obj.cells (encRole p.1).toArray 28 (0, 0)) :: (R ++ (R1 ++ L)))).Perm _
        exact List.perm_middle.trans (List.Perm.cons _ (List.perm_append_comm_assoc _ _ _))
      rintro m E W ⟨v, l, R, L, lg, Rj, rfl, hST, N, eit, e4, K, Q, hR, hP⟩
      refine CW_seq (CW_region (LW_e (.inl rfl) rfl (by decide) (E_nextM ([_] ++ R) (by simpa only [List.append_assoc, List.cons_append, List.nil_append, List.singleton_append] using hST) (fun b o hb => hST.mem b o hb) Q K (fun hend => ?_) (fun W Rj1 q lg1 a4 hST a1 => ?_))))
      · subst hend
        exact LW_v (.inl rfl) rfl (by decide) (R_extract (v := .bool false) rfl rfl) (LW_nil (sq_n (CW_seq (CW_if_false rfl (CW_exit (sq_e (sq_e (bq_e (bq_n (sq_n ⟨_, by simp [I.length_eq], v, l, R, Rj ++ L, B, R1, rfl, (ST.drop (A := []) hST).perm (List.Perm.append_left R (List.perm_append_comm_assoc _ _ _)), N, eit, hA.iter, hR, hall1, by simpa using hP⟩))))))))))
      · simp only [List.append_assoc, List.cons_append, List.nil_append, List.singleton_append] at hST
        refine LW_v (.inl rfl) rfl (by decide) (R_extract (v := .bool true) rfl rfl) (LW_nil (sq_n (CW_seq (CW_if_true rfl (CW_skip (sq_n (CW_block (CW_seq (CW_region (LW_v (.inl rfl) rfl (by decide) (R_entryM (fun q hq => (hST.box q.1 q.2 (.tail _ (List.mem_append_right _ (List.mem_append_left _ hq)))).1) (fun b o hb => hST.mem b o hb) a1 K) (LW_v (.inl rfl) rfl (by decide) (R_extract (v := (.string q.1)) rfl rfl) (LW_v (.inl rfl) rfl (by decide) (R_assign (v := (.string q.1)) rfl) (LW_nil (sq_n (CW_region (LW_v (.inl rfl) rfl (by decide) (R_move (v := v) N) (LW_v (.inl rfl) rfl (by decide) (R_load (v := (.agg (encRole p.1).toArray)) e4 (load_boxA hST.has (.head _) (encRole p.1) rfl Tryz.isAgg28 Tryz.sizeOf28)) (LW_v (.inl rfl) rfl (by decide) (R_move (v := (.string q.1)) rfl) (LW_v (.inl rfl) rfl (by decide) (R_build (qs := #[(0, (.agg (encRole p.1).toArray)), (1, (.string q.1))]) (v := (.agg (encFact (⟨p.1, q.1⟩ : Fact)).toArray)) (parts2 rfl rfl) (run_build Tryz.zeroValue38 Tryz.underlying38 (pl38 _ Tryz.underlying38) (by kernel_rfl))) (LW_e (.inl rfl) rfl (by decide) (E_buildSlice (qs := #[(0, (.agg (encFact (⟨p.1, q.1⟩ : Fact)).toArray))]) (cs := (encFact (⟨p.1, q.1⟩ : Fact)).toArray) hST (parts1 rfl) (run_lit [(.agg (encFact (⟨p.1, q.1⟩ : Fact)).toArray)] Tryz.underlying68 Tryz.sizeOf38 Tryz.zeroValue38 (by decide) rfl (by intro v hv; simp only [List.mem_cons, List.not_mem_nil, or_false] at hv; rcases hv with rfl <;> rfl) rfl rfl) (fun W b6 hST => ?_))))))))))))))))))))))
        have hP2 : ((l ++ [(⟨p.1, q.1⟩ : Fact)]) ++ (lg1.map (fun q => (⟨p.1, q.1⟩ : Fact)) ++ B.flatMap (fun (p : Role × (Value × List (ByteArray × Bool))) => p.2.2.map (fun (q : ByteArray × Bool) => (⟨p.1, q.1⟩ : Fact))))).Perm fs := by rw [List.append_assoc]; exact (List.Perm.append_left l (List.Perm.append_right _ (a4.map (fun q => (⟨p.1, q.1⟩ : Fact))).symm)).trans hP
        have happ : appB 48 l [(⟨p.1, q.1⟩ : Fact)] = some (l ++ [(⟨p.1, q.1⟩ : Fact)]) := appB_of b3 b5 (by rw [← hP2.length_eq]; simp only [List.length_append]; omega)
        exact LW_e (.inl rfl) rfl (by decide) (E_append (enc := encFact) (v := v) (vs := (.slice (some ⟨b6, 0, none⟩) 1 1)) (R := R) [_, _] hST lenFact (by decide) oneFact Tryz.underlying68 info38.1 info38.2.1 rfl info38.2.2.1 info38.2.2.2 rfl rfl hR (Sl.lit (enc := encFact) (l := [(⟨p.1, q.1⟩ : Fact)]) lenFact rfl (Nat.le_of_ble_eq_true rfl) rfl (hST.at_ (.head _))) happ (fun W v8 R8 hST b2 => LW_v (.inl rfl) rfl (by decide) (R_assign (v := v8) rfl) (LW_nil (bq_n (sq_n ⟨_, by simp [a4.length_eq], v8, _, R8, L, lg1, Rj1, rfl, ST.drop (A := []) hST, rfl, eit, e4, K, a1.iter, b2, hP2⟩)))))
  · rintro E W ⟨v_f, l_f, R_f, L_f, hST, e_f, h_f, hm⟩
    refine CW_seq (CW_region (V (R_move e_f) ?_))
    obtain ⟨r4, b9, hm⟩ := bind_some hm
    have hsz := hST.size
    refine VE (E_callM (args := [v_f, (.func (.func 265) #[] #[])]) (caps := #[]) _ _ hST (Cr Qz Cn) rfl Tryz.call264 (by exact args2 rfl rfl) (fun hH hN hsb hmm => (w_sortF264 v_f l_f R_f (.func (.func 265) #[] #[]) (fun (x : (Fact × Fact)) => m_model_Model_Facts_c1 x.1 x.2) _ _ ⟨hH, hN, Sub.refl _⟩ h_f ⟨265, #[], rfl, Tryz.call265, fun W x r hs hm => w_model_Model_Facts_c1 x.1 x.2 r W  hm⟩ b9)) (fun W6 c7 μ7 c6 hST c5 hl9 hlift a8 => ?_))
    obtain ⟨b0, H, rfl, T⟩ := a8
    replace H := H.symm; subst H
    replace hST := hST.perm (Tr Tn)
    refine LW_nil (sq_n (CW_seq (CW_region (V (R_move e_f) (V (R_assign rfl) (LW_nil (sq_n (CW_ret ?_))))))))
    replace hm := Option.some.inj hm; subst hm
    exact retQ_1 (v := v_f) rfl rfl ⟨_, b0, rfl, hST.backRow (fun p hq => (Ml hq)) T.nd, T⟩
theorem w_slices_IndexFunc_Fact (g : Value) (t : List Fact) (j : Value) (D : Fact → Option Bool) (r : Int) (w : World) (c : Sl (Pl encFact) 3 (hp w) g t) (G : CbOk Tryz.prog j (hp w) (fun (x : Fact) => [(.agg (encFact x).toArray)]) (fun (r : Bool) => (.bool r)) D) (hm : m_slices_IndexFunc_Fact t D = some r) :
    Gives false Tryz.prog 263 [g, j] w (.int .i64 r) := by
  have hST := ST.start (dd := false) w
  unfold m_slices_IndexFunc_Fact at hm
  refine calls_of_CW (n := 19) Tryz.func263 rfl rfl (Nat.le_of_ble_eq_true rfl) (CW_seq (CW_region (V (R_assign rfl) (LW_nil (sq_n (CW_seq (CW_seq (CW_region (V (R_move rfl) (V (R_len Tryz.underlying68 rfl c) (V (R_move rfl) (LW_nil (sq_n (CW_range (fun i E W => ∃  (k : List (Nat × Obj)), (E 8 = .int .i64 (i : Nat) ∧ E 7 = .int .i64 (t.length : Nat)) ∧ ST false NoF w W (hp w) k ∧ E 0 = g ∧ E 1 = j ∧ m_slices_IndexFunc_Fact_L1 D (t.drop i) i = some r) t.length c.len ⟨_, ⟨rfl, rfl⟩, (hST.sel St), rfl, rfl, hm⟩ (by decide) (by decide) (by decide) (fun _ _ _ h => by obtain ⟨_, eIN, _⟩ := h; exact eIN) ?_ ?_))))))))))))))
  · rintro z E W H ⟨k, ⟨eI, eN⟩, hST, u, y, a⟩
    obtain ⟨B, T, M, K, N⟩ := drop_cons H
    rw [M] at a
    rw [m_slices_IndexFunc_Fact_L1] at a
    refine CW_block (CW_seq (CW_region (V (R_move eI) (V (R_assign rfl) (LW_nil (sq_n (CW_seq (CW_region (V (R_move y) (V (R_move u) (V (R_move rfl) (VQ (R_indexP (enc := encFact) (i := (z : Int)) (x0 := B) Tryz.underlying68 Tryz.sizeOf38 rfl rfl c (Int.natCast_nonneg _) K) (fun Y I => V (R_load rfl (load_atA hST.has I Tryz.isAgg38 Tryz.sizeOf38)) ?_)))))))))))))
    obtain ⟨Q, J, a⟩ := bind_some a
    refine VE (E_cb B hST G (Sub.refl _) rfl (args1 rfl) J (fun U hST => LW_nil (sq_n (CW_if (b := Q) rfl (fun f => ?_) (fun f => ?_)))))
    · replace a := if_t f a
      refine CW_seq (CW_region (V (R_move rfl) (V (R_assign rfl) (LW_nil (sq_n (CW_ret (bq_r (sq_r (bq_r (sq_r ?_))))))))))
      replace a := Option.some.inj a; subst a
      exact retQ_1 (v := (.int .i64 ((z : Int)))) rfl rfl ⟨rfl, hST.ex⟩
    replace a := if_f f a
    exact CW_skip (bq_n (sq_n ⟨eI, _, ⟨rfl, eN⟩, (hST.sel St), u, y, (by rw [N]; exact a)⟩))
  rintro E W ⟨k, ⟨eI, eN⟩, hST, u, y, a⟩
  rw [List.drop_length] at a
  rw [m_slices_IndexFunc_Fact_L1] at a
  refine sq_n (CW_seq (CW_region (V (R_assign rfl) (LW_nil (sq_n (CW_ret ?_))))))
  replace a := Option.some.inj a; subst a
  exact retQ_1 (v := (.int .i64 ((-1)))) rfl rfl ⟨rfl, hST.ex⟩
theorem w_slices_DeleteFunc_Fact (g : Value) (a0 : List Fact) (y : List (Nat × Obj)) (G : Value) (f1 : Fact → Option Bool) (r : List Fact) (w : World) {μ0 : Mem} (h0 : Ent μ0 (y ++ []) w) (a1 : Row 38 encFact 3 g a0 y) (a8 : CbOk Tryz.prog G μ0 (fun (x : Fact) => [(.agg (encFact x).toArray)]) (fun (r : Bool) => (.bool r)) f1) (hm : m_slices_DeleteFunc_Fact a0 f1 = some r) :
    GivesM false Tryz.prog 146 [g, G] w (y ++ []) (fun v L1 W' => ∃ (y1 : Value) (S2 : List (Nat × Obj)), v = y1 ∧ L1 = (S2 ++ []) ∧ Row 38 encFact 3 y1 r S2) := by
  have hST := ST.startE (dd := false) h0
  unfold m_slices_DeleteFunc_Fact at hm
  refine calls_of_CW (n := 42) Tryz.func146 rfl rfl (Nat.le_of_ble_eq_true rfl) (CW_seq (CW_region (V (R_assign rfl) (LW_nil (sq_n (CW_seq (CW_region (V (R_move rfl) (V (R_move rfl) ?_)))))))))
  obtain ⟨r1, d3, hm⟩ := bind_some hm
  refine VE (E_gives (args := [g, G]) hST rfl Tryz.call263 (by exact args2 rfl rfl) ((w_slices_IndexFunc_Fact g a0 G f1 _ _ (a1.sl lenFact (fun b o hq => hST.at_ (Ml hq))) (a8.mono hST.sub_hp) d3)) (fun W3 hST => V (R_assign rfl) (LW_nil (sq_n (CW_seq (CW_seq (CW_region (V (R_move rfl) (V (R_int rfl rfl rfl) (LW_nil (sq_n (CW_if (b := (r1 == ((-1)))) rfl (fun a9 => ?_) (fun a9 => ?_)))))))))))))
  · replace hm := if_t a9 hm
    refine CW_seq (CW_region (V (R_move rfl) (V (R_assign rfl) (LW_nil (sq_n (CW_ret (sq_r ?_)))))))
    replace hm := Option.some.inj hm; subst hm
    exact retQ_1 (v := g) rfl rfl ⟨_, _, rfl, (hST.bkM (Kr Sn)), g, y, rfl, rfl, a1⟩
  replace hm := if_f a9 hm
  refine CW_skip (sq_n (CW_seq (CW_seq (CW_region (V (R_move rfl) (V (R_int rfl rfl rfl) (V (R_assign rfl) (LW_nil (sq_n (CW_block (CW_loop (fun m E W => ∃ (D : List Fact) (I : List (Nat × Obj)) (k : Int) (t : Int) (a5 : List (Nat × Obj)), ST false (keys (y ++ [])) w W μ0 (I ++ a5) ∧ E 0 = g ∧ E 1 = G ∧ E 5 = (.int .i64 k) ∧ E 6 = (.int .i64 t) ∧ Row 38 encFact 3 g D I ∧ m_slices_DeleteFunc_Fact_L1 f1 m D k t = some r) FUEL ⟨a0, y, r1, ((IntKind.i64.wrap (r1 + 1))), _, (hST.sel St), rfl, rfl, rfl, rfl, a1, hm⟩ ?_)))))))))))
  rintro m E W ⟨D, I, k, t, a5, hST, B, Z, H, K, f, c⟩
  cases m with
  | zero => rw [m_slices_DeleteFunc_Fact_L1] at c; cases c
  | succ b0 =>
    rw [m_slices_DeleteFunc_Fact_L1] at c
    refine CW_seq (CW_seq (CW_region (V (R_move K) (V (R_move B) (V (R_lenRow Tryz.underlying68 rfl f) (V (R_int rfl rfl rfl) (LW_nil (sq_n (CW_if (b := (decide (t < ((D.length : Int))))) rfl (fun M => ?_) (fun M => ?_))))))))))
    · replace c := if_t M c
      refine CW_skip (sq_n (CW_seq ?_))
      obtain ⟨e5, a, a4⟩ := bind_some c
      refine CW_cut (fun E W => ∃ (U : List Fact) (J : List (Nat × Obj)) (Y : Int) (a6 : List (Nat × Obj)), ST false (keys (y ++ [])) w W μ0 (J ++ a6) ∧ E 0 = g ∧ E 1 = G ∧ E 5 = (.int .i64 Y) ∧ E 6 = (.int .i64 t) ∧ Row 38 encFact 3 g U J ∧ (m_slices_DeleteFunc_Fact_L1 f1 b0 U Y ((IntKind.i64.wrap (t + 1)))) = some r) ?_ ?_
      · refine CW_block (CW_seq (CW_region (V (R_move B) (V (R_move K) ?_))))
        obtain ⟨j, Q, a⟩ := bind_some a
        refine VQ (R_indexRow (i := t) (x0 := j) Tryz.underlying68 Tryz.sizeOf38 rfl rfl f (idx_nonneg Q) (idx_get Q)) (fun e3 b6 => V (R_load rfl (load_ixA hST.has (fun p hq => (Ml hq)) f lenFact b6 (idx_get Q) Tryz.isAgg38 Tryz.sizeOf38)) (VE (E_alloc hST Tryz.zeroValue38 (fun d6 e1 hST => VO (F_store (.agg (encFact j).toArray) ((encFact j).toArray) hST rfl rfl Tryz.sizeOf38 (oneFact j) (Nat.le_of_ble_eq_true rfl) rfl (fun d7 hST => LW_nil (sq_n (CW_seq (CW_region (V (R_move Z) (V (R_load rfl (load_boxA hST.has Mh (encFact j) rfl Tryz.isAgg38 Tryz.sizeOf38)) ?_)))))))))))
        obtain ⟨d0, b8, a⟩ := bind_some a
        refine VE (E_cb j hST a8 (Sub.refl _) rfl (args1 rfl) b8 (fun d8 hST => V (R_not rfl) (LW_nil (sq_n (CW_if (b := (!d0)) rfl (fun N => ?_) (fun N => ?_))))))
        · replace a := if_t N a
          refine CW_seq (CW_region (V (R_move B) (V (R_move H) (V (R_load rfl (load_boxA hST.has Mh (encFact j) rfl Tryz.isAgg38 Tryz.sizeOf38)) ?_))))
          obtain ⟨d1, T, a⟩ := bind_some a
          refine VQ (R_indexRow (i := k) (x0 := d1) Tryz.underlying68 Tryz.sizeOf38 rfl rfl f (idx_nonneg T) (idx_get T)) (fun e4 b7 => ?_)
          replace hST := hST.perm (Nr (Qb Qz) Nz)
          refine VO (F_storeRow (u := (.agg (encFact j).toArray)) (x1 := j)  hST f lenFact oneFact rfl rfl rfl b7 (idx_get T) Tryz.sizeOf38 (fun d9 c3 hST b3 => LW_nil (sq_n ?_)))
          replace hST := hST.sel (Kr (Db St))
          refine CW_region (V (R_move H) (V (R_int rfl rfl rfl) (V (R_assign rfl) (LW_nil (bq_n (sq_n ?_))))))
          replace a := Option.some.inj a; subst a
          exact ⟨((D.set (Int.toNat k) j)), c3, ((IntKind.i64.wrap (k + 1))), _, (hST.sel St), B, Z, rfl, K, b3, a4⟩
        replace a := if_f N a
        refine CW_skip (bq_n (sq_n ?_))
        replace a := Option.some.inj a; subst a
        exact ⟨D, I, k, _, (hST.sel (Db St)), B, Z, H, K, f, a4⟩
      rintro E W ⟨U, J, Y, a6, hST, c5, c6, c7, c8, b9, b5⟩
      exact CW_region (V (R_move c8) (V (R_int rfl rfl rfl) (V (R_assign rfl) (LW_nil (sq_n ⟨b0, Nat.lt_succ_self _, U, J, Y, ((IntKind.i64.wrap (t + 1))), _, (hST.sel St), c5, c6, c7, rfl, b9, b5⟩)))))
    replace c := if_f M c
    refine CW_exit (sq_e (sq_e (bq_e (sq_n (CW_seq (CW_region (V (R_move B) (V (R_move H) ?_))))))))
    obtain ⟨_, a2, c⟩ := bind_some c
    refine VQ (R_sliceTail (i := k) Tryz.underlying68 Tryz.sizeOf38 rfl rfl f (chk_1 a2) (chk_2 a2)) (fun e6 c0 => VO (F_clearTail (z := (⟨(⟨zS, zS⟩ : Role), zS⟩ : Fact))  hST f lenFact oneFact Tryz.underlying68 Tryz.zeroValue38 c0 rfl rfl (fun e0 c4 hST b4 => LW_nil (sq_n (CW_seq (CW_region (V (R_move B) (V (R_move H) ?_))))))))
    obtain ⟨_, a3, c⟩ := bind_some c
    refine VQ (R_sliceTo (i := k) Tryz.underlying68 Tryz.sizeOf38 rfl rfl b4 lenFact (chk_1 a3) (chk_2 a3)) (fun b1 c1 => V (R_assign rfl) (LW_nil (sq_n (CW_ret ?_))))
    replace c := Option.some.inj c; subst c
    exact retQ_1 (v := b1) rfl rfl ⟨_, _, rfl, (hST.bkM (Kr Sn)), b1, c4, rfl, rfl, c1⟩
theorem w_model_Model_In (J : Nat) (a : Value) (t : List (Role × (List (ByteArray × Bool)))) (c : Value) (j : List Cred) (i : Value) (D : List (Role × (List Cred))) (f : Value) (u : List (ByteArray × (List Cred))) (g : Value) (B : List Fact) (I : Int) (G : Role) (N : ByteArray) (r : Bool) (w : World) (H : DeepAt (fun (x : Role) => (.agg (encRole x).toArray)) (MapRow Value.string (fun (x : Bool) => (Value.bool x))) (hp w) a t) (T : Sl (Pl encCred) 9 (hp w) c j) (Z : DeepAt (fun (x : Role) => (.agg (encRole x).toArray)) (Row 53 encCred 9) (hp w) i D) (U : DeepAt Value.string (Row 53 encCred 9) (hp w) f u) (Y : Sl (Pl encFact) 3 (hp w) g B) (Q : At (hp w) (.pointer (some ⟨J, 0, none⟩)) [a, c, i, f, g, (.int .i64 I)]) (hm : m_model_Model_In t j D u B I G N = some r) :
    Gives true Tryz.prog 149 [(.pointer (some ⟨J, 0, none⟩)), (.agg (encRole G).toArray), (.string N)] w (.bool r) := by
  have hST := ST.start (dd := true) w
  unfold m_model_Model_In at hm
  refine calls_of_CW (n := 19) Tryz.func149 rfl rfl (Nat.le_of_ble_eq_true rfl) (CW_seq (CW_region (VE (E_box (v := (.agg (encRole G).toArray)) hST rfl (fun W2 b1 hST => V (R_assign rfl) (LW_nil (sq_n (CW_seq ?_))))))))
  replace hST := hST.drew
  have hS0 := hST.has.sel (Kb Sn)
  refine PX_start1 hS0 Tryz_mixed (X 0 rfl hS0 (R_move rfl) (X 1 rfl hS0 (R_ptrNeNil Tryz.underlying171 rfl rfl) (X 2 rfl hS0 (R_move rfl) (Xg 3 rfl rfl rfl hS0 (R_move rfl) (Xg 4 rfl rfl rfl hS0 (R_nilCheck rfl) (PX_q 5 rfl (by kernel_rfl) (.inr ⟨2, true, 9, rfl, rfl, by decide, rfl⟩) rfl (by decide) (fun _ _ h => h) hS0 (R_fieldAt [a] fa294_0 rfl Q rfl) (fun a5 a0 => XgH 6 rfl rfl rfl hS0 (fun _ hS => R_load rfl (load_at1 hS (y := a) a0 Tryz.isAgg290)) (XgH 7 rfl rfl rfl hS0 (fun _ hS => R_load rfl (load_boxA hS Mh (encRole G) rfl Tryz.isAgg28 Tryz.sizeOf28)) ?_))))))))
  obtain ⟨a3, a4, K, M⟩ := H
  refine XgH 8 rfl rfl rfl hS0 (fun _ hS => R_lookupDeep (k := G) (z := (.map none)) kl28 Tryz.underlying290 Tryz.zeroValue296 rfl rfl K (fun b o hq => hS.1 b o (M b o hq))) (Xg 9 rfl rfl rfl hS0 (R_move rfl) (XgH 10 rfl rfl rfl hS0 (fun _ hS => R_lookupD (k := N) (z := false) (vf := (fun (x : Bool) => (Value.bool x))) kl9 Tryz.underlying296 Tryz.zeroValue4 rfl rfl ((DeepV.mapAt beqRole_iff.1 K G M).mono (fun b o hq => hS.1 b o hq))) (X 11 rfl hS0 (R_pickT rfl rfl) (X 12 rfl hS0 (R_assign rfl) (PX_done (by kernel_rfl) (sq_n ?_))))))
  replace hST := hST.sel (Db St)
  refine CW_ret ?_
  replace hm := Option.some.inj hm; subst hm
  exact retQ_1 (v := (.bool ((mgetD beqS (((mget beqRole t G).getD [])) N false)))) rfl rfl ⟨rfl, hST.ex⟩
theorem w_revoke_Lost_c1 (K : Fact) (N : Nat) (z : Nat) (k : Value) (B : List (Role × (List (ByteArray × Bool)))) (a : Value) (i : List Cred) (g : Value) (u : List (Role × (List Cred))) (c : Value) (j : List (ByteArray × (List Cred))) (f : Value) (t : List Fact) (H : Int) (r : Bool) (w : World) (M : DeepAt (fun (x : Role) => (.agg (encRole x).toArray)) (MapRow Value.string (fun (x : Bool) => (Value.bool x))) (hp w) k B) (D : Sl (Pl encCred) 9 (hp w) a i) (J : DeepAt (fun (x : Role) => (.agg (encRole x).toArray)) (Row 53 encCred 9) (hp w) g u) (G : DeepAt Value.string (Row 53 encCred 9) (hp w) c j) (I : Sl (Pl encFact) 3 (hp w) f t) (Q : At (hp w) (.pointer (some ⟨z, 0, none⟩)) [k, a, g, c, f, (.int .i64 H)]) (T : At (hp w) (.pointer (some ⟨N, 0, none⟩)) [(.pointer (some ⟨z, 0, none⟩))]) (hm : m_revoke_Lost_c1 K B i u j t H = some r) :
    Gives true Tryz.prog 148 [(.agg (encFact K).toArray), (.pointer (some ⟨N, 0, none⟩))] w (.bool r) := by
  have hST := ST.start (dd := true) w
  unfold m_revoke_Lost_c1 at hm
  refine calls_of_CW (n := 10) Tryz.func148 rfl rfl (Nat.le_of_ble_eq_true rfl) (CW_seq (CW_region (VE (E_box (v := (.agg (encFact K).toArray)) hST rfl (fun Z b1 hST => V (R_assign rfl) (LW_nil (sq_n (CW_seq (CW_region (V (R_load rfl (load_at1 hST.has (y := (.pointer (some ⟨z, 0, none⟩))) T Tryz.isAgg171)) (V (R_field fa38_0 rfl) (V (R_load rfl (load_boxA hST.has Mh (encRole K.Role) rfl Tryz.isAgg28 Tryz.sizeOf28)) (V (R_field fa38_1 rfl) (V (R_load rfl (load_box1 hST.has Mh rfl Tryz.isAgg9)) ?_))))))))))))))
  obtain ⟨Y, U, hm⟩ := bind_some hm
  refine VE (E_gives (args := [(.pointer (some ⟨z, 0, none⟩)), (.agg (encRole K.Role).toArray), (.string K.Who)]) hST rfl Tryz.call149 (by exact args3 rfl rfl rfl) ((w_model_Model_In z k B a i g u c j f t H K.Role K.Who _ _ (M.mono hST.sub_hp) (D.mono (Pl.mono _) hST.sub_hp) (J.mono hST.sub_hp) (G.mono hST.sub_hp) (I.mono (Pl.mono _) hST.sub_hp) (Q.mono hST.sub_hp) U)) (fun W5 hST => V (R_assign rfl) (LW_nil (sq_n ?_))))
  replace hST := hST.sel (Db St)
  refine CW_ret ?_
  replace hm := Option.some.inj hm; subst hm
  exact retQ_1 (v := (.bool Y)) rfl rfl ⟨rfl, hST.ex⟩
theorem w_revoke_Lost (c : Value) (B : List Cred) (g : Value) (I : List Cred) (r : List Fact) (w : World) (y : Sl (Pl encCred) 9 (hp w) c B) (Q : Sl (Pl encCred) 9 (hp w) g I) (hm : m_revoke_Lost B I = some r) :
    GivesRow false Tryz.prog 45 [c, g] w 38 encFact 3 r := by
  have hST := ST.start (dd := false) w
  unfold m_revoke_Lost at hm
  refine calls_of_CW (n := 15) Tryz.func45 rfl rfl (Nat.le_of_ble_eq_true rfl) (CW_seq (CW_region (V (R_assign rfl) (LW_nil (sq_n (CW_seq (CW_region (V (R_move rfl) (V (R_move rfl) ?_)))))))))
  obtain ⟨r1, b6, hm⟩ := bind_some hm
  refine VE (F_givesRow (args := [c, g]) _ hST rfl Tryz.call145 (by exact args2 rfl rfl) ((w_revoke_without c B g I _ _ (y.mono (Pl.mono _) hST.sub_hp) (Q.mono (Pl.mono _) hST.sub_hp) b6)) (fun W3 v7 μ4 R8 hST T hl6 b5 => ?_))
  obtain ⟨a, U, hm⟩ := bind_some hm
  have hsz := hST.size
  refine VE (E_callM (args := [v7]) (caps := #[]) [] _ hST (List.Perm.refl _) rfl Tryz.call117 (by exact args1 rfl) (fun _ _ _ _ => (w_model_Of v7 r1 _ _ (b5.sl lenCred (fun b o hq => hST.at_ (Ml hq))) U)) (fun e7 f4 f7 d4 hST D hl15 hlift J => ?_))
  obtain ⟨u, b9, d7, c0, d8, c1, d9, c2, e0, c3, e1, i, rfl, a3, a4, a5, a6, a7⟩ := J
  replace i := i.symm; subst i
  replace hST := hST.perm (Tb (Tr (Tr (Tr (Tr (Tr Tn))))))
  refine VE (E_alloc hST Tryz.zeroValue171 (fun e8 t hST => VO (F_store (.pointer (some ⟨u, 0, none⟩)) (#[(.pointer (some ⟨u, 0, none⟩))]) hST rfl rfl Tryz.sizeOf171 (by simp [Value.cells, Value.oneCell']) (Nat.le_of_ble_eq_true rfl) rfl (fun e9 hST => LW_nil (sq_n ?_)))))
  replace hST := hST.sel (Kb (Kb (Kr (Kr (Kr (Kr (Kr (Dr St))))))))
  refine CW_seq (CW_region (V (R_move rfl) ?_))
  obtain ⟨f, Y, hm⟩ := bind_some hm
  have hsz := hST.size
  refine VE (E_callM (args := [c]) (caps := #[]) [] _ hST (List.Perm.refl _) rfl Tryz.call117 (by exact args1 rfl) (fun _ _ _ _ => (w_model_Of c B _ _ (y.mono (Pl.mono _) ((T.trans D).trans hST.sub_hp)) Y)) (fun f0 f5 f8 d5 hST d0 hl44 hlift K => ?_))
  obtain ⟨G, c4, e2, c5, e3, c6, e4, c7, e5, c8, e6, j, rfl, a8, a9, b0, b1, b2⟩ := K
  replace j := j.symm; subst j
  replace hST := hST.perm (Tb (Tr (Tr (Tr (Tr (Tr Tn))))))
  obtain ⟨b7, Z, hm⟩ := bind_some hm
  refine VE (F_givesRow (args := [(.pointer (some ⟨G, 0, none⟩))]) _ hST rfl Tryz.call147 (by exact args1 rfl) (GivesRow.weak (w_model_Model_Facts G c4 f.1 c5 f.2.1 c6 f.2.2.1 c7 f.2.2.2.1 c8 f.2.2.2.2.1 f.2.2.2.2.2 _ _ (a8.at (fun b o hq => hST.at_ (Mt (Ml hq)))) (a9.sl lenCred (fun b o hq => hST.at_ (Mt (Ma (Ml hq))))) (b0.at (fun b o hq => hST.at_ (Mt (Ma (Ma (Ml hq)))))) (b1.at (fun b o hq => hST.at_ (Mt (Ma (Ma (Ma (Ml hq))))))) ((b2.slL lenFact).mono (Pl.mono _) (memL_held (fun b o hq => hST.at_ (Mt (Ma (Ma (Ma (Ma (Ml hq))))))))) (At.of (hST.at_ Mh) _ rfl) Z)) (fun f1 H f9 b3 hST d1 hl70 N => V (R_makeFuncC (by exact args1 rfl) rfl) ?_))
  obtain ⟨f3, a2, hm⟩ := bind_some hm
  have hsz := hST.size
  refine VE (E_callM (args := [H, (.func (.func 148) #[] #[(.pointer (some ⟨t, 0, none⟩))])]) (caps := #[]) _ _ hST (Cr Qz Cn) rfl Tryz.call146 (by exact args2 rfl rfl) (fun hH hN hsb hmm => (w_slices_DeleteFunc_Fact H b7 b3 (.func (.func 148) #[] #[(.pointer (some ⟨t, 0, none⟩))]) (fun (x : Fact) => m_revoke_Lost_c1 x a.1 a.2.1 a.2.2.1 a.2.2.2.1 a.2.2.2.2.1 a.2.2.2.2.2) _ _ ⟨hH, hN, Sub.refl _⟩ N ⟨148, #[], #[(.pointer (some ⟨t, 0, none⟩))], rfl, Tryz.call148, fun W x r hs hm => (w_revoke_Lost_c1 x t u b9 a.1 c0 a.2.1 c1 a.2.2.1 c2 a.2.2.2.1 c3 a.2.2.2.2.1 a.2.2.2.2.2 r W (a3.at (fun b o hq => hs _ _ ((fun b o hq => hmm b o (Mt (Ma (Ma (Ma (Ma (Ma (Mt (Mt (Ml hq)))))))))) b o hq))) (a4.sl lenCred (fun b o hq => hs _ _ ((fun b o hq => hmm b o (Mt (Ma (Ma (Ma (Ma (Ma (Mt (Mt (Ma (Ml hq))))))))))) b o hq))) (a5.at (fun b o hq => hs _ _ ((fun b o hq => hmm b o (Mt (Ma (Ma (Ma (Ma (Ma (Mt (Mt (Ma (Ma (Ml hq)))))))))))) b o hq))) (a6.at (fun b o hq => hs _ _ ((fun b o hq => hmm b o (Mt (Ma (Ma (Ma (Ma (Ma (Mt (Mt (Ma (Ma (Ma (Ml hq))))))))))))) b o hq))) ((a7.slL lenFact).mono (Pl.mono _) (memL_held (fun b o hq => hs _ _ ((fun b o hq => hmm b o (Mt (Ma (Ma (Ma (Ma (Ma (Mt (Mt (Ma (Ma (Ma (Ma (Ml hq)))))))))))))) b o hq)))) (At.of (hs _ _ (hmm _ _ (Mt (Ma (Ma (Ma (Ma (Ma (Mt Mh))))))))) _ rfl) (At.of (hs _ _ (hmm _ _ (Mt (Ma (Ma (Ma (Ma (Ma Mh)))))))) _ rfl) hm).weak⟩ a2)) (fun f2 f6 g0 d6 hST d2 hl79 hlift M => ?_))
  obtain ⟨c9, b4, k, rfl, z⟩ := M
  replace k := k.symm; subst k
  replace hST := hST.perm (Tr Tn)
  refine V (R_assign rfl) (LW_nil (sq_n ?_))
  replace hST := hST.sel (Kr (Db (Dr (Dr (Dr (Dr (Dr (Db (Db (Dr (Dr (Dr (Dr (Dr St))))))))))))))
  refine CW_ret ?_
  replace hm := Option.some.inj hm; subst hm
  exact retQ_1 (v := c9) rfl rfl ⟨_, b4, rfl, hST.backRow (fun p hq => (Ml hq)) z.nd, z⟩
theorem w_revoke_Critical_c1 (g : Cred) (z : Nat) (f : Value) (Z : List Cred) (B : Nat) (i : Fact) (r : Bool) (w : World) (a1 : Sl (Pl encCred) 9 (hp w) f Z) (G : At (hp w) (.pointer (some ⟨z, 0, none⟩)) [f]) (t : At (hp w) (.pointer (some ⟨B, 0, none⟩)) (encFact i)) (hm : m_revoke_Critical_c1 g Z i = some r) :
    Gives false Tryz.prog 151 [(.agg (encCred g).toArray), (.pointer (some ⟨z, 0, none⟩)), (.pointer (some ⟨B, 0, none⟩))] w (.bool r) := by
  have hST := ST.start (dd := false) w
  unfold m_revoke_Critical_c1 at hm
  refine calls_of_CW (n := 15) Tryz.func151 rfl rfl (Nat.le_of_ble_eq_true rfl) (CW_seq (CW_region (VE (E_box (v := (.agg (encCred g).toArray)) hST rfl (fun W2 b1 hST => V (R_assign rfl) (LW_nil (sq_n (CW_seq ?_))))))))
  replace hST := hST.drew
  have hS0 := hST.has.sel (Kb Sn)
  refine PX_start1 hS0 Tryz_mixed (XH 0 rfl hS0 (fun _ hS => R_load rfl (load_at1 hS (y := f) G Tryz.isAgg22)) (XH 1 rfl hS0 (fun _ hS => R_load rfl (load_boxA hS Mh (encCred g) rfl Tryz.isAgg53 Tryz.sizeOf53)) (XQ 5 rfl hS0 (R_fieldAt (encRole i.Role) fa38_0 rfl t rfl) (fun c8 a2 => XH 6 rfl hS0 (fun _ hS => R_load rfl (load_atA hS a2 Tryz.isAgg28 Tryz.sizeOf28)) (XQ 7 rfl hS0 (R_fieldAt [(.string i.Who)] fa38_1 rfl t rfl) (fun c9 a3 => XH 8 rfl hS0 (fun _ hS => R_load rfl (load_at1 hS (y := (.string i.Who)) a3 Tryz.isAgg9)) (XE 2 rfl (E_buildSlice (qs := #[(0, (.agg (encCred g).toArray))]) (cs := (encCred g).toArray) hST (parts1 rfl) (run_lit [(.agg (encCred g).toArray)] Tryz.underlying22 Tryz.sizeOf53 Tryz.zeroValue53 (by decide) rfl (by intro v hv; simp only [List.mem_cons, List.not_mem_nil, or_false] at hv; rcases hv with rfl <;> rfl) rfl rfl) (fun b9 u hST => ?_)))))))))
  have hS0 := hST.has.sel (Db (Kb Sn))
  refine ⟨hS0, ?_⟩
  obtain ⟨a4, J, hm⟩ := bind_some hm
  refine XE 3 rfl (F_givesRow (args := [f, (.slice (some ⟨u, 0, none⟩) 1 1)]) _ hST rfl Tryz.call145 (by exact args2 rfl rfl) ((w_revoke_without f Z (.slice (some ⟨u, 0, none⟩) 1 1) ([g]) _ _ (a1.mono (Pl.mono _) hST.sub_hp) (Sl.lit (enc := encCred) (l := [g]) lenCred rfl (Nat.le_of_ble_eq_true rfl) rfl (hST.at_ Mh)) J)) (fun c2 D c6 b3 hST c hl108 I => ?_))
  have hS0 := hST.has.selS c (Dr (Db (Kb Sn)))
  refine ⟨hS0, ?_⟩
  obtain ⟨a, K, hm⟩ := bind_some hm
  have hsz := hST.size
  refine XE 4 rfl (E_callM (args := [D]) (caps := #[]) [] _ hST (List.Perm.refl _) rfl Tryz.call117 (by exact args1 rfl) (fun _ _ _ _ => (w_model_Of D a4 _ _ (I.sl lenCred (fun b o hq => hST.at_ (Ml hq))) K)) (fun c3 c5 c7 b2 hST k hl117 hlift H => ?_))
  obtain ⟨x, a6, b4, a7, b5, a8, b6, a9, b7, b0, b8, j, rfl, N, Q, T, U, Y⟩ := H
  replace j := j.symm; subst j
  replace hST := hST.perm (Tb (Tr (Tr (Tr (Tr (Tr Tn))))))
  have hS0 := hST.has.selS (c.trans k) (Db (Dr (Dr (Dr (Dr (Dr (Dr (Db (Kb Sn)))))))))
  refine ⟨hS0, ?_⟩
  obtain ⟨a5, M, hm⟩ := bind_some hm
  refine XE 9 rfl (E_gives (args := [(.pointer (some ⟨x, 0, none⟩)), (.agg (encRole i.Role).toArray), (.string i.Who)]) hST rfl Tryz.call149 (by exact args3 rfl rfl rfl) (Gives.weak (w_model_Model_In x a6 a.1 a7 a.2.1 a8 a.2.2.1 a9 a.2.2.2.1 b0 a.2.2.2.2.1 a.2.2.2.2.2 i.Role i.Who _ _ (N.at (fun b o hq => hST.at_ (Mt (Ml hq)))) (Q.sl lenCred (fun b o hq => hST.at_ (Mt (Ma (Ml hq))))) (T.at (fun b o hq => hST.at_ (Mt (Ma (Ma (Ml hq)))))) (U.at (fun b o hq => hST.at_ (Mt (Ma (Ma (Ma (Ml hq))))))) ((Y.slL lenFact).mono (Pl.mono _) (memL_held (fun b o hq => hST.at_ (Mt (Ma (Ma (Ma (Ma (Ml hq))))))))) (At.of (hST.at_ Mh) _ rfl) M)) (fun c4 hST => ?_))
  have hS0 := hST.has.selS (c.trans k) (Db (Dr (Dr (Dr (Dr (Dr (Dr (Db (Kb Sn)))))))))
  refine ⟨hS0, (X 10 rfl hS0 (R_assign rfl) (PX_done (by kernel_rfl) (sq_n ?_)))⟩
  replace hST := hST.sel (Db (Dr (Dr (Dr (Dr (Dr (Dr (Db (Db St)))))))))
  refine CW_ret ?_
  replace hm := Option.some.inj hm; subst hm
  exact retQ_1 (v := (.bool a5)) rfl rfl ⟨rfl, hST.ex⟩
theorem w_revoke_Critical (D : Value) (a : List Cred) (f : Fact) (r : List Cred) (w : World) (i : Sl (Pl encCred) 9 (hp w) D a) (hm : m_revoke_Critical a f = some r) :
    GivesRow false Tryz.prog 47 [D, (.agg (encFact f).toArray)] w 53 encCred 9 r := by
  have hST := ST.start (dd := false) w
  unfold m_revoke_Critical at hm
  refine calls_of_CW (n := 17) Tryz.func47 rfl rfl (Nat.le_of_ble_eq_true rfl) (CW_seq (CW_region ?_))
  obtain ⟨y, z, rfl⟩ := i.form
  refine VE (E_box (v := (.slice y a.length z)) hST rfl (fun W4 G hST => VE (E_box (v := (.agg (encFact f).toArray)) hST rfl (fun W6 H hST => V (R_assign rfl) (LW_nil (sq_n (CW_seq (CW_seq ?_))))))))
  replace hST := hST.drew
  have hS0 := hST.has.sel (Kb (Kb Sn))
  refine PX_start1 hS0 Tryz_mixed (XH 0 rfl hS0 (fun _ hS => R_load rfl (load_box1 hS (Mt Mh) rfl Tryz.isAgg22)) (X 2 rfl hS0 (R_field fa38_0 rfl) (XH 3 rfl hS0 (fun _ hS => R_load rfl (load_boxA hS Mh (encRole f.Role) rfl Tryz.isAgg28 Tryz.sizeOf28)) (X 4 rfl hS0 (R_field fa38_1 rfl) (XH 5 rfl hS0 (fun _ hS => R_load rfl (load_box1 hS Mh rfl Tryz.isAgg9)) ?_)))))
  obtain ⟨g, Y, hm⟩ := bind_some hm
  have hsz := hST.size
  refine XE 1 rfl (E_callM (args := [(.slice y a.length z)]) (caps := #[]) [] _ hST (List.Perm.refl _) rfl Tryz.call117 (by exact args1 rfl) (fun _ _ _ _ => (w_model_Of (.slice y a.length z) a _ _ (i.mono (Pl.mono _) hST.sub_hp) Y)) (fun d1 d4 d5 c5 hST c hl70 hlift U => ?_))
  obtain ⟨N, b2, c6, b4, c7, b6, c8, b7, c9, b8, d0, t, rfl, a3, a4, a5, a6, a7⟩ := U
  replace t := t.symm; subst t
  replace hST := hST.perm (Tb (Tr (Tr (Tr (Tr (Tr Tn))))))
  have hS0 := hST.has.selS c (Db (Dr (Dr (Dr (Dr (Dr (Kb (Kb Sn))))))))
  refine ⟨hS0, ?_⟩
  obtain ⟨b0, Z, hm⟩ := bind_some hm
  refine XE 6 rfl (E_gives (args := [(.pointer (some ⟨N, 0, none⟩)), (.agg (encRole f.Role).toArray), (.string f.Who)]) hST rfl Tryz.call149 (by exact args3 rfl rfl rfl) (Gives.weak (w_model_Model_In N b2 g.1 b4 g.2.1 b6 g.2.2.1 b7 g.2.2.2.1 b8 g.2.2.2.2.1 g.2.2.2.2.2 f.Role f.Who _ _ (a3.at (fun b o hq => hST.at_ (Mt (Ml hq)))) (a4.sl lenCred (fun b o hq => hST.at_ (Mt (Ma (Ml hq))))) (a5.at (fun b o hq => hST.at_ (Mt (Ma (Ma (Ml hq)))))) (a6.at (fun b o hq => hST.at_ (Mt (Ma (Ma (Ma (Ml hq))))))) ((a7.slL lenFact).mono (Pl.mono _) (memL_held (fun b o hq => hST.at_ (Mt (Ma (Ma (Ma (Ma (Ml hq))))))))) (At.of (hST.at_ Mh) _ rfl) Z)) (fun d2 hST => ?_))
  have hS0 := hST.has.selS c (Db (Dr (Dr (Dr (Dr (Dr (Kb (Kb Sn))))))))
  refine ⟨hS0, (X 7 rfl hS0 (R_not rfl) (PX_done (by kernel_rfl) (sq_n ?_)))⟩
  replace hST := hST.sel (Db (Dr (Dr (Dr (Dr (Dr St))))))
  refine CW_if (b := (!b0)) rfl (fun k => ?_) (fun k => ?_)
  · replace hm := if_t k hm
    refine CW_seq (CW_region (V (R_assign rfl) (LW_nil (sq_n ?_))))
    replace hST := hST.sel (Db (Db St))
    refine CW_ret (sq_r ?_)
    replace hm := Option.some.inj hm; subst hm
    exact retQ_1 (v := (.slice none 0 0)) rfl rfl ⟨_, [], rfl, hST.backRow (fun p hq => by cases hq) (by simp), Row.nil _ _ _⟩
  replace hm := if_f k hm
  refine CW_skip (sq_n (CW_seq (CW_region (V (R_load rfl (load_box1 hST.has (Mt Mh) rfl Tryz.isAgg22)) ?_))))
  obtain ⟨b1, a2, hm⟩ := bind_some hm
  refine VE (F_givesRow (args := [(.slice y a.length z)]) _ hST rfl Tryz.call116 (by exact args1 rfl) ((w_cred_Set (.slice y a.length z) a _ _ (i.mono (Pl.mono _) (c.trans hST.sub_hp)) a2)) (fun d3 B d6 Q hST K hl100 J => V (R_makeFuncC (by exact args2 rfl rfl) rfl) ?_))
  obtain ⟨c1, M, hm⟩ := bind_some hm
  have hsz := hST.size
  refine VE (E_callM (args := [B, (.func (.func 151) #[] #[(.pointer (some ⟨G, 0, none⟩)), (.pointer (some ⟨H, 0, none⟩))])]) (caps := #[]) _ _ hST (Cr Qz Cn) rfl Tryz.call143 (by exact args2 rfl rfl) (fun hH hN hsb hmm => (w_slices_DeleteFunc_Cred B b1 Q (.func (.func 151) #[] #[(.pointer (some ⟨G, 0, none⟩)), (.pointer (some ⟨H, 0, none⟩))]) (fun (x : Cred) => m_revoke_Critical_c1 x a f) _ _ ⟨hH, hN, Sub.refl _⟩ J ⟨151, #[], #[(.pointer (some ⟨G, 0, none⟩)), (.pointer (some ⟨H, 0, none⟩))], rfl, Tryz.call151, fun W x r hs hm => w_revoke_Critical_c1 x G (.slice y a.length z) a H f r W (i.mono (Pl.mono _) (((c.trans K).trans hsb).trans hs)) (At.of (hs _ _ (hmm _ _ (Mt Mh))) _ rfl) (At.of (hs _ _ (hmm _ _ Mh)) _ rfl) hm⟩ M)) (fun c0 c3 c4 b9 hST a9 hl109 hlift I => ?_))
  obtain ⟨a8, T, j, rfl, u⟩ := I
  replace j := j.symm; subst j
  replace hST := hST.perm (Tr Tn)
  refine V (R_assign rfl) (LW_nil (sq_n ?_))
  replace hST := hST.sel (Kr (Db (Db St)))
  refine CW_ret ?_
  replace hm := Option.some.inj hm; subst hm
  exact retQ_1 (v := a8) rfl rfl ⟨_, T, rfl, hST.backRow (fun p hq => (Ml hq)) u.nd, u⟩
theorem w_law34_first  (r : Bool) (w : World)  (hm : m_law34_first  = some r) :
    Gives false Tryz.prog 34 [] w (.bool r) := by
  have hST := ST.start (dd := false) w
  unfold m_law34_first at hm
  refine calls_of_CW (n := 88) Tryz.func34 rfl rfl (Nat.le_of_ble_eq_true rfl) (CW_seq (CW_region (V (R_assign rfl) (LW_nil (sq_n (CW_seq (CW_region (VE (E_buildSlice (qs := #[(0, (.int .u8 107))]) (cs := [(.int .u8 107)].toArray) hST (parts1 rfl) (run_lit [(.int .u8 107)] Tryz.underlying54 Tryz.sizeOf5 Tryz.zeroValue5 (by decide) rfl (by intro v hv; simp only [List.mem_cons, List.not_mem_nil, or_false] at hv; rcases hv with rfl <;> rfl) rfl rfl) (fun W2 b1 hST => ?_))))))))))
  have s0 : Fr w.heap.size (.slice (some ⟨b1, 0, none⟩) 1 1) := Fr.box hST Mh
  refine VE (E_bytesConst (l := [107]) hST Tryz.underlying54 Tryz.underlying5 rfl rfl rfl (by decide) (fun W3 μ4 hST p3 hl6 n2 => V (R_build (qs := #[(0, (.string ((⟨#[120]⟩ : ByteArray)))), (1, (.slice (some ⟨b1, 0, none⟩) 1 1))]) (v := (.agg #[(.string ((⟨#[120]⟩ : ByteArray))), (.slice (some ⟨b1, 0, none⟩) 1 1)])) (parts2 rfl rfl) (run_build Tryz.zeroValue196 Tryz.underlying196 (pl196 _ Tryz.underlying196) (by kernel_rfl))) (VE (E_buildSlice (qs := #[(0, (.agg #[(.string ((⟨#[120]⟩ : ByteArray))), (.slice (some ⟨b1, 0, none⟩) 1 1)]))]) (cs := #[(.string ((⟨#[120]⟩ : ByteArray))), (.slice (some ⟨b1, 0, none⟩) 1 1)]) hST (parts1 rfl) (run_lit [(.agg #[(.string ((⟨#[120]⟩ : ByteArray))), (.slice (some ⟨b1, 0, none⟩) 1 1)])] Tryz.underlying49 Tryz.sizeOf196 Tryz.zeroValue196 (by decide) rfl (by intro v hv; simp only [List.mem_cons, List.not_mem_nil, or_false] at hv; rcases hv with rfl <;> rfl) rfl rfl) (fun q8 b9 hST => V (R_assign rfl) (LW_nil (sq_n (CW_seq (CW_region (V (R_build (qs := #[(0, (.string ((⟨#[120]⟩ : ByteArray)))), (1, (.string ((⟨#[121]⟩ : ByteArray))))]) (v := (.agg (encRole ((⟨(⟨#[120]⟩ : ByteArray), (⟨#[121]⟩ : ByteArray)⟩ : Role))).toArray)) (parts2 rfl rfl) (run_build Tryz.zeroValue28 Tryz.underlying28 (pl28 _ Tryz.underlying28) (by kernel_rfl))) (V (R_build (qs := #[(0, (.int .i64 1)), (1, (.agg (encRole ((⟨(⟨#[120]⟩ : ByteArray), (⟨#[121]⟩ : ByteArray)⟩ : Role))).toArray)), (2, (.string ((⟨#[100]⟩ : ByteArray))))]) (v := (.agg (encCred ((⟨1, (⟨(⟨#[120]⟩ : ByteArray), (⟨#[121]⟩ : ByteArray)⟩ : Role), (⟨#[100]⟩ : ByteArray), (⟨zS, zS⟩ : Role), (⟨zS, zS⟩ : Role), zS⟩ : Cred))).toArray)) (parts3 rfl rfl rfl) (run_build Tryz.zeroValue53 Tryz.underlying53 (pl53 _ Tryz.underlying53) (by kernel_rfl))) (VE (E_alloc hST Tryz.zeroValue53 (fun q9 a4 hST => VO (F_store (.agg (encCred ((⟨1, (⟨(⟨#[120]⟩ : ByteArray), (⟨#[121]⟩ : ByteArray)⟩ : Role), (⟨#[100]⟩ : ByteArray), (⟨zS, zS⟩ : Role), (⟨zS, zS⟩ : Role), zS⟩ : Cred))).toArray) ((encCred ((⟨1, (⟨(⟨#[120]⟩ : ByteArray), (⟨#[121]⟩ : ByteArray)⟩ : Role), (⟨#[100]⟩ : ByteArray), (⟨zS, zS⟩ : Role), (⟨zS, zS⟩ : Role), zS⟩ : Cred))).toArray) hST rfl rfl Tryz.sizeOf53 (oneCred ((⟨1, (⟨(⟨#[120]⟩ : ByteArray), (⟨#[121]⟩ : ByteArray)⟩ : Role), (⟨#[100]⟩ : ByteArray), (⟨zS, zS⟩ : Role), (⟨zS, zS⟩ : Role), zS⟩ : Cred))) (Nat.le_of_ble_eq_true rfl) rfl (fun r0 hST => LW_nil (sq_n (CW_seq ?_))))))))))))))))))
  refine CW_region (V (R_field fa53_1 rfl) (V (R_load rfl (load_boxA hST.has Mh (encRole ((⟨(⟨#[120]⟩ : ByteArray), (⟨#[121]⟩ : ByteArray)⟩ : Role))) rfl Tryz.isAgg28 Tryz.sizeOf28)) (V (R_build (qs := #[(0, (.agg (encRole ((⟨(⟨#[120]⟩ : ByteArray), (⟨#[121]⟩ : ByteArray)⟩ : Role))).toArray)), (1, (.string ((⟨#[100]⟩ : ByteArray))))]) (v := (.agg (encFact ((⟨(⟨(⟨#[120]⟩ : ByteArray), (⟨#[121]⟩ : ByteArray)⟩ : Role), (⟨#[100]⟩ : ByteArray)⟩ : Fact))).toArray)) (parts2 rfl rfl) (run_build Tryz.zeroValue38 Tryz.underlying38 (pl38 _ Tryz.underlying38) (by kernel_rfl))) (VE (E_alloc hST Tryz.zeroValue38 (fun r1 a5 hST => VO (F_store (.agg (encFact ((⟨(⟨(⟨#[120]⟩ : ByteArray), (⟨#[121]⟩ : ByteArray)⟩ : Role), (⟨#[100]⟩ : ByteArray)⟩ : Fact))).toArray) ((encFact ((⟨(⟨(⟨#[120]⟩ : ByteArray), (⟨#[121]⟩ : ByteArray)⟩ : Role), (⟨#[100]⟩ : ByteArray)⟩ : Fact))).toArray) hST rfl rfl Tryz.sizeOf38 (oneFact ((⟨(⟨(⟨#[120]⟩ : ByteArray), (⟨#[121]⟩ : ByteArray)⟩ : Role), (⟨#[100]⟩ : ByteArray)⟩ : Fact))) (Nat.le_of_ble_eq_true rfl) rfl (fun r2 hST => LW_nil (sq_n (CW_seq (CW_region (V (R_move rfl) ?_))))))))))))
  replace hST := hST.perm (Nb (Pb (Pb Pz)) Nz)
  have p2 : Fr w.heap.size (.slice (some ⟨b9, 0, none⟩) 1 1) := Fr.box hST Mh
  obtain ⟨s6, hST, n4, hl19, b0⟩ := ST.pubD (B := [(b9, Obj.cells (#[(.string ((⟨#[120]⟩ : ByteArray))), (.slice (some ⟨b1, 0, none⟩) 1 1)] : Array Value) 196 (0, 0))]) dKey hST (RowD.lit dKey (l := [(⟨(⟨#[120]⟩ : ByteArray), [107]⟩ : Key)]) (.cons (ys := [(.string ((⟨#[120]⟩ : ByteArray))), (.slice (some ⟨b1, 0, none⟩) 1 1)]) (relKey.mk ⟨(.slice (some ⟨b1, 0, none⟩) 1 1), rfl, n2⟩) .nil) rfl (Nat.le_of_ble_eq_true rfl) rfl)
  obtain ⟨n3, l9, hm⟩ := bind_some hm
  have hsz := hST.size
  refine VE (E_givesD (args := [(.slice (some ⟨b9, 0, none⟩) 1 1)]) (caps := #[]) [] _ hST (List.Perm.refl _) rfl Tryz.call49 (by exact args1 rfl) (fun hH hN hsb hmm => GivesD.weak (w_keys_New (.slice (some ⟨b9, 0, none⟩) 1 1) ([(⟨(⟨#[120]⟩ : ByteArray), [107]⟩ : Key)]) _ _ ⟨hH, hN, hsb⟩ (b0.mono dKey.mono (Sub.refl _)) l9)) (fun r3 s1 s7 q5 hST a8 hl27 l3 => ?_))
  obtain ⟨k2, d6, rfl, m2⟩ := l3
  replace d6 := d6.symm; subst d6
  replace hST := hST.perm Tn
  refine V (R_move rfl) (V (R_extract rfl rfl) (V (R_extract rfl rfl) (V (R_assign rfl) (V (R_assign rfl) (LW_nil (sq_n (CW_seq (CW_region (V (R_move rfl) (V (R_load rfl (load_boxA hST.has (Mt Mh) (encCred ((⟨1, (⟨(⟨#[120]⟩ : ByteArray), (⟨#[121]⟩ : ByteArray)⟩ : Role), (⟨#[100]⟩ : ByteArray), (⟨zS, zS⟩ : Role), (⟨zS, zS⟩ : Role), zS⟩ : Cred))) rfl Tryz.isAgg53 Tryz.sizeOf53)) ?_))))))))))
  obtain ⟨a, m0, hm⟩ := bind_some hm
  have hsz := hST.size
  refine VE (E_givesD (args := [k2, (.agg (encCred ((⟨1, (⟨(⟨#[120]⟩ : ByteArray), (⟨#[121]⟩ : ByteArray)⟩ : Role), (⟨#[100]⟩ : ByteArray), (⟨zS, zS⟩ : Role), (⟨zS, zS⟩ : Role), zS⟩ : Cred))).toArray)]) (caps := #[]) [] _ hST (List.Perm.refl _) rfl Tryz.call50 (by exact args2 rfl rfl) (fun hH hN hsb hmm => GivesD.weak (w_keys_Registry_Sign k2 n3.1 ((⟨1, (⟨(⟨#[120]⟩ : ByteArray), (⟨#[121]⟩ : ByteArray)⟩ : Role), (⟨#[100]⟩ : ByteArray), (⟨zS, zS⟩ : Role), (⟨zS, zS⟩ : Role), zS⟩ : Cred)) _ _ ⟨hH, hN, hsb⟩ (m2.mono dKeysRegistry (Sub.refl _)) m0)) (fun r4 s2 s8 q6 hST a9 hl39 l4 => ?_))
  obtain ⟨s4, d7, rfl, c5⟩ := l4
  replace d7 := d7.symm; subst d7
  replace hST := hST.perm Tn
  refine V (R_move rfl) (V (R_extract rfl rfl) (V (R_extract rfl rfl) (VE (E_alloc hST Tryz.zeroValue56 (fun r5 b2 hST => ?_)))))
  obtain ⟨t, u, rfl⟩ := c5.form
  refine VO (F_store (.agg #[(.int .i64 (((a.1).Cred).Kind)), (.string ((((a.1).Cred).Head).Owner)), (.string ((((a.1).Cred).Head).Word)), (.string (((a.1).Cred).Who)), (.string ((((a.1).Cred).B).Owner)), (.string ((((a.1).Cred).B).Word)), (.string ((((a.1).Cred).C).Owner)), (.string ((((a.1).Cred).C).Word)), (.string (((a.1).Cred).Word2)), (.slice t ((a.1).Tag).length u)]) (#[(.int .i64 (((a.1).Cred).Kind)), (.string ((((a.1).Cred).Head).Owner)), (.string ((((a.1).Cred).Head).Word)), (.string (((a.1).Cred).Who)), (.string ((((a.1).Cred).B).Owner)), (.string ((((a.1).Cred).B).Word)), (.string ((((a.1).Cred).C).Owner)), (.string ((((a.1).Cred).C).Word)), (.string (((a.1).Cred).Word2)), (.slice t ((a.1).Tag).length u)]) hST rfl rfl Tryz.sizeOf56 (by simp [Value.cells, Value.oneCell']) (Nat.le_of_ble_eq_true rfl) rfl (fun r6 hST => V (R_assign rfl) (LW_nil (sq_n (CW_seq (CW_region (V (R_move rfl) (V (R_load rfl (load_boxA hST.has (Mt (Mt Mh)) (encCred ((⟨1, (⟨(⟨#[120]⟩ : ByteArray), (⟨#[121]⟩ : ByteArray)⟩ : Role), (⟨#[100]⟩ : ByteArray), (⟨zS, zS⟩ : Role), (⟨zS, zS⟩ : Role), zS⟩ : Cred))) rfl Tryz.isAgg53 Tryz.sizeOf53)) ?_))))))))
  obtain ⟨c, m1, hm⟩ := bind_some hm
  have hsz := hST.size
  refine VE (E_givesD (args := [(.slice (some ⟨b9, 0, none⟩) 1 1), (.agg (encCred ((⟨1, (⟨(⟨#[120]⟩ : ByteArray), (⟨#[121]⟩ : ByteArray)⟩ : Role), (⟨#[100]⟩ : ByteArray), (⟨zS, zS⟩ : Role), (⟨zS, zS⟩ : Role), zS⟩ : Cred))).toArray)]) (caps := #[]) [] _ hST (List.Perm.refl _) rfl Tryz.call36 (by exact args2 rfl rfl) (fun hH hN hsb hmm => GivesD.weak (w_revoke_Make (.slice (some ⟨b9, 0, none⟩) 1 1) ([(⟨(⟨#[120]⟩ : ByteArray), [107]⟩ : Key)]) ((⟨1, (⟨(⟨#[120]⟩ : ByteArray), (⟨#[121]⟩ : ByteArray)⟩ : Role), (⟨#[100]⟩ : ByteArray), (⟨zS, zS⟩ : Role), (⟨zS, zS⟩ : Role), zS⟩ : Cred)) _ _ ⟨hH, hN, hsb⟩ (b0.mono dKey.mono (a8.trans a9)) m1)) (fun r7 s3 d3 q7 hST a2 hl56 l5 => ?_))
  obtain ⟨s5, d8, rfl, d9⟩ := l5
  replace d8 := d8.symm; subst d8
  replace hST := hST.perm Tn
  refine V (R_move rfl) (V (R_extract rfl rfl) (V (R_extract rfl rfl) (VE (E_alloc hST Tryz.zeroValue56 (fun r8 b3 hST => ?_)))))
  obtain ⟨T, U, rfl⟩ := d9.form
  refine VO (F_store (.agg #[(.int .i64 (((c.1).Cred).Kind)), (.string ((((c.1).Cred).Head).Owner)), (.string ((((c.1).Cred).Head).Word)), (.string (((c.1).Cred).Who)), (.string ((((c.1).Cred).B).Owner)), (.string ((((c.1).Cred).B).Word)), (.string ((((c.1).Cred).C).Owner)), (.string ((((c.1).Cred).C).Word)), (.string (((c.1).Cred).Word2)), (.slice T ((c.1).Tag).length U)]) (#[(.int .i64 (((c.1).Cred).Kind)), (.string ((((c.1).Cred).Head).Owner)), (.string ((((c.1).Cred).Head).Word)), (.string (((c.1).Cred).Who)), (.string ((((c.1).Cred).B).Owner)), (.string ((((c.1).Cred).B).Word)), (.string ((((c.1).Cred).C).Owner)), (.string ((((c.1).Cred).C).Word)), (.string (((c.1).Cred).Word2)), (.slice T ((c.1).Tag).length U)]) hST rfl rfl Tryz.sizeOf56 (by simp [Value.cells, Value.oneCell']) (Nat.le_of_ble_eq_true rfl) rfl (fun r9 hST => V (R_assign rfl) (LW_nil (sq_n (CW_seq (CW_region (V (R_move rfl) (V (R_int rfl rfl rfl) (V (R_move rfl) ?_)))))))))
  obtain ⟨q0, N, e8⟩ := bind_some hm
  refine LW_join (J := fun E W => ∃ (e9 : Bool) (j1 : List (Nat × Obj)), ST false NoF w W d3 ((b3, Obj.cells (#[(.int .i64 (((c.1).Cred).Kind)), (.string ((((c.1).Cred).Head).Owner)), (.string ((((c.1).Cred).Head).Word)), (.string (((c.1).Cred).Who)), (.string ((((c.1).Cred).B).Owner)), (.string ((((c.1).Cred).B).Word)), (.string ((((c.1).Cred).C).Owner)), (.string ((((c.1).Cred).C).Word)), (.string (((c.1).Cred).Word2)), (.slice T ((c.1).Tag).length U)] : Array Value) 56 (0, 0)) :: ((b2, Obj.cells (#[(.int .i64 (((a.1).Cred).Kind)), (.string ((((a.1).Cred).Head).Owner)), (.string ((((a.1).Cred).Head).Word)), (.string (((a.1).Cred).Who)), (.string ((((a.1).Cred).B).Owner)), (.string ((((a.1).Cred).B).Word)), (.string ((((a.1).Cred).C).Owner)), (.string ((((a.1).Cred).C).Word)), (.string (((a.1).Cred).Word2)), (.slice t ((a.1).Tag).length u)] : Array Value) 56 (0, 0)) :: ((a5, Obj.cells ((encFact ((⟨(⟨(⟨#[120]⟩ : ByteArray), (⟨#[121]⟩ : ByteArray)⟩ : Role), (⟨#[100]⟩ : ByteArray)⟩ : Fact))).toArray : Array Value) 38 (0, 0)) :: ((a4, Obj.cells ((encCred ((⟨1, (⟨(⟨#[120]⟩ : ByteArray), (⟨#[121]⟩ : ByteArray)⟩ : Role), (⟨#[100]⟩ : ByteArray), (⟨zS, zS⟩ : Role), (⟨zS, zS⟩ : Role), zS⟩ : Cred))).toArray : Array Value) 53 (0, 0)) :: j1)))) ∧ E 0 = (.bool false) ∧ E 1 = (.slice (some ⟨b9, 0, none⟩) 1 1) ∧ E 2 = (.pointer (some ⟨a4, 0, none⟩)) ∧ E 3 = (.pointer (some ⟨a5, 0, none⟩)) ∧ E 6 = (.pointer (some ⟨b2, 0, none⟩)) ∧ E 8 = (.pointer (some ⟨b3, 0, none⟩)) ∧ E 41 = (.bool e9) ∧ (((if e9 then (((m_revoke_Good ([(⟨(⟨#[120]⟩ : ByteArray), [107]⟩ : Key)]) c.1)).bind fun e0 => some e0) else some false) : Option Bool).bind fun c1 => (((if c1 then (((m_revoke_Good ([(⟨(⟨#[120]⟩ : ByteArray), [107]⟩ : Key)]) a.1)).bind fun b6 => some ((!b6))) else some false) : Option Bool).bind fun b4 => (((if b4 then (((m_revoke_Live ([(⟨(⟨#[120]⟩ : ByteArray), [107]⟩ : Key)]) ([a.1]) ([]))).bind fun a7 => some ((((a7.length : Int)) == 1))) else some false) : Option Bool).bind fun a0 => (((if a0 then (((m_revoke_Live ([(⟨(⟨#[120]⟩ : ByteArray), [107]⟩ : Key)]) ([a.1]) ([c.1]))).bind fun a3 => some ((((a3.length : Int)) == 0))) else some false) : Option Bool).bind fun Q => (((if Q then (((m_revoke_Lost ([(⟨1, (⟨(⟨#[120]⟩ : ByteArray), (⟨#[121]⟩ : ByteArray)⟩ : Role), (⟨#[100]⟩ : ByteArray), (⟨zS, zS⟩ : Role), (⟨zS, zS⟩ : Role), zS⟩ : Cred)]) ([(⟨1, (⟨(⟨#[120]⟩ : ByteArray), (⟨#[121]⟩ : ByteArray)⟩ : Role), (⟨#[100]⟩ : ByteArray), (⟨zS, zS⟩ : Role), (⟨zS, zS⟩ : Role), zS⟩ : Cred)]))).bind fun Z => some ((((Z.length : Int)) == 1))) else some false) : Option Bool).bind fun I => (((if I then (((m_revoke_Critical ([(⟨1, (⟨(⟨#[120]⟩ : ByteArray), (⟨#[121]⟩ : ByteArray)⟩ : Role), (⟨#[100]⟩ : ByteArray), (⟨zS, zS⟩ : Role), (⟨zS, zS⟩ : Role), zS⟩ : Cred)]) ((⟨(⟨(⟨#[120]⟩ : ByteArray), (⟨#[121]⟩ : ByteArray)⟩ : Role), (⟨#[100]⟩ : ByteArray)⟩ : Fact)))).bind fun M => some ((((M.length : Int)) == 1))) else some false) : Option Bool).bind fun k => some k)))))) = some r) 3 ?_ (fun d2 => ?_)
  · rintro E W ⟨e9, j1, hST, j4, h0, j5, j6, j7, h1, m7, l6⟩
    refine V (R_move m7) ?_
    obtain ⟨p9, H, e7⟩ := bind_some l6
    refine LW_join (J := fun E W => ∃ (c1 : Bool) (j2 : List (Nat × Obj)), ST false NoF w W d3 ((b3, Obj.cells (#[(.int .i64 (((c.1).Cred).Kind)), (.string ((((c.1).Cred).Head).Owner)), (.string ((((c.1).Cred).Head).Word)), (.string (((c.1).Cred).Who)), (.string ((((c.1).Cred).B).Owner)), (.string ((((c.1).Cred).B).Word)), (.string ((((c.1).Cred).C).Owner)), (.string ((((c.1).Cred).C).Word)), (.string (((c.1).Cred).Word2)), (.slice T ((c.1).Tag).length U)] : Array Value) 56 (0, 0)) :: ((b2, Obj.cells (#[(.int .i64 (((a.1).Cred).Kind)), (.string ((((a.1).Cred).Head).Owner)), (.string ((((a.1).Cred).Head).Word)), (.string (((a.1).Cred).Who)), (.string ((((a.1).Cred).B).Owner)), (.string ((((a.1).Cred).B).Word)), (.string ((((a.1).Cred).C).Owner)), (.string ((((a.1).Cred).C).Word)), (.string (((a.1).Cred).Word2)), (.slice t ((a.1).Tag).length u)] : Array Value) 56 (0, 0)) :: ((a5, Obj.cells ((encFact ((⟨(⟨(⟨#[120]⟩ : ByteArray), (⟨#[121]⟩ : ByteArray)⟩ : Role), (⟨#[100]⟩ : ByteArray)⟩ : Fact))).toArray : Array Value) 38 (0, 0)) :: ((a4, Obj.cells ((encCred ((⟨1, (⟨(⟨#[120]⟩ : ByteArray), (⟨#[121]⟩ : ByteArray)⟩ : Role), (⟨#[100]⟩ : ByteArray), (⟨zS, zS⟩ : Role), (⟨zS, zS⟩ : Role), zS⟩ : Cred))).toArray : Array Value) 53 (0, 0)) :: j2)))) ∧ E 0 = (.bool false) ∧ E 1 = (.slice (some ⟨b9, 0, none⟩) 1 1) ∧ E 2 = (.pointer (some ⟨a4, 0, none⟩)) ∧ E 3 = (.pointer (some ⟨a5, 0, none⟩)) ∧ E 6 = (.pointer (some ⟨b2, 0, none⟩)) ∧ E 8 = (.pointer (some ⟨b3, 0, none⟩)) ∧ E 46 = (.bool c1) ∧ (((if c1 then (((m_revoke_Good ([(⟨(⟨#[120]⟩ : ByteArray), [107]⟩ : Key)]) a.1)).bind fun b6 => some ((!b6))) else some false) : Option Bool).bind fun b4 => (((if b4 then (((m_revoke_Live ([(⟨(⟨#[120]⟩ : ByteArray), [107]⟩ : Key)]) ([a.1]) ([]))).bind fun a7 => some ((((a7.length : Int)) == 1))) else some false) : Option Bool).bind fun a0 => (((if a0 then (((m_revoke_Live ([(⟨(⟨#[120]⟩ : ByteArray), [107]⟩ : Key)]) ([a.1]) ([c.1]))).bind fun a3 => some ((((a3.length : Int)) == 0))) else some false) : Option Bool).bind fun Q => (((if Q then (((m_revoke_Lost ([(⟨1, (⟨(⟨#[120]⟩ : ByteArray), (⟨#[121]⟩ : ByteArray)⟩ : Role), (⟨#[100]⟩ : ByteArray), (⟨zS, zS⟩ : Role), (⟨zS, zS⟩ : Role), zS⟩ : Cred)]) ([(⟨1, (⟨(⟨#[120]⟩ : ByteArray), (⟨#[121]⟩ : ByteArray)⟩ : Role), (⟨#[100]⟩ : ByteArray), (⟨zS, zS⟩ : Role), (⟨zS, zS⟩ : Role), zS⟩ : Cred)]))).bind fun Z => some ((((Z.length : Int)) == 1))) else some false) : Option Bool).bind fun I => (((if I then (((m_revoke_Critical ([(⟨1, (⟨(⟨#[120]⟩ : ByteArray), (⟨#[121]⟩ : ByteArray)⟩ : Role), (⟨#[100]⟩ : ByteArray), (⟨zS, zS⟩ : Role), (⟨zS, zS⟩ : Role), zS⟩ : Cred)]) ((⟨(⟨(⟨#[120]⟩ : ByteArray), (⟨#[121]⟩ : ByteArray)⟩ : Role), (⟨#[100]⟩ : ByteArray)⟩ : Fact)))).bind fun M => some ((((M.length : Int)) == 1))) else some false) : Option Bool).bind fun k => some k))))) = some r) 4 ?_ (fun d1 => ?_)
    · rintro E W ⟨c1, j2, hST, j8, h2, j9, k0, h3, k1, m8, l7⟩
      refine V (R_move m8) ?_
      obtain ⟨p8, G, e6⟩ := bind_some l7
      refine LW_join (J := fun E W => ∃ (b4 : Bool) (j3 : List (Nat × Obj)), ST false NoF w W d3 ((b3, Obj.cells (#[(.int .i64 (((c.1).Cred).Kind)), (.string ((((c.1).Cred).Head).Owner)), (.string ((((c.1).Cred).Head).Word)), (.string (((c.1).Cred).Who)), (.string ((((c.1).Cred).B).Owner)), (.string ((((c.1).Cred).B).Word)), (.string ((((c.1).Cred).C).Owner)), (.string ((((c.1).Cred).C).Word)), (.string (((c.1).Cred).Word2)), (.slice T ((c.1).Tag).length U)] : Array Value) 56 (0, 0)) :: ((b2, Obj.cells (#[(.int .i64 (((a.1).Cred).Kind)), (.string ((((a.1).Cred).Head).Owner)), (.string ((((a.1).Cred).Head).Word)), (.string (((a.1).Cred).Who)), (.string ((((a.1).Cred).B).Owner)), (.string ((((a.1).Cred).B).Word)), (.string ((((a.1).Cred).C).Owner)), (.string ((((a.1).Cred).C).Word)), (.string (((a.1).Cred).Word2)), (.slice t ((a.1).Tag).length u)] : Array Value) 56 (0, 0)) :: ((a5, Obj.cells ((encFact ((⟨(⟨(⟨#[120]⟩ : ByteArray), (⟨#[121]⟩ : ByteArray)⟩ : Role), (⟨#[100]⟩ : ByteArray)⟩ : Fact))).toArray : Array Value) 38 (0, 0)) :: ((a4, Obj.cells ((encCred ((⟨1, (⟨(⟨#[120]⟩ : ByteArray), (⟨#[121]⟩ : ByteArray)⟩ : Role), (⟨#[100]⟩ : ByteArray), (⟨zS, zS⟩ : Role), (⟨zS, zS⟩ : Role), zS⟩ : Cred))).toArray : Array Value) 53 (0, 0)) :: j3)))) ∧ E 0 = (.bool false) ∧ E 1 = (.slice (some ⟨b9, 0, none⟩) 1 1) ∧ E 2 = (.pointer (some ⟨a4, 0, none⟩)) ∧ E 3 = (.pointer (some ⟨a5, 0, none⟩)) ∧ E 6 = (.pointer (some ⟨b2, 0, none⟩)) ∧ E 8 = (.pointer (some ⟨b3, 0, none⟩)) ∧ E 52 = (.bool b4) ∧ (((if b4 then (((m_revoke_Live ([(⟨(⟨#[120]⟩ : ByteArray), [107]⟩ : Key)]) ([a.1]) ([]))).bind fun a7 => some ((((a7.length : Int)) == 1))) else some false) : Option Bool).bind fun a0 => (((if a0 then (((m_revoke_Live ([(⟨(⟨#[120]⟩ : ByteArray), [107]⟩ : Key)]) ([a.1]) ([c.1]))).bind fun a3 => some ((((a3.length : Int)) == 0))) else some false) : Option Bool).bind fun Q => (((if Q then (((m_revoke_Lost ([(⟨1, (⟨(⟨#[120]⟩ : ByteArray), (⟨#[121]⟩ : ByteArray)⟩ : Role), (⟨#[100]⟩ : ByteArray), (⟨zS, zS⟩ : Role), (⟨zS, zS⟩ : Role), zS⟩ : Cred)]) ([(⟨1, (⟨(⟨#[120]⟩ : ByteArray), (⟨#[121]⟩ : ByteArray)⟩ : Role), (⟨#[100]⟩ : ByteArray), (⟨zS, zS⟩ : Role), (⟨zS, zS⟩ : Role), zS⟩ : Cred)]))).bind fun Z => some ((((Z.length : Int)) == 1))) else some false) : Option Bool).bind fun I => (((if I then (((m_revoke_Critical ([(⟨1, (⟨(⟨#[120]⟩ : ByteArray), (⟨#[121]⟩ : ByteArray)⟩ : Role), (⟨#[100]⟩ : ByteArray), (⟨zS, zS⟩ : Role), (⟨zS, zS⟩ : Role), zS⟩ : Cred)]) ((⟨(⟨(⟨#[120]⟩ : ByteArray), (⟨#[121]⟩ : ByteArray)⟩ : Role), (⟨#[100]⟩ : ByteArray)⟩ : Fact)))).bind fun M => some ((((M.length : Int)) == 1))) else some false) : Option Bool).bind fun k => some k)))) = some r) 5 ?_ (fun d0 => ?_)
      · rintro E W ⟨b4, j3, hST, g0, d4, g1, g2, d5, g3, k3, l8⟩
        refine V (R_move k3) ?_
        obtain ⟨p7, D, e5⟩ := bind_some l8
        refine LW_join (J := fun E W => ∃ (a0 : Bool) (b7 : Mem) (f0 : List (Nat × Obj)), Sub d3 b7 ∧ ST false NoF w W b7 ((b3, Obj.cells (#[(.int .i64 (((c.1).Cred).Kind)), (.string ((((c.1).Cred).Head).Owner)), (.string ((((c.1).Cred).Head).Word)), (.string (((c.1).Cred).Who)), (.string ((((c.1).Cred).B).Owner)), (.string ((((c.1).Cred).B).Word)), (.string ((((c.1).Cred).C).Owner)), (.string ((((c.1).Cred).C).Word)), (.string (((c.1).Cred).Word2)), (.slice T ((c.1).Tag).length U)] : Array Value) 56 (0, 0)) :: ((b2, Obj.cells (#[(.int .i64 (((a.1).Cred).Kind)), (.string ((((a.1).Cred).Head).Owner)), (.string ((((a.1).Cred).Head).Word)), (.string (((a.1).Cred).Who)), (.string ((((a.1).Cred).B).Owner)), (.string ((((a.1).Cred).B).Word)), (.string ((((a.1).Cred).C).Owner)), (.string ((((a.1).Cred).C).Word)), (.string (((a.1).Cred).Word2)), (.slice t ((a.1).Tag).length u)] : Array Value) 56 (0, 0)) :: ((a5, Obj.cells ((encFact ((⟨(⟨(⟨#[120]⟩ : ByteArray), (⟨#[121]⟩ : ByteArray)⟩ : Role), (⟨#[100]⟩ : ByteArray)⟩ : Fact))).toArray : Array Value) 38 (0, 0)) :: ((a4, Obj.cells ((encCred ((⟨1, (⟨(⟨#[120]⟩ : ByteArray), (⟨#[121]⟩ : ByteArray)⟩ : Role), (⟨#[100]⟩ : ByteArray), (⟨zS, zS⟩ : Role), (⟨zS, zS⟩ : Role), zS⟩ : Cred))).toArray : Array Value) 53 (0, 0)) :: f0)))) ∧ E 0 = (.bool false) ∧ E 1 = (.slice (some ⟨b9, 0, none⟩) 1 1) ∧ E 2 = (.pointer (some ⟨a4, 0, none⟩)) ∧ E 3 = (.pointer (some ⟨a5, 0, none⟩)) ∧ E 6 = (.pointer (some ⟨b2, 0, none⟩)) ∧ E 8 = (.pointer (some ⟨b3, 0, none⟩)) ∧ E 60 = (.bool a0) ∧ (((if a0 then (((m_revoke_Live ([(⟨(⟨#[120]⟩ : ByteArray), [107]⟩ : Key)]) ([a.1]) ([c.1]))).bind fun a3 => some ((((a3.length : Int)) == 0))) else some false) : Option Bool).bind fun Q => (((if Q then (((m_revoke_Lost ([(⟨1, (⟨(⟨#[120]⟩ : ByteArray), (⟨#[121]⟩ : ByteArray)⟩ : Role), (⟨#[100]⟩ : ByteArray), (⟨zS, zS⟩ : Role), (⟨zS, zS⟩ : Role), zS⟩ : Cred)]) ([(⟨1, (⟨(⟨#[120]⟩ : ByteArray), (⟨#[121]⟩ : ByteArray)⟩ : Role), (⟨#[100]⟩ : ByteArray), (⟨zS, zS⟩ : Role), (⟨zS, zS⟩ : Role), zS⟩ : Cred)]))).bind fun Z => some ((((Z.length : Int)) == 1))) else some false) : Option Bool).bind fun I => (((if I then (((m_revoke_Critical ([(⟨1, (⟨(⟨#[120]⟩ : ByteArray), (⟨#[121]⟩ : ByteArray)⟩ : Role), (⟨#[100]⟩ : ByteArray), (⟨zS, zS⟩ : Role), (⟨zS, zS⟩ : Role), zS⟩ : Cred)]) ((⟨(⟨(⟨#[120]⟩ : ByteArray), (⟨#[121]⟩ : ByteArray)⟩ : Role), (⟨#[100]⟩ : ByteArray)⟩ : Fact)))).bind fun M => some ((((M.length : Int)) == 1))) else some false) : Option Bool).bind fun k => some k))) = some r) 7 ?_ (fun c9 => ?_)
        · rintro E W ⟨a0, b7, f0, b5, hST, g4, k4, g5, g6, k5, k6, k7, i2⟩
          refine V (R_move k7) ?_
          obtain ⟨p6, z, e4⟩ := bind_some i2
          refine LW_join (J := fun E W => ∃ (Q : Bool) (b8 : Mem) (f1 : List (Nat × Obj)), Sub b7 b8 ∧ ST false NoF w W b8 ((a5, Obj.cells ((encFact ((⟨(⟨(⟨#[120]⟩ : ByteArray), (⟨#[121]⟩ : ByteArray)⟩ : Role), (⟨#[100]⟩ : ByteArray)⟩ : Fact))).toArray : Array Value) 38 (0, 0)) :: ((a4, Obj.cells ((encCred ((⟨1, (⟨(⟨#[120]⟩ : ByteArray), (⟨#[121]⟩ : ByteArray)⟩ : Role), (⟨#[100]⟩ : ByteArray), (⟨zS, zS⟩ : Role), (⟨zS, zS⟩ : Role), zS⟩ : Cred))).toArray : Array Value) 53 (0, 0)) :: f1)) ∧ E 0 = (.bool false) ∧ E 2 = (.pointer (some ⟨a4, 0, none⟩)) ∧ E 3 = (.pointer (some ⟨a5, 0, none⟩)) ∧ E 70 = (.bool Q) ∧ (((if Q then (((m_revoke_Lost ([(⟨1, (⟨(⟨#[120]⟩ : ByteArray), (⟨#[121]⟩ : ByteArray)⟩ : Role), (⟨#[100]⟩ : ByteArray), (⟨zS, zS⟩ : Role), (⟨zS, zS⟩ : Role), zS⟩ : Cred)]) ([(⟨1, (⟨(⟨#[120]⟩ : ByteArray), (⟨#[121]⟩ : ByteArray)⟩ : Role), (⟨#[100]⟩ : ByteArray), (⟨zS, zS⟩ : Role), (⟨zS, zS⟩ : Role), zS⟩ : Cred)]))).bind fun Z => some ((((Z.length : Int)) == 1))) else some false) : Option Bool).bind fun I => (((if I then (((m_revoke_Critical ([(⟨1, (⟨(⟨#[120]⟩ : ByteArray), (⟨#[121]⟩ : ByteArray)⟩ : Role), (⟨#[100]⟩ : ByteArray), (⟨zS, zS⟩ : Role), (⟨zS, zS⟩ : Role), zS⟩ : Cred)]) ((⟨(⟨(⟨#[120]⟩ : ByteArray), (⟨#[121]⟩ : ByteArray)⟩ : Role), (⟨#[100]⟩ : ByteArray)⟩ : Fact)))).bind fun M => some ((((M.length : Int)) == 1))) else some false) : Option Bool).bind fun k => some k)) = some r) 9 ?_ (fun c8 => ?_)
          · rintro E W ⟨Q, b8, f1, m9, hST, g7, c3, g8, k8, i3⟩
            refine V (R_move k8) ?_
            obtain ⟨p5, y, e3⟩ := bind_some i3
            refine LW_join (J := fun E W => ∃ (I : Bool) (c0 : Mem) (f2 : List (Nat × Obj)), Sub b8 c0 ∧ ST false NoF w W c0 ((a5, Obj.cells ((encFact ((⟨(⟨(⟨#[120]⟩ : ByteArray), (⟨#[121]⟩ : ByteArray)⟩ : Role), (⟨#[100]⟩ : ByteArray)⟩ : Fact))).toArray : Array Value) 38 (0, 0)) :: ((a4, Obj.cells ((encCred ((⟨1, (⟨(⟨#[120]⟩ : ByteArray), (⟨#[121]⟩ : ByteArray)⟩ : Role), (⟨#[100]⟩ : ByteArray), (⟨zS, zS⟩ : Role), (⟨zS, zS⟩ : Role), zS⟩ : Cred))).toArray : Array Value) 53 (0, 0)) :: f2)) ∧ E 0 = (.bool false) ∧ E 2 = (.pointer (some ⟨a4, 0, none⟩)) ∧ E 3 = (.pointer (some ⟨a5, 0, none⟩)) ∧ E 79 = (.bool I) ∧ (((if I then (((m_revoke_Critical ([(⟨1, (⟨(⟨#[120]⟩ : ByteArray), (⟨#[121]⟩ : ByteArray)⟩ : Role), (⟨#[100]⟩ : ByteArray), (⟨zS, zS⟩ : Role), (⟨zS, zS⟩ : Role), zS⟩ : Cred)]) ((⟨(⟨(⟨#[120]⟩ : ByteArray), (⟨#[121]⟩ : ByteArray)⟩ : Role), (⟨#[100]⟩ : ByteArray)⟩ : Fact)))).bind fun M => some ((((M.length : Int)) == 1))) else some false) : Option Bool).bind fun k => some k) = some r) 8 ?_ (fun c7 => ?_)
            · rintro E W ⟨I, c0, f2, n0, hST, g9, k9, l0, l1, i4⟩
              refine V (R_move l1) ?_
              obtain ⟨p4, x, e2⟩ := bind_some i4
              refine LW_join (J := fun E W => ∃ (k : Bool) (e1 : Mem) (f3 : List (Nat × Obj)), Sub c0 e1 ∧ ST false NoF w W e1 f3 ∧ E 0 = (.bool false) ∧ E 87 = (.bool k) ∧ some k = some r) 7 ?_ (fun c6 => ?_)
              · rintro E W ⟨k, e1, f3, n1, hST, p1, l2, c4⟩
                refine V (R_assign l2) (LW_nil (sq_n (CW_ret ?_)))
                replace c4 := Option.some.inj c4; subst c4
                exact retQ_1 (v := (.bool k)) rfl rfl ⟨rfl, hST.ex⟩
              rcases bool_cases I with j | j
              · replace x := if_t j x
                refine Vg rfl (congrArg Value.bool j) (R_load k9 (load_boxA hST.has (Mt Mh) (encCred ((⟨1, (⟨(⟨#[120]⟩ : ByteArray), (⟨#[121]⟩ : ByteArray)⟩ : Role), (⟨#[100]⟩ : ByteArray), (⟨zS, zS⟩ : Role), (⟨zS, zS⟩ : Role), zS⟩ : Cred))) rfl Tryz.isAgg53 Tryz.sizeOf53)) (VgE rfl (congrArg Value.bool j) (E_buildSlice (qs := #[(0, (.agg (encCred ((⟨1, (⟨(⟨#[120]⟩ : ByteArray), (⟨#[121]⟩ : ByteArray)⟩ : Role), (⟨#[100]⟩ : ByteArray), (⟨zS, zS⟩ : Role), (⟨zS, zS⟩ : Role), zS⟩ : Cred))).toArray))]) (cs := (encCred ((⟨1, (⟨(⟨#[120]⟩ : ByteArray), (⟨#[121]⟩ : ByteArray)⟩ : Role), (⟨#[100]⟩ : ByteArray), (⟨zS, zS⟩ : Role), (⟨zS, zS⟩ : Role), zS⟩ : Cred))).toArray) hST (parts1 rfl) (run_lit [(.agg (encCred ((⟨1, (⟨(⟨#[120]⟩ : ByteArray), (⟨#[121]⟩ : ByteArray)⟩ : Role), (⟨#[100]⟩ : ByteArray), (⟨zS, zS⟩ : Role), (⟨zS, zS⟩ : Role), zS⟩ : Cred))).toArray)] Tryz.underlying22 Tryz.sizeOf53 Tryz.zeroValue53 (by decide) rfl (by intro v hv; simp only [List.mem_cons, List.not_mem_nil, or_false] at hv; rcases hv with rfl <;> rfl) rfl rfl) (fun n9 f4 hST => Vg rfl (congrArg Value.bool j) (R_load l0 (load_boxA hST.has (Mt Mh) (encFact ((⟨(⟨(⟨#[120]⟩ : ByteArray), (⟨#[121]⟩ : ByteArray)⟩ : Role), (⟨#[100]⟩ : ByteArray)⟩ : Fact))) rfl Tryz.isAgg38 Tryz.sizeOf38)) ?_)))
                obtain ⟨M, i5, x⟩ := bind_some x
                refine VgE rfl (congrArg Value.bool j) (F_givesRow (args := [(.slice (some ⟨f4, 0, none⟩) 1 1), (.agg (encFact ((⟨(⟨(⟨#[120]⟩ : ByteArray), (⟨#[121]⟩ : ByteArray)⟩ : Role), (⟨#[100]⟩ : ByteArray)⟩ : Fact))).toArray)]) _ hST rfl Tryz.call47 (by exact args2 rfl rfl) ((w_revoke_Critical (.slice (some ⟨f4, 0, none⟩) 1 1) ([(⟨1, (⟨(⟨#[120]⟩ : ByteArray), (⟨#[121]⟩ : ByteArray)⟩ : Role), (⟨#[100]⟩ : ByteArray), (⟨zS, zS⟩ : Role), (⟨zS, zS⟩ : Role), zS⟩ : Cred)]) ((⟨(⟨(⟨#[120]⟩ : ByteArray), (⟨#[121]⟩ : ByteArray)⟩ : Role), (⟨#[100]⟩ : ByteArray)⟩ : Fact)) _ _ (Sl.lit (enc := encCred) (l := [(⟨1, (⟨(⟨#[120]⟩ : ByteArray), (⟨#[121]⟩ : ByteArray)⟩ : Role), (⟨#[100]⟩ : ByteArray), (⟨zS, zS⟩ : Role), (⟨zS, zS⟩ : Role), zS⟩ : Cred)]) lenCred rfl (Nat.le_of_ble_eq_true rfl) rfl (hST.at_ Mh)) i5)) (fun o0 q1 m3 n5 hST h4 hl207 h8 => Vg rfl (congrArg Value.bool j) (R_lenRow Tryz.underlying22 rfl h8) (Vg rfl (congrArg Value.bool j) (R_int rfl rfl rfl) (V (R_pickT (congrArg Value.bool j) rfl) ?_))))
                replace x := Option.some.inj x; subst x
                exact c6 _ _ ⟨((((M.length : Int)) == 1)), m3, _, h4, (hST.sel (Dr (Db (Db (Db St))))), g9, rfl, e2⟩
              replace x := if_f j x
              refine Vn rfl (congrArg Value.bool j) (Vn rfl (congrArg Value.bool j) (Vn rfl (congrArg Value.bool j) (Vn rfl (congrArg Value.bool j) (Vn rfl (congrArg Value.bool j) (Vn rfl (congrArg Value.bool j) (V (R_pickF (congrArg Value.bool j) rfl) ?_))))))
              replace x := Option.some.inj x; subst x
              exact c6 _ _ ⟨false, c0, _, (Sub.refl _), (hST.sel (Db (Db St))), g9, rfl, e2⟩
            rcases bool_cases Q with g | g
            · replace y := if_t g y
              refine Vg rfl (congrArg Value.bool g) (R_load c3 (load_boxA hST.has (Mt Mh) (encCred ((⟨1, (⟨(⟨#[120]⟩ : ByteArray), (⟨#[121]⟩ : ByteArray)⟩ : Role), (⟨#[100]⟩ : ByteArray), (⟨zS, zS⟩ : Role), (⟨zS, zS⟩ : Role), zS⟩ : Cred))) rfl Tryz.isAgg53 Tryz.sizeOf53)) (VgE rfl (congrArg Value.bool g) (E_buildSlice (qs := #[(0, (.agg (encCred ((⟨1, (⟨(⟨#[120]⟩ : ByteArray), (⟨#[121]⟩ : ByteArray)⟩ : Role), (⟨#[100]⟩ : ByteArray), (⟨zS, zS⟩ : Role), (⟨zS, zS⟩ : Role), zS⟩ : Cred))).toArray))]) (cs := (encCred ((⟨1, (⟨(⟨#[120]⟩ : ByteArray), (⟨#[121]⟩ : ByteArray)⟩ : Role), (⟨#[100]⟩ : ByteArray), (⟨zS, zS⟩ : Role), (⟨zS, zS⟩ : Role), zS⟩ : Cred))).toArray) hST (parts1 rfl) (run_lit [(.agg (encCred ((⟨1, (⟨(⟨#[120]⟩ : ByteArray), (⟨#[121]⟩ : ByteArray)⟩ : Role), (⟨#[100]⟩ : ByteArray), (⟨zS, zS⟩ : Role), (⟨zS, zS⟩ : Role), zS⟩ : Cred))).toArray)] Tryz.underlying22 Tryz.sizeOf53 Tryz.zeroValue53 (by decide) rfl (by intro v hv; simp only [List.mem_cons, List.not_mem_nil, or_false] at hv; rcases hv with rfl <;> rfl) rfl rfl) (fun o1 f5 hST => Vg rfl (congrArg Value.bool g) (R_load c3 (load_boxA hST.has (Mt (Mt Mh)) (encCred ((⟨1, (⟨(⟨#[120]⟩ : ByteArray), (⟨#[121]⟩ : ByteArray)⟩ : Role), (⟨#[100]⟩ : ByteArray), (⟨zS, zS⟩ : Role), (⟨zS, zS⟩ : Role), zS⟩ : Cred))) rfl Tryz.isAgg53 Tryz.sizeOf53)) (VgE rfl (congrArg Value.bool g) (E_buildSlice (qs := #[(0, (.agg (encCred ((⟨1, (⟨(⟨#[120]⟩ : ByteArray), (⟨#[121]⟩ : ByteArray)⟩ : Role), (⟨#[100]⟩ : ByteArray), (⟨zS, zS⟩ : Role), (⟨zS, zS⟩ : Role), zS⟩ : Cred))).toArray))]) (cs := (encCred ((⟨1, (⟨(⟨#[120]⟩ : ByteArray), (⟨#[121]⟩ : ByteArray)⟩ : Role), (⟨#[100]⟩ : ByteArray), (⟨zS, zS⟩ : Role), (⟨zS, zS⟩ : Role), zS⟩ : Cred))).toArray) hST (parts1 rfl) (run_lit [(.agg (encCred ((⟨1, (⟨(⟨#[120]⟩ : ByteArray), (⟨#[121]⟩ : ByteArray)⟩ : Role), (⟨#[100]⟩ : ByteArray), (⟨zS, zS⟩ : Role), (⟨zS, zS⟩ : Role), zS⟩ : Cred))).toArray)] Tryz.underlying22 Tryz.sizeOf53 Tryz.zeroValue53 (by decide) rfl (by intro v hv; simp only [List.mem_cons, List.not_mem_nil, or_false] at hv; rcases hv with rfl <;> rfl) rfl rfl) (fun o2 f6 hST => ?_))))))
              obtain ⟨Z, i6, y⟩ := bind_some y
              refine VgE rfl (congrArg Value.bool g) (F_givesRow (args := [(.slice (some ⟨f5, 0, none⟩) 1 1), (.slice (some ⟨f6, 0, none⟩) 1 1)]) _ hST rfl Tryz.call45 (by exact args2 rfl rfl) ((w_revoke_Lost (.slice (some ⟨f5, 0, none⟩) 1 1) ([(⟨1, (⟨(⟨#[120]⟩ : ByteArray), (⟨#[121]⟩ : ByteArray)⟩ : Role), (⟨#[100]⟩ : ByteArray), (⟨zS, zS⟩ : Role), (⟨zS, zS⟩ : Role), zS⟩ : Cred)]) (.slice (some ⟨f6, 0, none⟩) 1 1) ([(⟨1, (⟨(⟨#[120]⟩ : ByteArray), (⟨#[121]⟩ : ByteArray)⟩ : Role), (⟨#[100]⟩ : ByteArray), (⟨zS, zS⟩ : Role), (⟨zS, zS⟩ : Role), zS⟩ : Cred)]) _ _ (Sl.lit (enc := encCred) (l := [(⟨1, (⟨(⟨#[120]⟩ : ByteArray), (⟨#[121]⟩ : ByteArray)⟩ : Role), (⟨#[100]⟩ : ByteArray), (⟨zS, zS⟩ : Role), (⟨zS, zS⟩ : Role), zS⟩ : Cred)]) lenCred rfl (Nat.le_of_ble_eq_true rfl) rfl (hST.at_ (Mt Mh))) (Sl.lit (enc := encCred) (l := [(⟨1, (⟨(⟨#[120]⟩ : ByteArray), (⟨#[121]⟩ : ByteArray)⟩ : Role), (⟨#[100]⟩ : ByteArray), (⟨zS, zS⟩ : Role), (⟨zS, zS⟩ : Role), zS⟩ : Cred)]) lenCred rfl (Nat.le_of_ble_eq_true rfl) rfl (hST.at_ Mh)) i6)) (fun o3 q2 m4 n6 hST h5 hl224 h9 => Vg rfl (congrArg Value.bool g) (R_lenRow Tryz.underlying68 rfl h9) (Vg rfl (congrArg Value.bool g) (R_int rfl rfl rfl) (V (R_pickT (congrArg Value.bool g) rfl) ?_))))
              replace y := Option.some.inj y; subst y
              exact c7 _ _ ⟨((((Z.length : Int)) == 1)), m4, _, h5, (hST.sel (Dr (Db (Db St)))), g7, c3, g8, rfl, e3⟩
            replace y := if_f g y
            refine Vn rfl (congrArg Value.bool g) (Vn rfl (congrArg Value.bool g) (Vn rfl (congrArg Value.bool g) (Vn rfl (congrArg Value.bool g) (Vn rfl (congrArg Value.bool g) (Vn rfl (congrArg Value.bool g) (Vn rfl (congrArg Value.bool g) (V (R_pickF (congrArg Value.bool g) rfl) ?_)))))))
            replace y := Option.some.inj y; subst y
            exact c7 _ _ ⟨false, b8, _, (Sub.refl _), (hST.sel St), g7, c3, g8, rfl, e3⟩
          rcases bool_cases a0 with f | f
          · replace z := if_t f z
            refine Vg rfl (congrArg Value.bool f) (R_move k4) (Vg rfl (congrArg Value.bool f) (R_load k5 (load_boxA hST.has (Mt Mh) [(.int .i64 (((a.1).Cred).Kind)), (.string ((((a.1).Cred).Head).Owner)), (.string ((((a.1).Cred).Head).Word)), (.string (((a.1).Cred).Who)), (.string ((((a.1).Cred).B).Owner)), (.string ((((a.1).Cred).B).Word)), (.string ((((a.1).Cred).C).Owner)), (.string ((((a.1).Cred).C).Word)), (.string (((a.1).Cred).Word2)), (.slice t ((a.1).Tag).length u)] rfl Tryz.isAgg56 Tryz.sizeOf56)) (VgE rfl (congrArg Value.bool f) (E_buildSlice (qs := #[(0, (.agg #[(.int .i64 (((a.1).Cred).Kind)), (.string ((((a.1).Cred).Head).Owner)), (.string ((((a.1).Cred).Head).Word)), (.string (((a.1).Cred).Who)), (.string ((((a.1).Cred).B).Owner)), (.string ((((a.1).Cred).B).Word)), (.string ((((a.1).Cred).C).Owner)), (.string ((((a.1).Cred).C).Word)), (.string (((a.1).Cred).Word2)), (.slice t ((a.1).Tag).length u)]))]) (cs := #[(.int .i64 (((a.1).Cred).Kind)), (.string ((((a.1).Cred).Head).Owner)), (.string ((((a.1).Cred).Head).Word)), (.string (((a.1).Cred).Who)), (.string ((((a.1).Cred).B).Owner)), (.string ((((a.1).Cred).B).Word)), (.string ((((a.1).Cred).C).Owner)), (.string ((((a.1).Cred).C).Word)), (.string (((a.1).Cred).Word2)), (.slice t ((a.1).Tag).length u)]) hST (parts1 rfl) (run_lit [(.agg #[(.int .i64 (((a.1).Cred).Kind)), (.string ((((a.1).Cred).Head).Owner)), (.string ((((a.1).Cred).Head).Word)), (.string (((a.1).Cred).Who)), (.string ((((a.1).Cred).B).Owner)), (.string ((((a.1).Cred).B).Word)), (.string ((((a.1).Cred).C).Owner)), (.string ((((a.1).Cred).C).Word)), (.string (((a.1).Cred).Word2)), (.slice t ((a.1).Tag).length u)])] Tryz.underlying50 Tryz.sizeOf56 Tryz.zeroValue56 (by decide) rfl (by intro v hv; simp only [List.mem_cons, List.not_mem_nil, or_false] at hv; rcases hv with rfl <;> rfl) rfl rfl) (fun o4 f7 hST => Vg rfl (congrArg Value.bool f) (R_load k6 (load_boxA hST.has (Mt Mh) [(.int .i64 (((c.1).Cred).Kind)), (.string ((((c.1).Cred).Head).Owner)), (.string ((((c.1).Cred).Head).Word)), (.string (((c.1).Cred).Who)), (.string ((((c.1).Cred).B).Owner)), (.string ((((c.1).Cred).B).Word)), (.string ((((c.1).Cred).C).Owner)), (.string ((((c.1).Cred).C).Word)), (.string (((c.1).Cred).Word2)), (.slice T ((c.1).Tag).length U)] rfl Tryz.isAgg56 Tryz.sizeOf56)) (VgE rfl (congrArg Value.bool f) (E_buildSlice (qs := #[(0, (.agg #[(.int .i64 (((c.1).Cred).Kind)), (.string ((((c.1).Cred).Head).Owner)), (.string ((((c.1).Cred).Head).Word)), (.string (((c.1).Cred).Who)), (.string ((((c.1).Cred).B).Owner)), (.string ((((c.1).Cred).B).Word)), (.string ((((c.1).Cred).C).Owner)), (.string ((((c.1).Cred).C).Word)), (.string (((c.1).Cred).Word2)), (.slice T ((c.1).Tag).length U)]))]) (cs := #[(.int .i64 (((c.1).Cred).Kind)), (.string ((((c.1).Cred).Head).Owner)), (.string ((((c.1).Cred).Head).Word)), (.string (((c.1).Cred).Who)), (.string ((((c.1).Cred).B).Owner)), (.string ((((c.1).Cred).B).Word)), (.string ((((c.1).Cred).C).Owner)), (.string ((((c.1).Cred).C).Word)), (.string (((c.1).Cred).Word2)), (.slice T ((c.1).Tag).length U)]) hST (parts1 rfl) (run_lit [(.agg #[(.int .i64 (((c.1).Cred).Kind)), (.string ((((c.1).Cred).Head).Owner)), (.string ((((c.1).Cred).Head).Word)), (.string (((c.1).Cred).Who)), (.string ((((c.1).Cred).B).Owner)), (.string ((((c.1).Cred).B).Word)), (.string ((((c.1).Cred).C).Owner)), (.string ((((c.1).Cred).C).Word)), (.string (((c.1).Cred).Word2)), (.slice T ((c.1).Tag).length U)])] Tryz.underlying50 Tryz.sizeOf56 Tryz.zeroValue56 (by decide) rfl (by intro v hv; simp only [List.mem_cons, List.not_mem_nil, or_false] at hv; rcases hv with rfl <;> rfl) rfl rfl) (fun o5 f8 hST => ?_)))))))
            obtain ⟨a3, i7, z⟩ := bind_some z
            refine VgE rfl (congrArg Value.bool f) (F_givesRow (args := [(.slice (some ⟨b9, 0, none⟩) 1 1), (.slice (some ⟨f7, 0, none⟩) 1 1), (.slice (some ⟨f8, 0, none⟩) 1 1)]) _ hST rfl Tryz.call42 (by exact args3 rfl rfl rfl) ((w_revoke_Live (.slice (some ⟨b9, 0, none⟩) 1 1) ([(⟨(⟨#[120]⟩ : ByteArray), [107]⟩ : Key)]) (.slice (some ⟨f7, 0, none⟩) 1 1) ([a.1]) (.slice (some ⟨f8, 0, none⟩) 1 1) ([c.1]) _ _ (b0.mono dKey.mono ((((a8.trans a9).trans a2).trans b5).trans hST.sub_hp)) ((RowD.lit dSigned (l := [a.1]) (.cons (ys := [(.int .i64 (((a.1).Cred).Kind)), (.string ((((a.1).Cred).Head).Owner)), (.string ((((a.1).Cred).Head).Word)), (.string (((a.1).Cred).Who)), (.string ((((a.1).Cred).B).Owner)), (.string ((((a.1).Cred).B).Word)), (.string ((((a.1).Cred).C).Owner)), (.string ((((a.1).Cred).C).Word)), (.string (((a.1).Cred).Word2)), (.slice t ((a.1).Tag).length u)]) (relSigned.mk ⟨(.slice t ((a.1).Tag).length u), rfl, (c5.mono (Pl.mono _) (a2.trans b5))⟩) .nil) rfl (Nat.le_of_ble_eq_true rfl) rfl).sl dSigned hST.sub_hp (fun b o hq => (by rw [List.mem_singleton] at hq; cases hq; exact hST.at_ (Mt Mh)))) ((RowD.lit dSigned (l := [c.1]) (.cons (ys := [(.int .i64 (((c.1).Cred).Kind)), (.string ((((c.1).Cred).Head).Owner)), (.string ((((c.1).Cred).Head).Word)), (.string (((c.1).Cred).Who)), (.string ((((c.1).Cred).B).Owner)), (.string ((((c.1).Cred).B).Word)), (.string ((((c.1).Cred).C).Owner)), (.string ((((c.1).Cred).C).Word)), (.string (((c.1).Cred).Word2)), (.slice T ((c.1).Tag).length U)]) (relSigned.mk ⟨(.slice T ((c.1).Tag).length U), rfl, (d9.mono (Pl.mono _) b5)⟩) .nil) rfl (Nat.le_of_ble_eq_true rfl) rfl).sl dSigned hST.sub_hp (fun b o hq => (by rw [List.mem_singleton] at hq; cases hq; exact hST.at_ Mh))) i7)) (fun o6 q3 m5 n7 hST h6 hl241 i0 => Vg rfl (congrArg Value.bool f) (R_lenRow Tryz.underlying22 rfl i0) (Vg rfl (congrArg Value.bool f) (R_int rfl rfl rfl) (V (R_pickT (congrArg Value.bool f) rfl) ?_))))
            replace z := Option.some.inj z; subst z
            exact c8 _ _ ⟨((((a3.length : Int)) == 0)), m5, _, h6, (hST.sel (Dr (Db (Db (Db (Db St)))))), g4, g5, g6, rfl, e4⟩
          replace z := if_f f z
          refine Vn rfl (congrArg Value.bool f) (Vn rfl (congrArg Value.bool f) (Vn rfl (congrArg Value.bool f) (Vn rfl (congrArg Value.bool f) (Vn rfl (congrArg Value.bool f) (Vn rfl (congrArg Value.bool f) (Vn rfl (congrArg Value.bool f) (Vn rfl (congrArg Value.bool f) (V (R_pickF (congrArg Value.bool f) rfl) ?_))))))))
          replace z := Option.some.inj z; subst z
          exact c8 _ _ ⟨false, b7, _, (Sub.refl _), (hST.sel (Db (Db St))), g4, g5, g6, rfl, e4⟩
        rcases bool_cases b4 with i | i
        · replace D := if_t i D
          refine Vg rfl (congrArg Value.bool i) (R_move d4) (Vg rfl (congrArg Value.bool i) (R_load d5 (load_boxA hST.has (Mt Mh) [(.int .i64 (((a.1).Cred).Kind)), (.string ((((a.1).Cred).Head).Owner)), (.string ((((a.1).Cred).Head).Word)), (.string (((a.1).Cred).Who)), (.string ((((a.1).Cred).B).Owner)), (.string ((((a.1).Cred).B).Word)), (.string ((((a.1).Cred).C).Owner)), (.string ((((a.1).Cred).C).Word)), (.string (((a.1).Cred).Word2)), (.slice t ((a.1).Tag).length u)] rfl Tryz.isAgg56 Tryz.sizeOf56)) (VgE rfl (congrArg Value.bool i) (E_buildSlice (qs := #[(0, (.agg #[(.int .i64 (((a.1).Cred).Kind)), (.string ((((a.1).Cred).Head).Owner)), (.string ((((a.1).Cred).Head).Word)), (.string (((a.1).Cred).Who)), (.string ((((a.1).Cred).B).Owner)), (.string ((((a.1).Cred).B).Word)), (.string ((((a.1).Cred).C).Owner)), (.string ((((a.1).Cred).C).Word)), (.string (((a.1).Cred).Word2)), (.slice t ((a.1).Tag).length u)]))]) (cs := #[(.int .i64 (((a.1).Cred).Kind)), (.string ((((a.1).Cred).Head).Owner)), (.string ((((a.1).Cred).Head).Word)), (.string (((a.1).Cred).Who)), (.string ((((a.1).Cred).B).Owner)), (.string ((((a.1).Cred).B).Word)), (.string ((((a.1).Cred).C).Owner)), (.string ((((a.1).Cred).C).Word)), (.string (((a.1).Cred).Word2)), (.slice t ((a.1).Tag).length u)]) hST (parts1 rfl) (run_lit [(.agg #[(.int .i64 (((a.1).Cred).Kind)), (.string ((((a.1).Cred).Head).Owner)), (.string ((((a.1).Cred).Head).Word)), (.string (((a.1).Cred).Who)), (.string ((((a.1).Cred).B).Owner)), (.string ((((a.1).Cred).B).Word)), (.string ((((a.1).Cred).C).Owner)), (.string ((((a.1).Cred).C).Word)), (.string (((a.1).Cred).Word2)), (.slice t ((a.1).Tag).length u)])] Tryz.underlying50 Tryz.sizeOf56 Tryz.zeroValue56 (by decide) rfl (by intro v hv; simp only [List.mem_cons, List.not_mem_nil, or_false] at hv; rcases hv with rfl <;> rfl) rfl rfl) (fun o7 f9 hST => ?_))))
          obtain ⟨a7, i8, D⟩ := bind_some D
          refine VgE rfl (congrArg Value.bool i) (F_givesRow (args := [(.slice (some ⟨b9, 0, none⟩) 1 1), (.slice (some ⟨f9, 0, none⟩) 1 1), (.slice none 0 0)]) _ hST rfl Tryz.call42 (by exact args3 rfl rfl rfl) ((w_revoke_Live (.slice (some ⟨b9, 0, none⟩) 1 1) ([(⟨(⟨#[120]⟩ : ByteArray), [107]⟩ : Key)]) (.slice (some ⟨f9, 0, none⟩) 1 1) ([a.1]) (.slice none 0 0) ([]) _ _ (b0.mono dKey.mono (((a8.trans a9).trans a2).trans hST.sub_hp)) ((RowD.lit dSigned (l := [a.1]) (.cons (ys := [(.int .i64 (((a.1).Cred).Kind)), (.string ((((a.1).Cred).Head).Owner)), (.string ((((a.1).Cred).Head).Word)), (.string (((a.1).Cred).Who)), (.string ((((a.1).Cred).B).Owner)), (.string ((((a.1).Cred).B).Word)), (.string ((((a.1).Cred).C).Owner)), (.string ((((a.1).Cred).C).Word)), (.string (((a.1).Cred).Word2)), (.slice t ((a.1).Tag).length u)]) (relSigned.mk ⟨(.slice t ((a.1).Tag).length u), rfl, (c5.mono (Pl.mono _) a2)⟩) .nil) rfl (Nat.le_of_ble_eq_true rfl) rfl).sl dSigned hST.sub_hp (fun b o hq => (by rw [List.mem_singleton] at hq; cases hq; exact hST.at_ Mh))) (Sl.nil _ _ _) i8)) (fun o8 q4 m6 n8 hST h7 hl256 i1 => Vg rfl (congrArg Value.bool i) (R_lenRow Tryz.underlying22 rfl i1) (Vg rfl (congrArg Value.bool i) (R_int rfl rfl rfl) (V (R_pickT (congrArg Value.bool i) rfl) ?_))))
          replace D := Option.some.inj D; subst D
          exact c9 _ _ ⟨((((a7.length : Int)) == 1)), m6, _, h7, (hST.sel (Dr (Db St))), g0, d4, g1, g2, d5, g3, rfl, e5⟩
        replace D := if_f i D
        refine Vn rfl (congrArg Value.bool i) (Vn rfl (congrArg Value.bool i) (Vn rfl (congrArg Value.bool i) (Vn rfl (congrArg Value.bool i) (Vn rfl (congrArg Value.bool i) (Vn rfl (congrArg Value.bool i) (V (R_pickF (congrArg Value.bool i) rfl) ?_))))))
        replace D := Option.some.inj D; subst D
        exact c9 _ _ ⟨false, d3, _, (Sub.refl _), (hST.sel St), g0, d4, g1, g2, d5, g3, rfl, e5⟩
      rcases bool_cases c1 with K | K
      · replace G := if_t K G
        refine Vg rfl (congrArg Value.bool K) (R_move h2) (Vg rfl (congrArg Value.bool K) (R_load h3 (load_boxA hST.has (Mt Mh) [(.int .i64 (((a.1).Cred).Kind)), (.string ((((a.1).Cred).Head).Owner)), (.string ((((a.1).Cred).Head).Word)), (.string (((a.1).Cred).Who)), (.string ((((a.1).Cred).B).Owner)), (.string ((((a.1).Cred).B).Word)), (.string ((((a.1).Cred).C).Owner)), (.string ((((a.1).Cred).C).Word)), (.string (((a.1).Cred).Word2)), (.slice t ((a.1).Tag).length u)] rfl Tryz.isAgg56 Tryz.sizeOf56)) ?_)
        obtain ⟨b6, i9, G⟩ := bind_some G
        refine VgE rfl (congrArg Value.bool K) (E_gives (args := [(.slice (some ⟨b9, 0, none⟩) 1 1), (.agg #[(.int .i64 (((a.1).Cred).Kind)), (.string ((((a.1).Cred).Head).Owner)), (.string ((((a.1).Cred).Head).Word)), (.string (((a.1).Cred).Who)), (.string ((((a.1).Cred).B).Owner)), (.string ((((a.1).Cred).B).Word)), (.string ((((a.1).Cred).C).Owner)), (.string ((((a.1).Cred).C).Word)), (.string (((a.1).Cred).Word2)), (.slice t ((a.1).Tag).length u)])]) hST rfl Tryz.call39 (by exact args2 rfl rfl) (Gives.weak (w_revoke_Good (.slice (some ⟨b9, 0, none⟩) 1 1) ([(⟨(⟨#[120]⟩ : ByteArray), [107]⟩ : Key)]) a.1 (.slice t ((a.1).Tag).length u) _ _ (b0.mono dKey.mono (((a8.trans a9).trans a2).trans hST.sub_hp)) (c5.mono (Pl.mono _) (a2.trans hST.sub_hp)) i9)) (fun o9 hST => Vg rfl (congrArg Value.bool K) (R_not rfl) (V (R_pickT (congrArg Value.bool K) rfl) ?_)))
        replace G := Option.some.inj G; subst G
        exact d0 _ _ ⟨((!b6)), _, (hST.sel St), j8, h2, j9, k0, h3, k1, rfl, e6⟩
      replace G := if_f K G
      refine Vn rfl (congrArg Value.bool K) (Vn rfl (congrArg Value.bool K) (Vn rfl (congrArg Value.bool K) (Vn rfl (congrArg Value.bool K) (V (R_pickF (congrArg Value.bool K) rfl) ?_))))
      replace G := Option.some.inj G; subst G
      exact d0 _ _ ⟨false, _, (hST.sel St), j8, h2, j9, k0, h3, k1, rfl, e6⟩
    rcases bool_cases e9 with Y | Y
    · replace H := if_t Y H
      refine Vg rfl (congrArg Value.bool Y) (R_move h0) (Vg rfl (congrArg Value.bool Y) (R_load h1 (load_boxA hST.has Mh [(.int .i64 (((c.1).Cred).Kind)), (.string ((((c.1).Cred).Head).Owner)), (.string ((((c.1).Cred).Head).Word)), (.string (((c.1).Cred).Who)), (.string ((((c.1).Cred).B).Owner)), (.string ((((c.1).Cred).B).Word)), (.string ((((c.1).Cred).C).Owner)), (.string ((((c.1).Cred).C).Word)), (.string (((c.1).Cred).Word2)), (.slice T ((c.1).Tag).length U)] rfl Tryz.isAgg56 Tryz.sizeOf56)) ?_)
      obtain ⟨e0, j0, H⟩ := bind_some H
      refine VgE rfl (congrArg Value.bool Y) (E_gives (args := [(.slice (some ⟨b9, 0, none⟩) 1 1), (.agg #[(.int .i64 (((c.1).Cred).Kind)), (.string ((((c.1).Cred).Head).Owner)), (.string ((((c.1).Cred).Head).Word)), (.string (((c.1).Cred).Who)), (.string ((((c.1).Cred).B).Owner)), (.string ((((c.1).Cred).B).Word)), (.string ((((c.1).Cred).C).Owner)), (.string ((((c.1).Cred).C).Word)), (.string (((c.1).Cred).Word2)), (.slice T ((c.1).Tag).length U)])]) hST rfl Tryz.call39 (by exact args2 rfl rfl) (Gives.weak (w_revoke_Good (.slice (some ⟨b9, 0, none⟩) 1 1) ([(⟨(⟨#[120]⟩ : ByteArray), [107]⟩ : Key)]) c.1 (.slice T ((c.1).Tag).length U) _ _ (b0.mono dKey.mono (((a8.trans a9).trans a2).trans hST.sub_hp)) (d9.mono (Pl.mono _) hST.sub_hp) j0)) (fun p0 hST => V (R_pickT (congrArg Value.bool Y) rfl) ?_))
      replace H := Option.some.inj H; subst H
      exact d1 _ _ ⟨e0, _, (hST.sel St), j4, h0, j5, j6, j7, h1, rfl, e7⟩
    replace H := if_f Y H
    refine Vn rfl (congrArg Value.bool Y) (Vn rfl (congrArg Value.bool Y) (Vn rfl (congrArg Value.bool Y) (V (R_pickF (congrArg Value.bool Y) rfl) ?_)))
    replace H := Option.some.inj H; subst H
    exact d1 _ _ ⟨false, _, (hST.sel St), j4, h0, j5, j6, j7, h1, rfl, e7⟩
  rcases bool_cases ((a.2 == 0)) with a1 | a1
  · replace N := if_t a1 N
    refine Vg rfl (congrArg Value.bool a1) (R_move rfl) (Vg rfl (congrArg Value.bool a1) (R_int rfl rfl rfl) (V (R_pickT (congrArg Value.bool a1) rfl) ?_))
    replace N := Option.some.inj N; subst N
    exact d2 _ _ ⟨((c.2 == 0)), _, (hST.sel St), rfl, rfl, rfl, rfl, rfl, rfl, rfl, e8⟩
  replace N := if_f a1 N
  refine Vn rfl (congrArg Value.bool a1) (Vn rfl (congrArg Value.bool a1) (V (R_pickF (congrArg Value.bool a1) rfl) ?_))
  replace N := Option.some.inj N; subst N
  exact d2 _ _ ⟨false, _, (hST.sel St), rfl, rfl, rfl, rfl, rfl, rfl, rfl, e8⟩
theorem w_law05_Great (j : Value) (t : List Cred) (r : Int) (w : World) (g : Sl (Pl encCred) 9 (hp w) j t) (hm : m_law05_Great t = some r) :
    Gives true Tryz.prog 21 [j] w (.int .i64 r) := by
  have hST := ST.start (dd := true) w
  unfold m_law05_Great at hm
  refine calls_of_CW (n := 54) Tryz.func21 rfl rfl (Nat.le_of_ble_eq_true rfl) (CW_seq (CW_region (V (R_assign rfl) (LW_nil (sq_n (CW_seq (CW_region (V (R_assign rfl) (LW_nil (sq_n (CW_seq (CW_seq (CW_region (V (R_move rfl) ?_))))))))))))))
  refine V (R_len Tryz.underlying22 rfl g) (V (R_move rfl) (LW_nil (sq_n (CW_range (fun i E W => ∃ (f : Int) (k : List (Nat × Obj)), (E 8 = .int .i64 (i : Nat) ∧ E 7 = .int .i64 (t.length : Nat)) ∧ ST true NoF w W (hp w) k ∧ E 3 = (.int .i64 f) ∧ E 6 = j ∧ m_law05_Great_L1 (t.drop i) f = some r) t.length g.len ⟨0, _, ⟨rfl, rfl⟩, (hST.sel St), rfl, rfl, hm⟩ (by decide) (by decide) (by decide) (fun _ _ _ h => by obtain ⟨_, _, eIN, _⟩ := h; exact eIN) ?_ ?_))))
  · rintro H E W y ⟨f, k, ⟨eI, eN⟩, hST, u, x, a⟩
    obtain ⟨c, I, D, B, G⟩ := drop_cons y
    rw [D] at a
    rw [m_law05_Great_L1] at a
    refine CW_block (CW_seq (CW_region (VQ (R_indexP (enc := encCred) (i := (H : Int)) (x0 := c) Tryz.underlying22 Tryz.sizeOf53 x eI g (Int.natCast_nonneg _) B) (fun N z => V (R_load rfl (load_atA hST.has z Tryz.isAgg53 Tryz.sizeOf53)) (VE (E_alloc hST Tryz.zeroValue53 (fun J M hST => VO (F_store (.agg (encCred c).toArray) ((encCred c).toArray) hST rfl rfl Tryz.sizeOf53 (oneCred c) (Nat.le_of_ble_eq_true rfl) rfl (fun K hST => LW_nil (sq_n (CW_region (V (R_move u) (V (R_field fa53_1 rfl) (V (R_field fa28_0 rfl) (V (R_load rfl (load_box1 hST.has Mh rfl Tryz.isAgg9)) (V (R_lenStr Tryz.underlying9 rfl) ?_))))))))))))))))
    refine V (R_int rfl rfl rfl) (V (R_field fa53_1 rfl) (V (R_field fa28_1 rfl) (V (R_load rfl (load_box1 hST.has Mh rfl Tryz.isAgg9)) (V (R_lenStr Tryz.underlying9 rfl) (V (R_int rfl rfl rfl) (V (R_field fa53_2 rfl) (V (R_load rfl (load_box1 hST.has Mh rfl Tryz.isAgg9)) (V (R_lenStr Tryz.underlying9 rfl) (V (R_int rfl rfl rfl) (V (R_field fa53_3 rfl) (V (R_field fa28_0 rfl) (V (R_load rfl (load_box1 hST.has Mh rfl Tryz.isAgg9)) (V (R_lenStr Tryz.underlying9 rfl) (V (R_int rfl rfl rfl) ?_))))))))))))))
    refine V (R_field fa53_3 rfl) (V (R_field fa28_1 rfl) (V (R_load rfl (load_box1 hST.has Mh rfl Tryz.isAgg9)) (V (R_lenStr Tryz.underlying9 rfl) (V (R_int rfl rfl rfl) (V (R_field fa53_4 rfl) (V (R_field fa28_0 rfl) (V (R_load rfl (load_box1 hST.has Mh rfl Tryz.isAgg9)) (V (R_lenStr Tryz.underlying9 rfl) (V (R_int rfl rfl rfl) (V (R_field fa53_4 rfl) (V (R_field fa28_1 rfl) (V (R_load rfl (load_box1 hST.has Mh rfl Tryz.isAgg9)) (V (R_lenStr Tryz.underlying9 rfl) (V (R_int rfl rfl rfl) ?_))))))))))))))
    refine V (R_field fa53_5 rfl) (V (R_load rfl (load_box1 hST.has Mh rfl Tryz.isAgg9)) (V (R_lenStr Tryz.underlying9 rfl) (V (R_int rfl rfl rfl) (V (R_int rfl rfl rfl) (V (R_assign rfl) (LW_nil (bq_n (sq_n ?_))))))))
    replace hST := hST.sel (Db St)
    exact ⟨eI, ((IntKind.i64.wrap (f + ((IntKind.i64.wrap (((IntKind.i64.wrap (((IntKind.i64.wrap (((IntKind.i64.wrap (((IntKind.i64.wrap (((IntKind.i64.wrap (((IntKind.i64.wrap (((IntKind.i64.wrap (20 + ((c.Head.Owner.size : Int))))) + ((c.Head.Word.size : Int))))) + ((c.Who.size : Int))))) + ((c.B.Owner.size : Int))))) + ((c.B.Word.size : Int))))) + ((c.C.Owner.size : Int))))) + ((c.C.Word.size : Int))))) + ((c.Word2.size : Int)))))))), _, ⟨rfl, eN⟩, (hST.sel St), rfl, x, (by rw [G]; exact a)⟩
  rintro E W ⟨f, k, ⟨eI, eN⟩, hST, u, x, a⟩
  rw [List.drop_length] at a
  rw [m_law05_Great_L1] at a
  refine sq_n (CW_seq (CW_region (V (R_move u) (V (R_assign rfl) (LW_nil (sq_n (CW_ret ?_)))))))
  replace a := Option.some.inj a; subst a
  exact retQ_1 (v := (.int .i64 f)) rfl rfl ⟨rfl, hST.ex⟩
theorem w_law06_Great (H : Value) (Q : List Key) (u : Value) (J : List Signed) (r : Int) (w : World) (D : Sl relKey 2 (hp w) H Q) (G : Sl relSigned 10 (hp w) u J) (hm : m_law06_Great Q J = some r) :
    Gives true Tryz.prog 35 [H, u] w (.int .i64 r) := by
  have hST := ST.start (dd := true) w
  unfold m_law06_Great at hm
  refine calls_of_CW (n := 45) Tryz.func35 rfl rfl (Nat.le_of_ble_eq_true rfl) (CW_seq (CW_region (V (R_assign rfl) (LW_nil (sq_n (CW_seq (CW_region (V (R_assign rfl) (LW_nil (sq_n (CW_seq (CW_seq (CW_region (V (R_move rfl) ?_))))))))))))))
  refine V (R_len Tryz.underlying49 rfl D) (V (R_move rfl) (LW_nil (sq_n (CW_range (fun i E W => ∃ (k : Int) (N : List (Nat × Obj)), (E 12 = .int .i64 (i : Nat) ∧ E 11 = .int .i64 (Q.length : Nat)) ∧ ST true NoF w W (hp w) N ∧ E 1 = u ∧ E 5 = (.int .i64 k) ∧ E 10 = H ∧ m_law06_Great_L1 J (Q.drop i) k = some r) Q.length D.len ⟨0, _, ⟨rfl, rfl⟩, (hST.sel St), rfl, rfl, rfl, hm⟩ (by decide) (by decide) (by decide) (fun _ _ _ h => by obtain ⟨_, _, eIN, _⟩ := h; exact eIN) ?_ ?_))))
  · rintro c3 E W b5 ⟨k, N, ⟨eI, eN⟩, hST, Y, Z, a2, f⟩
    obtain ⟨j, d3, b8, b7, b9⟩ := drop_cons b5
    rw [b8] at f
    rw [m_law06_Great_L1] at f
    refine CW_block (CW_seq (CW_region (VQ (R_indexD (i := (c3 : Int)) (x0 := j) relKey.out Tryz.underlying49 Tryz.sizeOf196 a2 eI D (Int.natCast_nonneg _) b7) (fun d7 ⟨_, ⟨d8, rfl, a3⟩, b6⟩ => V (R_load rfl (load_atA hST.has b6 Tryz.isAgg196 Tryz.sizeOf196)) (VE (E_alloc hST Tryz.zeroValue196 (fun d4 d6 hST => ?_)))))))
    obtain ⟨b2, b3, rfl⟩ := a3.form
    refine VO (F_store (.agg #[(.string j.Who), (.slice b2 j.Key.length b3)]) (#[(.string j.Who), (.slice b2 j.Key.length b3)]) hST rfl rfl Tryz.sizeOf196 (by simp [Value.cells, Value.oneCell']) (Nat.le_of_ble_eq_true rfl) rfl (fun d5 hST => LW_nil (sq_n (CW_region (V (R_move Z) (V (R_field fa196_0 rfl) (V (R_load rfl (load_box1 hST.has Mh rfl Tryz.isAgg9)) (V (R_lenStr Tryz.underlying9 rfl) (V (R_int rfl rfl rfl) (V (R_field fa196_1 rfl) (V (R_load rfl (load_box1 hST.has Mh rfl Tryz.isAgg54)) (V (R_len Tryz.underlying54 rfl a3) (V (R_int rfl rfl rfl) (V (R_int rfl rfl rfl) (V (R_assign rfl) ?_)))))))))))))))
    refine LW_nil (bq_n (sq_n ?_))
    replace hST := hST.sel (Db St)
    exact ⟨eI, ((IntKind.i64.wrap (k + ((IntKind.i64.wrap (((IntKind.i64.wrap (10 + ((j.Who.size : Int))))) + ((j.Key.length : Int)))))))), _, ⟨rfl, eN⟩, (hST.sel St), Y, rfl, a2, (by rw [b9]; exact f)⟩
  rintro E W ⟨k, N, ⟨eI, eN⟩, hST, Y, Z, a2, f⟩
  rw [List.drop_length] at f
  rw [m_law06_Great_L1] at f
  refine sq_n (CW_seq (CW_seq (CW_region (V (R_move Y) (V (R_len Tryz.underlying50 rfl G) (V (R_move rfl) (LW_nil (sq_n ?_))))))))
  obtain ⟨c2, a5, a6⟩ := bind_some f
  refine CW_cut (fun E W => ∃ (x : Int) (M : List (Nat × Obj)), ST true NoF w W (hp w) M ∧ E 5 = (.int .i64 x) ∧ some x = some r) ?_ ?_
  · refine CW_range (fun i E W => ∃ (g : Int) (y : List (Nat × Obj)), (E 29 = .int .i64 (i : Nat) ∧ E 28 = .int .i64 (J.length : Nat)) ∧ ST true NoF w W (hp w) y ∧ E 5 = (.int .i64 g) ∧ E 27 = u ∧ m_law06_Great_L2 (J.drop i) g = some c2) J.length G.len ⟨k, _, ⟨rfl, rfl⟩, (hST.sel St), Z, rfl, a5⟩ (by decide) (by decide) (by decide) (fun _ _ _ h => by obtain ⟨_, _, eIN, _⟩ := h; exact eIN) ?_ ?_
    · rintro c0 E W a4 ⟨g, y, ⟨eI, eN⟩, hST, z, B, c⟩
      obtain ⟨a, c4, b0, a9, b1⟩ := drop_cons a4
      rw [b0] at c
      rw [m_law06_Great_L2] at c
      refine CW_block (CW_seq (CW_region (VQ (R_indexD (i := (c0 : Int)) (x0 := a) relSigned.out Tryz.underlying50 Tryz.sizeOf56 B eI G (Int.natCast_nonneg _) a9) (fun d0 ⟨_, ⟨d1, rfl, I⟩, a7⟩ => V (R_load rfl (load_atA hST.has a7 Tryz.isAgg56 Tryz.sizeOf56)) (VE (E_alloc hST Tryz.zeroValue56 (fun c5 c9 hST => ?_)))))))
      obtain ⟨K, U, rfl⟩ := I.form
      refine VO (F_store (.agg #[(.int .i64 a.Cred.Kind), (.string a.Cred.Head.Owner), (.string a.Cred.Head.Word), (.string a.Cred.Who), (.string a.Cred.B.Owner), (.string a.Cred.B.Word), (.string a.Cred.C.Owner), (.string a.Cred.C.Word), (.string a.Cred.Word2), (.slice K a.Tag.length U)]) (#[(.int .i64 a.Cred.Kind), (.string a.Cred.Head.Owner), (.string a.Cred.Head.Word), (.string a.Cred.Who), (.string a.Cred.B.Owner), (.string a.Cred.B.Word), (.string a.Cred.C.Owner), (.string a.Cred.C.Word), (.string a.Cred.Word2), (.slice K a.Tag.length U)]) hST rfl rfl Tryz.sizeOf56 (by simp [Value.cells, Value.oneCell']) (Nat.le_of_ble_eq_true rfl) rfl (fun c6 hST => LW_nil (sq_n ?_)))
      replace hST := hST.drew
      have hS0 := hST.has.sel (Kb Sn)
      refine PX_start1 hS0 Tryz_mixed (X 0 rfl hS0 (R_move z) (X 1 rfl hS0 (R_field fa56_0 rfl) (XH 2 rfl hS0 (fun _ hS => R_load rfl (load_boxA hS Mh (encCred a.Cred) rfl Tryz.isAgg53 Tryz.sizeOf53)) (X 5 rfl hS0 (R_field fa56_1 rfl) (XH 6 rfl hS0 (fun _ hS => R_load rfl (load_box1 hS Mh rfl Tryz.isAgg54)) (X 7 rfl hS0 (R_len Tryz.underlying54 rfl I) (XE 3 rfl (E_buildSlice (qs := #[(0, (.agg (encCred a.Cred).toArray))]) (cs := (encCred a.Cred).toArray) hST (parts1 rfl) (run_lit [(.agg (encCred a.Cred).toArray)] Tryz.underlying22 Tryz.sizeOf53 Tryz.zeroValue53 (by decide) rfl (by intro v hv; simp only [List.mem_cons, List.not_mem_nil, or_false] at hv; rcases hv with rfl <;> rfl) rfl rfl) (fun c7 T hST => ?_)))))))))
      have hS0 := hST.has.sel (Db (Kb Sn))
      refine ⟨hS0, ?_⟩
      obtain ⟨c1, a8, c⟩ := bind_some c
      refine XE 4 rfl (E_gives (args := [(.slice (some ⟨T, 0, none⟩) 1 1)]) hST rfl Tryz.call21 (by exact args1 rfl) ((w_law05_Great (.slice (some ⟨T, 0, none⟩) 1 1) ([a.Cred]) _ _ (Sl.lit (enc := encCred) (l := [a.Cred]) lenCred rfl (Nat.le_of_ble_eq_true rfl) rfl (hST.at_ Mh)) a8)) (fun c8 hST => ?_))
      have hS0 := hST.has.sel (Db (Kb Sn))
      refine ⟨hS0, (X 8 rfl hS0 (R_int rfl rfl rfl) (X 9 rfl hS0 (R_int rfl rfl rfl) (X 10 rfl hS0 (R_assign rfl) (PX_done (by kernel_rfl) (bq_n (sq_n ?_))))))⟩
      replace hST := hST.sel (Db (Db St))
      exact ⟨eI, ((IntKind.i64.wrap (g + ((IntKind.i64.wrap (c1 + ((a.Tag.length : Int)))))))), _, ⟨rfl, eN⟩, (hST.sel St), rfl, B, (by rw [b1]; exact c)⟩
    rintro E W ⟨g, y, ⟨eI, eN⟩, hST, z, B, c⟩
    rw [List.drop_length] at c
    rw [m_law06_Great_L2] at c
    refine sq_n ?_
    replace c := Option.some.inj c; subst c
    exact ⟨g, _, (hST.sel St), z, a6⟩
  rintro E W ⟨x, M, hST, b4, t⟩
  refine CW_seq (CW_region (V (R_move b4) (V (R_assign rfl) (LW_nil (sq_n (CW_ret ?_))))))
  replace t := Option.some.inj t; subst t
  exact retQ_1 (v := (.int .i64 x)) rfl rfl ⟨rfl, hST.ex⟩
theorem w_ref03_Right (G : ByteArray) (r : Bool) (w : World)  (hm : m_ref03_Right G = some r) :
    Gives true Tryz.prog 158 [(.string G)] w (.bool r) := by
  have hST := ST.start (dd := true) w
  unfold m_ref03_Right at hm
  refine calls_of_CW (n := 49) Tryz.func158 rfl rfl (Nat.le_of_ble_eq_true rfl) (CW_seq (CW_region (V (R_assign rfl) (LW_nil (sq_n (CW_seq (CW_seq (CW_region (V (R_move rfl) (V (R_str rfl rfl rfl) (V (R_move rfl) ?_)))))))))))
  obtain ⟨h2, x, c8⟩ := bind_some hm
  refine LW_join (J := fun E W => ∃ (x2 : Bool) (L3 : List (Nat × Obj)), ST true NoF w W (hp w) L3 ∧ E 0 = (.string G) ∧ E 11 = (.bool x2) ∧ (((if x2 then some true else (((idxS G 0)).bind fun b8 => some ((decide (((b8.toNat : Int)) < 97))))) : Option Bool).bind fun a4 => (((if a4 then some true else (((idxS G 0)).bind fun a1 => some ((decide (((a1.toNat : Int)) > 122))))) : Option Bool).bind fun Z => (if Z then some false else m_ref03_Right_L1 G FUEL 0))) = some r) 4 ?_ (fun b7 => ?_)
  · rintro E W ⟨x2, L3, hST, e5, e6, g5⟩
    refine V (R_move e6) ?_
    obtain ⟨h1, g, c7⟩ := bind_some g5
    refine LW_join (J := fun E W => ∃ (a4 : Bool) (e3 : List (Nat × Obj)), ST true NoF w W (hp w) e3 ∧ E 0 = (.string G) ∧ E 16 = (.bool a4) ∧ (((if a4 then some true else (((idxS G 0)).bind fun a1 => some ((decide (((a1.toNat : Int)) > 122))))) : Option Bool).bind fun Z => (if Z then some false else m_ref03_Right_L1 G FUEL 0)) = some r) 4 ?_ (fun b6 => ?_)
    · rintro E W ⟨a4, e3, hST, d7, g2, f9⟩
      refine V (R_move g2) ?_
      obtain ⟨h0, f, c6⟩ := bind_some f9
      refine LW_join (J := fun E W => ∃ (Z : Bool) (e4 : List (Nat × Obj)), ST true NoF w W (hp w) e4 ∧ E 0 = (.string G) ∧ E 21 = (.bool Z) ∧ (if Z then some false else m_ref03_Right_L1 G FUEL 0) = some r) 4 ?_ (fun b5 => ?_)
      · rintro E W ⟨Z, e4, hST, g3, g4, Q⟩
        refine LW_nil (sq_n (CW_if (b := Z) g4 (fun c1 => ?_) (fun c1 => ?_)))
        · replace Q := if_t c1 Q
          refine CW_seq (CW_region (V (R_assign rfl) (LW_nil (sq_n (CW_ret (sq_r ?_))))))
          replace Q := Option.some.inj Q; subst Q
          exact retQ_1 (v := (.bool false)) rfl rfl ⟨rfl, hST.ex⟩
        replace Q := if_f c1 Q
        refine CW_skip (sq_n (CW_seq (CW_seq (CW_region (V (R_assign rfl) (LW_nil (sq_n (CW_block (CW_loop (fun m E W => ∃ (j : Int) (d2 : List (Nat × Obj)), ST true NoF w W (hp w) d2 ∧ E 0 = (.string G) ∧ E 3 = (.int .i64 j) ∧ m_ref03_Right_L1 G m j = some r) FUEL ⟨0, _, (hST.sel St), g3, rfl, Q⟩ ?_)))))))))
        rintro m E W ⟨j, d2, hST, a5, a6, c⟩
        cases m with
        | zero => rw [m_ref03_Right_L1] at c; cases c
        | succ b0 =>
          rw [m_ref03_Right_L1] at c
          refine CW_seq (CW_seq (CW_region (V (R_move a6) (V (R_move a5) (V (R_lenStr Tryz.underlying9 rfl) (V (R_int rfl rfl rfl) (LW_nil (sq_n (CW_if (b := (decide (j < ((G.size : Int))))) rfl (fun a7 => ?_) (fun a7 => ?_))))))))))
          · replace c := if_t a7 c
            refine CW_skip (sq_n (CW_seq (CW_block (CW_seq (CW_region (V (R_move a5) (V (R_move a6) ?_)))))))
            obtain ⟨y, c9, c⟩ := bind_some c
            refine V (R_indexStr (i := j) Tryz.underlying9 rfl rfl (idxS_nonneg c9) (idxS_get c9)) (V (R_assign rfl) (LW_nil (sq_n (CW_seq (CW_region (V (R_move rfl) (V (R_int rfl rfl rfl) (V (R_move rfl) ?_))))))))
            obtain ⟨g9, u, c5⟩ := bind_some c
            refine LW_join (J := fun E W => ∃ (a3 : Bool) (d3 : List (Nat × Obj)), ST true NoF w W (hp w) d3 ∧ E 0 = (.string G) ∧ E 3 = (.int .i64 j) ∧ E 4 = (.int .u8 ((y.toNat : Int))) ∧ E 36 = (.bool a3) ∧ (((if a3 then (((if (decide (((y.toNat : Int)) < 48)) then some true else some ((decide (((y.toNat : Int)) > 57)))) : Option Bool).bind fun Y => some Y) else some false) : Option Bool).bind fun U => (((if U then some ((((y.toNat : Int)) != 45)) else some false) : Option Bool).bind fun T => (if T then some false else (m_ref03_Right_L1 G b0 ((IntKind.i64.wrap (j + 1))))))) = some r) 3 ?_ (fun b4 => ?_)
            · rintro E W ⟨a3, d3, hST, b9, c0, a2, e7, e0⟩
              refine V (R_move e7) ?_
              obtain ⟨g0, K, c3⟩ := bind_some e0
              refine LW_join (J := fun E W => ∃ (U : Bool) (d4 : List (Nat × Obj)), ST true NoF w W (hp w) d4 ∧ E 0 = (.string G) ∧ E 3 = (.int .i64 j) ∧ E 4 = (.int .u8 ((y.toNat : Int))) ∧ E 44 = (.bool U) ∧ (((if U then some ((((y.toNat : Int)) != 45)) else some false) : Option Bool).bind fun T => (if T then some false else (m_ref03_Right_L1 G b0 ((IntKind.i64.wrap (j + 1)))))) = some r) 7 ?_ (fun b2 => ?_)
              · rintro E W ⟨U, d4, hST, d8, d9, e8, e9, e1⟩
                refine V (R_move e9) ?_
                obtain ⟨g7, k, c2⟩ := bind_some e1
                refine LW_join (J := fun E W => ∃ (T : Bool) (d5 : List (Nat × Obj)), ST true NoF w W (hp w) d5 ∧ E 0 = (.string G) ∧ E 3 = (.int .i64 j) ∧ E 48 = (.bool T) ∧ (if T then some false else (m_ref03_Right_L1 G b0 ((IntKind.i64.wrap (j + 1))))) = some r) 3 ?_ (fun b1 => ?_)
                · rintro E W ⟨T, d5, hST, f0, f1, f2, I⟩
                  refine LW_nil (sq_n (CW_if (b := T) f2 (fun a8 => ?_) (fun a8 => ?_)))
                  · replace I := if_t a8 I
                    refine CW_seq (CW_region (V (R_assign rfl) (LW_nil (sq_n (CW_ret (bq_r (sq_r (sq_r (bq_r (sq_r ?_))))))))))
                    replace I := Option.some.inj I; subst I
                    exact retQ_1 (v := (.bool false)) rfl rfl ⟨rfl, hST.ex⟩
                  replace I := if_f a8 I
                  exact CW_skip (bq_n (sq_n (CW_region (V (R_move f1) (V (R_int rfl rfl rfl) (V (R_assign rfl) (LW_nil (sq_n ⟨b0, Nat.lt_succ_self _, ((IntKind.i64.wrap (j + 1))), _, (hST.sel St), f0, rfl, I⟩))))))))
                rcases bool_cases U with B | B
                · replace k := if_t B k
                  refine Vg rfl (congrArg Value.bool B) (R_move e8) (Vg rfl (congrArg Value.bool B) (R_int rfl rfl rfl) (V (R_pickT (congrArg Value.bool B) rfl) ?_))
                  replace k := Option.some.inj k; subst k
                  exact b1 _ _ ⟨((((y.toNat : Int)) != 45)), _, (hST.sel St), d8, d9, rfl, c2⟩
                replace k := if_f B k
                refine Vn rfl (congrArg Value.bool B) (Vn rfl (congrArg Value.bool B) (V (R_pickF (congrArg Value.bool B) rfl) ?_))
                replace k := Option.some.inj k; subst k
                exact b1 _ _ ⟨false, _, (hST.sel St), d8, d9, rfl, c2⟩
              rcases bool_cases a3 with a | a
              · replace K := if_t a K
                refine Vg rfl (congrArg Value.bool a) (R_move a2) (Vg rfl (congrArg Value.bool a) (R_int rfl rfl rfl) (Vg rfl (congrArg Value.bool a) (R_move rfl) ?_))
                obtain ⟨g8, t, c4⟩ := bind_some K
                refine LW_join (J := fun E W => ∃ (Y : Bool) (d6 : List (Nat × Obj)), ST true NoF w W (hp w) d6 ∧ E 0 = (.string G) ∧ E 3 = (.int .i64 j) ∧ E 4 = (.int .u8 ((y.toNat : Int))) ∧ E 37 = (.bool a3) ∧ E 43 = (.bool Y) ∧ some Y = some g0) 3 ?_ (fun b3 => ?_)
                · rintro E W ⟨Y, d6, hST, f3, f4, f5, f6, f7, a9⟩
                  refine V (R_pickT (f6.trans (congrArg Value.bool a)) f7) ?_
                  replace a9 := Option.some.inj a9; subst a9
                  exact b2 _ _ ⟨Y, _, (hST.sel St), f3, f4, f5, rfl, c3⟩
                rcases bool_cases ((decide (((y.toNat : Int)) < 48))) with D | D
                · replace t := if_t D t
                  refine Vn rfl (congrArg Value.bool D) (Vn rfl (congrArg Value.bool D) (Vg rfl (congrArg Value.bool a) (R_pickT (congrArg Value.bool D) rfl) ?_))
                  replace t := Option.some.inj t; subst t
                  exact b3 _ _ ⟨true, _, (hST.sel St), b9, c0, a2, rfl, rfl, c4⟩
                replace t := if_f D t
                refine Vg rfl (congrArg Value.bool D) (R_move a2) (Vg rfl (congrArg Value.bool D) (R_int rfl rfl rfl) (Vg rfl (congrArg Value.bool a) (R_pickF (congrArg Value.bool D) rfl) ?_))
                replace t := Option.some.inj t; subst t
                exact b3 _ _ ⟨((decide (((y.toNat : Int)) > 57))), _, (hST.sel St), b9, c0, a2, rfl, rfl, c4⟩
              replace K := if_f a K
              refine Vn rfl (congrArg Value.bool a) (Vn rfl (congrArg Value.bool a) (Vn rfl (congrArg Value.bool a) (Vu rfl rfl (Vu rfl rfl (Vn rfl (congrArg Value.bool a) (V (R_pickF (congrArg Value.bool a) rfl) ?_))))))
              replace K := Option.some.inj K; subst K
              exact b2 _ _ ⟨false, _, (hST.sel St), b9, c0, a2, rfl, c3⟩
            rcases bool_cases ((decide (((y.toNat : Int)) < 97))) with z | z
            · replace u := if_t z u
              refine Vn rfl (congrArg Value.bool z) (Vn rfl (congrArg Value.bool z) (V (R_pickT (congrArg Value.bool z) rfl) ?_))
              replace u := Option.some.inj u; subst u
              exact b4 _ _ ⟨true, _, (hST.sel St), a5, a6, rfl, rfl, c5⟩
            replace u := if_f z u
            refine Vg rfl (congrArg Value.bool z) (R_move rfl) (Vg rfl (congrArg Value.bool z) (R_int rfl rfl rfl) (V (R_pickF (congrArg Value.bool z) rfl) ?_))
            replace u := Option.some.inj u; subst u
            exact b4 _ _ ⟨((decide (((y.toNat : Int)) > 122))), _, (hST.sel St), a5, a6, rfl, rfl, c5⟩
          replace c := if_f a7 c
          refine CW_exit (sq_e (sq_e (bq_e (sq_n (CW_seq (CW_region (V (R_assign rfl) (LW_nil (sq_n (CW_ret ?_))))))))))
          replace c := Option.some.inj c; subst c
          exact retQ_1 (v := (.bool true)) rfl rfl ⟨rfl, hST.ex⟩
      rcases bool_cases a4 with H | H
      · replace f := if_t H f
        refine Vn rfl (congrArg Value.bool H) (Vn rfl (congrArg Value.bool H) (Vn rfl (congrArg Value.bool H) (V (R_pickT (congrArg Value.bool H) rfl) ?_)))
        replace f := Option.some.inj f; subst f
        exact b5 _ _ ⟨true, _, (hST.sel St), d7, rfl, c6⟩
      replace f := if_f H f
      refine Vg rfl (congrArg Value.bool H) (R_move d7) ?_
      obtain ⟨a1, d0, f⟩ := bind_some f
      refine Vg rfl (congrArg Value.bool H) (R_indexStr (i := 0) Tryz.underlying9 rfl rfl (idxS_nonneg d0) (idxS_get d0)) (Vg rfl (congrArg Value.bool H) (R_int rfl rfl rfl) (V (R_pickF (congrArg Value.bool H) rfl) ?_))
      replace f := Option.some.inj f; subst f
      exact b5 _ _ ⟨((decide (((a1.toNat : Int)) > 122))), _, (hST.sel St), d7, rfl, c6⟩
    rcases bool_cases x2 with N | N
    · replace g := if_t N g
      refine Vn rfl (congrArg Value.bool N) (Vn rfl (congrArg Value.bool N) (Vn rfl (congrArg Value.bool N) (V (R_pickT (congrArg Value.bool N) rfl) ?_)))
      replace g := Option.some.inj g; subst g
      exact b6 _ _ ⟨true, _, (hST.sel St), e5, rfl, c7⟩
    replace g := if_f N g
    refine Vg rfl (congrArg Value.bool N) (R_move e5) ?_
    obtain ⟨b8, d1, g⟩ := bind_some g
    refine Vg rfl (congrArg Value.bool N) (R_indexStr (i := 0) Tryz.underlying9 rfl rfl (idxS_nonneg d1) (idxS_get d1)) (Vg rfl (congrArg Value.bool N) (R_int rfl rfl rfl) (V (R_pickF (congrArg Value.bool N) rfl) ?_))
    replace g := Option.some.inj g; subst g
    exact b6 _ _ ⟨((decide (((b8.toNat : Int)) < 97))), _, (hST.sel St), e5, rfl, c7⟩
  rcases bool_cases ((beqS G zS)) with M | M
  · replace x := if_t M x
    refine Vn rfl (congrArg Value.bool M) (Vn rfl (congrArg Value.bool M) (Vn rfl (congrArg Value.bool M) (V (R_pickT (congrArg Value.bool M) rfl) ?_)))
    replace x := Option.some.inj x; subst x
    exact b7 _ _ ⟨true, _, (hST.sel St), rfl, rfl, c8⟩
  replace x := if_f M x
  refine Vg rfl (congrArg Value.bool M) (R_move rfl) (Vg rfl (congrArg Value.bool M) (R_lenStr Tryz.underlying9 rfl) (Vg rfl (congrArg Value.bool M) (R_int rfl rfl rfl) (V (R_pickF (congrArg Value.bool M) rfl) ?_)))
  replace x := Option.some.inj x; subst x
  exact b7 _ _ ⟨((decide (((G.size : Int)) > 16))), _, (hST.sel St), rfl, rfl, c8⟩
theorem w_ref06_New (x : Value) (z : List Key) (r : Int) (w : World) (K : Sl relKey 2 (hp w) x z) (hm : m_ref06_New z = some r) :
    Gives true Tryz.prog 55 [x] w (.int .i64 r) := by
  have hST := ST.start (dd := true) w
  unfold m_ref06_New at hm
  refine calls_of_CW (n := 43) Tryz.func55 rfl rfl (Nat.le_of_ble_eq_true rfl) (CW_seq (CW_region (V (R_assign rfl) (LW_nil (sq_n (CW_seq (CW_seq (CW_region (V (R_move rfl) (V (R_len Tryz.underlying49 rfl K) (V (R_move rfl) (LW_nil (sq_n (CW_range (fun i E W => ∃  (a1 : List (Nat × Obj)), (E 9 = .int .i64 (i : Nat) ∧ E 8 = .int .i64 (z.length : Nat)) ∧ ST true NoF w W (hp w) a1 ∧ E 0 = x ∧ E 7 = x ∧ m_ref06_New_L1 z (z.drop i) i = some r) z.length K.len ⟨_, ⟨rfl, rfl⟩, (hST.sel St), rfl, rfl, hm⟩ (by decide) (by decide) (by decide) (fun _ _ _ h => by obtain ⟨_, eIN, _⟩ := h; exact eIN) ?_ ?_))))))))))))))
  · rintro k E W b8 ⟨a1, ⟨eI, eN⟩, hST, a3, I, a⟩
    obtain ⟨g, b2, c7, c6, c8⟩ := drop_cons b8
    rw [c7] at a
    rw [m_ref06_New_L1] at a
    refine CW_block (CW_seq (CW_region (V (R_move eI) (VQ (R_indexD (i := (k : Int)) (x0 := g) relKey.out Tryz.underlying49 Tryz.sizeOf196 I eI K (Int.natCast_nonneg _) c6) (fun f4 ⟨_, ⟨f7, rfl, T⟩, c2⟩ => V (R_load rfl (load_atA hST.has c2 Tryz.isAgg196 Tryz.sizeOf196)) (VE (E_alloc hST Tryz.zeroValue196 (fun e8 G hST => V (R_assign rfl) ?_))))))))
    obtain ⟨D, H, rfl⟩ := T.form
    refine VO (F_store (.agg #[(.string g.Who), (.slice D g.Key.length H)]) (#[(.string g.Who), (.slice D g.Key.length H)]) hST rfl rfl Tryz.sizeOf196 (by simp [Value.cells, Value.oneCell']) (Nat.le_of_ble_eq_true rfl) rfl (fun e9 hST => LW_nil (sq_n (CW_seq (CW_seq (CW_region (V (R_field fa196_0 rfl) (V (R_load rfl (load_box1 hST.has Mh rfl Tryz.isAgg9)) ?_))))))))
    obtain ⟨e4, c4, a⟩ := bind_some a
    refine VE (E_gives (args := [(.string g.Who)]) hST rfl Tryz.call158 (by exact args1 rfl) ((w_ref03_Right g.Who _ _  c4)) (fun f0 hST => V (R_not rfl) (LW_nil (sq_n (CW_if (b := (!e4)) rfl (fun M => ?_) (fun M => ?_))))))
    · replace a := if_t M a
      refine CW_seq (CW_region (V (R_assign rfl) (LW_nil (sq_n ?_))))
      replace hST := hST.sel (Db St)
      refine CW_ret (sq_r (bq_r (sq_r (bq_r (sq_r ?_)))))
      replace a := Option.some.inj a; subst a
      exact retQ_1 (v := (.int .i64 30)) rfl rfl ⟨rfl, hST.ex⟩
    replace a := if_f M a
    refine CW_skip (sq_n (CW_seq (CW_seq (CW_region (V (R_field fa196_1 rfl) (V (R_load rfl (load_box1 hST.has Mh rfl Tryz.isAgg54)) (V (R_len Tryz.underlying54 rfl T) (V (R_int rfl rfl rfl) (V (R_move rfl) ?_)))))))))
    obtain ⟨f6, u, b1⟩ := bind_some a
    refine LW_join (J := fun E W => ∃ (Y : Bool) (b4 : List (Nat × Obj)), ST true NoF w W (hp w) ((G, Obj.cells (#[(.string g.Who), (.slice D g.Key.length H)] : Array Value) 196 (0, 0)) :: b4) ∧ E 0 = x ∧ E 3 = (.int .i64 ((k : Int))) ∧ E 4 = (.pointer (some ⟨G, 0, none⟩)) ∧ E 7 = x ∧ E 8 = (.int .i64 ((z.length : Int))) ∧ E 9 = (.int .i64 ((k : Int))) ∧ E 27 = (.bool Y) ∧ (if Y then some 21 else (((chk (decide (0 ≤ ((k : Int))) && decide (((k : Int)) ≤ (z.length : Int))))).bind fun _ => ((m_ref06_New_L2 g ((z.take (Int.toNat ((k : Int))))) : Option ((Int ⊕ Unit))).bind fun s => match s with | .inl e3 => some e3 | .inr _ => (m_ref06_New_L1 z b2 (k + 1))))) = some r) 5 ?_ (fun Z => ?_)
    · rintro E W ⟨Y, b4, hST, b7, d2, d3, d4, d5, d6, d7, t⟩
      refine LW_nil (sq_n (CW_if (b := Y) d7 (fun N => ?_) (fun N => ?_)))
      · replace t := if_t N t
        refine CW_seq (CW_region (V (R_assign rfl) (LW_nil (sq_n ?_))))
        replace hST := hST.sel (Db St)
        refine CW_ret (sq_r (bq_r (sq_r (bq_r (sq_r ?_)))))
        replace t := Option.some.inj t; subst t
        exact retQ_1 (v := (.int .i64 21)) rfl rfl ⟨rfl, hST.ex⟩
      replace t := if_f N t
      refine CW_skip (sq_n (CW_seq (CW_region (V (R_move b7) (V (R_move d2) ?_)))))
      obtain ⟨_, b0, t⟩ := bind_some t
      refine VQ (R_sliceSl0 (j := (k : Int)) Tryz.underlying49 Tryz.sizeOf196 rfl rfl K (chk_1 b0) (chk_2 b0)) (fun e6 U => V (R_len Tryz.underlying49 rfl U.1) (V (R_move rfl) (LW_nil (sq_n (CW_tail ?_)))))
      obtain ⟨e5, c1, y⟩ := bind_some t
      refine CW_cut (fun E W => ∃  (b5 : List (Nat × Obj)), ST true NoF w W (hp w) b5 ∧ E 0 = x ∧ E 7 = x ∧ E 8 = (.int .i64 ((z.length : Int))) ∧ E 9 = (.int .i64 ((k : Int))) ∧ (m_ref06_New_L1 z b2 (k + 1)) = some r) ?_ ?_
      · refine CW_range (fun i E W => ∃  (a2 : List (Nat × Obj)), (E 32 = .int .i64 (i : Nat) ∧ E 31 = .int .i64 (((z.take (Int.toNat ((k : Int))))).length : Nat)) ∧ ST true NoF w W (hp w) ((G, Obj.cells (#[(.string g.Who), (.slice D g.Key.length H)] : Array Value) 196 (0, 0)) :: a2) ∧ E 0 = x ∧ E 4 = (.pointer (some ⟨G, 0, none⟩)) ∧ E 7 = x ∧ E 8 = (.int .i64 ((z.length : Int))) ∧ E 9 = (.int .i64 ((k : Int))) ∧ E 30 = e6 ∧ m_ref06_New_L2 g (((z.take (Int.toNat ((k : Int))))).drop i) = some e5) ((z.take (Int.toNat ((k : Int))))).length U.1.len ⟨_, ⟨rfl, rfl⟩, (hST.sel St), b7, d3, d4, d5, d6, rfl, c1⟩ (by decide) (by decide) (by decide) (fun _ _ _ h => by obtain ⟨_, eIN, _⟩ := h; exact eIN) ?_ ?_
        · rintro e2 E W b9 ⟨a2, ⟨eI, eN⟩, hST, a4, a5, a6, a7, a8, a9, c⟩
          obtain ⟨B, e7, d0, c9, d1⟩ := drop_cons b9
          rw [d0] at c
          rw [m_ref06_New_L2] at c
          refine CW_block (CW_seq (CW_region (VQ (R_indexD (i := (e2 : Int)) (x0 := B) relKey.out Tryz.underlying49 Tryz.sizeOf196 a9 eI U.1 (Int.natCast_nonneg _) c9) (fun f5 ⟨_, ⟨f8, rfl, c5⟩, c3⟩ => V (R_load rfl (load_atA hST.has c3 Tryz.isAgg196 Tryz.sizeOf196)) (VE (E_alloc hST Tryz.zeroValue196 (fun f1 f3 hST => ?_)))))))
          obtain ⟨b3, b6, rfl⟩ := c5.form
          refine VO (F_store (.agg #[(.string B.Who), (.slice b3 B.Key.length b6)]) (#[(.string B.Who), (.slice b3 B.Key.length b6)]) hST rfl rfl Tryz.sizeOf196 (by simp [Value.cells, Value.oneCell']) (Nat.le_of_ble_eq_true rfl) rfl (fun f2 hST => LW_nil (sq_n (CW_seq (CW_region (V (R_field fa196_0 rfl) (V (R_load rfl (load_box1 hST.has Mh rfl Tryz.isAgg9)) (V (R_field fa196_0 a5) (V (R_load rfl (load_box1 hST.has (Mt Mh) rfl Tryz.isAgg9)) (V (R_str rfl rfl rfl) (LW_nil (sq_n ?_))))))))))))
          replace hST := hST.sel (Db St)
          refine CW_if (b := (beqS B.Who g.Who)) rfl (fun Q => ?_) (fun Q => ?_)
          · replace c := if_t Q c
            refine CW_seq (CW_region (V (R_assign rfl) (LW_nil (sq_n ?_))))
            replace hST := hST.sel (Db St)
            refine CW_ret (bq_r (sq_r (bq_r (sq_r (bq_r (sq_r (bq_r (sq_r ?_))))))))
            replace c := Option.some.inj c; subst c
            replace y : some 41 = some r := y
            replace y := Option.some.inj y; subst y
            exact retQ_1 (v := (.int .i64 41)) rfl rfl ⟨rfl, hST.ex⟩
          replace c := if_f Q c
          exact CW_skip (bq_n (sq_n ⟨eI, _, ⟨rfl, eN⟩, (hST.sel St), a4, a5, a6, a7, a8, a9, (by rw [d1]; exact c)⟩))
        rintro E W ⟨a2, ⟨eI, eN⟩, hST, a4, a5, a6, a7, a8, a9, c⟩
        rw [List.drop_length] at c
        rw [m_ref06_New_L2] at c
        refine sq_n ?_
        replace c := Option.some.inj c; subst c
        exact ⟨_, (hST.sel (Db St)), a4, a6, a7, a8, y⟩
      rintro E W ⟨b5, hST, d8, d9, e0, e1, c0⟩
      exact bq_n (sq_n ⟨e1, _, ⟨rfl, e0⟩, (hST.sel St), d8, d9, (by rw [c8]; exact c0)⟩)
    rcases bool_cases ((decide (((g.Key.length : Int)) < 1))) with f | f
    · replace u := if_t f u
      refine Vn rfl (congrArg Value.bool f) (Vn rfl (congrArg Value.bool f) (Vn rfl (congrArg Value.bool f) (Vn rfl (congrArg Value.bool f) (V (R_pickT (congrArg Value.bool f) rfl) ?_))))
      replace u := Option.some.inj u; subst u
      exact Z _ _ ⟨true, _, (hST.sel St), a3, rfl, rfl, I, eN, eI, rfl, b1⟩
    replace u := if_f f u
    refine Vg rfl (congrArg Value.bool f) (R_field fa196_1 rfl) (Vg rfl (congrArg Value.bool f) (R_load rfl (load_box1 hST.has Mh rfl Tryz.isAgg54)) (Vg rfl (congrArg Value.bool f) (R_len Tryz.underlying54 rfl T) (Vg rfl (congrArg Value.bool f) (R_int rfl rfl rfl) (V (R_pickF (congrArg Value.bool f) rfl) ?_))))
    replace u := Option.some.inj u; subst u
    exact Z _ _ ⟨((decide (((g.Key.length : Int)) > 32))), _, (hST.sel St), a3, rfl, rfl, I, eN, eI, rfl, b1⟩
  rintro E W ⟨a1, ⟨eI, eN⟩, hST, a3, I, a⟩
  rw [List.drop_length] at a
  rw [m_ref06_New_L1] at a
  refine sq_n (CW_seq (CW_region (V (R_assign rfl) (LW_nil (sq_n (CW_ret ?_))))))
  replace a := Option.some.inj a; subst a
  exact retQ_1 (v := (.int .i64 0)) rfl rfl ⟨rfl, hST.ex⟩
theorem w_ref04_Right (f : Role) (r : Bool) (w : World)  (hm : m_ref04_Right f = some r) :
    Gives true Tryz.prog 241 [(.agg (encRole f).toArray)] w (.bool r) := by
  have hST := ST.start (dd := true) w
  unfold m_ref04_Right at hm
  refine calls_of_CW (n := 11) Tryz.func241 rfl rfl (Nat.le_of_ble_eq_true rfl) (CW_seq (CW_region (VE (E_box (v := (.agg (encRole f).toArray)) hST rfl (fun I M hST => V (R_assign rfl) (LW_nil (sq_n (CW_seq (CW_region (V (R_field fa28_0 rfl) (V (R_load rfl (load_box1 hST.has Mh rfl Tryz.isAgg9)) ?_)))))))))))
  obtain ⟨B, y, hm⟩ := bind_some hm
  refine VE (E_gives (args := [(.string f.Owner)]) hST rfl Tryz.call158 (by exact args1 rfl) ((w_ref03_Right f.Owner _ _  y)) (fun K hST => V (R_move rfl) ?_))
  obtain ⟨H, a, k⟩ := bind_some hm
  refine LW_join (J := fun E W => ∃ (j : Bool) (t : List (Nat × Obj)), ST true NoF w W (hp w) t ∧ E 2 = (.bool false) ∧ E 10 = (.bool j) ∧ some j = some r) 4 ?_ (fun i => ?_)
  · rintro E W ⟨j, t, hST, G, x, g⟩
    refine V (R_assign x) (LW_nil (sq_n (CW_ret ?_)))
    replace g := Option.some.inj g; subst g
    exact retQ_1 (v := (.bool j)) rfl rfl ⟨rfl, hST.ex⟩
  rcases bool_cases B with c | c
  · replace a := if_t c a
    refine Vg rfl (congrArg Value.bool c) (R_field fa28_1 rfl) (Vg rfl (congrArg Value.bool c) (R_load rfl (load_box1 hST.has Mh rfl Tryz.isAgg9)) ?_)
    obtain ⟨z, u, a⟩ := bind_some a
    refine VgE rfl (congrArg Value.bool c) (E_gives (args := [(.string f.Word)]) hST rfl Tryz.call158 (by exact args1 rfl) ((w_ref03_Right f.Word _ _  u)) (fun D hST => V (R_pickT (congrArg Value.bool c) rfl) ?_))
    replace a := Option.some.inj a; subst a
    exact i _ _ ⟨z, _, (hST.sel (Db St)), rfl, rfl, k⟩
  replace a := if_f c a
  refine Vn rfl (congrArg Value.bool c) (Vn rfl (congrArg Value.bool c) (Vn rfl (congrArg Value.bool c) (V (R_pickF (congrArg Value.bool c) rfl) ?_)))
  replace a := Option.some.inj a; subst a
  exact i _ _ ⟨false, _, (hST.sel (Db St)), rfl, rfl, k⟩
theorem w_ref04_Less (i : Role) (j : Role) (r : Bool) (w : World)  (hm : m_ref04_Less i j = some r) :
    Gives true Tryz.prog 242 [(.agg (encRole i).toArray), (.agg (encRole j).toArray)] w (.bool r) := by
  have hST := ST.start (dd := true) w
  unfold m_ref04_Less at hm
  refine calls_of_CW (n := 24) Tryz.func242 rfl rfl (Nat.le_of_ble_eq_true rfl) (CW_seq (CW_region (VE (E_box (v := (.agg (encRole i).toArray)) hST rfl (fun Y b1 hST => VE (E_box (v := (.agg (encRole j).toArray)) hST rfl (fun Z b3 hST => V (R_assign rfl) (LW_nil (sq_n (CW_seq (CW_region (V (R_field fa28_0 rfl) (V (R_load rfl (load_box1 hST.has (Mt Mh) rfl Tryz.isAgg9)) (V (R_field fa28_0 rfl) (V (R_load rfl (load_box1 hST.has Mh rfl Tryz.isAgg9)) (V (R_str rfl rfl rfl) ?_))))))))))))))))
  refine V (R_move rfl) ?_
  obtain ⟨Q, g, B⟩ := bind_some hm
  refine LW_join (J := fun E W => ∃ (y : Bool) (G : List (Nat × Obj)), ST true NoF w W (hp w) G ∧ E 4 = (.bool false) ∧ E 23 = (.bool y) ∧ some y = some r) 13 ?_ (fun u => ?_)
  · rintro E W ⟨y, G, hST, T, I, k⟩
    refine V (R_assign I) (LW_nil (sq_n (CW_ret ?_)))
    replace k := Option.some.inj k; subst k
    exact retQ_1 (v := (.bool y)) rfl rfl ⟨rfl, hST.ex⟩
  rcases bool_cases ((ltS i.Owner j.Owner)) with c | c
  · replace g := if_t c g
    refine Vn rfl (congrArg Value.bool c) (Vn rfl (congrArg Value.bool c) (Vn rfl (congrArg Value.bool c) (Vn rfl (congrArg Value.bool c) (Vn rfl (congrArg Value.bool c) (Vn rfl (congrArg Value.bool c) (Vu rfl rfl (Vu rfl rfl (Vu rfl rfl (Vu rfl rfl (Vu rfl rfl (Vn rfl (congrArg Value.bool c) (V (R_pickT (congrArg Value.bool c) rfl) ?_))))))))))))
    replace g := Option.some.inj g; subst g
    exact u _ _ ⟨true, _, (hST.sel (Db (Db St))), rfl, rfl, B⟩
  replace g := if_f c g
  refine Vg rfl (congrArg Value.bool c) (R_field fa28_0 rfl) (Vg rfl (congrArg Value.bool c) (R_load rfl (load_box1 hST.has (Mt Mh) rfl Tryz.isAgg9)) (Vg rfl (congrArg Value.bool c) (R_field fa28_0 rfl) (Vg rfl (congrArg Value.bool c) (R_load rfl (load_box1 hST.has Mh rfl Tryz.isAgg9)) (Vg rfl (congrArg Value.bool c) (R_str rfl rfl rfl) (Vg rfl (congrArg Value.bool c) (R_move rfl) ?_)))))
  obtain ⟨U, f, D⟩ := bind_some g
  refine LW_join (J := fun E W => ∃ (z : Bool) (H : List (Nat × Obj)), ST true NoF w W (hp w) H ∧ E 4 = (.bool false) ∧ E 10 = (.bool ((ltS i.Owner j.Owner))) ∧ E 22 = (.bool z) ∧ some z = some Q) 6 ?_ (fun x => ?_)
  · rintro E W ⟨z, H, hST, K, M, N, t⟩
    refine V (R_pickF (M.trans (congrArg Value.bool c)) N) ?_
    replace t := Option.some.inj t; subst t
    exact u _ _ ⟨z, _, (hST.sel St), K, rfl, B⟩
  rcases bool_cases ((beqS i.Owner j.Owner)) with a | a
  · replace f := if_t a f
    refine Vg rfl (congrArg Value.bool a) (R_field fa28_1 rfl) (Vg rfl (congrArg Value.bool a) (R_load rfl (load_box1 hST.has (Mt Mh) rfl Tryz.isAgg9)) (Vg rfl (congrArg Value.bool a) (R_field fa28_1 rfl) (Vg rfl (congrArg Value.bool a) (R_load rfl (load_box1 hST.has Mh rfl Tryz.isAgg9)) (Vg rfl (congrArg Value.bool a) (R_str rfl rfl rfl) (Vg rfl (congrArg Value.bool c) (R_pickT (congrArg Value.bool a) rfl) ?_)))))
    replace f := Option.some.inj f; subst f
    exact x _ _ ⟨((ltS i.Word j.Word)), _, (hST.sel (Db (Db St))), rfl, rfl, rfl, D⟩
  replace f := if_f a f
  refine Vn rfl (congrArg Value.bool a) (Vn rfl (congrArg Value.bool a) (Vn rfl (congrArg Value.bool a) (Vn rfl (congrArg Value.bool a) (Vn rfl (congrArg Value.bool a) (Vg rfl (congrArg Value.bool c) (R_pickF (congrArg Value.bool a) rfl) ?_)))))
  replace f := Option.some.inj f; subst f
  exact x _ _ ⟨false, _, (hST.sel (Db (Db St))), rfl, rfl, rfl, D⟩
theorem w_ref05_Right (a : Cred) (r : Bool) (w : World)  (hm : m_ref05_Right a = some r) :
    Gives true Tryz.prog 134 [(.agg (encCred a).toArray)] w (.bool r) := by
  have hST := ST.start (dd := true) w
  unfold m_ref05_Right at hm
  refine calls_of_CW (n := 93) Tryz.func134 rfl rfl (Nat.le_of_ble_eq_true rfl) (CW_seq (CW_region (VE (E_box (v := (.agg (encCred a).toArray)) hST rfl (fun W2 b1 hST => V (R_assign rfl) (LW_nil (sq_n (CW_seq (CW_region (VE (E_alloc hST Tryz.zeroValue28 (fun W4 b3 hST => LW_nil (sq_n (CW_seq (CW_seq (CW_region ?_))))))))))))))))
  refine V (R_field fa53_1 rfl) (V (R_load rfl (load_boxA hST.has (Mt Mh) (encRole a.Head) rfl Tryz.isAgg28 Tryz.sizeOf28)) ?_)
  obtain ⟨r5, i5, hm⟩ := bind_some hm
  refine VE (E_gives (args := [(.agg (encRole a.Head).toArray)]) hST rfl Tryz.call241 (by exact args1 rfl) ((w_ref04_Right a.Head _ _  i5)) (fun W7 hST => V (R_not rfl) (LW_nil (sq_n (CW_if (b := (!r5)) rfl (fun e1 => ?_) (fun e1 => ?_))))))
  · replace hm := if_t e1 hm
    refine CW_seq (CW_region (V (R_assign rfl) (LW_nil (sq_n ?_))))
    replace hST := hST.sel (Db (Db St))
    refine CW_ret (sq_r ?_)
    replace hm := Option.some.inj hm; subst hm
    exact retQ_1 (v := (.bool false)) rfl rfl ⟨rfl, hST.ex⟩
  replace hm := if_f e1 hm
  refine CW_skip (sq_n (CW_seq (CW_seq (CW_region (V (R_field fa53_0 rfl) (V (R_load rfl (load_box1 hST.has (Mt Mh) rfl Tryz.isAgg3)) (V (R_int rfl rfl rfl) (LW_nil (sq_n (CW_if (b := (a.Kind == 1)) rfl (fun e2 => ?_) (fun e2 => ?_)))))))))))
  · replace hm := if_t e2 hm
    refine CW_seq (CW_region (V (R_field fa53_2 rfl) (V (R_load rfl (load_box1 hST.has (Mt Mh) rfl Tryz.isAgg9)) ?_)))
    obtain ⟨i6, h1, hm⟩ := bind_some hm
    refine VE (E_gives (args := [(.string a.Who)]) hST rfl Tryz.call158 (by exact args1 rfl) ((w_ref03_Right a.Who _ _  h1)) (fun j5 hST => V (R_move rfl) ?_))
    obtain ⟨k0, N, e5⟩ := bind_some hm
    refine LW_join (J := fun E W => ∃ (d4 : Bool) (f4 : List (Nat × Obj)), ST true NoF w W (hp w) ((b3, Obj.cells ((encRole ((⟨zS, zS⟩ : Role))).toArray : Array Value) 28 (0, 0)) :: ((b1, Obj.cells ((encCred a).toArray : Array Value) 53 (0, 0)) :: f4)) ∧ E 1 = (.pointer (some ⟨b1, 0, none⟩)) ∧ E 2 = (.bool false) ∧ E 3 = (.pointer (some ⟨b3, 0, none⟩)) ∧ E 19 = (.bool d4) ∧ (((if d4 then some ((beqRole a.C ((⟨zS, zS⟩ : Role)))) else some false) : Option Bool).bind fun a6 => (((if a6 then some ((beqS a.Word2 zS)) else some false) : Option Bool).bind fun a2 => some a2)) = some r) 5 ?_ (fun d0 => ?_)
    · rintro E W ⟨d4, f4, hST, d9, g2, h4, h5, g7⟩
      refine V (R_move h5) ?_
      obtain ⟨j9, M, e4⟩ := bind_some g7
      refine LW_join (J := fun E W => ∃ (a6 : Bool) (f5 : List (Nat × Obj)), ST true NoF w W (hp w) ((b1, Obj.cells ((encCred a).toArray : Array Value) 53 (0, 0)) :: f5) ∧ E 1 = (.pointer (some ⟨b1, 0, none⟩)) ∧ E 2 = (.bool false) ∧ E 25 = (.bool a6) ∧ (((if a6 then some ((beqS a.Word2 zS)) else some false) : Option Bool).bind fun a2 => some a2) = some r) 5 ?_ (fun c9 => ?_)
      · rintro E W ⟨a6, f5, hST, h6, g3, h7, g8⟩
        refine V (R_move h7) ?_
        obtain ⟨j8, K, e3⟩ := bind_some g8
        refine LW_join (J := fun E W => ∃ (a2 : Bool) (f6 : List (Nat × Obj)), ST true NoF w W (hp w) f6 ∧ E 2 = (.bool false) ∧ E 30 = (.bool a2) ∧ some a2 = some r) 4 ?_ (fun c8 => ?_)
        · rintro E W ⟨a2, f6, hST, j7, h8, c1⟩
          refine V (R_assign h8) (LW_nil (sq_n (CW_ret (sq_r ?_))))
          replace c1 := Option.some.inj c1; subst c1
          exact retQ_1 (v := (.bool a2)) rfl rfl ⟨rfl, hST.ex⟩
        rcases bool_cases a6 with B | B
        · replace K := if_t B K
          refine Vg rfl (congrArg Value.bool B) (R_field fa53_5 h6) (Vg rfl (congrArg Value.bool B) (R_load rfl (load_box1 hST.has Mh rfl Tryz.isAgg9)) (Vg rfl (congrArg Value.bool B) (R_str rfl rfl rfl) (V (R_pickT (congrArg Value.bool B) rfl) ?_)))
          replace K := Option.some.inj K; subst K
          exact c8 _ _ ⟨((beqS a.Word2 zS)), _, (hST.sel (Db St)), g3, rfl, e3⟩
        replace K := if_f B K
        refine Vn rfl (congrArg Value.bool B) (Vn rfl (congrArg Value.bool B) (Vn rfl (congrArg Value.bool B) (V (R_pickF (congrArg Value.bool B) rfl) ?_)))
        replace K := Option.some.inj K; subst K
        exact c8 _ _ ⟨false, _, (hST.sel (Db St)), g3, rfl, e3⟩
      rcases bool_cases d4 with u | u
      · replace M := if_t u M
        refine Vg rfl (congrArg Value.bool u) (R_field fa53_4 d9) (Vg rfl (congrArg Value.bool u) (R_load rfl (load_boxA hST.has (Mt Mh) (encRole a.C) rfl Tryz.isAgg28 Tryz.sizeOf28)) (Vg rfl (congrArg Value.bool u) (R_load h4 (load_boxA hST.has Mh (encRole ((⟨zS, zS⟩ : Role))) rfl Tryz.isAgg28 Tryz.sizeOf28)) (Vg rfl (congrArg Value.bool u) (R_eql rfl rfl (guard_agg Tryz.eqGuardType28) (bin_eql (eqInRole _ a.C ((⟨zS, zS⟩ : Role))))) (V (R_pickT (congrArg Value.bool u) rfl) ?_))))
        replace M := Option.some.inj M; subst M
        exact c9 _ _ ⟨((beqRole a.C ((⟨zS, zS⟩ : Role)))), _, (hST.sel (Db St)), d9, g2, rfl, e4⟩
      replace M := if_f u M
      refine Vn rfl (congrArg Value.bool u) (Vn rfl (congrArg Value.bool u) (Vn rfl (congrArg Value.bool u) (Vn rfl (congrArg Value.bool u) (V (R_pickF (congrArg Value.bool u) rfl) ?_))))
      replace M := Option.some.inj M; subst M
      exact c9 _ _ ⟨false, _, (hST.sel (Db St)), d9, g2, rfl, e4⟩
    rcases bool_cases i6 with t | t
    · replace N := if_t t N
      refine Vg rfl (congrArg Value.bool t) (R_field fa53_3 rfl) (Vg rfl (congrArg Value.bool t) (R_load rfl (load_boxA hST.has (Mt Mh) (encRole a.B) rfl Tryz.isAgg28 Tryz.sizeOf28)) (Vg rfl (congrArg Value.bool t) (R_load rfl (load_boxA hST.has Mh (encRole ((⟨zS, zS⟩ : Role))) rfl Tryz.isAgg28 Tryz.sizeOf28)) (Vg rfl (congrArg Value.bool t) (R_eql rfl rfl (guard_agg Tryz.eqGuardType28) (bin_eql (eqInRole _ a.B ((⟨zS, zS⟩ : Role))))) (V (R_pickT (congrArg Value.bool t) rfl) ?_))))
      replace N := Option.some.inj N; subst N
      exact d0 _ _ ⟨((beqRole a.B ((⟨zS, zS⟩ : Role)))), _, (hST.sel St), rfl, rfl, rfl, rfl, e5⟩
    replace N := if_f t N
    refine Vn rfl (congrArg Value.bool t) (Vn rfl (congrArg Value.bool t) (Vn rfl (congrArg Value.bool t) (Vn rfl (congrArg Value.bool t) (V (R_pickF (congrArg Value.bool t) rfl) ?_))))
    replace N := Option.some.inj N; subst N
    exact d0 _ _ ⟨false, _, (hST.sel St), rfl, rfl, rfl, rfl, e5⟩
  replace hm := if_f e2 hm
  refine CW_skip (sq_n (CW_seq (CW_seq (CW_region (V (R_field fa53_2 rfl) (V (R_load rfl (load_box1 hST.has (Mt Mh) rfl Tryz.isAgg9)) (V (R_str rfl rfl rfl) (V (R_move rfl) ?_))))))))
  obtain ⟨j4, k, c7⟩ := bind_some hm
  refine LW_join (J := fun E W => ∃ (d5 : Bool) (f7 : List (Nat × Obj)), ST true NoF w W (hp w) ((b3, Obj.cells ((encRole ((⟨zS, zS⟩ : Role))).toArray : Array Value) 28 (0, 0)) :: ((b1, Obj.cells ((encCred a).toArray : Array Value) 53 (0, 0)) :: f7)) ∧ E 1 = (.pointer (some ⟨b1, 0, none⟩)) ∧ E 3 = (.pointer (some ⟨b3, 0, none⟩)) ∧ E 39 = (.bool d5) ∧ (if d5 then some false else (if (a.Kind == 2) then (((if (beqRole a.C ((⟨zS, zS⟩ : Role))) then some ((beqS a.Word2 zS)) else some false) : Option Bool).bind fun a7 => some a7) else (if (a.Kind == 3) then (((if (beqRole a.C ((⟨zS, zS⟩ : Role))) then some ((beqS a.B.Owner a.Head.Owner)) else some false) : Option Bool).bind fun a8 => (((if a8 then (((m_ref03_Right a.Word2)).bind fun b7 => some b7) else some false) : Option Bool).bind fun a3 => some a3)) else (((if (a.Kind == 4) then some ((beqS a.Word2 zS)) else some false) : Option Bool).bind fun a9 => (((if a9 then (((m_ref04_Right a.C)).bind fun a5 => some a5) else some false) : Option Bool).bind fun Z => (((if Z then (((m_ref04_Less a.B a.C)).bind fun a1 => some a1) else some false) : Option Bool).bind fun U => some U)))))) = some r) 5 ?_ (fun b6 => ?_)
  · rintro E W ⟨d5, f7, hST, Y, g4, h9, g⟩
    refine LW_nil (sq_n (CW_if (b := d5) h9 (fun b8 => ?_) (fun b8 => ?_)))
    · replace g := if_t b8 g
      refine CW_seq (CW_region (V (R_assign rfl) (LW_nil (sq_n ?_))))
      replace hST := hST.sel (Db (Db St))
      refine CW_ret (sq_r ?_)
      replace g := Option.some.inj g; subst g
      exact retQ_1 (v := (.bool false)) rfl rfl ⟨rfl, hST.ex⟩
    replace g := if_f b8 g
    refine CW_skip (sq_n (CW_seq (CW_seq (CW_region (V (R_field fa53_0 Y) (V (R_load rfl (load_box1 hST.has (Mt Mh) rfl Tryz.isAgg3)) (V (R_int rfl rfl rfl) (LW_nil (sq_n (CW_if (b := (a.Kind == 2)) rfl (fun b9 => ?_) (fun b9 => ?_)))))))))))
    · replace g := if_t b9 g
      refine CW_seq (CW_region (V (R_field fa53_4 Y) (V (R_load rfl (load_boxA hST.has (Mt Mh) (encRole a.C) rfl Tryz.isAgg28 Tryz.sizeOf28)) (V (R_load g4 (load_boxA hST.has Mh (encRole ((⟨zS, zS⟩ : Role))) rfl Tryz.isAgg28 Tryz.sizeOf28)) (V (R_eql rfl rfl (guard_agg Tryz.eqGuardType28) (bin_eql (eqInRole _ a.C ((⟨zS, zS⟩ : Role))))) (V (R_move rfl) ?_))))))
      obtain ⟨k1, Q, e6⟩ := bind_some g
      refine LW_join (J := fun E W => ∃ (a7 : Bool) (f8 : List (Nat × Obj)), ST true NoF w W (hp w) f8 ∧ E 51 = (.bool a7) ∧ some a7 = some r) 4 ?_ (fun d1 => ?_)
      · rintro E W ⟨a7, f8, hST, i0, c2⟩
        refine V (R_assign i0) (LW_nil (sq_n (CW_ret (sq_r ?_))))
        replace c2 := Option.some.inj c2; subst c2
        exact retQ_1 (v := (.bool a7)) rfl rfl ⟨rfl, hST.ex⟩
      rcases bool_cases ((beqRole a.C ((⟨zS, zS⟩ : Role)))) with D | D
      · replace Q := if_t D Q
        refine Vg rfl (congrArg Value.bool D) (R_field fa53_5 Y) (Vg rfl (congrArg Value.bool D) (R_load rfl (load_box1 hST.has (Mt Mh) rfl Tryz.isAgg9)) (Vg rfl (congrArg Value.bool D) (R_str rfl rfl rfl) (V (R_pickT (congrArg Value.bool D) rfl) ?_)))
        replace Q := Option.some.inj Q; subst Q
        exact d1 _ _ ⟨((beqS a.Word2 zS)), _, (hST.sel (Db (Db St))), rfl, e6⟩
      replace Q := if_f D Q
      refine Vn rfl (congrArg Value.bool D) (Vn rfl (congrArg Value.bool D) (Vn rfl (congrArg Value.bool D) (V (R_pickF (congrArg Value.bool D) rfl) ?_)))
      replace Q := Option.some.inj Q; subst Q
      exact d1 _ _ ⟨false, _, (hST.sel (Db (Db St))), rfl, e6⟩
    replace g := if_f b9 g
    refine CW_skip (sq_n (CW_seq (CW_seq (CW_region (V (R_field fa53_0 Y) (V (R_load rfl (load_box1 hST.has (Mt Mh) rfl Tryz.isAgg3)) (V (R_int rfl rfl rfl) (LW_nil (sq_n (CW_if (b := (a.Kind == 3)) rfl (fun c0 => ?_) (fun c0 => ?_)))))))))))
    · replace g := if_t c0 g
      refine CW_seq (CW_region (V (R_field fa53_4 Y) (V (R_load rfl (load_boxA hST.has (Mt Mh) (encRole a.C) rfl Tryz.isAgg28 Tryz.sizeOf28)) (V (R_load g4 (load_boxA hST.has Mh (encRole ((⟨zS, zS⟩ : Role))) rfl Tryz.isAgg28 Tryz.sizeOf28)) (V (R_eql rfl rfl (guard_agg Tryz.eqGuardType28) (bin_eql (eqInRole _ a.C ((⟨zS, zS⟩ : Role))))) (V (R_move rfl) ?_))))))
      obtain ⟨k3, T, e8⟩ := bind_some g
      refine LW_join (J := fun E W => ∃ (a8 : Bool) (f9 : List (Nat × Obj)), ST true NoF w W (hp w) ((b1, Obj.cells ((encCred a).toArray : Array Value) 53 (0, 0)) :: f9) ∧ E 1 = (.pointer (some ⟨b1, 0, none⟩)) ∧ E 67 = (.bool a8) ∧ (((if a8 then (((m_ref03_Right a.Word2)).bind fun b7 => some b7) else some false) : Option Bool).bind fun a3 => some a3) = some r) 8 ?_ (fun d3 => ?_)
      · rintro E W ⟨a8, f9, hST, i1, i2, g9⟩
        refine V (R_move i2) ?_
        obtain ⟨k2, z, e7⟩ := bind_some g9
        refine LW_join (J := fun E W => ∃ (a3 : Bool) (g0 : List (Nat × Obj)), ST true NoF w W (hp w) g0 ∧ E 72 = (.bool a3) ∧ some a3 = some r) 4 ?_ (fun d2 => ?_)
        · rintro E W ⟨a3, g0, hST, i3, c3⟩
          refine V (R_assign i3) (LW_nil (sq_n (CW_ret (sq_r ?_))))
          replace c3 := Option.some.inj c3; subst c3
          exact retQ_1 (v := (.bool a3)) rfl rfl ⟨rfl, hST.ex⟩
        rcases bool_cases a8 with G | G
        · replace z := if_t G z
          refine Vg rfl (congrArg Value.bool G) (R_field fa53_5 i1) (Vg rfl (congrArg Value.bool G) (R_load rfl (load_box1 hST.has Mh rfl Tryz.isAgg9)) ?_)
          obtain ⟨b7, h2, z⟩ := bind_some z
          refine VgE rfl (congrArg Value.bool G) (E_gives (args := [(.string a.Word2)]) hST rfl Tryz.call158 (by exact args1 rfl) ((w_ref03_Right a.Word2 _ _  h2)) (fun j6 hST => V (R_pickT (congrArg Value.bool G) rfl) ?_))
          replace z := Option.some.inj z; subst z
          exact d2 _ _ ⟨b7, _, (hST.sel (Db St)), rfl, e7⟩
        replace z := if_f G z
        refine Vn rfl (congrArg Value.bool G) (Vn rfl (congrArg Value.bool G) (Vn rfl (congrArg Value.bool G) (V (R_pickF (congrArg Value.bool G) rfl) ?_)))
        replace z := Option.some.inj z; subst z
        exact d2 _ _ ⟨false, _, (hST.sel (Db St)), rfl, e7⟩
      rcases bool_cases ((beqRole a.C ((⟨zS, zS⟩ : Role)))) with f | f
      · replace T := if_t f T
        refine Vg rfl (congrArg Value.bool f) (R_field fa53_3 Y) (Vg rfl (congrArg Value.bool f) (R_field fa28_0 rfl) (Vg rfl (congrArg Value.bool f) (R_load rfl (load_box1 hST.has (Mt Mh) rfl Tryz.isAgg9)) (Vg rfl (congrArg Value.bool f) (R_field fa53_1 Y) (Vg rfl (congrArg Value.bool f) (R_field fa28_0 rfl) (Vg rfl (congrArg Value.bool f) (R_load rfl (load_box1 hST.has (Mt Mh) rfl Tryz.isAgg9)) (Vg rfl (congrArg Value.bool f) (R_str rfl rfl rfl) (V (R_pickT (congrArg Value.bool f) rfl) ?_)))))))
        replace T := Option.some.inj T; subst T
        exact d3 _ _ ⟨((beqS a.B.Owner a.Head.Owner)), _, (hST.sel (Db St)), Y, rfl, e8⟩
      replace T := if_f f T
      refine Vn rfl (congrArg Value.bool f) (Vn rfl (congrArg Value.bool f) (Vn rfl (congrArg Value.bool f) (Vn rfl (congrArg Value.bool f) (Vn rfl (congrArg Value.bool f) (Vn rfl (congrArg Value.bool f) (Vn rfl (congrArg Value.bool f) (V (R_pickF (congrArg Value.bool f) rfl) ?_)))))))
      replace T := Option.some.inj T; subst T
      exact d3 _ _ ⟨false, _, (hST.sel (Db St)), Y, rfl, e8⟩
    replace g := if_f c0 g
    refine CW_skip (sq_n ?_)
    replace hST := hST.sel (Db St)
    refine CW_seq (CW_region (V (R_field fa53_0 Y) (V (R_load rfl (load_box1 hST.has Mh rfl Tryz.isAgg3)) (V (R_int rfl rfl rfl) (V (R_move rfl) ?_)))))
    obtain ⟨j3, y, c6⟩ := bind_some g
    refine LW_join (J := fun E W => ∃ (a9 : Bool) (g1 : List (Nat × Obj)), ST true NoF w W (hp w) ((b1, Obj.cells ((encCred a).toArray : Array Value) 53 (0, 0)) :: g1) ∧ E 1 = (.pointer (some ⟨b1, 0, none⟩)) ∧ E 80 = (.bool a9) ∧ (((if a9 then (((m_ref04_Right a.C)).bind fun a5 => some a5) else some false) : Option Bool).bind fun Z => (((if Z then (((m_ref04_Less a.B a.C)).bind fun a1 => some a1) else some false) : Option Bool).bind fun U => some U)) = some r) 4 ?_ (fun b5 => ?_)
    · rintro E W ⟨a9, g1, hST, e0, i4, h0⟩
      refine V (R_move i4) ?_
      obtain ⟨j2, j, c5⟩ := bind_some h0
      refine LW_join (J := fun E W => ∃ (Z : Bool) (d6 : List (Nat × Obj)), ST true NoF w W (hp w) ((b1, Obj.cells ((encCred a).toArray : Array Value) 53 (0, 0)) :: d6) ∧ E 1 = (.pointer (some ⟨b1, 0, none⟩)) ∧ E 85 = (.bool Z) ∧ (((if Z then (((m_ref04_Less a.B a.C)).bind fun a1 => some a1) else some false) : Option Bool).bind fun U => some U) = some r) 4 ?_ (fun b4 => ?_)
      · rintro E W ⟨Z, d6, hST, d8, g5, f0⟩
        refine V (R_move g5) ?_
        obtain ⟨j1, i, c4⟩ := bind_some f0
        refine LW_join (J := fun E W => ∃ (U : Bool) (d7 : List (Nat × Obj)), ST true NoF w W (hp w) d7 ∧ E 92 = (.bool U) ∧ some U = some r) 6 ?_ (fun b2 => ?_)
        · rintro E W ⟨U, d7, hST, g6, b0⟩
          refine V (R_assign g6) (LW_nil (sq_n (CW_ret ?_)))
          replace b0 := Option.some.inj b0; subst b0
          exact retQ_1 (v := (.bool U)) rfl rfl ⟨rfl, hST.ex⟩
        rcases bool_cases Z with c | c
        · replace i := if_t c i
          refine Vg rfl (congrArg Value.bool c) (R_field fa53_3 d8) (Vg rfl (congrArg Value.bool c) (R_load rfl (load_boxA hST.has Mh (encRole a.B) rfl Tryz.isAgg28 Tryz.sizeOf28)) (Vg rfl (congrArg Value.bool c) (R_field fa53_4 d8) (Vg rfl (congrArg Value.bool c) (R_load rfl (load_boxA hST.has Mh (encRole a.C) rfl Tryz.isAgg28 Tryz.sizeOf28)) ?_)))
          obtain ⟨a1, f1, i⟩ := bind_some i
          refine VgE rfl (congrArg Value.bool c) (E_gives (args := [(.agg (encRole a.B).toArray), (.agg (encRole a.C).toArray)]) hST rfl Tryz.call242 (by exact args2 rfl rfl) ((w_ref04_Less a.B a.C _ _  f1)) (fun i7 hST => V (R_pickT (congrArg Value.bool c) rfl) ?_))
          replace i := Option.some.inj i; subst i
          exact b2 _ _ ⟨a1, _, (hST.sel (Db St)), rfl, c4⟩
        replace i := if_f c i
        refine Vn rfl (congrArg Value.bool c) (Vn rfl (congrArg Value.bool c) (Vn rfl (congrArg Value.bool c) (Vn rfl (congrArg Value.bool c) (Vn rfl (congrArg Value.bool c) (V (R_pickF (congrArg Value.bool c) rfl) ?_)))))
        replace i := Option.some.inj i; subst i
        exact b2 _ _ ⟨false, _, (hST.sel (Db St)), rfl, c4⟩
      rcases bool_cases a9 with I | I
      · replace j := if_t I j
        refine Vg rfl (congrArg Value.bool I) (R_field fa53_4 e0) (Vg rfl (congrArg Value.bool I) (R_load rfl (load_boxA hST.has Mh (encRole a.C) rfl Tryz.isAgg28 Tryz.sizeOf28)) ?_)
        obtain ⟨a5, f2, j⟩ := bind_some j
        refine VgE rfl (congrArg Value.bool I) (E_gives (args := [(.agg (encRole a.C).toArray)]) hST rfl Tryz.call241 (by exact args1 rfl) ((w_ref04_Right a.C _ _  f2)) (fun i8 hST => V (R_pickT (congrArg Value.bool I) rfl) ?_))
        replace j := Option.some.inj j; subst j
        exact b4 _ _ ⟨a5, _, (hST.sel St), e0, rfl, c5⟩
      replace j := if_f I j
      refine Vn rfl (congrArg Value.bool I) (Vn rfl (congrArg Value.bool I) (Vn rfl (congrArg Value.bool I) (V (R_pickF (congrArg Value.bool I) rfl) ?_)))
      replace j := Option.some.inj j; subst j
      exact b4 _ _ ⟨false, _, (hST.sel St), e0, rfl, c5⟩
    rcases bool_cases ((a.Kind == 4)) with H | H
    · replace y := if_t H y
      refine Vg rfl (congrArg Value.bool H) (R_field fa53_5 Y) (Vg rfl (congrArg Value.bool H) (R_load rfl (load_box1 hST.has Mh rfl Tryz.isAgg9)) (Vg rfl (congrArg Value.bool H) (R_str rfl rfl rfl) (V (R_pickT (congrArg Value.bool H) rfl) ?_)))
      replace y := Option.some.inj y; subst y
      exact b5 _ _ ⟨((beqS a.Word2 zS)), _, (hST.sel St), Y, rfl, c6⟩
    replace y := if_f H y
    refine Vn rfl (congrArg Value.bool H) (Vn rfl (congrArg Value.bool H) (Vn rfl (congrArg Value.bool H) (V (R_pickF (congrArg Value.bool H) rfl) ?_)))
    replace y := Option.some.inj y; subst y
    exact b5 _ _ ⟨false, _, (hST.sel St), Y, rfl, c6⟩
  rcases bool_cases ((!(beqS a.Who zS))) with x | x
  · replace k := if_t x k
    refine Vn rfl (congrArg Value.bool x) (Vn rfl (congrArg Value.bool x) (Vn rfl (congrArg Value.bool x) (Vn rfl (congrArg Value.bool x) (V (R_pickT (congrArg Value.bool x) rfl) ?_))))
    replace k := Option.some.inj k; subst k
    exact b6 _ _ ⟨true, _, (hST.sel St), rfl, rfl, rfl, c7⟩
  replace k := if_f x k
  refine Vg rfl (congrArg Value.bool x) (R_field fa53_3 rfl) (Vg rfl (congrArg Value.bool x) (R_load rfl (load_boxA hST.has (Mt Mh) (encRole a.B) rfl Tryz.isAgg28 Tryz.sizeOf28)) ?_)
  obtain ⟨h3, f3, k⟩ := bind_some k
  refine VgE rfl (congrArg Value.bool x) (E_gives (args := [(.agg (encRole a.B).toArray)]) hST rfl Tryz.call241 (by exact args1 rfl) ((w_ref04_Right a.B _ _  f3)) (fun i9 hST => Vg rfl (congrArg Value.bool x) (R_not rfl) (V (R_pickF (congrArg Value.bool x) rfl) ?_)))
  replace k := Option.some.inj k; subst k
  exact b6 _ _ ⟨((!h3)), _, (hST.sel St), rfl, rfl, rfl, c7⟩
theorem w_ref01_Number (x : Int) (r : ByteArray) (w : World)  (hm : m_ref01_Number x = some r) :
    Gives true Tryz.prog 258 [(.int .i64 x)] w (.string r) := by
  have hST := ST.start (dd := true) w
  unfold m_ref01_Number at hm
  refine calls_of_CW (n := 22) Tryz.func258 rfl rfl (Nat.le_of_ble_eq_true rfl) (CW_seq (CW_region (V (R_assign rfl) (LW_nil (sq_n (CW_seq (CW_region (V (R_assign rfl) (LW_nil (sq_n (CW_seq (CW_block (CW_loop (fun m E W => ∃ (f : Int) (j : ByteArray) (t : List (Nat × Obj)), ST true NoF w W (hp w) t ∧ E 0 = (.int .i64 f) ∧ E 3 = (.string j) ∧ m_ref01_Number_L1 m f j = some r) FUEL ⟨x, zS, _, (hST.sel St), rfl, rfl, hm⟩ ?_)))))))))))))
  rintro m E W ⟨f, j, t, hST, i, u, c⟩
  cases m with
  | zero => rw [m_ref01_Number_L1] at c; cases c
  | succ B =>
    rw [m_ref01_Number_L1] at c
    refine CW_seq (CW_seq (CW_region (V (R_move i) (V (R_int rfl rfl rfl) (LW_nil (sq_n (CW_if (b := (decide (f ≥ 128))) rfl (fun g => ?_) (fun g => ?_))))))))
    · replace c := if_t g c
      refine CW_skip (sq_n (CW_block (CW_seq (CW_region (V (R_move u) (V (R_move i) (V (R_div (k := .i64) (a := f) (b := 128) (v := (.int .i64 ((Int.tmod f 128)))) rfl rfl (by decide) rfl) (V (R_int rfl rfl rfl) (V (R_convInt (k' := .i64) (a := (IntKind.i64.wrap (128 + ((Int.tmod f 128))))) Tryz.underlying3 Tryz.underlying5 rfl) (VE (E_buildSlice (qs := #[(0, (.int .u8 ((IntKind.u8.wrap ((IntKind.i64.wrap (128 + ((Int.tmod f 128)))))))))]) (cs := [(.int .u8 ((IntKind.u8.wrap ((IntKind.i64.wrap (128 + ((Int.tmod f 128))))))))].toArray) hST (parts1 rfl) (run_lit [(.int .u8 ((IntKind.u8.wrap ((IntKind.i64.wrap (128 + ((Int.tmod f 128))))))))] Tryz.underlying54 Tryz.sizeOf5 Tryz.zeroValue5 (by decide) rfl (by intro v hv; simp only [List.mem_cons, List.not_mem_nil, or_false] at hv; rcases hv with rfl <;> rfl) rfl rfl) (fun H J hST => V (R_strOf Tryz.underlying54 Tryz.underlying5 Tryz.underlying9 rfl (Sl.lit (enc := (encIk .u8)) (l := [(IntKind.u8.wrap ((IntKind.i64.wrap (128 + ((Int.tmod f 128))))))]) (fun _ => rfl) rfl (Nat.le_of_ble_eq_true rfl) rfl (hST.at_ Mh))) ?_))))))))))))
      obtain ⟨D, y, c⟩ := bind_some c
      refine V (R_cat rfl rfl y) (V (R_assign rfl) (LW_nil (sq_n ?_)))
      replace hST := hST.sel (Db St)
      exact CW_region (V (R_move i) (V (R_div (k := .i64) (a := f) (b := 128) (v := (.int .i64 ((IntKind.i64.wrap (Int.tdiv f 128))))) rfl rfl (by decide) rfl) (V (R_assign rfl) (LW_nil (bq_n (sq_n ⟨B, Nat.lt_succ_self _, ((IntKind.i64.wrap (Int.tdiv f 128))), D, _, (hST.sel St), rfl, rfl, c⟩))))))
    replace c := if_f g c
    refine CW_exit (sq_e (sq_e (bq_e (sq_n (CW_seq (CW_region (V (R_move u) (V (R_move i) (V (R_convInt (k' := .i64) (a := f) Tryz.underlying3 Tryz.underlying5 rfl) (VE (E_buildSlice (qs := #[(0, (.int .u8 ((IntKind.u8.wrap f))))]) (cs := [(.int .u8 ((IntKind.u8.wrap f)))].toArray) hST (parts1 rfl) (run_lit [(.int .u8 ((IntKind.u8.wrap f)))] Tryz.underlying54 Tryz.sizeOf5 Tryz.zeroValue5 (by decide) rfl (by intro v hv; simp only [List.mem_cons, List.not_mem_nil, or_false] at hv; rcases hv with rfl <;> rfl) rfl rfl) (fun I K hST => V (R_strOf Tryz.underlying54 Tryz.underlying5 Tryz.underlying9 rfl (Sl.lit (enc := (encIk .u8)) (l := [(IntKind.u8.wrap f)]) (fun _ => rfl) rfl (Nat.le_of_ble_eq_true rfl) rfl (hST.at_ Mh))) ?_))))))))))))
    obtain ⟨G, z, c⟩ := bind_some c
    refine V (R_cat rfl rfl z) (V (R_assign rfl) (LW_nil (sq_n ?_)))
    replace hST := hST.sel (Db St)
    refine CW_ret ?_
    replace c := Option.some.inj c; subst c
    exact retQ_1 (v := (.string G)) rfl rfl ⟨rfl, hST.ex⟩
theorem w_ref01_Text (a : ByteArray) (r : ByteArray) (w : World)  (hm : m_ref01_Text a = some r) :
    Gives true Tryz.prog 163 [(.string a)] w (.string r) := by
  have hST := ST.start (dd := true) w
  unfold m_ref01_Text at hm
  refine calls_of_CW (n := 8) Tryz.func163 rfl rfl (Nat.le_of_ble_eq_true rfl) (CW_seq (CW_region (V (R_assign rfl) (LW_nil (sq_n (CW_seq (CW_region (V (R_move rfl) (V (R_lenStr Tryz.underlying9 rfl) ?_)))))))))
  obtain ⟨j, c, hm⟩ := bind_some hm
  refine VE (E_gives (args := [(.int .i64 ((a.size : Int)))]) hST rfl Tryz.call258 (by exact args1 rfl) ((w_ref01_Number ((a.size : Int)) _ _  c)) (fun i hST => V (R_move rfl) ?_))
  obtain ⟨g, f, hm⟩ := bind_some hm
  refine V (R_cat rfl rfl f) (V (R_assign rfl) (LW_nil (sq_n (CW_ret ?_))))
  replace hm := Option.some.inj hm; subst hm
  exact retQ_1 (v := (.string g)) rfl rfl ⟨rfl, hST.ex⟩
theorem w_ref04_Bytes (a : Role) (r : ByteArray) (w : World)  (hm : m_ref04_Bytes a = some r) :
    Gives true Tryz.prog 259 [(.agg (encRole a).toArray)] w (.string r) := by
  have hST := ST.start (dd := true) w
  unfold m_ref04_Bytes at hm
  refine calls_of_CW (n := 10) Tryz.func259 rfl rfl (Nat.le_of_ble_eq_true rfl) (CW_seq (CW_region (VE (E_box (v := (.agg (encRole a).toArray)) hST rfl (fun x y hST => V (R_assign rfl) (LW_nil (sq_n (CW_seq ?_))))))))
  replace hST := hST.drew
  have hS0 := hST.has.sel (Kb Sn)
  refine PX_start1 hS0 Tryz_mixed (X 0 rfl hS0 (R_field fa28_0 rfl) (XH 1 rfl hS0 (fun _ hS => R_load rfl (load_box1 hS Mh rfl Tryz.isAgg9)) (X 3 rfl hS0 (R_field fa28_1 rfl) (XH 4 rfl hS0 (fun _ hS => R_load rfl (load_box1 hS Mh rfl Tryz.isAgg9)) ?_))))
  obtain ⟨t, c, hm⟩ := bind_some hm
  refine XE 2 rfl (E_gives (args := [(.string a.Owner)]) hST rfl Tryz.call163 (by exact args1 rfl) ((w_ref01_Text a.Owner _ _  c)) (fun j hST => ?_))
  have hS0 := hST.has.sel (Kb Sn)
  refine ⟨hS0, ?_⟩
  obtain ⟨u, f, hm⟩ := bind_some hm
  refine XE 5 rfl (E_gives (args := [(.string a.Word)]) hST rfl Tryz.call163 (by exact args1 rfl) ((w_ref01_Text a.Word _ _  f)) (fun k hST => ?_))
  have hS0 := hST.has.sel (Kb Sn)
  refine ⟨hS0, ?_⟩
  obtain ⟨i, g, hm⟩ := bind_some hm
  refine X 6 rfl hS0 (R_cat rfl rfl g) (X 7 rfl hS0 (R_assign rfl) (PX_done (by kernel_rfl) (sq_n ?_)))
  replace hST := hST.sel (Db St)
  refine CW_ret ?_
  replace hm := Option.some.inj hm; subst hm
  exact retQ_1 (v := (.string i)) rfl rfl ⟨rfl, hST.ex⟩
theorem w_ref05_Bytes (f : Cred) (r : ByteArray) (w : World)  (hm : m_ref05_Bytes f = some r) :
    Gives true Tryz.prog 141 [(.agg (encCred f).toArray)] w (.string r) := by
  have hST := ST.start (dd := true) w
  unfold m_ref05_Bytes at hm
  refine calls_of_CW (n := 41) Tryz.func141 rfl rfl (Nat.le_of_ble_eq_true rfl) (CW_seq (CW_region (VE (E_box (v := (.agg (encCred f).toArray)) hST rfl (fun W2 b1 hST => V (R_assign rfl) (LW_nil (sq_n (CW_seq ?_))))))))
  replace hST := hST.drew
  have hS0 := hST.has.sel (Kb Sn)
  refine PX_start1 hS0 Tryz_mixed (X 0 rfl hS0 (R_field fa53_0 rfl) (XH 1 rfl hS0 (fun _ hS => R_load rfl (load_box1 hS Mh rfl Tryz.isAgg3)) (X 3 rfl hS0 (R_field fa53_1 rfl) (XH 4 rfl hS0 (fun _ hS => R_load rfl (load_boxA hS Mh (encRole f.Head) rfl Tryz.isAgg28 Tryz.sizeOf28)) ?_))))
  obtain ⟨b6, K, hm⟩ := bind_some hm
  refine XE 2 rfl (E_gives (args := [(.int .i64 f.Kind)]) hST rfl Tryz.call258 (by exact args1 rfl) ((w_ref01_Number f.Kind _ _  K)) (fun a9 hST => ?_))
  have hS0 := hST.has.sel (Kb Sn)
  refine ⟨hS0, ?_⟩
  obtain ⟨b7, M, hm⟩ := bind_some hm
  refine XE 5 rfl (E_gives (args := [(.agg (encRole f.Head).toArray)]) hST rfl Tryz.call259 (by exact args1 rfl) ((w_ref04_Bytes f.Head _ _  M)) (fun b0 hST => ?_))
  have hS0 := hST.has.sel (Kb Sn)
  refine ⟨hS0, ?_⟩
  obtain ⟨c1, Y, hm⟩ := bind_some hm
  refine X 6 rfl hS0 (R_cat rfl rfl Y) (X 7 rfl hS0 (R_assign rfl) (PX_done (by kernel_rfl) (sq_n (CW_seq (CW_seq (CW_region (V (R_field fa53_0 rfl) (V (R_load rfl (load_box1 hST.has Mh rfl Tryz.isAgg3)) (V (R_int rfl rfl rfl) (LW_nil (sq_n (CW_if (b := (f.Kind == 1)) rfl (fun j => ?_) (fun j => ?_)))))))))))))
  · replace hm := if_t j hm
    refine CW_seq (CW_region (V (R_move rfl) (V (R_field fa53_2 rfl) (V (R_load rfl (load_box1 hST.has Mh rfl Tryz.isAgg9)) ?_))))
    obtain ⟨b8, N, hm⟩ := bind_some hm
    refine VE (E_gives (args := [(.string f.Who)]) hST rfl Tryz.call163 (by exact args1 rfl) ((w_ref01_Text f.Who _ _  N)) (fun b2 hST => ?_))
    obtain ⟨a6, Z, hm⟩ := bind_some hm
    refine V (R_cat rfl rfl Z) (V (R_assign rfl) (LW_nil (sq_n ?_)))
    replace hST := hST.sel (Db St)
    refine CW_ret (sq_r ?_)
    replace hm := Option.some.inj hm; subst hm
    exact retQ_1 (v := (.string a6)) rfl rfl ⟨rfl, hST.ex⟩
  replace hm := if_f j hm
  refine CW_skip (sq_n (CW_seq (CW_region (V (R_move rfl) (V (R_field fa53_3 rfl) (V (R_load rfl (load_boxA hST.has Mh (encRole f.B) rfl Tryz.isAgg28 Tryz.sizeOf28)) ?_))))))
  obtain ⟨b9, Q, hm⟩ := bind_some hm
  refine VE (E_gives (args := [(.agg (encRole f.B).toArray)]) hST rfl Tryz.call259 (by exact args1 rfl) ((w_ref04_Bytes f.B _ _  Q)) (fun b3 hST => ?_))
  obtain ⟨a7, a1, hm⟩ := bind_some hm
  refine V (R_cat rfl rfl a1) (V (R_assign rfl) (LW_nil (sq_n (CW_seq ?_))))
  obtain ⟨c3, c, y⟩ := bind_some hm
  refine CW_cut (fun E W => ∃ (i : ByteArray) (B : List (Nat × Obj)), ST true NoF w W (hp w) ((b1, Obj.cells ((encCred f).toArray : Array Value) 53 (0, 0)) :: B) ∧ E 1 = (.pointer (some ⟨b1, 0, none⟩)) ∧ E 3 = (.string i) ∧ (((if (f.Kind == 4) then (((m_ref04_Bytes f.C)).bind fun I => (((catS i I)).bind fun z => some z)) else some i) : Option ByteArray).bind fun g => some g) = some r) ?_ ?_
  · refine CW_seq (CW_region (V (R_field fa53_0 rfl) (V (R_load rfl (load_box1 hST.has Mh rfl Tryz.isAgg3)) (V (R_int rfl rfl rfl) (LW_nil (sq_n (CW_if (b := (f.Kind == 3)) rfl (fun t => ?_) (fun t => ?_))))))))
    · replace c := if_t t c
      refine CW_region (V (R_move rfl) (V (R_field fa53_5 rfl) (V (R_load rfl (load_box1 hST.has Mh rfl Tryz.isAgg9)) ?_)))
      obtain ⟨c0, U, c⟩ := bind_some c
      refine VE (E_gives (args := [(.string f.Word2)]) hST rfl Tryz.call163 (by exact args1 rfl) ((w_ref01_Text f.Word2 _ _  U)) (fun b5 hST => ?_))
      obtain ⟨a8, a3, c⟩ := bind_some c
      refine V (R_cat rfl rfl a3) (V (R_assign rfl) (LW_nil (sq_n ?_)))
      replace c := Option.some.inj c; subst c
      exact ⟨a8, _, (hST.sel St), rfl, rfl, y⟩
    replace c := if_f t c
    refine CW_skip (sq_n ?_)
    replace c := Option.some.inj c; subst c
    exact ⟨a7, _, (hST.sel St), rfl, rfl, y⟩
  rintro E W ⟨i, B, hST, G, H, J⟩
  refine CW_seq ?_
  obtain ⟨c2, a, x⟩ := bind_some J
  refine CW_cut (fun E W => ∃ (g : ByteArray) (D : List (Nat × Obj)), ST true NoF w W (hp w) D ∧ E 3 = (.string g) ∧ some g = some r) ?_ ?_
  · refine CW_seq (CW_region (V (R_field fa53_0 G) (V (R_load rfl (load_box1 hST.has Mh rfl Tryz.isAgg3)) (V (R_int rfl rfl rfl) (LW_nil (sq_n (CW_if (b := (f.Kind == 4)) rfl (fun k => ?_) (fun k => ?_))))))))
    · replace a := if_t k a
      refine CW_region (V (R_move H) (V (R_field fa53_4 G) (V (R_load rfl (load_boxA hST.has Mh (encRole f.C) rfl Tryz.isAgg28 Tryz.sizeOf28)) ?_)))
      obtain ⟨I, T, a⟩ := bind_some a
      refine VE (E_gives (args := [(.agg (encRole f.C).toArray)]) hST rfl Tryz.call259 (by exact args1 rfl) ((w_ref04_Bytes f.C _ _  T)) (fun b4 hST => ?_))
      obtain ⟨z, a2, a⟩ := bind_some a
      refine V (R_cat rfl rfl a2) (V (R_assign rfl) (LW_nil (sq_n ?_)))
      replace a := Option.some.inj a; subst a
      exact ⟨z, _, (hST.sel (Db St)), rfl, x⟩
    replace a := if_f k a
    refine CW_skip (sq_n ?_)
    replace a := Option.some.inj a; subst a
    exact ⟨i, _, (hST.sel (Db St)), H, x⟩
  rintro E W ⟨g, D, hST, a5, u⟩
  refine CW_seq (CW_region (V (R_move a5) (V (R_assign rfl) (LW_nil (sq_n (CW_ret ?_))))))
  replace u := Option.some.inj u; subst u
  exact retQ_1 (v := (.string g)) rfl rfl ⟨rfl, hST.ex⟩
theorem w_ref02_Sum (u : ByteArray) (r : Int) (w : World)  (hm : m_ref02_Sum u = some r) :
    Gives true Tryz.prog 257 [(.string u)] w (.int .u64 r) := by
  have hST := ST.start (dd := true) w
  unfold m_ref02_Sum at hm
  refine calls_of_CW (n := 20) Tryz.func257 rfl rfl (Nat.le_of_ble_eq_true rfl) (CW_seq (CW_region (V (R_assign rfl) (LW_nil (sq_n (CW_seq (CW_region (V (R_assign rfl) (LW_nil (sq_n (CW_seq (CW_seq (CW_region (V (R_assign rfl) ?_))))))))))))))
  refine LW_nil (sq_n (CW_block (CW_loop (fun m E W => ∃ (f : Int) (g : Int) (B : List (Nat × Obj)), ST true NoF w W (hp w) B ∧ E 0 = (.string u) ∧ E 3 = (.int .u64 f) ∧ E 4 = (.int .i64 g) ∧ m_ref02_Sum_L1 u m f g = some r) FUEL ⟨14695981039346656037, 0, _, (hST.sel St), rfl, rfl, rfl, hm⟩ ?_)))
  rintro m E W ⟨f, g, B, hST, x, D, y, c⟩
  cases m with
  | zero => rw [m_ref02_Sum_L1] at c; cases c
  | succ G =>
    rw [m_ref02_Sum_L1] at c
    refine CW_seq (CW_seq (CW_region (V (R_move y) (V (R_move x) (V (R_lenStr Tryz.underlying9 rfl) (V (R_int rfl rfl rfl) (LW_nil (sq_n (CW_if (b := (decide (g < ((u.size : Int))))) rfl (fun j => ?_) (fun j => ?_))))))))))
    · replace c := if_t j c
      refine CW_skip (sq_n (CW_seq (CW_block (CW_seq (CW_region (V (R_move D) (V (R_move x) (V (R_move y) ?_))))))))
      obtain ⟨t, z, c⟩ := bind_some c
      refine V (R_indexStr (i := g) Tryz.underlying9 rfl rfl (idxS_nonneg z) (idxS_get z)) (V (R_convInt (k' := .u8) (a := (t.toNat : Int)) Tryz.underlying5 Tryz.underlying309 rfl) (V (R_bits (k := .u64) (a := f) (b := ((IntKind.u64.wrap ((t.toNat : Int))))) (v := (.int .u64 ((IntKind.u64.wrap (BitVec.ofInt (IntKind.bits .u64) f ^^^ BitVec.ofInt (IntKind.bits .u64) ((IntKind.u64.wrap ((t.toNat : Int))))).toNat)))) rfl rfl rfl) (V (R_assign rfl) (LW_nil (sq_n (CW_region (V (R_move rfl) (V (R_int rfl rfl rfl) (V (R_assign rfl) (LW_nil (bq_n (sq_n (CW_region (V (R_move y) ?_))))))))))))))
      exact V (R_int rfl rfl rfl) (V (R_assign rfl) (LW_nil (sq_n ⟨G, Nat.lt_succ_self _, ((IntKind.u64.wrap (((IntKind.u64.wrap (BitVec.ofInt (IntKind.bits .u64) f ^^^ BitVec.ofInt (IntKind.bits .u64) ((IntKind.u64.wrap ((t.toNat : Int))))).toNat)) * 1099511628211))), ((IntKind.i64.wrap (g + 1))), _, (hST.sel St), x, rfl, rfl, c⟩)))
    replace c := if_f j c
    refine CW_exit (sq_e (sq_e (bq_e (sq_n (CW_seq (CW_region (V (R_move D) (V (R_assign rfl) (LW_nil (sq_n (CW_ret ?_)))))))))))
    replace c := Option.some.inj c; subst c
    exact retQ_1 (v := (.int .u64 f)) rfl rfl ⟨rfl, hST.ex⟩
theorem w_ref02_Make (i : ByteArray) (G : ByteArray) (r : ByteArray) (w : World)  (hm : m_ref02_Make i G = some r) :
    Gives true Tryz.prog 140 [(.string i), (.string G)] w (.string r) := by
  have hST := ST.start (dd := true) w
  unfold m_ref02_Make at hm
  refine calls_of_CW (n := 34) Tryz.func140 rfl rfl (Nat.le_of_ble_eq_true rfl) (CW_seq (CW_region (V (R_assign rfl) (LW_nil (sq_n (CW_seq (CW_region (V (R_move rfl) (V (R_lenStr Tryz.underlying9 rfl) (V (R_convInt (k' := .i64) (a := (i.size : Int)) Tryz.underlying3 Tryz.underlying5 rfl) (VE (E_buildSlice (qs := #[(0, (.int .u8 ((IntKind.u8.wrap ((i.size : Int))))))]) (cs := [(.int .u8 ((IntKind.u8.wrap ((i.size : Int)))))].toArray) hST (parts1 rfl) (run_lit [(.int .u8 ((IntKind.u8.wrap ((i.size : Int)))))] Tryz.underlying54 Tryz.sizeOf5 Tryz.zeroValue5 (by decide) rfl (by intro v hv; simp only [List.mem_cons, List.not_mem_nil, or_false] at hv; rcases hv with rfl <;> rfl) rfl rfl) (fun Z b1 hST => V (R_strOf Tryz.underlying54 Tryz.underlying5 Tryz.underlying9 rfl (Sl.lit (enc := (encIk .u8)) (l := [(IntKind.u8.wrap ((i.size : Int)))]) (fun _ => rfl) rfl (Nat.le_of_ble_eq_true rfl) rfl (hST.at_ Mh))) (V (R_move rfl) ?_))))))))))))))
  obtain ⟨s3, H, hm⟩ := bind_some hm
  refine V (R_cat rfl rfl H) (V (R_move rfl) ?_)
  obtain ⟨s5, I, hm⟩ := bind_some hm
  refine V (R_cat rfl rfl I) (V (R_move rfl) ?_)
  obtain ⟨M, J, hm⟩ := bind_some hm
  refine V (R_cat rfl rfl J) ?_
  obtain ⟨Q, B, hm⟩ := bind_some hm
  refine VE (E_gives (args := [(.string M)]) hST rfl Tryz.call257 (by exact args1 rfl) ((w_ref02_Sum M _ _  B)) (fun T hST => V (R_assign rfl) (LW_nil (sq_n ?_))))
  replace hST := hST.sel (Db St)
  refine CW_seq (CW_region (V (R_assign rfl) (LW_nil (sq_n (CW_seq (CW_seq (CW_region (V (R_assign rfl) (LW_nil (sq_n (CW_block (CW_loop (fun m E W => ∃ (f : Int) (t : ByteArray) (g : Int) (u : List (Nat × Obj)), ST true NoF w W (hp w) u ∧ E 5 = (.int .u64 f) ∧ E 6 = (.string t) ∧ E 7 = (.int .i64 g) ∧ m_ref02_Make_L1 m f t g = some r) FUEL ⟨Q, zS, 0, _, (hST.sel St), rfl, rfl, rfl, hm⟩ ?_))))))))))))
  rintro m E W ⟨f, t, g, u, hST, x, y, z, c⟩
  cases m with
  | zero => rw [m_ref02_Make_L1] at c; cases c
  | succ K =>
    rw [m_ref02_Make_L1] at c
    refine CW_seq (CW_seq (CW_region (V (R_move z) (V (R_int rfl rfl rfl) (LW_nil (sq_n (CW_if (b := (decide (g < 8))) rfl (fun j => ?_) (fun j => ?_))))))))
    · replace c := if_t j c
      refine CW_skip (sq_n (CW_seq (CW_block (CW_seq (CW_region (V (R_move x) (V (R_div (k := .u64) (a := f) (b := 256) (v := (.int .u64 ((Int.tmod f 256)))) rfl rfl (by decide) rfl) (V (R_convInt (k' := .u64) (a := (Int.tmod f 256)) Tryz.underlying309 Tryz.underlying5 rfl) (VE (E_buildSlice (qs := #[(0, (.int .u8 ((IntKind.u8.wrap ((Int.tmod f 256))))))]) (cs := [(.int .u8 ((IntKind.u8.wrap ((Int.tmod f 256)))))].toArray) hST (parts1 rfl) (run_lit [(.int .u8 ((IntKind.u8.wrap ((Int.tmod f 256)))))] Tryz.underlying54 Tryz.sizeOf5 Tryz.zeroValue5 (by decide) rfl (by intro v hv; simp only [List.mem_cons, List.not_mem_nil, or_false] at hv; rcases hv with rfl <;> rfl) rfl rfl) (fun U Y hST => V (R_strOf Tryz.underlying54 Tryz.underlying5 Tryz.underlying9 rfl (Sl.lit (enc := (encIk .u8)) (l := [(IntKind.u8.wrap ((Int.tmod f 256)))]) (fun _ => rfl) rfl (Nat.le_of_ble_eq_true rfl) rfl (hST.at_ Mh))) (V (R_move y) ?_))))))))))))
      obtain ⟨N, D, c⟩ := bind_some c
      refine V (R_cat rfl rfl D) (V (R_assign rfl) (LW_nil (sq_n ?_)))
      replace hST := hST.sel (Db St)
      exact CW_region (V (R_move x) (V (R_div (k := .u64) (a := f) (b := 256) (v := (.int .u64 ((IntKind.u64.wrap (Int.tdiv f 256))))) rfl rfl (by decide) rfl) (V (R_assign rfl) (LW_nil (bq_n (sq_n (CW_region (V (R_move z) (V (R_int rfl rfl rfl) (V (R_assign rfl) (LW_nil (sq_n ⟨K, Nat.lt_succ_self _, ((IntKind.u64.wrap (Int.tdiv f 256))), N, ((IntKind.i64.wrap (g + 1))), _, (hST.sel St), rfl, rfl, rfl, c⟩))))))))))))
    replace c := if_f j c
    refine CW_exit (sq_e (sq_e (bq_e (sq_n (CW_seq (CW_region (V (R_move y) (V (R_assign rfl) (LW_nil (sq_n (CW_ret ?_)))))))))))
    replace c := Option.some.inj c; subst c
    exact retQ_1 (v := (.string t)) rfl rfl ⟨rfl, hST.ex⟩
theorem w_ref34_Make (B : Value) (a0 : List Key) (a : Cred) (r : (Signed × Int)) (w : World) {μ0 : Mem} (h0 : Ent μ0 [] w) (H : Sl relKey 2 μ0 B a0) (hm : m_ref34_Make a0 a = some r) :
    GivesD true Tryz.prog 37 [B, (.agg (encCred a).toArray)] w μ0 [] (fun v L1 μ1 => ∃ (y1 : Value), v = (.tuple #[(.agg #[(.int .i64 (((r.1).Cred).Kind)), (.string ((((r.1).Cred).Head).Owner)), (.string ((((r.1).Cred).Head).Word)), (.string (((r.1).Cred).Who)), (.string ((((r.1).Cred).B).Owner)), (.string ((((r.1).Cred).B).Word)), (.string ((((r.1).Cred).C).Owner)), (.string ((((r.1).Cred).C).Word)), (.string (((r.1).Cred).Word2)), y1]), (.int .i64 (r.2))]) ∧ L1 = [] ∧ Sl (Pl (encIk .u8)) 1 μ1 y1 ((r.1).Tag)) := by
  have hST := ST.startE (dd := true) h0
  unfold m_ref34_Make at hm
  refine calls_of_CW (n := 43) Tryz.func37 rfl rfl (Nat.le_of_ble_eq_true rfl) (CW_seq (CW_region (VE (E_box (v := (.agg (encCred a).toArray)) hST rfl (fun W2 b1 hST => VE (E_alloc hST Tryz.zeroValue56 (fun W4 b3 hST => V (R_assign rfl) (LW_nil (sq_n (CW_seq (CW_region (V (R_move rfl) ?_))))))))))))
  obtain ⟨r5, d4, hm⟩ := bind_some hm
  refine VE (E_gives (args := [B]) hST rfl Tryz.call55 (by exact args1 rfl) ((w_ref06_New B a0 _ _ (H.mono dKey.mono hST.sub_hp) d4)) (fun W7 hST => V (R_assign rfl) (LW_nil (sq_n (CW_seq (CW_seq (CW_region (V (R_move rfl) (V (R_int rfl rfl rfl) (LW_nil (sq_n (CW_if (b := (r5 != 0)) rfl (fun a6 => ?_) (fun a6 => ?_)))))))))))))
  · replace hm := if_t a6 hm
    refine CW_seq (CW_region (V (R_build (qs := #[]) (v := (.agg #[(.int .i64 0), (.string (((⟨zS, zS⟩ : Role)).Owner)), (.string (((⟨zS, zS⟩ : Role)).Word)), (.string zS), (.string (((⟨zS, zS⟩ : Role)).Owner)), (.string (((⟨zS, zS⟩ : Role)).Word)), (.string (((⟨zS, zS⟩ : Role)).Owner)), (.string (((⟨zS, zS⟩ : Role)).Word)), (.string zS), (.slice none 0 0)])) parts0 (run_build Tryz.zeroValue56 Tryz.underlying56 (pl56 _ Tryz.underlying56) (by kernel_rfl))) (V (R_move rfl) (VO (F_store (.agg #[(.int .i64 0), (.string (((⟨zS, zS⟩ : Role)).Owner)), (.string (((⟨zS, zS⟩ : Role)).Word)), (.string zS), (.string (((⟨zS, zS⟩ : Role)).Owner)), (.string (((⟨zS, zS⟩ : Role)).Word)), (.string (((⟨zS, zS⟩ : Role)).Owner)), (.string (((⟨zS, zS⟩ : Role)).Word)), (.string zS), (.slice none 0 0)]) (#[(.int .i64 0), (.string (((⟨zS, zS⟩ : Role)).Owner)), (.string (((⟨zS, zS⟩ : Role)).Word)), (.string zS), (.string (((⟨zS, zS⟩ : Role)).Owner)), (.string (((⟨zS, zS⟩ : Role)).Word)), (.string (((⟨zS, zS⟩ : Role)).Owner)), (.string (((⟨zS, zS⟩ : Role)).Word)), (.string zS), (.slice none 0 0)]) hST rfl rfl Tryz.sizeOf56 (by simp [Value.cells, Value.oneCell']) (Nat.le_of_ble_eq_true rfl) rfl (fun W9 hST => V (R_assign rfl) (LW_nil (sq_n ?_))))))))
    replace hST := hST.sel (Kb (Db St))
    refine CW_ret (sq_r ?_)
    replace hm := Option.some.inj hm; subst hm
    exact retQ_ct (v0 := (.agg #[(.int .i64 0), (.string (((⟨zS, zS⟩ : Role)).Owner)), (.string (((⟨zS, zS⟩ : Role)).Word)), (.string zS), (.string (((⟨zS, zS⟩ : Role)).Owner)), (.string (((⟨zS, zS⟩ : Role)).Word)), (.string (((⟨zS, zS⟩ : Role)).Owner)), (.string (((⟨zS, zS⟩ : Role)).Word)), (.string zS), (.slice none 0 0)])) (v1 := (.int .i64 r5)) rfl rfl (load_boxA hST.has Mh [(.int .i64 0), (.string (((⟨zS, zS⟩ : Role)).Owner)), (.string (((⟨zS, zS⟩ : Role)).Word)), (.string zS), (.string (((⟨zS, zS⟩ : Role)).Owner)), (.string (((⟨zS, zS⟩ : Role)).Word)), (.string (((⟨zS, zS⟩ : Role)).Owner)), (.string (((⟨zS, zS⟩ : Role)).Word)), (.string zS), (.slice none 0 0)] rfl Tryz.isAgg56 Tryz.sizeOf56) rfl ⟨_, _, _, rfl, (hST.bkM Sn), (Sub.refl _), Lo.refl, (ST.sub_hpx hST (Sel.mem Sn)), (.slice none 0 0), rfl, rfl, (Sl.nil _ _ _)⟩
  replace hm := if_f a6 hm
  refine CW_skip (sq_n (CW_seq (CW_seq (CW_region (V (R_load rfl (load_boxA hST.has (Mt Mh) (encCred a) rfl Tryz.isAgg53 Tryz.sizeOf53)) ?_)))))
  obtain ⟨d5, c8, hm⟩ := bind_some hm
  refine VE (E_gives (args := [(.agg (encCred a).toArray)]) hST rfl Tryz.call134 (by exact args1 rfl) ((w_ref05_Right a _ _  c8)) (fun f8 hST => V (R_not rfl) (LW_nil (sq_n (CW_if (b := (!d5)) rfl (fun Y => ?_) (fun Y => ?_))))))
  · replace hm := if_t Y hm
    refine CW_seq (CW_region (V (R_build (qs := #[]) (v := (.agg #[(.int .i64 0), (.string (((⟨zS, zS⟩ : Role)).Owner)), (.string (((⟨zS, zS⟩ : Role)).Word)), (.string zS), (.string (((⟨zS, zS⟩ : Role)).Owner)), (.string (((⟨zS, zS⟩ : Role)).Word)), (.string (((⟨zS, zS⟩ : Role)).Owner)), (.string (((⟨zS, zS⟩ : Role)).Word)), (.string zS), (.slice none 0 0)])) parts0 (run_build Tryz.zeroValue56 Tryz.underlying56 (pl56 _ Tryz.underlying56) (by kernel_rfl))) (VO (F_store (.agg #[(.int .i64 0), (.string (((⟨zS, zS⟩ : Role)).Owner)), (.string (((⟨zS, zS⟩ : Role)).Word)), (.string zS), (.string (((⟨zS, zS⟩ : Role)).Owner)), (.string (((⟨zS, zS⟩ : Role)).Word)), (.string (((⟨zS, zS⟩ : Role)).Owner)), (.string (((⟨zS, zS⟩ : Role)).Word)), (.string zS), (.slice none 0 0)]) (#[(.int .i64 0), (.string (((⟨zS, zS⟩ : Role)).Owner)), (.string (((⟨zS, zS⟩ : Role)).Word)), (.string zS), (.string (((⟨zS, zS⟩ : Role)).Owner)), (.string (((⟨zS, zS⟩ : Role)).Word)), (.string (((⟨zS, zS⟩ : Role)).Owner)), (.string (((⟨zS, zS⟩ : Role)).Word)), (.string zS), (.slice none 0 0)]) hST rfl rfl Tryz.sizeOf56 (by simp [Value.cells, Value.oneCell']) (Nat.le_of_ble_eq_true rfl) rfl (fun f9 hST => V (R_assign rfl) (LW_nil (sq_n ?_)))))))
    replace hST := hST.sel (Kb (Db St))
    refine CW_ret (sq_r ?_)
    replace hm := Option.some.inj hm; subst hm
    exact retQ_ct (v0 := (.agg #[(.int .i64 0), (.string (((⟨zS, zS⟩ : Role)).Owner)), (.string (((⟨zS, zS⟩ : Role)).Word)), (.string zS), (.string (((⟨zS, zS⟩ : Role)).Owner)), (.string (((⟨zS, zS⟩ : Role)).Word)), (.string (((⟨zS, zS⟩ : Role)).Owner)), (.string (((⟨zS, zS⟩ : Role)).Word)), (.string zS), (.slice none 0 0)])) (v1 := (.int .i64 11)) rfl rfl (load_boxA hST.has Mh [(.int .i64 0), (.string (((⟨zS, zS⟩ : Role)).Owner)), (.string (((⟨zS, zS⟩ : Role)).Word)), (.string zS), (.string (((⟨zS, zS⟩ : Role)).Owner)), (.string (((⟨zS, zS⟩ : Role)).Word)), (.string (((⟨zS, zS⟩ : Role)).Owner)), (.string (((⟨zS, zS⟩ : Role)).Word)), (.string zS), (.slice none 0 0)] rfl Tryz.isAgg56 Tryz.sizeOf56) rfl ⟨_, _, _, rfl, (hST.bkM Sn), (Sub.refl _), Lo.refl, (ST.sub_hpx hST (Sel.mem Sn)), (.slice none 0 0), rfl, rfl, (Sl.nil _ _ _)⟩
  replace hm := if_f Y hm
  refine CW_skip (sq_n (CW_seq (CW_seq (CW_region (V (R_move rfl) (V (R_len Tryz.underlying49 rfl H) (V (R_move rfl) (LW_nil (sq_n (CW_range (fun i E W => ∃  (Q : List (Nat × Obj)), (E 21 = .int .i64 (i : Nat) ∧ E 20 = .int .i64 (a0.length : Nat)) ∧ ST true (keys []) w W μ0 ((b3, Obj.cells (#[(.int .i64 0), (.string (((⟨zS, zS⟩ : Role)).Owner)), (.string (((⟨zS, zS⟩ : Role)).Word)), (.string zS), (.string (((⟨zS, zS⟩ : Role)).Owner)), (.string (((⟨zS, zS⟩ : Role)).Word)), (.string (((⟨zS, zS⟩ : Role)).Owner)), (.string (((⟨zS, zS⟩ : Role)).Word)), (.string zS), (.slice none 0 0)] : Array Value) 56 (0, 0)) :: ((b1, Obj.cells ((encCred a).toArray : Array Value) 53 (0, 0)) :: Q)) ∧ E 3 = (.pointer (some ⟨b1, 0, none⟩)) ∧ E 4 = (.pointer (some ⟨b3, 0, none⟩)) ∧ E 19 = B ∧ m_ref34_Make_L1 a (a0.drop i) = some r) a0.length H.len ⟨_, ⟨rfl, rfl⟩, (hST.sel St), rfl, rfl, rfl, hm⟩ (by decide) (by decide) (by decide) (fun _ _ _ h => by obtain ⟨_, eIN, _⟩ := h; exact eIN) ?_ ?_))))))))))
  · rintro c9 E W b0 ⟨Q, ⟨eI, eN⟩, hST, y, x, U, c⟩
    obtain ⟨g, d9, c1, c0, c2⟩ := drop_cons b0
    rw [c1] at c
    rw [m_ref34_Make_L1] at c
    refine CW_block (CW_seq (CW_region (VQ (R_indexD (i := (c9 : Int)) (x0 := g) relKey.out Tryz.underlying49 Tryz.sizeOf196 U eI H (Int.natCast_nonneg _) c0) (fun f0 ⟨_, ⟨f4, rfl, K⟩, b2⟩ => V (R_load rfl (load_atA hST.has b2 Tryz.isAgg196 Tryz.sizeOf196)) (VE (E_alloc hST Tryz.zeroValue196 (fun e1 c4 hST => ?_)))))))
    obtain ⟨N, T, rfl⟩ := K.form
    refine VO (F_store (.agg #[(.string g.Who), (.slice N g.Key.length T)]) (#[(.string g.Who), (.slice N g.Key.length T)]) hST rfl rfl Tryz.sizeOf196 (by simp [Value.cells, Value.oneCell']) (Nat.le_of_ble_eq_true rfl) rfl (fun e2 hST => LW_nil (sq_n (CW_seq (CW_region (V (R_field fa196_0 rfl) (V (R_load rfl (load_box1 hST.has Mh rfl Tryz.isAgg9)) (V (R_field fa53_1 y) (V (R_field fa28_0 rfl) (V (R_load rfl (load_box1 hST.has (Mt (Mt Mh)) rfl Tryz.isAgg9)) (V (R_str rfl rfl rfl) (LW_nil (sq_n (CW_if (b := (beqS g.Who a.Head.Owner)) rfl (fun I => ?_) (fun I => ?_)))))))))))))))
    · replace c := if_t I c
      refine CW_seq ?_
      replace hST := hST.drew
      have hS0 := hST.has.sel (Kb (Db (Kb Sn)))
      refine PX_start1 hS0 Tryz_mixed (XH 0 rfl hS0 (fun _ hS => R_load y (load_boxA hS (Mt Mh) (encCred a) rfl Tryz.isAgg53 Tryz.sizeOf53)) (X 1 rfl hS0 (R_field fa196_1 rfl) (XH 2 rfl hS0 (fun _ hS => R_load rfl (load_box1 hS Mh rfl Tryz.isAgg54)) (XH 4 rfl hS0 (fun _ hS => R_load y (load_boxA hS (Mt Mh) (encCred a) rfl Tryz.isAgg53 Tryz.sizeOf53)) ?_))))
      obtain ⟨f3, f, Z⟩ := bind_some c
      refine PX_join (J := fun E W => ∃ (D : ByteArray) (G : ByteArray) (a4 : List (Nat × Obj)), ST true (keys []) w W μ0 ((c4, Obj.cells (#[(.string g.Who), (.slice N g.Key.length T)] : Array Value) 196 (0, 0)) :: ((b3, Obj.cells (#[(.int .i64 0), (.string (((⟨zS, zS⟩ : Role)).Owner)), (.string (((⟨zS, zS⟩ : Role)).Word)), (.string zS), (.string (((⟨zS, zS⟩ : Role)).Owner)), (.string (((⟨zS, zS⟩ : Role)).Word)), (.string (((⟨zS, zS⟩ : Role)).Owner)), (.string (((⟨zS, zS⟩ : Role)).Word)), (.string zS), (.slice none 0 0)] : Array Value) 56 (0, 0)) :: ((b1, Obj.cells ((encCred a).toArray : Array Value) 53 (0, 0)) :: a4))) ∧ E 4 = (.pointer (some ⟨b3, 0, none⟩)) ∧ E 31 = (.agg (encCred a).toArray) ∧ E 34 = (.string D) ∧ E 37 = (.string G) ∧ (((m_ref02_Make D G)).bind fun a7 => (((bytesB a7)).bind fun k => some ((⟨a, k⟩ : Signed), 0))) = some r) #[true, true, true, true, true, true, true, false, false, false, false, false] 5 ?_ (fun M => ?_)
      · rintro E W ⟨D, G, a4, hST, a5, c5, c6, c7, j⟩
        have hS0 := hST.has.sel (Kb (Db (Kb Sn)))
        obtain ⟨a7, b4, j⟩ := bind_some j
        refine XE 7 rfl (E_gives (args := [(.string D), (.string G)]) hST rfl Tryz.call140 (by exact args2 c6 c7) ((w_ref02_Make D G _ _  b4)) (fun e3 hST => ?_))
        have hS0 := hST.has.sel (Kb (Db (Kb Sn)))
        refine ⟨hS0, ?_⟩
        obtain ⟨k, b5, j⟩ := bind_some j
        refine XE 8 rfl (E_bytesOf hST Tryz.underlying9 Tryz.underlying54 Tryz.underlying5 rfl b5 (fun e4 f5 f7 hST z hl786 a2 d8 => ?_))
        have hS0 := hST.has.selS z (Kb (Db (Kb Sn)))
        refine ⟨hS0, ?_⟩
        obtain ⟨t, u, rfl⟩ := a2.form
        refine X 9 rfl hS0 (R_build (qs := #[(0, (.agg (encCred a).toArray)), (1, (.slice t k.length u))]) (v := (.agg #[(.int .i64 a.Kind), (.string a.Head.Owner), (.string a.Head.Word), (.string a.Who), (.string a.B.Owner), (.string a.B.Word), (.string a.C.Owner), (.string a.C.Word), (.string a.Word2), (.slice t k.length u)])) (parts2 c5 rfl) (run_build Tryz.zeroValue56 Tryz.underlying56 (pl56 _ Tryz.underlying56) (by kernel_rfl))) ?_
        replace hST := hST.perm (Nb (Pb Pz) Nz)
        refine XO 10 rfl (F_store (.agg #[(.int .i64 a.Kind), (.string a.Head.Owner), (.string a.Head.Word), (.string a.Who), (.string a.B.Owner), (.string a.B.Word), (.string a.C.Owner), (.string a.C.Word), (.string a.Word2), (.slice t k.length u)]) (#[(.int .i64 a.Kind), (.string a.Head.Owner), (.string a.Head.Word), (.string a.Who), (.string a.B.Owner), (.string a.B.Word), (.string a.C.Owner), (.string a.C.Word), (.string a.Word2), (.slice t k.length u)]) hST a5 rfl Tryz.sizeOf56 (by simp [Value.cells, Value.oneCell']) (Nat.le_of_ble_eq_true rfl) rfl (fun e5 hST => ?_))
        have hS0 := hST.has.selS z (Db (Kb (Kb Sn)))
        refine ⟨hS0, (X 11 rfl hS0 (R_assign rfl) (PX_done (by kernel_rfl) (sq_n ?_)))⟩
        replace hST := hST.sel (Kb (Db (Db St)))
        refine CW_ret (bq_r (sq_r (bq_r (sq_r ?_))))
        replace j := Option.some.inj j; subst j
        exact retQ_ct (v0 := (.agg #[(.int .i64 a.Kind), (.string a.Head.Owner), (.string a.Head.Word), (.string a.Who), (.string a.B.Owner), (.string a.B.Word), (.string a.C.Owner), (.string a.C.Word), (.string a.Word2), (.slice t k.length u)])) (v1 := (.int .i64 0)) rfl a5 (load_boxA hST.has Mh [(.int .i64 a.Kind), (.string a.Head.Owner), (.string a.Head.Word), (.string a.Who), (.string a.B.Owner), (.string a.B.Word), (.string a.C.Owner), (.string a.C.Word), (.string a.Word2), (.slice t k.length u)] rfl Tryz.isAgg56 Tryz.sizeOf56) rfl ⟨_, _, _, rfl, (hST.bkM Sn), z, hl786, (ST.sub_hpx hST (Sel.mem Sn)), (.slice t k.length u), rfl, rfl, a2⟩
      refine PX_two 3 5 rfl rfl (by kernel_rfl) (.inl rfl) (.inl rfl) rfl rfl (by decide) (by decide) ?_ ?_
      · refine .inl ⟨_, _, R_strOf Tryz.underlying54 Tryz.underlying5 Tryz.underlying9 rfl (K.mono (Pl.mono _) hST.sub_hp), ⟨hS0, ?_⟩⟩
        obtain ⟨f1, b6, f⟩ := bind_some f
        refine XE 5 rfl (E_gives (args := [(.agg (encCred a).toArray)]) hST rfl Tryz.call141 (by exact args1 rfl) ((w_ref05_Bytes a _ _  b6)) (fun e6 hST => ?_))
        have hS0 := hST.has.sel (Kb (Db (Kb Sn)))
        refine ⟨hS0, ?_⟩
        obtain ⟨d0, b8, f⟩ := bind_some f
        refine X 6 rfl hS0 (R_cat rfl rfl b8) ?_
        replace f := Option.some.inj f; subst f
        refine PX_at (by kernel_rfl) (M _ _ ⟨((strI g.Key)), d0, _, (hST.sel St), x, rfl, rfl, rfl, Z⟩)
      · obtain ⟨f2, b7, f⟩ := bind_some f
        refine E_gives (args := [(.agg (encCred a).toArray)]) hST rfl Tryz.call141 (by exact args1 rfl) ((w_ref05_Bytes a _ _  b7)) (fun e7 hST => ?_)
        have hS0 := hST.has.sel (Kb (Db (Kb Sn)))
        refine ⟨hS0, ?_⟩
        obtain ⟨d1, b9, f⟩ := bind_some f
        refine X 6 rfl hS0 (R_cat rfl rfl b9) (XE 3 rfl (.inl ⟨_, _, R_strOf Tryz.underlying54 Tryz.underlying5 Tryz.underlying9 rfl (K.mono (Pl.mono _) hST.sub_hp), ⟨hS0, ?_⟩⟩))
        replace f := Option.some.inj f; subst f
        refine PX_at (by kernel_rfl) (M _ _ ⟨((strI g.Key)), d1, _, (hST.sel St), x, rfl, rfl, rfl, Z⟩)
    replace c := if_f I c
    refine CW_skip (bq_n (sq_n ?_))
    replace hST := hST.sel (Db St)
    exact ⟨eI, _, ⟨rfl, eN⟩, (hST.sel St), y, x, U, (by rw [c2]; exact c)⟩
  rintro E W ⟨Q, ⟨eI, eN⟩, hST, y, x, U, c⟩
  rw [List.drop_length] at c
  rw [m_ref34_Make_L1] at c
  refine sq_n ?_
  replace hST := hST.sel (Kb (Db St))
  refine CW_seq (CW_region (V (R_build (qs := #[]) (v := (.agg #[(.int .i64 0), (.string (((⟨zS, zS⟩ : Role)).Owner)), (.string (((⟨zS, zS⟩ : Role)).Word)), (.string zS), (.string (((⟨zS, zS⟩ : Role)).Owner)), (.string (((⟨zS, zS⟩ : Role)).Word)), (.string (((⟨zS, zS⟩ : Role)).Owner)), (.string (((⟨zS, zS⟩ : Role)).Word)), (.string zS), (.slice none 0 0)])) parts0 (run_build Tryz.zeroValue56 Tryz.underlying56 (pl56 _ Tryz.underlying56) (by kernel_rfl))) (VO (F_store (.agg #[(.int .i64 0), (.string (((⟨zS, zS⟩ : Role)).Owner)), (.string (((⟨zS, zS⟩ : Role)).Word)), (.string zS), (.string (((⟨zS, zS⟩ : Role)).Owner)), (.string (((⟨zS, zS⟩ : Role)).Word)), (.string (((⟨zS, zS⟩ : Role)).Owner)), (.string (((⟨zS, zS⟩ : Role)).Word)), (.string zS), (.slice none 0 0)]) (#[(.int .i64 0), (.string (((⟨zS, zS⟩ : Role)).Owner)), (.string (((⟨zS, zS⟩ : Role)).Word)), (.string zS), (.string (((⟨zS, zS⟩ : Role)).Owner)), (.string (((⟨zS, zS⟩ : Role)).Word)), (.string (((⟨zS, zS⟩ : Role)).Owner)), (.string (((⟨zS, zS⟩ : Role)).Word)), (.string zS), (.slice none 0 0)]) hST x rfl Tryz.sizeOf56 (by simp [Value.cells, Value.oneCell']) (Nat.le_of_ble_eq_true rfl) rfl (fun e8 hST => V (R_assign rfl) (LW_nil (sq_n (CW_ret ?_))))))))
  replace c := Option.some.inj c; subst c
  exact retQ_ct (v0 := (.agg #[(.int .i64 0), (.string (((⟨zS, zS⟩ : Role)).Owner)), (.string (((⟨zS, zS⟩ : Role)).Word)), (.string zS), (.string (((⟨zS, zS⟩ : Role)).Owner)), (.string (((⟨zS, zS⟩ : Role)).Word)), (.string (((⟨zS, zS⟩ : Role)).Owner)), (.string (((⟨zS, zS⟩ : Role)).Word)), (.string zS), (.slice none 0 0)])) (v1 := (.int .i64 21)) rfl x (load_boxA hST.has Mh [(.int .i64 0), (.string (((⟨zS, zS⟩ : Role)).Owner)), (.string (((⟨zS, zS⟩ : Role)).Word)), (.string zS), (.string (((⟨zS, zS⟩ : Role)).Owner)), (.string (((⟨zS, zS⟩ : Role)).Word)), (.string (((⟨zS, zS⟩ : Role)).Owner)), (.string (((⟨zS, zS⟩ : Role)).Word)), (.string zS), (.slice none 0 0)] rfl Tryz.isAgg56 Tryz.sizeOf56) rfl ⟨_, _, _, rfl, (hST.bkM Sn), (Sub.refl _), Lo.refl, (ST.sub_hpx hST (Sel.mem Sn)), (.slice none 0 0), rfl, rfl, (Sl.nil _ _ _)⟩
theorem w_ref06_Same (c : Signed) (k : Value) (f : Signed) (t : Value) (r : Bool) (w : World) (i : Sl (Pl (encIk .u8)) 1 (hp w) k c.Tag) (j : Sl (Pl (encIk .u8)) 1 (hp w) t f.Tag) (hm : m_ref06_Same c f = some r) :
    Gives true Tryz.prog 38 [(.agg #[(.int .i64 c.Cred.Kind), (.string c.Cred.Head.Owner), (.string c.Cred.Head.Word), (.string c.Cred.Who), (.string c.Cred.B.Owner), (.string c.Cred.B.Word), (.string c.Cred.C.Owner), (.string c.Cred.C.Word), (.string c.Cred.Word2), k]), (.agg #[(.int .i64 f.Cred.Kind), (.string f.Cred.Head.Owner), (.string f.Cred.Head.Word), (.string f.Cred.Who), (.string f.Cred.B.Owner), (.string f.Cred.B.Word), (.string f.Cred.C.Owner), (.string f.Cred.C.Word), (.string f.Cred.Word2), t])] w (.bool r) := by
  have hST := ST.start (dd := true) w
  unfold m_ref06_Same at hm
  refine calls_of_CW (n := 19) Tryz.func38 rfl rfl (Nat.le_of_ble_eq_true rfl) (CW_seq (CW_region ?_))
  obtain ⟨G, I, rfl⟩ := i.form
  refine VE (E_box (v := (.agg #[(.int .i64 c.Cred.Kind), (.string c.Cred.Head.Owner), (.string c.Cred.Head.Word), (.string c.Cred.Who), (.string c.Cred.B.Owner), (.string c.Cred.B.Word), (.string c.Cred.C.Owner), (.string c.Cred.C.Word), (.string c.Cred.Word2), (.slice G c.Tag.length I)])) hST rfl (fun Q U hST => ?_))
  obtain ⟨H, K, rfl⟩ := j.form
  refine VE (E_box (v := (.agg #[(.int .i64 f.Cred.Kind), (.string f.Cred.Head.Owner), (.string f.Cred.Head.Word), (.string f.Cred.Who), (.string f.Cred.B.Owner), (.string f.Cred.B.Word), (.string f.Cred.C.Owner), (.string f.Cred.C.Word), (.string f.Cred.Word2), (.slice H f.Tag.length K)])) hST rfl (fun T Y hST => V (R_assign rfl) (LW_nil (sq_n (CW_seq (CW_region (V (R_field fa56_0 rfl) (V (R_load rfl (load_boxA hST.has (Mt Mh) (encCred c.Cred) rfl Tryz.isAgg53 Tryz.sizeOf53)) (V (R_field fa56_0 rfl) (V (R_load rfl (load_boxA hST.has Mh (encCred f.Cred) rfl Tryz.isAgg53 Tryz.sizeOf53)) (V (R_eql rfl rfl (guard_agg Tryz.eqGuardType53) (bin_eql (eqInCred _ c.Cred f.Cred))) (V (R_move rfl) ?_))))))))))))
  obtain ⟨N, g, z⟩ := bind_some hm
  refine LW_join (J := fun E W => ∃ (y : Bool) (B : List (Nat × Obj)), ST true NoF w W (hp w) B ∧ E 4 = (.bool false) ∧ E 18 = (.bool y) ∧ some y = some r) 8 ?_ (fun x => ?_)
  · rintro E W ⟨y, B, hST, M, D, u⟩
    refine V (R_assign D) (LW_nil (sq_n (CW_ret ?_)))
    replace u := Option.some.inj u; subst u
    exact retQ_1 (v := (.bool y)) rfl rfl ⟨rfl, hST.ex⟩
  rcases bool_cases ((beqCred c.Cred f.Cred)) with a | a
  · replace g := if_t a g
    refine Vg rfl (congrArg Value.bool a) (R_field fa56_1 rfl) (Vg rfl (congrArg Value.bool a) (R_load rfl (load_box1 hST.has (Mt Mh) rfl Tryz.isAgg54)) (Vg rfl (congrArg Value.bool a) (R_strOf Tryz.underlying54 Tryz.underlying5 Tryz.underlying9 rfl (i.mono (Pl.mono _) hST.sub_hp)) (Vg rfl (congrArg Value.bool a) (R_field fa56_1 rfl) (Vg rfl (congrArg Value.bool a) (R_load rfl (load_box1 hST.has Mh rfl Tryz.isAgg54)) (Vg rfl (congrArg Value.bool a) (R_strOf Tryz.underlying54 Tryz.underlying5 Tryz.underlying9 rfl (j.mono (Pl.mono _) hST.sub_hp)) (Vg rfl (congrArg Value.bool a) (R_str rfl rfl rfl) (V (R_pickT (congrArg Value.bool a) rfl) ?_)))))))
    replace g := Option.some.inj g; subst g
    exact x _ _ ⟨((beqS ((strI c.Tag)) ((strI f.Tag)))), _, (hST.sel (Db (Db St))), rfl, rfl, z⟩
  replace g := if_f a g
  refine Vn rfl (congrArg Value.bool a) (Vn rfl (congrArg Value.bool a) (Vn rfl (congrArg Value.bool a) (Vn rfl (congrArg Value.bool a) (Vn rfl (congrArg Value.bool a) (Vn rfl (congrArg Value.bool a) (Vn rfl (congrArg Value.bool a) (V (R_pickF (congrArg Value.bool a) rfl) ?_)))))))
  replace g := Option.some.inj g; subst g
  exact x _ _ ⟨false, _, (hST.sel (Db (Db St))), rfl, rfl, z⟩
theorem w_ref34_Good (k : Value) (I : List Key) (c : Signed) (j : Value) (r : Bool) (w : World) (M : Sl relKey 2 (hp w) k I) (i : Sl (Pl (encIk .u8)) 1 (hp w) j c.Tag) (hm : m_ref34_Good I c = some r) :
    Gives true Tryz.prog 40 [k, (.agg #[(.int .i64 c.Cred.Kind), (.string c.Cred.Head.Owner), (.string c.Cred.Head.Word), (.string c.Cred.Who), (.string c.Cred.B.Owner), (.string c.Cred.B.Word), (.string c.Cred.C.Owner), (.string c.Cred.C.Word), (.string c.Cred.Word2), j])] w (.bool r) := by
  have hST := ST.start (dd := true) w
  unfold m_ref34_Good at hm
  refine calls_of_CW (n := 25) Tryz.func40 rfl rfl (Nat.le_of_ble_eq_true rfl) (CW_seq (CW_region ?_))
  obtain ⟨U, Y, rfl⟩ := i.form
  refine VE (E_box (v := (.agg #[(.int .i64 c.Cred.Kind), (.string c.Cred.Head.Owner), (.string c.Cred.Head.Word), (.string c.Cred.Who), (.string c.Cred.B.Owner), (.string c.Cred.B.Word), (.string c.Cred.C.Owner), (.string c.Cred.C.Word), (.string c.Cred.Word2), (.slice U c.Tag.length Y)])) hST rfl (fun W4 b3 hST => V (R_assign rfl) (LW_nil (sq_n (CW_seq (CW_region (V (R_move rfl) (V (R_field fa56_0 rfl) (V (R_load rfl (load_boxA hST.has Mh (encCred c.Cred) rfl Tryz.isAgg53 Tryz.sizeOf53)) ?_)))))))))
  obtain ⟨f, T, hm⟩ := bind_some hm
  have hsz := hST.size
  refine VE (E_givesD (args := [k, (.agg (encCred c.Cred).toArray)]) (caps := #[]) [] _ hST (List.Perm.refl _) rfl Tryz.call37 (by exact args2 rfl rfl) (fun hH hN hsb hmm => (w_ref34_Make k I c.Cred _ _ ⟨hH, hN, hsb⟩ (M.mono dKey.mono (Sub.refl _)) T)) (fun W7 a8 Z a2 hST N hl10 K => ?_))
  obtain ⟨a9, u, rfl, B⟩ := K
  replace u := u.symm; subst u
  replace hST := hST.perm Tn
  refine V (R_move rfl) (V (R_extract rfl rfl) (V (R_extract rfl rfl) (VE (E_alloc hST Tryz.zeroValue56 (fun a3 a5 hST => ?_)))))
  obtain ⟨D, H, rfl⟩ := B.form
  refine VO (F_store (.agg #[(.int .i64 (((f.1).Cred).Kind)), (.string ((((f.1).Cred).Head).Owner)), (.string ((((f.1).Cred).Head).Word)), (.string (((f.1).Cred).Who)), (.string ((((f.1).Cred).B).Owner)), (.string ((((f.1).Cred).B).Word)), (.string ((((f.1).Cred).C).Owner)), (.string ((((f.1).Cred).C).Word)), (.string (((f.1).Cred).Word2)), (.slice D ((f.1).Tag).length H)]) (#[(.int .i64 (((f.1).Cred).Kind)), (.string ((((f.1).Cred).Head).Owner)), (.string ((((f.1).Cred).Head).Word)), (.string (((f.1).Cred).Who)), (.string ((((f.1).Cred).B).Owner)), (.string ((((f.1).Cred).B).Word)), (.string ((((f.1).Cred).C).Owner)), (.string ((((f.1).Cred).C).Word)), (.string (((f.1).Cred).Word2)), (.slice D ((f.1).Tag).length H)]) hST rfl rfl Tryz.sizeOf56 (by simp [Value.cells, Value.oneCell']) (Nat.le_of_ble_eq_true rfl) rfl (fun a4 hST => V (R_assign rfl) (LW_nil (sq_n (CW_seq (CW_region (V (R_move rfl) (V (R_int rfl rfl rfl) (V (R_move rfl) ?_)))))))))
  obtain ⟨a7, g, z⟩ := bind_some hm
  refine LW_join (J := fun E W => ∃ (y : Bool) (G : List (Nat × Obj)), ST true NoF w W Z G ∧ E 4 = (.bool false) ∧ E 24 = (.bool y) ∧ some y = some r) 8 ?_ (fun x => ?_)
  · rintro E W ⟨y, G, hST, a6, Q, t⟩
    refine V (R_assign Q) (LW_nil (sq_n (CW_ret ?_)))
    replace t := Option.some.inj t; subst t
    exact retQ_1 (v := (.bool y)) rfl rfl ⟨rfl, hST.ex⟩
  rcases bool_cases ((f.2 == 0)) with a | a
  · replace g := if_t a g
    refine Vg rfl (congrArg Value.bool a) (R_field fa56_1 rfl) (Vg rfl (congrArg Value.bool a) (R_load rfl (load_box1 hST.has Mh rfl Tryz.isAgg54)) (Vg rfl (congrArg Value.bool a) (R_strOf Tryz.underlying54 Tryz.underlying5 Tryz.underlying9 rfl (B.mono (Pl.mono _) hST.sub_hp)) (Vg rfl (congrArg Value.bool a) (R_field fa56_1 rfl) (Vg rfl (congrArg Value.bool a) (R_load rfl (load_box1 hST.has (Mt Mh) rfl Tryz.isAgg54)) (Vg rfl (congrArg Value.bool a) (R_strOf Tryz.underlying54 Tryz.underlying5 Tryz.underlying9 rfl (i.mono (Pl.mono _) (N.trans hST.sub_hp))) (Vg rfl (congrArg Value.bool a) (R_str rfl rfl rfl) (V (R_pickT (congrArg Value.bool a) rfl) ?_)))))))
    replace g := Option.some.inj g; subst g
    exact x _ _ ⟨((beqS ((strI ((f.1).Tag))) ((strI c.Tag)))), _, (hST.sel (Db (Db St))), rfl, rfl, z⟩
  replace g := if_f a g
  refine Vn rfl (congrArg Value.bool a) (Vn rfl (congrArg Value.bool a) (Vn rfl (congrArg Value.bool a) (Vn rfl (congrArg Value.bool a) (Vn rfl (congrArg Value.bool a) (Vn rfl (congrArg Value.bool a) (Vn rfl (congrArg Value.bool a) (V (R_pickF (congrArg Value.bool a) rfl) ?_)))))))
  replace g := Option.some.inj g; subst g
  exact x _ _ ⟨false, _, (hST.sel (Db (Db St))), rfl, rfl, z⟩
theorem w_ref06_key (k : Value) (x : List Key) (f : Cred) (r : (ByteArray × Int)) (w : World) (g : Sl relKey 2 (hp w) k x) (hm : m_ref06_key x f = some r) :
    Gives true Tryz.prog 161 [k, (.agg (encCred f).toArray)] w (.tuple #[(.string r.1), (.int .i64 r.2)]) := by
  have hST := ST.start (dd := true) w
  unfold m_ref06_key at hm
  refine calls_of_CW (n := 27) Tryz.func161 rfl rfl (Nat.le_of_ble_eq_true rfl) (CW_seq (CW_region (VE (E_box (v := (.agg (encCred f).toArray)) hST rfl (fun W2 Q hST => V (R_assign rfl) (V (R_assign rfl) (LW_nil (sq_n (CW_seq (CW_seq (CW_region (V (R_load rfl (load_boxA hST.has Mh (encCred f) rfl Tryz.isAgg53 Tryz.sizeOf53)) ?_))))))))))))
  obtain ⟨Y, T, hm⟩ := bind_some hm
  refine VE (E_gives (args := [(.agg (encCred f).toArray)]) hST rfl Tryz.call134 (by exact args1 rfl) ((w_ref05_Right f _ _  T)) (fun W5 hST => V (R_not rfl) (LW_nil (sq_n (CW_if (b := (!Y)) rfl (fun B => ?_) (fun B => ?_))))))
  · replace hm := if_t B hm
    refine CW_seq (CW_region (V (R_assign rfl) (V (R_assign rfl) (LW_nil (sq_n ?_)))))
    replace hST := hST.sel (Db St)
    refine CW_ret (sq_r ?_)
    replace hm := Option.some.inj hm; subst hm
    exact retQ_2 (v := (.string zS)) (u := (.int .i64 11)) rfl rfl rfl ⟨rfl, hST.ex⟩
  replace hm := if_f B hm
  refine CW_skip (sq_n (CW_seq (CW_seq (CW_region (V (R_move rfl) (V (R_len Tryz.underlying49 rfl g) (V (R_move rfl) (LW_nil (sq_n (CW_range (fun i E W => ∃  (t : List (Nat × Obj)), (E 13 = .int .i64 (i : Nat) ∧ E 12 = .int .i64 (x.length : Nat)) ∧ ST true NoF w W (hp w) ((Q, Obj.cells ((encCred f).toArray : Array Value) 53 (0, 0)) :: t) ∧ E 3 = (.pointer (some ⟨Q, 0, none⟩)) ∧ E 11 = k ∧ m_ref06_key_L1 f (x.drop i) = some r) x.length g.len ⟨_, ⟨rfl, rfl⟩, (hST.sel St), rfl, rfl, hm⟩ (by decide) (by decide) (by decide) (fun _ _ _ h => by obtain ⟨_, eIN, _⟩ := h; exact eIN) ?_ ?_))))))))))
  · rintro U E W I ⟨t, ⟨eI, eN⟩, hST, y, z, a⟩
    obtain ⟨c, Z, M, K, N⟩ := drop_cons I
    rw [M] at a
    rw [m_ref06_key_L1] at a
    refine CW_block (CW_seq (CW_region (VQ (R_indexD (i := (U : Int)) (x0 := c) relKey.out Tryz.underlying49 Tryz.sizeOf196 z eI g (Int.natCast_nonneg _) K) (fun a5 ⟨_, ⟨a6, rfl, D⟩, J⟩ => V (R_load rfl (load_atA hST.has J Tryz.isAgg196 Tryz.sizeOf196)) (VE (E_alloc hST Tryz.zeroValue196 (fun a2 a4 hST => ?_)))))))
    obtain ⟨G, H, rfl⟩ := D.form
    refine VO (F_store (.agg #[(.string c.Who), (.slice G c.Key.length H)]) (#[(.string c.Who), (.slice G c.Key.length H)]) hST rfl rfl Tryz.sizeOf196 (by simp [Value.cells, Value.oneCell']) (Nat.le_of_ble_eq_true rfl) rfl (fun a3 hST => LW_nil (sq_n (CW_seq (CW_region (V (R_field fa196_0 rfl) (V (R_load rfl (load_box1 hST.has Mh rfl Tryz.isAgg9)) (V (R_field fa53_1 y) (V (R_field fa28_0 rfl) (V (R_load rfl (load_box1 hST.has (Mt Mh) rfl Tryz.isAgg9)) (V (R_str rfl rfl rfl) (LW_nil (sq_n (CW_if (b := (beqS c.Who f.Head.Owner)) rfl (fun j => ?_) (fun j => ?_)))))))))))))))
    · replace a := if_t j a
      refine CW_seq (CW_region (V (R_field fa196_1 rfl) (V (R_load rfl (load_box1 hST.has Mh rfl Tryz.isAgg54)) (V (R_strOf Tryz.underlying54 Tryz.underlying5 Tryz.underlying9 rfl (D.mono (Pl.mono _) hST.sub_hp)) (V (R_assign rfl) (V (R_assign rfl) (LW_nil (sq_n ?_))))))))
      replace hST := hST.sel (Db (Db St))
      refine CW_ret (bq_r (sq_r (bq_r (sq_r ?_))))
      replace a := Option.some.inj a; subst a
      exact retQ_2 (v := (.string ((strI c.Key)))) (u := (.int .i64 0)) rfl rfl rfl ⟨rfl, hST.ex⟩
    replace a := if_f j a
    refine CW_skip (bq_n (sq_n ?_))
    replace hST := hST.sel (Db St)
    exact ⟨eI, _, ⟨rfl, eN⟩, (hST.sel St), y, z, (by rw [N]; exact a)⟩
  rintro E W ⟨t, ⟨eI, eN⟩, hST, y, z, a⟩
  rw [List.drop_length] at a
  rw [m_ref06_key_L1] at a
  refine sq_n ?_
  replace hST := hST.sel (Db St)
  refine CW_seq (CW_region (V (R_assign rfl) (V (R_assign rfl) (LW_nil (sq_n (CW_ret ?_))))))
  replace a := Option.some.inj a; subst a
  exact retQ_2 (v := (.string zS)) (u := (.int .i64 21)) rfl rfl rfl ⟨rfl, hST.ex⟩
theorem w_ref06_Check (x : Value) (N : List Key) (f : Signed) (k : Value) (r : Int) (w : World) (Q : Sl relKey 2 (hp w) x N) (i : Sl (Pl (encIk .u8)) 1 (hp w) k f.Tag) (hm : m_ref06_Check N f = some r) :
    Gives true Tryz.prog 59 [x, (.agg #[(.int .i64 f.Cred.Kind), (.string f.Cred.Head.Owner), (.string f.Cred.Head.Word), (.string f.Cred.Who), (.string f.Cred.B.Owner), (.string f.Cred.B.Word), (.string f.Cred.C.Owner), (.string f.Cred.C.Word), (.string f.Cred.Word2), k])] w (.int .i64 r) := by
  have hST := ST.start (dd := true) w
  unfold m_ref06_Check at hm
  refine calls_of_CW (n := 28) Tryz.func59 rfl rfl (Nat.le_of_ble_eq_true rfl) (CW_seq (CW_region ?_))
  obtain ⟨Z, c2, rfl⟩ := i.form
  refine VE (E_box (v := (.agg #[(.int .i64 f.Cred.Kind), (.string f.Cred.Head.Owner), (.string f.Cred.Head.Word), (.string f.Cred.Who), (.string f.Cred.B.Owner), (.string f.Cred.B.Word), (.string f.Cred.C.Owner), (.string f.Cred.C.Word), (.string f.Cred.Word2), (.slice Z f.Tag.length c2)])) hST rfl (fun W4 b3 hST => V (R_assign rfl) (LW_nil (sq_n (CW_seq (CW_region (V (R_move rfl) (V (R_field fa56_0 rfl) (V (R_load rfl (load_boxA hST.has Mh (encCred f.Cred) rfl Tryz.isAgg53 Tryz.sizeOf53)) ?_)))))))))
  obtain ⟨t, a5, hm⟩ := bind_some hm
  refine VE (E_gives (args := [x, (.agg (encCred f.Cred).toArray)]) hST rfl Tryz.call161 (by exact args2 rfl rfl) ((w_ref06_key x N f.Cred _ _ (Q.mono dKey.mono hST.sub_hp) a5)) (fun W7 hST => V (R_move rfl) (V (R_extract rfl rfl) (V (R_extract rfl rfl) (V (R_assign rfl) (V (R_assign rfl) (LW_nil (sq_n (CW_seq (CW_seq ?_))))))))))
  replace hST := hST.drew
  have hS0 := hST.has.sel (Kb Sn)
  refine PX_start1 hS0 Tryz_mixed (X 0 rfl hS0 (R_move rfl) (X 1 rfl hS0 (R_int rfl rfl rfl) (X 2 rfl hS0 (R_move rfl) ?_)))
  obtain ⟨b4, c, u⟩ := bind_some hm
  refine PX_join (J := fun E W => ∃ (B : Bool) (M : List (Nat × Obj)), ST true NoF w W (hp w) ((b3, Obj.cells (#[(.int .i64 f.Cred.Kind), (.string f.Cred.Head.Owner), (.string f.Cred.Head.Word), (.string f.Cred.Who), (.string f.Cred.B.Owner), (.string f.Cred.B.Word), (.string f.Cred.C.Owner), (.string f.Cred.C.Word), (.string f.Cred.Word2), (.slice Z f.Tag.length c2)] : Array Value) 56 (0, 0)) :: M) ∧ E 6 = (.int .i64 t.2) ∧ E 26 = (.bool B) ∧ (if B then some 20 else some t.2) = some r) #[true, true, true, true, true, true, true, true, true, true, true, true, true] 0 ?_ (fun j => ?_)
  · rintro E W ⟨B, M, hST, a3, a4, g⟩
    have hS0 := hST.has.sel (Kb Sn)
    refine PX_done (by kernel_rfl) (sq_n ?_)
    replace hST := hST.sel (Db St)
    refine CW_if (b := B) a4 (fun y => ?_) (fun y => ?_)
    · replace g := if_t y g
      refine CW_seq (CW_region (V (R_assign rfl) (LW_nil (sq_n (CW_ret (sq_r ?_))))))
      replace g := Option.some.inj g; subst g
      exact retQ_1 (v := (.int .i64 20)) rfl rfl ⟨rfl, hST.ex⟩
    replace g := if_f y g
    refine CW_skip (sq_n (CW_seq (CW_region (V (R_move a3) (V (R_assign rfl) (LW_nil (sq_n (CW_ret ?_))))))))
    replace g := Option.some.inj g; subst g
    exact retQ_1 (v := (.int .i64 t.2)) rfl rfl ⟨rfl, hST.ex⟩
  rcases bool_cases ((t.2 == 0)) with a | a
  · replace c := if_t a c
    refine Xg 3 rfl rfl (congrArg Value.bool a) hS0 (R_move rfl) (Xg 4 rfl rfl (congrArg Value.bool a) hS0 (R_field fa56_0 rfl) (XgH 5 rfl rfl (congrArg Value.bool a) hS0 (fun _ hS => R_load rfl (load_boxA hS Mh (encCred f.Cred) rfl Tryz.isAgg53 Tryz.sizeOf53)) (Xg 8 rfl rfl (congrArg Value.bool a) hS0 (R_field fa56_1 rfl) (XgH 9 rfl rfl (congrArg Value.bool a) hS0 (fun _ hS => R_load rfl (load_box1 hS Mh rfl Tryz.isAgg54)) (PX_two 6 10 rfl rfl (by kernel_rfl) (.inr ⟨2, true, 16, rfl, rfl, by decide, (congrArg Value.bool a)⟩) (.inr ⟨2, true, 16, rfl, rfl, by decide, (congrArg Value.bool a)⟩) rfl rfl (by decide) (by decide) ?_ ?_)))))
    · obtain ⟨z, T, c⟩ := bind_some c
      refine E_gives (args := [(.agg (encCred f.Cred).toArray)]) hST rfl Tryz.call141 (by exact args1 rfl) ((w_ref05_Bytes f.Cred _ _  T)) (fun b2 hST => ?_)
      have hS0 := hST.has.sel (Kb Sn)
      refine ⟨hS0, (PX_two 7 10 rfl rfl (by kernel_rfl) (.inr ⟨2, true, 16, rfl, rfl, by decide, (congrArg Value.bool a)⟩) (.inr ⟨2, true, 16, rfl, rfl, by decide, (congrArg Value.bool a)⟩) rfl rfl (by decide) (by decide) ?_ ?_)⟩
      · obtain ⟨a6, G, c⟩ := bind_some c
        refine E_gives (args := [(.string t.1), (.string z)]) hST rfl Tryz.call140 (by exact args2 rfl rfl) ((w_ref02_Make t.1 z _ _  G)) (fun a7 hST => ?_)
        have hS0 := hST.has.sel (Kb Sn)
        refine ⟨hS0, (PX_e 10 rfl (by kernel_rfl) (.inr ⟨2, true, 16, rfl, rfl, by decide, (congrArg Value.bool a)⟩) rfl (by decide) (.inl ⟨_, _, R_strOf Tryz.underlying54 Tryz.underlying5 Tryz.underlying9 rfl (i.mono (Pl.mono _) hST.sub_hp), ⟨hS0, (Xg 11 rfl rfl (congrArg Value.bool a) hS0 (R_str rfl rfl rfl) (X 12 rfl hS0 (R_pickT (congrArg Value.bool a) rfl) ?_))⟩⟩))⟩
        replace c := Option.some.inj c; subst c
        refine PX_at (by kernel_rfl) (j _ _ ⟨((!(beqS a6 ((strI f.Tag))))), _, (hST.sel St), rfl, rfl, u⟩)
      · refine .inl ⟨_, _, R_strOf Tryz.underlying54 Tryz.underlying5 Tryz.underlying9 rfl (i.mono (Pl.mono _) hST.sub_hp), ⟨hS0, ?_⟩⟩
        obtain ⟨U, H, c⟩ := bind_some c
        refine XgE 7 rfl rfl (congrArg Value.bool a) (E_gives (args := [(.string t.1), (.string z)]) hST rfl Tryz.call140 (by exact args2 rfl rfl) ((w_ref02_Make t.1 z _ _  H)) (fun a8 hST => ?_))
        have hS0 := hST.has.sel (Kb Sn)
        refine ⟨hS0, (Xg 11 rfl rfl (congrArg Value.bool a) hS0 (R_str rfl rfl rfl) (X 12 rfl hS0 (R_pickT (congrArg Value.bool a) rfl) ?_))⟩
        replace c := Option.some.inj c; subst c
        refine PX_at (by kernel_rfl) (j _ _ ⟨((!(beqS U ((strI f.Tag))))), _, (hST.sel St), rfl, rfl, u⟩)
    · refine .inl ⟨_, _, R_strOf Tryz.underlying54 Tryz.underlying5 Tryz.underlying9 rfl (i.mono (Pl.mono _) hST.sub_hp), ⟨hS0, ?_⟩⟩
      obtain ⟨D, I, c⟩ := bind_some c
      refine XgE 6 rfl rfl (congrArg Value.bool a) (E_gives (args := [(.agg (encCred f.Cred).toArray)]) hST rfl Tryz.call141 (by exact args1 rfl) ((w_ref05_Bytes f.Cred _ _  I)) (fun a9 hST => ?_))
      have hS0 := hST.has.sel (Kb Sn)
      refine ⟨hS0, ?_⟩
      obtain ⟨Y, K, c⟩ := bind_some c
      refine XgE 7 rfl rfl (congrArg Value.bool a) (E_gives (args := [(.string t.1), (.string D)]) hST rfl Tryz.call140 (by exact args2 rfl rfl) ((w_ref02_Make t.1 D _ _  K)) (fun b0 hST => ?_))
      have hS0 := hST.has.sel (Kb Sn)
      refine ⟨hS0, (Xg 11 rfl rfl (congrArg Value.bool a) hS0 (R_str rfl rfl rfl) (X 12 rfl hS0 (R_pickT (congrArg Value.bool a) rfl) ?_))⟩
      replace c := Option.some.inj c; subst c
      refine PX_at (by kernel_rfl) (j _ _ ⟨((!(beqS Y ((strI f.Tag))))), _, (hST.sel St), rfl, rfl, u⟩)
  replace c := if_f a c
  refine Xn 3 rfl rfl (congrArg Value.bool a) hS0 (Xn 4 rfl rfl (congrArg Value.bool a) hS0 (Xn 5 rfl rfl (congrArg Value.bool a) hS0 (Xn 6 rfl rfl (congrArg Value.bool a) hS0 (Xn 7 rfl rfl (congrArg Value.bool a) hS0 (Xn 8 rfl rfl (congrArg Value.bool a) hS0 (Xn 9 rfl rfl (congrArg Value.bool a) hS0 (Xn 10 rfl rfl (congrArg Value.bool a) hS0 (Xn 11 rfl rfl (congrArg Value.bool a) hS0 (X 12 rfl hS0 (R_pickF (congrArg Value.bool a) rfl) ?_)))))))))
  replace c := Option.some.inj c; subst c
  refine PX_at (by kernel_rfl) (j _ _ ⟨false, _, (hST.sel St), rfl, rfl, u⟩)
theorem w_ref05_bytes (a : Cred) (r : ByteArray) (w : World)  (hm : m_ref05_bytes a = some r) :
    Gives true Tryz.prog 253 [(.agg (encCred a).toArray)] w (.string r) := by
  have hST := ST.start (dd := true) w
  unfold m_ref05_bytes at hm
  refine calls_of_CW (n := 8) Tryz.func253 rfl rfl (Nat.le_of_ble_eq_true rfl) (CW_seq (CW_region (VE (E_box (v := (.agg (encCred a).toArray)) hST rfl (fun k x hST => V (R_assign rfl) (LW_nil (sq_n (CW_seq (CW_seq (CW_region (V (R_load rfl (load_boxA hST.has Mh (encCred a) rfl Tryz.isAgg53 Tryz.sizeOf53)) ?_)))))))))))
  obtain ⟨i, f, hm⟩ := bind_some hm
  refine VE (E_gives (args := [(.agg (encCred a).toArray)]) hST rfl Tryz.call134 (by exact args1 rfl) ((w_ref05_Right a _ _  f)) (fun t hST => V (R_not rfl) (LW_nil (sq_n (CW_if (b := (!i)) rfl (fun c => ?_) (fun c => ?_))))))
  · replace hm := if_t c hm
    refine CW_seq (CW_region (V (R_assign rfl) (LW_nil (sq_n ?_))))
    replace hST := hST.sel (Db St)
    refine CW_ret (sq_r ?_)
    replace hm := Option.some.inj hm; subst hm
    exact retQ_1 (v := (.string zS)) rfl rfl ⟨rfl, hST.ex⟩
  replace hm := if_f c hm
  refine CW_skip (sq_n (CW_seq (CW_region (V (R_load rfl (load_boxA hST.has Mh (encCred a) rfl Tryz.isAgg53 Tryz.sizeOf53)) ?_))))
  obtain ⟨j, g, hm⟩ := bind_some hm
  refine VE (E_gives (args := [(.agg (encCred a).toArray)]) hST rfl Tryz.call141 (by exact args1 rfl) ((w_ref05_Bytes a _ _  g)) (fun u hST => V (R_assign rfl) (LW_nil (sq_n ?_))))
  replace hST := hST.sel (Db St)
  refine CW_ret ?_
  replace hm := Option.some.inj hm; subst hm
  exact retQ_1 (v := (.string j)) rfl rfl ⟨rfl, hST.ex⟩
theorem w_ref05_Compare (f : Cred) (g : Cred) (r : Int) (w : World)  (hm : m_ref05_Compare f g = some r) :
    Gives true Tryz.prog 135 [(.agg (encCred f).toArray), (.agg (encCred g).toArray)] w (.int .i64 r) := by
  have hST := ST.start (dd := true) w
  unfold m_ref05_Compare at hm
  refine calls_of_CW (n := 17) Tryz.func135 rfl rfl (Nat.le_of_ble_eq_true rfl) (CW_seq (CW_region (VE (E_box (v := (.agg (encCred f).toArray)) hST rfl (fun x B hST => VE (E_box (v := (.agg (encCred g).toArray)) hST rfl (fun y D hST => V (R_assign rfl) (LW_nil (sq_n (CW_seq (CW_region (V (R_load rfl (load_boxA hST.has (Mt Mh) (encCred f) rfl Tryz.isAgg53 Tryz.sizeOf53)) ?_))))))))))))
  obtain ⟨i, k, hm⟩ := bind_some hm
  refine VE (E_gives (args := [(.agg (encCred f).toArray)]) hST rfl Tryz.call253 (by exact args1 rfl) ((w_ref05_bytes f _ _  k)) (fun z hST => V (R_assign rfl) (LW_nil (sq_n ?_))))
  replace hST := hST.sel (Kb (Db St))
  refine CW_seq (CW_region (V (R_load rfl (load_boxA hST.has Mh (encCred g) rfl Tryz.isAgg53 Tryz.sizeOf53)) ?_))
  obtain ⟨j, t, hm⟩ := bind_some hm
  refine VE (E_gives (args := [(.agg (encCred g).toArray)]) hST rfl Tryz.call253 (by exact args1 rfl) ((w_ref05_bytes g _ _  t)) (fun u hST => V (R_assign rfl) (LW_nil (sq_n ?_))))
  replace hST := hST.sel (Db St)
  refine CW_seq (CW_seq (CW_region (V (R_move rfl) (V (R_move rfl) (V (R_str rfl rfl rfl) (LW_nil (sq_n (CW_if (b := (ltS i j)) rfl (fun a => ?_) (fun a => ?_)))))))))
  · replace hm := if_t a hm
    refine CW_seq (CW_region (V (R_assign rfl) (LW_nil (sq_n (CW_ret (sq_r ?_))))))
    replace hm := Option.some.inj hm; subst hm
    exact retQ_1 (v := (.int .i64 ((-1)))) rfl rfl ⟨rfl, hST.ex⟩
  replace hm := if_f a hm
  refine CW_skip (sq_n (CW_seq (CW_seq (CW_region (V (R_move rfl) (V (R_move rfl) (V (R_str rfl rfl rfl) (LW_nil (sq_n (CW_if (b := (!(ltS i j || beqS i j))) rfl (fun c => ?_) (fun c => ?_)))))))))))
  · replace hm := if_t c hm
    refine CW_seq (CW_region (V (R_assign rfl) (LW_nil (sq_n (CW_ret (sq_r ?_))))))
    replace hm := Option.some.inj hm; subst hm
    exact retQ_1 (v := (.int .i64 1)) rfl rfl ⟨rfl, hST.ex⟩
  replace hm := if_f c hm
  refine CW_skip (sq_n (CW_seq (CW_region (V (R_assign rfl) (LW_nil (sq_n (CW_ret ?_)))))))
  replace hm := Option.some.inj hm; subst hm
  exact retQ_1 (v := (.int .i64 0)) rfl rfl ⟨rfl, hST.ex⟩
theorem w_ref05_Set (M : Value) (a0 : List Cred) (r : List Cred) (w : World) (f6 : Sl (Pl encCred) 9 (hp w) M a0) (hm : m_ref05_Set a0 = some r) :
    GivesRow true Tryz.prog 33 [M] w 53 encCred 9 r := by
  have hST := ST.start (dd := true) w
  unfold m_ref05_Set at hm
  refine calls_of_CW (n := 51) Tryz.func33 rfl rfl (Nat.le_of_ble_eq_true rfl) (CW_seq (CW_region (V (R_assign rfl) (LW_nil (sq_n (CW_seq (CW_region (V (R_assign rfl) (LW_nil (sq_n (CW_tail (CW_block (CW_loop (fun m E W => ∃ (H : Value) (B : List Cred) (G : List (Nat × Obj)) (e1 : List (Nat × Obj)), ST true NoF w W (hp w) (G ++ e1) ∧ E 0 = M ∧ E 3 = H ∧ Row 53 encCred 9 H B G ∧ m_ref05_Set_L1 a0 m B = some r) FUEL ⟨(.slice none 0 0), ([]), [], _, (hST.sel St), rfl, rfl, (Row.nil _ _ _), hm⟩ ?_)))))))))))))
  rintro m E W ⟨H, B, G, e1, hST, e7, h2, N, a8⟩
  cases m with
  | zero => rw [m_ref05_Set_L1] at a8; cases a8
  | succ f4 =>
    rw [m_ref05_Set_L1] at a8
    refine CW_block (CW_seq (CW_region (VE (E_alloc hST Tryz.zeroValue53 (fun k4 z hST => LW_nil (sq_n (CW_seq (CW_region (V (R_assign rfl) (LW_nil (sq_n (CW_seq (CW_seq (CW_region (V (R_move e7) ?_)))))))))))))))
    refine V (R_len Tryz.underlying22 rfl f6) (V (R_move rfl) (LW_nil (sq_n ?_)))
    obtain ⟨d4, g0, g1⟩ := bind_some a8
    refine CW_cut (fun E W => ∃ (b3 : Bool) (U : Cred) (e2 : List (Nat × Obj)), ST true NoF w W (hp w) ((z, Obj.cells ((encCred U).toArray : Array Value) 53 (0, 0)) :: (G ++ e2)) ∧ E 0 = M ∧ E 3 = H ∧ E 4 = (.pointer (some ⟨z, 0, none⟩)) ∧ E 5 = (.bool b3) ∧ (if (!b3) then some B else (((appB 136 B ([U]))).bind fun d2 => (m_ref05_Set_L1 a0 f4 d2))) = some r) ?_ ?_
    · refine CW_range (fun i E W => ∃ (x : Bool) (k : Cred) (c0 : List (Nat × Obj)), (E 10 = .int .i64 (i : Nat) ∧ E 9 = .int .i64 (a0.length : Nat)) ∧ ST true NoF w W (hp w) ((z, Obj.cells ((encCred k).toArray : Array Value) 53 (0, 0)) :: (G ++ c0)) ∧ E 0 = M ∧ E 3 = H ∧ E 4 = (.pointer (some ⟨z, 0, none⟩)) ∧ E 5 = (.bool x) ∧ E 8 = M ∧ m_ref05_Set_L2 B (a0.drop i) x k = some d4) a0.length f6.len ⟨false, ((⟨0, (⟨zS, zS⟩ : Role), zS, (⟨zS, zS⟩ : Role), (⟨zS, zS⟩ : Role), zS⟩ : Cred)), _, ⟨rfl, rfl⟩, (hST.sel St), e7, h2, rfl, rfl, rfl, g0⟩ (by decide) (by decide) (by decide) (fun _ _ _ h => by obtain ⟨_, _, _, eIN, _⟩ := h; exact eIN) ?_ ?_
      · rintro a6 E W f9 ⟨x, k, c0, ⟨eI, eN⟩, hST, a2, T, a3, a4, a5, y⟩
        obtain ⟨c, a9, g9, g8, e0⟩ := drop_cons f9
        rw [g9] at y
        rw [m_ref05_Set_L2] at y
        refine CW_block (CW_seq (CW_region (VQ (R_indexP (enc := encCred) (i := (a6 : Int)) (x0 := c) Tryz.underlying22 Tryz.sizeOf53 a5 eI f6 (Int.natCast_nonneg _) g8) (fun l3 g3 => V (R_load rfl (load_atA hST.has g3 Tryz.isAgg53 Tryz.sizeOf53)) (VE (E_alloc hST Tryz.zeroValue53 (fun k7 Q hST => VO (F_store (.agg (encCred c).toArray) ((encCred c).toArray) hST rfl rfl Tryz.sizeOf53 (oneCred c) (Nat.le_of_ble_eq_true rfl) rfl (fun k8 hST => LW_nil (sq_n (CW_seq ?_)))))))))))
        replace hST := hST.drew
        have hS0 := hST.has.sel (Kb (Kb (Kr Sn)))
        refine PX_start1 hS0 Tryz_mixed (XH 0 rfl hS0 (fun _ hS => R_load rfl (load_boxA hS Mh (encCred c) rfl Tryz.isAgg53 Tryz.sizeOf53)) ?_)
        obtain ⟨f5, g5, y⟩ := bind_some y
        refine XE 1 rfl (E_gives (args := [(.agg (encCred c).toArray)]) hST rfl Tryz.call134 (by exact args1 rfl) ((w_ref05_Right c _ _  g5)) (fun k9 hST => ?_))
        have hS0 := hST.has.sel (Kb (Kb (Kr Sn)))
        refine ⟨hS0, (X 2 rfl hS0 (R_move rfl) ?_)⟩
        obtain ⟨k2, K, d8⟩ := bind_some y
        refine PX_join (J := fun E W => ∃ (a7 : Bool) (e3 : List (Nat × Obj)), ST true NoF w W (hp w) ((Q, Obj.cells ((encCred c).toArray : Array Value) 53 (0, 0)) :: ((z, Obj.cells ((encCred k).toArray : Array Value) 53 (0, 0)) :: (G ++ e3))) ∧ E 0 = M ∧ E 3 = H ∧ E 4 = (.pointer (some ⟨z, 0, none⟩)) ∧ E 5 = (.bool x) ∧ E 7 = (.pointer (some ⟨Q, 0, none⟩)) ∧ E 8 = M ∧ E 9 = (.int .i64 ((a0.length : Int))) ∧ E 10 = (.int .i64 ((a6 : Int))) ∧ E 31 = (.bool a7) ∧ (((if a7 then (((if (!x) then some true else (((m_ref05_Compare c k)).bind fun d3 => some ((decide (d3 < 0))))) : Option Bool).bind fun a1 => some a1) else some false) : Option Bool).bind fun Z => (if Z then (m_ref05_Set_L2 B a9 true c) else (m_ref05_Set_L2 B a9 x k))) = some d4) #[true, true, true, true, true, true, true, true, true, true, true, true, true, true, true, true, true, true, false, false, false, false, false, false, false, false, false, false] 10 ?_ (fun d0 => ?_)
        · rintro E W ⟨a7, e3, hST, c2, c3, b0, b1, b2, c4, c5, c6, h6, g2⟩
          have hS0 := hST.has.sel (Kb (Kb (Kr Sn)))
          refine X 18 rfl hS0 (R_move h6) ?_
          obtain ⟨k1, I, d6⟩ := bind_some g2
          refine PX_join (J := fun E W => ∃ (Z : Bool) (e4 : List (Nat × Obj)), ST true NoF w W (hp w) ((Q, Obj.cells ((encCred c).toArray : Array Value) 53 (0, 0)) :: ((z, Obj.cells ((encCred k).toArray : Array Value) 53 (0, 0)) :: (G ++ e4))) ∧ E 0 = M ∧ E 3 = H ∧ E 4 = (.pointer (some ⟨z, 0, none⟩)) ∧ E 5 = (.bool x) ∧ E 7 = (.pointer (some ⟨Q, 0, none⟩)) ∧ E 8 = M ∧ E 9 = (.int .i64 ((a0.length : Int))) ∧ E 10 = (.int .i64 ((a6 : Int))) ∧ E 41 = (.bool Z) ∧ (if Z then (m_ref05_Set_L2 B a9 true c) else (m_ref05_Set_L2 B a9 x k)) = some d4) #[true, true, true, true, true, true, true, true, true, true, true, true, true, true, true, true, true, true, true, true, true, true, true, true, true, true, true, true] 0 ?_ (fun c8 => ?_)
          · rintro E W ⟨Z, e4, hST, e9, f0, c7, h7, h8, f1, f2, f3, h9, Y⟩
            have hS0 := hST.has.sel (Kb (Kb (Kr Sn)))
            refine PX_done (by kernel_rfl) (sq_n (CW_if (b := Z) h9 (fun b6 => ?_) (fun b6 => ?_)))
            · replace Y := if_t b6 Y
              refine CW_seq (CW_region (V (R_load h8 (load_boxA hST.has Mh (encCred c) rfl Tryz.isAgg53 Tryz.sizeOf53)) ?_))
              replace hST := hST.perm (Nb (Pb Pz) Nz)
              refine VO (F_store (.agg (encCred c).toArray) ((encCred c).toArray) hST c7 rfl Tryz.sizeOf53 (oneCred c) (Nat.le_of_ble_eq_true rfl) rfl (fun l0 hST => LW_nil (sq_n ?_)))
              replace hST := hST.sel (Kb (Db St))
              exact CW_region (V (R_assign rfl) (LW_nil (bq_n (sq_n ⟨f3, true, c, _, ⟨rfl, f2⟩, (hST.sel St), e9, f0, c7, rfl, f1, (by rw [e0]; exact Y)⟩))))
            replace Y := if_f b6 Y
            refine CW_skip (bq_n (sq_n ?_))
            replace hST := hST.sel (Db St)
            exact ⟨f3, x, k, _, ⟨rfl, f2⟩, (hST.sel St), e9, f0, c7, h7, f1, (by rw [e0]; exact Y)⟩
          rcases bool_cases a7 with g | g
          · replace I := if_t g I
            refine Xg 19 rfl rfl (congrArg Value.bool g) hS0 (R_move b1) (Xg 20 rfl rfl (congrArg Value.bool g) hS0 (R_not rfl) (Xg 21 rfl rfl (congrArg Value.bool g) hS0 (R_move rfl) ?_))
            obtain ⟨l5, u, d7⟩ := bind_some I
            refine PX_join (J := fun E W => ∃ (a1 : Bool) (e5 : List (Nat × Obj)), ST true NoF w W (hp w) ((Q, Obj.cells ((encCred c).toArray : Array Value) 53 (0, 0)) :: ((z, Obj.cells ((encCred k).toArray : Array Value) 53 (0, 0)) :: (G ++ e5))) ∧ E 0 = M ∧ E 3 = H ∧ E 4 = (.pointer (some ⟨z, 0, none⟩)) ∧ E 5 = (.bool x) ∧ E 7 = (.pointer (some ⟨Q, 0, none⟩)) ∧ E 8 = M ∧ E 9 = (.int .i64 ((a0.length : Int))) ∧ E 10 = (.int .i64 ((a6 : Int))) ∧ E 32 = (.bool a7) ∧ E 40 = (.bool a1) ∧ some a1 = some k1) #[true, true, true, true, true, true, true, true, true, true, true, true, true, true, true, true, true, true, true, true, true, true, true, true, true, true, true, false] 1 ?_ (fun c9 => ?_)
            · rintro E W ⟨a1, e5, hST, i0, i1, i2, i3, i4, i5, i6, i7, i8, i9, b7⟩
              have hS0 := hST.has.sel (Kb (Kb (Kr Sn)))
              refine X 27 rfl hS0 (R_pickT (i8.trans (congrArg Value.bool g)) i9) ?_
              replace b7 := Option.some.inj b7; subst b7
              refine PX_at (by kernel_rfl) (c8 _ _ ⟨a1, _, (hST.sel St), i0, i1, i2, i3, i4, i5, i6, i7, rfl, d6⟩)
            rcases bool_cases ((!x)) with t | t
            · replace u := if_t t u
              refine Xn 22 rfl rfl (congrArg Value.bool t) hS0 (Xn 23 rfl rfl (congrArg Value.bool t) hS0 (Xn 24 rfl rfl (congrArg Value.bool t) hS0 (Xn 25 rfl rfl (congrArg Value.bool t) hS0 (Xg 26 rfl rfl (congrArg Value.bool g) hS0 (R_pickT (congrArg Value.bool t) rfl) ?_))))
              replace u := Option.some.inj u; subst u
              refine PX_at (by kernel_rfl) (c9 _ _ ⟨true, _, (hST.sel St), c2, c3, b0, b1, b2, c4, c5, c6, rfl, rfl, d7⟩)
            replace u := if_f t u
            refine XgH 22 rfl rfl (congrArg Value.bool t) hS0 (fun _ hS => R_load b2 (load_boxA hS Mh (encCred c) rfl Tryz.isAgg53 Tryz.sizeOf53)) (XgH 23 rfl rfl (congrArg Value.bool t) hS0 (fun _ hS => R_load b0 (load_boxA hS (Mt Mh) (encCred k) rfl Tryz.isAgg53 Tryz.sizeOf53)) ?_)
            obtain ⟨d3, g6, u⟩ := bind_some u
            refine XgE 24 rfl rfl (congrArg Value.bool t) (E_gives (args := [(.agg (encCred c).toArray), (.agg (encCred k).toArray)]) hST rfl Tryz.call135 (by exact args2 rfl rfl) ((w_ref05_Compare c k _ _  g6)) (fun l1 hST => ?_))
            have hS0 := hST.has.sel (Kb (Kb (Kr Sn)))
            refine ⟨hS0, (Xg 25 rfl rfl (congrArg Value.bool t) hS0 (R_int rfl rfl rfl) (Xg 26 rfl rfl (congrArg Value.bool g) hS0 (R_pickF (congrArg Value.bool t) rfl) ?_))⟩
            replace u := Option.some.inj u; subst u
            refine PX_at (by kernel_rfl) (c9 _ _ ⟨((decide (d3 < 0))), _, (hST.sel St), c2, c3, b0, b1, b2, c4, c5, c6, rfl, rfl, d7⟩)
          replace I := if_f g I
          refine Xn 19 rfl rfl (congrArg Value.bool g) hS0 (Xn 20 rfl rfl (congrArg Value.bool g) hS0 (Xn 21 rfl rfl (congrArg Value.bool g) hS0 (Xu 22 rfl rfl rfl hS0 (Xu 23 rfl rfl rfl hS0 (Xu 24 rfl rfl rfl hS0 (Xu 25 rfl rfl rfl hS0 (Xn 26 rfl rfl (congrArg Value.bool g) hS0 (X 27 rfl hS0 (R_pickF (congrArg Value.bool g) rfl) ?_))))))))
          replace I := Option.some.inj I; subst I
          refine PX_at (by kernel_rfl) (c8 _ _ ⟨false, _, (hST.sel St), c2, c3, b0, b1, b2, c4, c5, c6, rfl, d6⟩)
        rcases bool_cases f5 with f | f
        · replace K := if_t f K
          refine Xg 3 rfl rfl (congrArg Value.bool f) hS0 (R_move T) (Xg 4 rfl rfl (congrArg Value.bool f) hS0 (R_lenRow Tryz.underlying22 rfl N) (Xg 5 rfl rfl (congrArg Value.bool f) hS0 (R_int rfl rfl rfl) (Xg 6 rfl rfl (congrArg Value.bool f) hS0 (R_move rfl) ?_)))
          obtain ⟨l6, j, d9⟩ := bind_some K
          refine PX_join (J := fun E W => ∃ (b4 : Bool) (e6 : List (Nat × Obj)), ST true NoF w W (hp w) ((Q, Obj.cells ((encCred c).toArray : Array Value) 53 (0, 0)) :: ((z, Obj.cells ((encCred k).toArray : Array Value) 53 (0, 0)) :: (G ++ e6))) ∧ E 0 = M ∧ E 3 = H ∧ E 4 = (.pointer (some ⟨z, 0, none⟩)) ∧ E 5 = (.bool x) ∧ E 7 = (.pointer (some ⟨Q, 0, none⟩)) ∧ E 8 = M ∧ E 9 = (.int .i64 ((a0.length : Int))) ∧ E 10 = (.int .i64 ((a6 : Int))) ∧ E 16 = (.bool f5) ∧ E 30 = (.bool b4) ∧ some b4 = some k2) #[true, true, true, true, true, true, true, true, true, true, true, true, true, true, true, true, true, false, false, false, false, false, false, false, false, false, false, false] 11 ?_ (fun d1 => ?_)
          · rintro E W ⟨b4, e6, hST, j0, j1, j2, j3, j4, j5, j6, j7, j8, j9, b8⟩
            have hS0 := hST.has.sel (Kb (Kb (Kr Sn)))
            refine X 17 rfl hS0 (R_pickT (j8.trans (congrArg Value.bool f)) j9) ?_
            replace b8 := Option.some.inj b8; subst b8
            refine PX_at (by kernel_rfl) (d0 _ _ ⟨b4, _, (hST.sel St), j0, j1, j2, j3, j4, j5, j6, j7, rfl, d8⟩)
          rcases bool_cases ((((B.length : Int)) == 0)) with a | a
          · replace j := if_t a j
            refine Xn 7 rfl rfl (congrArg Value.bool a) hS0 (Xn 8 rfl rfl (congrArg Value.bool a) hS0 (Xn 9 rfl rfl (congrArg Value.bool a) hS0 (Xn 10 rfl rfl (congrArg Value.bool a) hS0 (Xn 11 rfl rfl (congrArg Value.bool a) hS0 (Xn 12 rfl rfl (congrArg Value.bool a) hS0 (Xn 13 rfl rfl (congrArg Value.bool a) hS0 (Xn 14 rfl rfl (congrArg Value.bool a) hS0 (Xn 15 rfl rfl (congrArg Value.bool a) hS0 (Xg 16 rfl rfl (congrArg Value.bool f) hS0 (R_pickT (congrArg Value.bool a) rfl) ?_)))))))))
            replace j := Option.some.inj j; subst j
            refine PX_at (by kernel_rfl) (d1 _ _ ⟨true, _, (hST.sel St), a2, T, a3, a4, rfl, a5, eN, eI, rfl, rfl, d9⟩)
          replace j := if_f a j
          refine Xg 7 rfl rfl (congrArg Value.bool a) hS0 (R_move T) (Xg 8 rfl rfl (congrArg Value.bool a) hS0 (R_move T) (Xg 9 rfl rfl (congrArg Value.bool a) hS0 (R_lenRow Tryz.underlying22 rfl N) (Xg 10 rfl rfl (congrArg Value.bool a) hS0 (R_int rfl rfl rfl) ?_)))
          obtain ⟨d5, b9, j⟩ := bind_some j
          refine PX_q 11 rfl (by kernel_rfl) (.inr ⟨6, false, 20, rfl, rfl, by decide, (congrArg Value.bool a)⟩) rfl (by decide) (fun _ _ h => h) hS0 (R_indexRow (i := (IntKind.i64.wrap (((B.length : Int)) - 1))) (x0 := d5) Tryz.underlying22 Tryz.sizeOf53 rfl rfl N (idx_nonneg b9) (idx_get b9)) (fun l4 g4 => XgH 12 rfl rfl (congrArg Value.bool a) hS0 (fun _ hS => R_load rfl (load_ixA hS (fun p hq => (Mt (Mt (Ml hq)))) N lenCred g4 (idx_get b9) Tryz.isAgg53 Tryz.sizeOf53)) (XgH 13 rfl rfl (congrArg Value.bool a) hS0 (fun _ hS => R_load rfl (load_boxA hS Mh (encCred c) rfl Tryz.isAgg53 Tryz.sizeOf53)) ?_))
          obtain ⟨k0, g7, j⟩ := bind_some j
          refine XgE 14 rfl rfl (congrArg Value.bool a) (E_gives (args := [(.agg (encCred d5).toArray), (.agg (encCred c).toArray)]) hST rfl Tryz.call135 (by exact args2 rfl rfl) ((w_ref05_Compare d5 c _ _  g7)) (fun l2 hST => ?_))
          have hS0 := hST.has.sel (Kb (Kb (Kr Sn)))
          refine ⟨hS0, (Xg 15 rfl rfl (congrArg Value.bool a) hS0 (R_int rfl rfl rfl) (Xg 16 rfl rfl (congrArg Value.bool f) hS0 (R_pickF (congrArg Value.bool a) rfl) ?_))⟩
          replace j := Option.some.inj j; subst j
          refine PX_at (by kernel_rfl) (d1 _ _ ⟨((decide (k0 < 0))), _, (hST.sel St), a2, T, a3, a4, rfl, a5, eN, eI, rfl, rfl, d9⟩)
        replace K := if_f f K
        refine Xn 3 rfl rfl (congrArg Value.bool f) hS0 (Xn 4 rfl rfl (congrArg Value.bool f) hS0 (Xn 5 rfl rfl (congrArg Value.bool f) hS0 (Xn 6 rfl rfl (congrArg Value.bool f) hS0 (Xu 7 rfl rfl rfl hS0 (Xu 8 rfl rfl rfl hS0 (Xu 9 rfl rfl rfl hS0 (Xu 10 rfl rfl rfl hS0 (Xu 11 rfl rfl rfl hS0 (Xu 12 rfl rfl rfl hS0 (Xu 13 rfl rfl rfl hS0 (Xu 14 rfl rfl rfl hS0 (Xu 15 rfl rfl rfl hS0 (Xn 16 rfl rfl (congrArg Value.bool f) hS0 (X 17 rfl hS0 (R_pickF (congrArg Value.bool f) rfl) ?_))))))))))))))
        replace K := Option.some.inj K; subst K
        refine PX_at (by kernel_rfl) (d0 _ _ ⟨false, _, (hST.sel St), a2, T, a3, a4, rfl, a5, eN, eI, rfl, d8⟩)
      rintro E W ⟨x, k, c0, ⟨eI, eN⟩, hST, a2, T, a3, a4, a5, y⟩
      rw [List.drop_length] at y
      rw [m_ref05_Set_L2] at y
      refine sq_n ?_
      replace y := Option.some.inj y; subst y
      exact ⟨x, k, _, (hST.sel St), a2, T, a3, a4, g1⟩
    rintro E W ⟨b3, U, e2, hST, h3, e8, h4, h5, D⟩
    refine CW_seq (CW_seq (CW_region (V (R_move h5) (V (R_not rfl) (LW_nil (sq_n (CW_if (b := (!b3)) rfl (fun b5 => ?_) (fun b5 => ?_))))))))
    · replace D := if_t b5 D
      refine CW_seq (CW_region (V (R_move e8) (V (R_assign rfl) (LW_nil (sq_n ?_)))))
      replace hST := hST.sel (Db St)
      refine CW_ret (sq_r (bq_r (sq_r (bq_r (sq_r ?_)))))
      replace D := Option.some.inj D; subst D
      exact retQ_1 (v := H) rfl rfl ⟨_, G, rfl, hST.backRow (fun p hq => (Ml hq)) N.nd, N⟩
    replace D := if_f b5 D
    refine CW_skip (sq_n (CW_region (V (R_move e8) (V (R_load h4 (load_boxA hST.has Mh (encCred U) rfl Tryz.isAgg53 Tryz.sizeOf53)) (VE (E_buildSlice (qs := #[(0, (.agg (encCred U).toArray))]) (cs := (encCred U).toArray) hST (parts1 rfl) (run_lit [(.agg (encCred U).toArray)] Tryz.underlying22 Tryz.sizeOf53 Tryz.zeroValue53 (by decide) rfl (by intro v hv; simp only [List.mem_cons, List.not_mem_nil, or_false] at hv; rcases hv with rfl <;> rfl) rfl rfl) (fun k5 h1 hST => ?_)))))))
    replace hST := hST.perm (Nr (Qb (Qb Qz)) Nz)
    obtain ⟨d2, f8, D⟩ := bind_some D
    refine VE (F_append (enc := encCred) (v := H) (vs := (.slice (some ⟨h1, 0, none⟩) 1 1)) (R := G) hST lenCred (by decide) oneCred Tryz.underlying22 info53.1 info53.2.1 rfl info53.2.2.1 info53.2.2.2 rfl rfl N (Sl.lit (enc := encCred) (l := [U]) lenCred rfl (Nat.le_of_ble_eq_true rfl) rfl (hST.at_ (Ma Mh))) f8 (fun k6 k3 h0 hST f7 => V (R_assign rfl) (LW_nil (bq_n (sq_n ?_)))))
    replace hST := hST.sel (Kr (Db (Db St)))
    exact ⟨f4, Nat.lt_succ_self _, k3, d2, h0, _, (hST.sel St), h3, rfl, f7, D⟩
theorem w_ref06_Good (x : Value) (Q : List Key) (I : Value) (M : List Signed) (r : List Cred) (w : World) (a6 : Sl relKey 2 (hp w) x Q) (H : Sl relSigned 10 (hp w) I M) (hm : m_ref06_Good Q M = some r) :
    GivesRow true Tryz.prog 62 [x, I] w 53 encCred 9 r := by
  have hST := ST.start (dd := true) w
  unfold m_ref06_Good at hm
  refine calls_of_CW (n := 26) Tryz.func62 rfl rfl (Nat.le_of_ble_eq_true rfl) (CW_seq (CW_region (V (R_assign rfl) (LW_nil (sq_n (CW_seq (CW_region (V (R_assign rfl) (LW_nil (sq_n (CW_seq (CW_seq (CW_region (V (R_move rfl) ?_))))))))))))))
  refine V (R_len Tryz.underlying50 rfl H) (V (R_move rfl) (LW_nil (sq_n (CW_range (fun i E W => ∃ (f : Value) (j : List Cred) (g : List (Nat × Obj)) (G : List (Nat × Obj)), (E 10 = .int .i64 (i : Nat) ∧ E 9 = .int .i64 (M.length : Nat)) ∧ ST true NoF w W (hp w) (g ++ G) ∧ E 0 = x ∧ E 5 = f ∧ E 8 = I ∧ Row 53 encCred 9 f j g ∧ m_ref06_Good_L1 Q (M.drop i) j = some r) M.length H.len ⟨(.slice none 0 0), ([]), [], _, ⟨rfl, rfl⟩, (hST.sel St), rfl, rfl, rfl, (Row.nil _ _ _), hm⟩ (by decide) (by decide) (by decide) (fun _ _ _ h => by obtain ⟨_, _, _, _, eIN, _⟩ := h; exact eIN) ?_ ?_))))
  · rintro b5 E W a7 ⟨f, j, g, G, ⟨eI, eN⟩, hST, y, z, B, k, c⟩
    obtain ⟨a, c6, a9, a8, N⟩ := drop_cons a7
    rw [a9] at c
    rw [m_ref06_Good_L1] at c
    refine CW_block (CW_seq (CW_region (VQ (R_indexD (i := (b5 : Int)) (x0 := a) relSigned.out Tryz.underlying50 Tryz.sizeOf56 B eI H (Int.natCast_nonneg _) a8) (fun c3 ⟨_, ⟨c5, rfl, K⟩, Y⟩ => V (R_load rfl (load_atA hST.has Y Tryz.isAgg56 Tryz.sizeOf56)) (VE (E_alloc hST Tryz.zeroValue56 (fun b6 c2 hST => ?_)))))))
    obtain ⟨t, u, rfl⟩ := K.form
    refine VO (F_store (.agg #[(.int .i64 a.Cred.Kind), (.string a.Cred.Head.Owner), (.string a.Cred.Head.Word), (.string a.Cred.Who), (.string a.Cred.B.Owner), (.string a.Cred.B.Word), (.string a.Cred.C.Owner), (.string a.Cred.C.Word), (.string a.Cred.Word2), (.slice t a.Tag.length u)]) (#[(.int .i64 a.Cred.Kind), (.string a.Cred.Head.Owner), (.string a.Cred.Head.Word), (.string a.Cred.Who), (.string a.Cred.B.Owner), (.string a.Cred.B.Word), (.string a.Cred.C.Owner), (.string a.Cred.C.Word), (.string a.Cred.Word2), (.slice t a.Tag.length u)]) hST rfl rfl Tryz.sizeOf56 (by simp [Value.cells, Value.oneCell']) (Nat.le_of_ble_eq_true rfl) rfl (fun b7 hST => LW_nil (sq_n (CW_seq (CW_region (V (R_move y) (V (R_load rfl (load_boxA hST.has Mh [(.int .i64 a.Cred.Kind), (.string a.Cred.Head.Owner), (.string a.Cred.Head.Word), (.string a.Cred.Who), (.string a.Cred.B.Owner), (.string a.Cred.B.Word), (.string a.Cred.C.Owner), (.string a.Cred.C.Word), (.string a.Cred.Word2), (.slice t a.Tag.length u)] rfl Tryz.isAgg56 Tryz.sizeOf56)) ?_)))))))
    obtain ⟨b1, Z, c⟩ := bind_some c
    refine VE (E_gives (args := [x, (.agg #[(.int .i64 a.Cred.Kind), (.string a.Cred.Head.Owner), (.string a.Cred.Head.Word), (.string a.Cred.Who), (.string a.Cred.B.Owner), (.string a.Cred.B.Word), (.string a.Cred.C.Owner), (.string a.Cred.C.Word), (.string a.Cred.Word2), (.slice t a.Tag.length u)])]) hST rfl Tryz.call59 (by exact args2 rfl rfl) ((w_ref06_Check x Q a (.slice t a.Tag.length u) _ _ (a6.mono dKey.mono hST.sub_hp) (K.mono (Pl.mono _) hST.sub_hp) Z)) (fun b8 hST => V (R_int rfl rfl rfl) (LW_nil (sq_n (CW_if (b := (b1 == 0)) rfl (fun D => ?_) (fun D => ?_))))))
    · replace c := if_t D c
      refine CW_region (V (R_move z) (V (R_field fa56_0 rfl) (V (R_load rfl (load_boxA hST.has Mh (encCred a.Cred) rfl Tryz.isAgg53 Tryz.sizeOf53)) (VE (E_buildSlice (qs := #[(0, (.agg (encCred a.Cred).toArray))]) (cs := (encCred a.Cred).toArray) hST (parts1 rfl) (run_lit [(.agg (encCred a.Cred).toArray)] Tryz.underlying22 Tryz.sizeOf53 Tryz.zeroValue53 (by decide) rfl (by intro v hv; simp only [List.mem_cons, List.not_mem_nil, or_false] at hv; rcases hv with rfl <;> rfl) rfl rfl) (fun b9 a5 hST => ?_))))))
      replace hST := hST.perm (Nr (Qb (Qb Qz)) Nz)
      obtain ⟨b0, U, c⟩ := bind_some c
      refine VE (F_append (enc := encCred) (v := f) (vs := (.slice (some ⟨a5, 0, none⟩) 1 1)) (R := g) hST lenCred (by decide) oneCred Tryz.underlying22 info53.1 info53.2.1 rfl info53.2.2.1 info53.2.2.2 rfl rfl k (Sl.lit (enc := encCred) (l := [a.Cred]) lenCred rfl (Nat.le_of_ble_eq_true rfl) rfl (hST.at_ (Ma Mh))) U (fun c0 b2 a3 hST T => V (R_assign rfl) (LW_nil (bq_n (sq_n ?_)))))
      replace hST := hST.sel (Kr (Db (Db St)))
      exact ⟨eI, b2, b0, a3, _, ⟨rfl, eN⟩, (hST.sel St), y, rfl, B, T, (by rw [N]; exact c)⟩
    replace c := if_f D c
    refine CW_skip (bq_n (sq_n ?_))
    replace hST := hST.sel (Db St)
    exact ⟨eI, f, j, g, _, ⟨rfl, eN⟩, (hST.sel St), y, z, B, k, (by rw [N]; exact c)⟩
  rintro E W ⟨f, j, g, G, ⟨eI, eN⟩, hST, y, z, B, k, c⟩
  rw [List.drop_length] at c
  rw [m_ref06_Good_L1] at c
  refine sq_n (CW_seq (CW_region (V (R_move z) ?_)))
  obtain ⟨c4, a2, c⟩ := bind_some c
  refine VE (F_givesRow (args := [f]) _ hST rfl Tryz.call33 (by exact args1 rfl) ((w_ref05_Set f j _ _ (k.sl lenCred (fun b o hq => hST.at_ (Ml hq))) a2)) (fun c1 b3 c7 a4 hST b4 hl184 J => V (R_assign rfl) (LW_nil (sq_n ?_))))
  replace hST := hST.sel (Kr (Dr St))
  refine CW_ret ?_
  replace c := Option.some.inj c; subst c
  exact retQ_1 (v := b3) rfl rfl ⟨_, a4, rfl, hST.backRow (fun p hq => (Ml hq)) J.nd, J⟩
theorem w_ref34_Live (y : Value) (a0 : List Key) (c5 : Value) (a1 : List Signed) (H : Value) (a2 : List Signed) (r : List Cred) (w : World) (d4 : Sl relKey 2 (hp w) y a0) (j8 : Sl relSigned 10 (hp w) c5 a1) (d5 : Sl relSigned 10 (hp w) H a2) (hm : m_ref34_Live a0 a1 a2 = some r) :
    GivesRow true Tryz.prog 43 [y, c5, H] w 53 encCred 9 r := by
  have hST := ST.start (dd := true) w
  unfold m_ref34_Live at hm
  refine calls_of_CW (n := 51) Tryz.func43 rfl rfl (Nat.le_of_ble_eq_true rfl) (CW_seq (CW_region (V (R_assign rfl) (LW_nil (sq_n (CW_seq (CW_seq (CW_region (V (R_move rfl) ?_)))))))))
  obtain ⟨r1, j9, hm⟩ := bind_some hm
  refine VE (E_gives (args := [y]) hST rfl Tryz.call55 (by exact args1 rfl) ((w_ref06_New y a0 _ _ (d4.mono dKey.mono hST.sub_hp) j9)) (fun W3 hST => V (R_int rfl rfl rfl) (LW_nil (sq_n (CW_if (b := (r1 != 0)) rfl (fun f0 => ?_) (fun f0 => ?_))))))
  · replace hm := if_t f0 hm
    refine CW_seq (CW_region (V (R_assign rfl) (LW_nil (sq_n (CW_ret (sq_r ?_))))))
    replace hm := Option.some.inj hm; subst hm
    exact retQ_1 (v := (.slice none 0 0)) rfl rfl ⟨_, [], rfl, hST.backRow (fun p hq => by cases hq) (by simp), Row.nil _ _ _⟩
  replace hm := if_f f0 hm
  refine CW_skip (sq_n (CW_seq (CW_region (V (R_assign rfl) (LW_nil (sq_n (CW_seq (CW_seq (CW_region (V (R_move rfl) (V (R_move rfl) ?_)))))))))))
  obtain ⟨r5, k0, hm⟩ := bind_some hm
  refine VE (F_givesRow (args := [y, c5]) _ hST rfl Tryz.call62 (by exact args2 rfl rfl) ((w_ref06_Good y a0 c5 a1 _ _ (d4.mono dKey.mono hST.sub_hp) (j8.mono dSigned.mono hST.sub_hp) k0)) (fun W7 d2 μ8 c6 hST f3 hl10 c2 => V (R_lenRow Tryz.underlying22 rfl c2) (V (R_move rfl) (LW_nil (sq_n (CW_range (fun i E W => ∃ (x : Value) (I : List Cred) (k : List (Nat × Obj)) (b7 : List (Nat × Obj)), (E 20 = .int .i64 (i : Nat) ∧ E 19 = .int .i64 (r5.length : Nat)) ∧ ST true NoF w W μ8 (k ++ (c6 ++ b7)) ∧ E 0 = y ∧ E 2 = H ∧ E 7 = x ∧ E 18 = d2 ∧ Row 53 encCred 9 x I k ∧ m_ref34_Live_L1 a0 a2 (r5.drop i) I = some r) r5.length c2.len ⟨(.slice none 0 0), ([]), [], _, ⟨rfl, rfl⟩, (hST.sel St), rfl, rfl, rfl, rfl, (Row.nil _ _ _), hm⟩ (by decide) (by decide) (by decide) (fun _ _ _ h => by obtain ⟨_, _, _, _, eIN, _⟩ := h; exact eIN) ?_ ?_))))))
  · rintro a7 E W f1 ⟨x, I, k, b7, ⟨eI, eN⟩, hST, e0, b9, c0, c1, K, t⟩
    obtain ⟨f, d3, g0, d0, d1⟩ := drop_cons f1
    rw [g0] at t
    rw [m_ref34_Live_L1] at t
    refine CW_block (CW_seq (CW_region (VQ (R_indexRow (i := (a7 : Int)) (x0 := f) Tryz.underlying22 Tryz.sizeOf53 c1 eI c2 (Int.natCast_nonneg _) d0) (fun l0 f7 => V (R_load rfl (load_ixA hST.has (fun p hq => (Ma (Ml hq))) c2 lenCred f7 d0 Tryz.isAgg53 Tryz.sizeOf53)) (VE (E_alloc hST Tryz.zeroValue53 (fun k1 G hST => VO (F_store (.agg (encCred f).toArray) ((encCred f).toArray) hST rfl rfl Tryz.sizeOf53 (oneCred f) (Nat.le_of_ble_eq_true rfl) rfl (fun k2 hST => LW_nil (sq_n (CW_seq (CW_region (V (R_assign rfl) (LW_nil (sq_n (CW_seq ?_))))))))))))))))
    refine CW_seq (CW_region (V (R_move b9) (V (R_len Tryz.underlying50 rfl d5) (V (R_move rfl) (LW_nil (sq_n ?_))))))
    obtain ⟨e7, f4, f5⟩ := bind_some t
    refine CW_cut (fun E W => ∃ (a8 : Bool) (d7 : List (Nat × Obj)), ST true NoF w W μ8 ((G, Obj.cells ((encCred f).toArray : Array Value) 53 (0, 0)) :: (k ++ (c6 ++ d7))) ∧ E 0 = y ∧ E 2 = H ∧ E 7 = x ∧ E 9 = (.pointer (some ⟨G, 0, none⟩)) ∧ E 10 = (.bool a8) ∧ E 18 = d2 ∧ E 19 = (.int .i64 ((r5.length : Int))) ∧ E 20 = (.int .i64 ((a7 : Int))) ∧ (if a8 then (((appB 136 I ([f]))).bind fun c4 => (m_ref34_Live_L1 a0 a2 d3 c4)) else (m_ref34_Live_L1 a0 a2 d3 I)) = some r) ?_ ?_
    · refine CW_range (fun i E W => ∃ (D : Bool) (b8 : List (Nat × Obj)), (E 26 = .int .i64 (i : Nat) ∧ E 25 = .int .i64 (a2.length : Nat)) ∧ ST true NoF w W μ8 ((G, Obj.cells ((encCred f).toArray : Array Value) 53 (0, 0)) :: (k ++ (c6 ++ b8))) ∧ E 0 = y ∧ E 2 = H ∧ E 7 = x ∧ E 9 = (.pointer (some ⟨G, 0, none⟩)) ∧ E 10 = (.bool D) ∧ E 18 = d2 ∧ E 19 = (.int .i64 ((r5.length : Int))) ∧ E 20 = (.int .i64 ((a7 : Int))) ∧ E 24 = H ∧ m_ref34_Live_L2 f a0 (a2.drop i) D = some e7) a2.length d5.len ⟨true, _, ⟨rfl, rfl⟩, (hST.sel St), e0, b9, c0, rfl, rfl, c1, eN, eI, rfl, f4⟩ (by decide) (by decide) (by decide) (fun _ _ _ h => by obtain ⟨_, _, eIN, _⟩ := h; exact eIN) ?_ ?_
      · rintro c3 E W f2 ⟨D, b8, ⟨eI, eN⟩, hST, M, Y, Z, N, Q, a3, a4, a5, a6, u⟩
        obtain ⟨a, g4, g2, g1, g3⟩ := drop_cons f2
        rw [g2] at u
        rw [m_ref34_Live_L2] at u
        refine CW_block (CW_seq (CW_region (VQ (R_indexD (i := (c3 : Int)) (x0 := a) relSigned.out Tryz.underlying50 Tryz.sizeOf56 a6 eI (d5.mono dSigned.mono f3) (Int.natCast_nonneg _) g1) (fun l1 ⟨_, ⟨l3, rfl, c9⟩, f8⟩ => V (R_load rfl (load_atA hST.has f8 Tryz.isAgg56 Tryz.sizeOf56)) (VE (E_alloc hST Tryz.zeroValue56 (fun k5 k8 hST => ?_)))))))
        obtain ⟨T, U, rfl⟩ := c9.form
        refine VO (F_store (.agg #[(.int .i64 a.Cred.Kind), (.string a.Cred.Head.Owner), (.string a.Cred.Head.Word), (.string a.Cred.Who), (.string a.Cred.B.Owner), (.string a.Cred.B.Word), (.string a.Cred.C.Owner), (.string a.Cred.C.Word), (.string a.Cred.Word2), (.slice T a.Tag.length U)]) (#[(.int .i64 a.Cred.Kind), (.string a.Cred.Head.Owner), (.string a.Cred.Head.Word), (.string a.Cred.Who), (.string a.Cred.B.Owner), (.string a.Cred.B.Word), (.string a.Cred.C.Owner), (.string a.Cred.C.Word), (.string a.Cred.Word2), (.slice T a.Tag.length U)]) hST rfl rfl Tryz.sizeOf56 (by simp [Value.cells, Value.oneCell']) (Nat.le_of_ble_eq_true rfl) rfl (fun k6 hST => LW_nil (sq_n (CW_region (V (R_move Q) (V (R_move rfl) ?_))))))
        obtain ⟨j5, B, c7⟩ := bind_some u
        refine LW_join (J := fun E W => ∃ (a9 : Bool) (d8 : List (Nat × Obj)), ST true NoF w W μ8 ((G, Obj.cells ((encCred f).toArray : Array Value) 53 (0, 0)) :: (k ++ (c6 ++ d8))) ∧ E 0 = y ∧ E 2 = H ∧ E 7 = x ∧ E 9 = (.pointer (some ⟨G, 0, none⟩)) ∧ E 10 = (.bool D) ∧ E 18 = d2 ∧ E 19 = (.int .i64 ((r5.length : Int))) ∧ E 20 = (.int .i64 ((a7 : Int))) ∧ E 24 = H ∧ E 25 = (.int .i64 ((a2.length : Int))) ∧ E 26 = (.int .i64 ((c3 : Int))) ∧ E 42 = (.bool a9) ∧ (m_ref34_Live_L2 f a0 g4 a9) = some e7) 11 ?_ (fun b5 => ?_)
        · rintro E W ⟨a9, d8, hST, h0, h1, h2, h3, k9, h4, h5, h6, h7, h8, h9, i0, f6⟩
          exact V (R_assign i0) (LW_nil (bq_n (sq_n ⟨h9, a9, _, ⟨rfl, h8⟩, (hST.sel St), h0, h1, h2, h3, rfl, h4, h5, h6, h7, (by rw [g3]; exact f6)⟩)))
        rcases bool_cases D with c | c
        · replace B := if_t c B
          refine Vg rfl (congrArg Value.bool c) (R_field fa56_0 rfl) (Vg rfl (congrArg Value.bool c) (R_load rfl (load_boxA hST.has Mh (encCred a.Cred) rfl Tryz.isAgg53 Tryz.sizeOf53)) (Vg rfl (congrArg Value.bool c) (R_load N (load_boxA hST.has (Mt Mh) (encCred f) rfl Tryz.isAgg53 Tryz.sizeOf53)) (Vg rfl (congrArg Value.bool c) (R_neq rfl rfl (guard_agg Tryz.eqGuardType53) (bin_neq (eqInCred _ a.Cred f))) (Vg rfl (congrArg Value.bool c) (R_move rfl) ?_))))
          obtain ⟨l2, j, c8⟩ := bind_some B
          refine LW_join (J := fun E W => ∃ (b0 : Bool) (d9 : List (Nat × Obj)), ST true NoF w W μ8 ((G, Obj.cells ((encCred f).toArray : Array Value) 53 (0, 0)) :: (k ++ (c6 ++ d9))) ∧ E 0 = y ∧ E 2 = H ∧ E 7 = x ∧ E 9 = (.pointer (some ⟨G, 0, none⟩)) ∧ E 10 = (.bool D) ∧ E 18 = d2 ∧ E 19 = (.int .i64 ((r5.length : Int))) ∧ E 20 = (.int .i64 ((a7 : Int))) ∧ E 24 = H ∧ E 25 = (.int .i64 ((a2.length : Int))) ∧ E 26 = (.int .i64 ((c3 : Int))) ∧ E 31 = (.bool D) ∧ E 41 = (.bool b0) ∧ some b0 = some j5) 5 ?_ (fun b6 => ?_)
          · rintro E W ⟨b0, d9, hST, i1, i2, i3, i4, i5, i6, i7, i8, i9, j0, j1, j2, j3, b2⟩
            refine V (R_pickT (j2.trans (congrArg Value.bool c)) j3) ?_
            replace b2 := Option.some.inj b2; subst b2
            exact b5 _ _ ⟨b0, _, (hST.sel St), i1, i2, i3, i4, i5, i6, i7, i8, i9, j0, j1, rfl, c7⟩
          rcases bool_cases ((!(beqCred a.Cred f))) with g | g
          · replace j := if_t g j
            refine Vn rfl (congrArg Value.bool g) (Vn rfl (congrArg Value.bool g) (Vn rfl (congrArg Value.bool g) (Vn rfl (congrArg Value.bool g) (Vg rfl (congrArg Value.bool c) (R_pickT (congrArg Value.bool g) rfl) ?_))))
            replace j := Option.some.inj j; subst j
            exact b6 _ _ ⟨true, _, (hST.sel (Db St)), M, Y, Z, N, Q, a3, a4, a5, a6, eN, eI, rfl, rfl, c8⟩
          replace j := if_f g j
          refine Vg rfl (congrArg Value.bool g) (R_move M) (Vg rfl (congrArg Value.bool g) (R_load rfl (load_boxA hST.has Mh [(.int .i64 a.Cred.Kind), (.string a.Cred.Head.Owner), (.string a.Cred.Head.Word), (.string a.Cred.Who), (.string a.Cred.B.Owner), (.string a.Cred.B.Word), (.string a.Cred.C.Owner), (.string a.Cred.C.Word), (.string a.Cred.Word2), (.slice T a.Tag.length U)] rfl Tryz.isAgg56 Tryz.sizeOf56)) ?_)
          obtain ⟨j4, f9, j⟩ := bind_some j
          refine VgE rfl (congrArg Value.bool g) (E_gives (args := [y, (.agg #[(.int .i64 a.Cred.Kind), (.string a.Cred.Head.Owner), (.string a.Cred.Head.Word), (.string a.Cred.Who), (.string a.Cred.B.Owner), (.string a.Cred.B.Word), (.string a.Cred.C.Owner), (.string a.Cred.C.Word), (.string a.Cred.Word2), (.slice T a.Tag.length U)])]) hST rfl Tryz.call40 (by exact args2 rfl rfl) ((w_ref34_Good y a0 a (.slice T a.Tag.length U) _ _ (d4.mono dKey.mono (f3.trans hST.sub_hp)) (c9.mono (Pl.mono _) hST.sub_hp) f9)) (fun k7 hST => Vg rfl (congrArg Value.bool g) (R_not rfl) (Vg rfl (congrArg Value.bool c) (R_pickF (congrArg Value.bool g) rfl) ?_)))
          replace j := Option.some.inj j; subst j
          exact b6 _ _ ⟨((!j4)), _, (hST.sel (Db St)), M, Y, Z, N, Q, a3, a4, a5, a6, eN, eI, rfl, rfl, c8⟩
        replace B := if_f c B
        refine Vn rfl (congrArg Value.bool c) (Vn rfl (congrArg Value.bool c) (Vn rfl (congrArg Value.bool c) (Vn rfl (congrArg Value.bool c) (Vn rfl (congrArg Value.bool c) (Vu rfl rfl (Vu rfl rfl (Vu rfl rfl (Vu rfl rfl (Vn rfl (congrArg Value.bool c) (V (R_pickF (congrArg Value.bool c) rfl) ?_))))))))))
        replace B := Option.some.inj B; subst B
        exact b5 _ _ ⟨false, _, (hST.sel (Db St)), M, Y, Z, N, Q, a3, a4, a5, a6, eN, eI, rfl, c7⟩
      rintro E W ⟨D, b8, ⟨eI, eN⟩, hST, M, Y, Z, N, Q, a3, a4, a5, a6, u⟩
      rw [List.drop_length] at u
      rw [m_ref34_Live_L2] at u
      refine sq_n ?_
      replace u := Option.some.inj u; subst u
      exact ⟨D, _, (hST.sel St), M, Y, Z, N, Q, a3, a4, a5, f5⟩
    rintro E W ⟨a8, d7, hST, e1, e2, e3, g8, g9, e4, e5, e6, z⟩
    refine CW_seq (CW_region (V (R_move g9) (LW_nil (sq_n (CW_if (b := a8) rfl (fun b1 => ?_) (fun b1 => ?_))))))
    · replace z := if_t b1 z
      refine CW_region (V (R_move e3) (V (R_load g8 (load_boxA hST.has Mh (encCred f) rfl Tryz.isAgg53 Tryz.sizeOf53)) (VE (E_buildSlice (qs := #[(0, (.agg (encCred f).toArray))]) (cs := (encCred f).toArray) hST (parts1 rfl) (run_lit [(.agg (encCred f).toArray)] Tryz.underlying22 Tryz.sizeOf53 Tryz.zeroValue53 (by decide) rfl (by intro v hv; simp only [List.mem_cons, List.not_mem_nil, or_false] at hv; rcases hv with rfl <;> rfl) rfl rfl) (fun k3 g7 hST => ?_)))))
      replace hST := hST.perm (Nr (Qb (Qb Qz)) Nz)
      obtain ⟨c4, e9, z⟩ := bind_some z
      refine VE (F_append (enc := encCred) (v := x) (vs := (.slice (some ⟨g7, 0, none⟩) 1 1)) (R := k) hST lenCred (by decide) oneCred Tryz.underlying22 info53.1 info53.2.1 rfl info53.2.2.1 info53.2.2.2 rfl rfl K (Sl.lit (enc := encCred) (l := [f]) lenCred rfl (Nat.le_of_ble_eq_true rfl) rfl (hST.at_ (Ma Mh))) e9 (fun k4 j6 g6 hST e8 => V (R_assign rfl) (LW_nil (bq_n (sq_n ?_)))))
      replace hST := hST.sel (Kr (Db (Db St)))
      exact ⟨e6, j6, c4, g6, _, ⟨rfl, e5⟩, (hST.sel St), e1, e2, rfl, e4, e8, (by rw [d1]; exact z)⟩
    replace z := if_f b1 z
    refine CW_skip (bq_n (sq_n ?_))
    replace hST := hST.sel (Db St)
    exact ⟨e6, x, I, k, _, ⟨rfl, e5⟩, (hST.sel St), e1, e2, e3, e4, K, (by rw [d1]; exact z)⟩
  rintro E W ⟨x, I, k, b7, ⟨eI, eN⟩, hST, e0, b9, c0, c1, K, t⟩
  rw [List.drop_length] at t
  rw [m_ref34_Live_L1] at t
  refine sq_n ?_
  replace hST := hST.sel (Kr (Dr St))
  refine CW_seq (CW_region (V (R_move c0) (V (R_assign rfl) (LW_nil (sq_n (CW_ret ?_))))))
  replace t := Option.some.inj t; subst t
  exact retQ_1 (v := x) rfl rfl ⟨_, k, rfl, hST.backRow (fun p hq => (Ml hq)) K.nd, K⟩
theorem w_ref05_Same (t : Value) (z : List Cred) (u : Value) (H : List Cred) (r : Bool) (w : World) (c : Sl (Pl encCred) 9 (hp w) t z) (B : Sl (Pl encCred) 9 (hp w) u H) (hm : m_ref05_Same z H = some r) :
    Gives true Tryz.prog 41 [t, u] w (.bool r) := by
  have hST := ST.start (dd := true) w
  unfold m_ref05_Same at hm
  refine calls_of_CW (n := 26) Tryz.func41 rfl rfl (Nat.le_of_ble_eq_true rfl) (CW_seq (CW_region (V (R_assign rfl) (LW_nil (sq_n (CW_seq (CW_seq (CW_region (V (R_move rfl) (V (R_len Tryz.underlying22 rfl c) (V (R_move rfl) (V (R_len Tryz.underlying22 rfl B) (V (R_int rfl rfl rfl) (LW_nil ?_))))))))))))))
  refine sq_n (CW_if (b := (((z.length : Int)) != ((H.length : Int)))) rfl (fun D => ?_) (fun D => ?_))
  · replace hm := if_t D hm
    refine CW_seq (CW_region (V (R_assign rfl) (LW_nil (sq_n (CW_ret (sq_r ?_))))))
    replace hm := Option.some.inj hm; subst hm
    exact retQ_1 (v := (.bool false)) rfl rfl ⟨rfl, hST.ex⟩
  replace hm := if_f D hm
  refine CW_skip (sq_n (CW_seq (CW_seq (CW_region (V (R_move rfl) (V (R_len Tryz.underlying22 rfl c) (V (R_move rfl) (LW_nil (sq_n (CW_range (fun i E W => ∃  (g : List (Nat × Obj)), (E 13 = .int .i64 (i : Nat) ∧ E 12 = .int .i64 (z.length : Nat)) ∧ ST true NoF w W (hp w) g ∧ E 0 = t ∧ E 1 = u ∧ m_ref05_Same_L1 H (z.drop i) i = some r) z.length c.len ⟨_, ⟨rfl, rfl⟩, (hST.sel St), rfl, rfl, hm⟩ (by decide) (by decide) (by decide) (fun _ _ _ h => by obtain ⟨_, eIN, _⟩ := h; exact eIN) ?_ ?_))))))))))
  · rintro K E W M ⟨g, ⟨eI, eN⟩, hST, j, k, a⟩
    obtain ⟨G, a2, Q, N, T⟩ := drop_cons M
    rw [Q] at a
    rw [m_ref05_Same_L1] at a
    refine CW_block (CW_seq (CW_region (V (R_move eI) (V (R_assign rfl) (LW_nil (sq_n (CW_seq ?_)))))))
    replace hST := hST.drew
    have hS0 := hST.has.sel Sn
    refine PX_start1 hS0 Tryz_mixed (X 0 rfl hS0 (R_move j) (X 1 rfl hS0 (R_move rfl) (XQ 2 rfl hS0 (R_indexP (enc := encCred) (i := (K : Int)) (x0 := G) Tryz.underlying22 Tryz.sizeOf53 rfl rfl c (Int.natCast_nonneg _) N) (fun U I => XH 3 rfl hS0 (fun _ hS => R_load rfl (load_atA hS I Tryz.isAgg53 Tryz.sizeOf53)) (X 4 rfl hS0 (R_move k) (X 5 rfl hS0 (R_move rfl) ?_))))))
    obtain ⟨x, y, a⟩ := bind_some a
    refine XQ 6 rfl hS0 (R_indexP (enc := encCred) (i := (K : Int)) (x0 := x) Tryz.underlying22 Tryz.sizeOf53 rfl rfl B (idx_nonneg y) (idx_get y)) (fun Y J => XH 7 rfl hS0 (fun _ hS => R_load rfl (load_atA hS J Tryz.isAgg53 Tryz.sizeOf53)) (X 8 rfl hS0 (R_neq rfl rfl (guard_agg Tryz.eqGuardType53) (bin_neq (eqInCred _ G x))) (PX_done (by kernel_rfl) (sq_n (CW_if (b := (!(beqCred G x))) rfl (fun f => ?_) (fun f => ?_))))))
    · replace a := if_t f a
      refine CW_seq (CW_region (V (R_assign rfl) (LW_nil (sq_n (CW_ret (bq_r (sq_r (bq_r (sq_r ?_)))))))))
      replace a := Option.some.inj a; subst a
      exact retQ_1 (v := (.bool false)) rfl rfl ⟨rfl, hST.ex⟩
    replace a := if_f f a
    exact CW_skip (bq_n (sq_n ⟨eI, _, ⟨rfl, eN⟩, (hST.sel St), j, k, (by rw [T]; exact a)⟩))
  rintro E W ⟨g, ⟨eI, eN⟩, hST, j, k, a⟩
  rw [List.drop_length] at a
  rw [m_ref05_Same_L1] at a
  refine sq_n (CW_seq (CW_region (V (R_assign rfl) (LW_nil (sq_n (CW_ret ?_))))))
  replace a := Option.some.inj a; subst a
  exact retQ_1 (v := (.bool true)) rfl rfl ⟨rfl, hST.ex⟩
end Go.Proofs.YtmlncblocfcmiaaGreat
