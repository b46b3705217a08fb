/- a part of a proof of RevokeStops -/
import Derived.Test.YtmlncblocfcmiaaGreatRVW1u
set_option linter.all false
namespace Go.Proofs.YtmlncblocfcmiaaGreat
open Go.RowKit
set_option maxRecDepth 10000
theorem w_model_Model_settle_w (H : Nat) (a : Value) (f0 : List (Role × (List (ByteArray × Bool)))) (N : List (Nat × Obj)) (c : Value) (M : List Cred) (g : List (Nat × Obj)) (t : Value) (G : List (Role × (List Cred))) (y : List (Nat × Obj)) (f : Value) (B : List (ByteArray × (List Cred))) (j : List (Nat × Obj)) (K : Value) (d3 : List Fact) (J : List (Nat × Obj)) (a1 : Int) (r : ((List (Role × (List (ByteArray × Bool)))) × (List Fact) × Int)) (w : World) {μ0 : Mem} (h0 : Ent μ0 ((H, Obj.cells (#[a, c, t, f, K, (.int .i64 a1)] : Array Value) 294 (0, 0)) :: (N ++ (g ++ (y ++ (j ++ (J ++ [])))))) w) (h7 : DeepE (fun (x : Role) => (.agg (encRole x).toArray)) (MapRow Value.string (fun (x : Bool) => (Value.bool x))) a f0 N) (c5 : Row 53 encCred 9 c M g) (h1 : DeepE (fun (x : Role) => (.agg (encRole x).toArray)) (Row 53 encCred 9) t G y) (c6 : DeepE Value.string (Row 53 encCred 9) f B j) (g9 : Que 38 encFact 3 K d3 J) (hm : m_model_Model_settle_w f0 M G B d3 a1 = some r) :
    GivesM false Tryz.prog 326 [(.pointer (some ⟨H, 0, none⟩))] w ((H, Obj.cells (#[a, c, t, f, K, (.int .i64 a1)] : Array Value) 294 (0, 0)) :: (N ++ (g ++ (y ++ (j ++ (J ++ [])))))) (fun v L1 W' => ∃ (S1 : List (Nat × Obj)) (y3 : Value) (S4 : List (Nat × Obj)), v = (.tuple #[]) ∧ L1 = ((H, Obj.cells (#[a, c, t, f, y3, (.int .i64 (r.2.2))] : Array Value) 294 (0, 0)) :: (S1 ++ (g ++ (y ++ (j ++ (S4 ++ [])))))) ∧ DeepE (fun (x : Role) => (.agg (encRole x).toArray)) (MapRow Value.string (fun (x : Bool) => (Value.bool x))) a r.1 S1 ∧ Que 38 encFact 3 y3 r.2.1 S4) := by
  have hST := ST.startE (dd := false) h0
  unfold m_model_Model_settle_w at hm
  refine calls_of_CW (n := 75) Tryz.func326 rfl rfl (Nat.le_of_ble_eq_true rfl) (CW_tail (CW_block (CW_loop (fun m E W => ∃ (e2 : List (Role × (List (ByteArray × Bool)))) (c2 : List (Nat × Obj)) (e5 : Value) (U : List Fact) (c3 : List (Nat × Obj)) (d1 : Int) (b9 : Mem) (h8 : List (Nat × Obj)), Sub μ0 b9 ∧ ST false (keys ((H, Obj.cells (#[a, c, t, f, K, (.int .i64 a1)] : Array Value) 294 (0, 0)) :: (N ++ (g ++ (y ++ (j ++ (J ++ []))))))) w W b9 ((H, Obj.cells (#[a, c, t, f, e5, (.int .i64 d1)] : Array Value) 294 (0, 0)) :: (c2 ++ (g ++ (y ++ (j ++ (c3 ++ h8)))))) ∧ E 0 = (.pointer (some ⟨H, 0, none⟩)) ∧ DeepE (fun (x : Role) => (.agg (encRole x).toArray)) (MapRow Value.string (fun (x : Bool) => (Value.bool x))) a e2 c2 ∧ Que 38 encFact 3 e5 U c3 ∧ m_model_Model_settle_w_L1 M G B m e2 U d1 = some r) FUEL ⟨f0, N, K, d3, J, a1, μ0, _, (Sub.refl _), (hST.sel St), rfl, h7, g9, hm⟩ ?_)))
  rintro m E W ⟨e2, c2, e5, U, c3, d1, b9, h8, i3, hST, a9, h3, c9, I⟩
  cases m with
  | zero => rw [m_model_Model_settle_w_L1] at I; cases I
  | succ g6 =>
    rw [m_model_Model_settle_w_L1] at I
    refine CW_seq (CW_seq (CW_region (V (R_move a9) (V (R_nilCheck rfl) (V (R_field fa294_4 rfl) (V (R_load rfl (load_box1 hST.has Mh rfl Tryz.isAgg68)) (V (R_lenQue Tryz.underlying68 rfl c9) (V (R_int rfl rfl rfl) (LW_nil (sq_n (CW_if (b := (decide (((U.length : Int)) > 0))) rfl (fun f1 => ?_) (fun f1 => ?_))))))))))))
    · replace I := if_t f1 I
      refine CW_skip (sq_n (CW_block (CW_seq (CW_region (V (R_move a9) (V (R_nilCheck rfl) (V (R_field fa294_4 rfl) (V (R_load rfl (load_box1 hST.has Mh rfl Tryz.isAgg68)) ?_))))))))
      obtain ⟨u, h5, I⟩ := bind_some I
      refine VQ (R_indexP (enc := encFact) (i := 0) (x0 := u) Tryz.underlying68 Tryz.sizeOf38 rfl rfl (c9.slL lenFact) (idx_nonneg h5) (idx_get h5)) (fun p6 j8 => V (R_load rfl (load_atA (Has.hp _) (j8.mono (memL_held (fun b o hq => hST.has.2 b o (Mt (Ma (Ma (Ma (Ma (Ml hq))))))))) Tryz.isAgg38 Tryz.sizeOf38)) (VE (E_alloc hST Tryz.zeroValue38 (fun o5 a8 hST => VO (F_store (.agg (encFact u).toArray) ((encFact u).toArray) hST rfl rfl Tryz.sizeOf38 (oneFact u) (Nat.le_of_ble_eq_true rfl) rfl (fun o6 hST => LW_nil (sq_n (CW_seq (CW_region (V (R_move a9) (V (R_move a9) (V (R_nilCheck rfl) (V (R_field fa294_4 rfl) (V (R_load rfl (load_box1 hST.has (Mt Mh) rfl Tryz.isAgg68)) ?_))))))))))))))
      obtain ⟨_, h2, I⟩ := bind_some I
      refine VQ (R_sliceQue (i := 1) Tryz.underlying68 Tryz.sizeOf38 rfl rfl lenFact c9 (chk_1 h2) (chk_2 h2)) (fun p9 h4 => V (R_nilCheck rfl) (V (R_field fa294_4 rfl) ?_))
      obtain ⟨g1, g4, rfl⟩ := h4.form
      replace hST := hST.perm (Nb (Pb Pz) Nz)
      refine VO (F_store (.slice g1 ((U.drop (Int.toNat 1))).length g4) (#[a, c, t, f, (.slice g1 ((U.drop (Int.toNat 1))).length g4), (.int .i64 d1)]) hST rfl rfl Tryz.sizeOf68 (by simp [Value.cells, Value.oneCell']) (Nat.le_of_ble_eq_true rfl) rfl (fun o7 hST => LW_nil (sq_n (CW_seq (CW_seq ?_)))))
      replace hST := hST.drew
      have hS0 := hST.has.sel (Kb (Kb (Dr (Dr (Kr Sn)))))
      refine PX_start1 hS0 Tryz_mixed (X 0 rfl hS0 (R_move a9) (X 1 rfl hS0 (R_nilCheck rfl) (X 2 rfl hS0 (R_field fa294_2 rfl) (XH 3 rfl hS0 (fun _ hS => R_load rfl (load_box1 hS Mh rfl Tryz.isAgg291)) (X 4 rfl hS0 (R_field fa38_0 rfl) (XH 5 rfl hS0 (fun _ hS => R_load rfl (load_boxA hS (Mt Mh) (encRole u.Role) rfl Tryz.isAgg28 Tryz.sizeOf28)) ?_))))))
      obtain ⟨l8, c7⟩ := h1
      obtain ⟨o3, f4, k3⟩ := DeepV.rowAt beqRole_iff.1 c7 u.Role
      refine XH 6 rfl hS0 (fun _ hS => R_lookupDeep (k := u.Role) (z := (.slice none 0 0)) kl28 Tryz.underlying291 Tryz.zeroValue22 rfl rfl c7 (fun b o hq => hS.2 b o (Mt (Mt (Ml hq))))) (X 7 rfl hS0 (R_len Tryz.underlying22 rfl (f4.slL lenCred)) (X 8 rfl hS0 (R_move rfl) (PX_done (by kernel_rfl) (sq_n ?_))))
      obtain ⟨m8, j6, j7⟩ := bind_some I
      refine CW_cut (fun E W => ∃ (e3 : List (Role × (List (ByteArray × Bool)))) (d5 : List (Nat × Obj)) (e6 : Value) (e4 : List Fact) (d6 : List (Nat × Obj)) (e8 : Int) (c0 : Mem) (h9 : List (Nat × Obj)), Sub b9 c0 ∧ ST false (keys ((H, Obj.cells (#[a, c, t, f, K, (.int .i64 a1)] : Array Value) 294 (0, 0)) :: (N ++ (g ++ (y ++ (j ++ (J ++ []))))))) w W c0 ((H, Obj.cells (#[a, c, t, f, e6, (.int .i64 e8)] : Array Value) 294 (0, 0)) :: ((a8, Obj.cells ((encFact u).toArray : Array Value) 38 (0, 0)) :: (d5 ++ (g ++ (y ++ (j ++ (d6 ++ h9))))))) ∧ E 0 = (.pointer (some ⟨H, 0, none⟩)) ∧ E 2 = (.pointer (some ⟨a8, 0, none⟩)) ∧ DeepE (fun (x : Role) => (.agg (encRole x).toArray)) (MapRow Value.string (fun (x : Bool) => (Value.bool x))) a e3 d5 ∧ Que 38 encFact 3 e6 e4 d6 ∧ ((m_model_Model_settle_w_L2 u M G B (((mget beqS B u.Role.Word).getD [])) e3 e4 e8 : Option (((List (Role × (List (ByteArray × Bool)))) × (List Fact) × Int))).bind fun (b2, b3, b7) => (m_model_Model_settle_w_L1 M G B g6 b2 b3 b7)) = some r) ?_ ?_
      · refine CW_range (fun i E W => ∃ (b4 : List (Role × (List (ByteArray × Bool)))) (a6 : List (Nat × Obj)) (b6 : Value) (b5 : List Fact) (a7 : List (Nat × Obj)) (b8 : Int) (d2 : Mem) (g3 : List (Nat × Obj)), (E 35 = .int .i64 (i : Nat) ∧ E 34 = .int .i64 ((((mget beqRole G u.Role).getD [])).length : Nat)) ∧ Sub b9 d2 ∧ ST false (keys ((H, Obj.cells (#[a, c, t, f, K, (.int .i64 a1)] : Array Value) 294 (0, 0)) :: (N ++ (g ++ (y ++ (j ++ (J ++ []))))))) w W d2 ((H, Obj.cells (#[a, c, t, f, b6, (.int .i64 b8)] : Array Value) 294 (0, 0)) :: ((a8, Obj.cells ((encFact u).toArray : Array Value) 38 (0, 0)) :: (a6 ++ (g ++ (y ++ (j ++ (a7 ++ g3))))))) ∧ E 0 = (.pointer (some ⟨H, 0, none⟩)) ∧ E 2 = (.pointer (some ⟨a8, 0, none⟩)) ∧ E 33 = (valAt beqRole l8 u.Role (.slice none 0 0)) ∧ DeepE (fun (x : Role) => (.agg (encRole x).toArray)) (MapRow Value.string (fun (x : Bool) => (Value.bool x))) a b4 a6 ∧ Que 38 encFact 3 b6 b5 a7 ∧ m_model_Model_settle_w_L3 M G B u ((((mget beqRole G u.Role).getD [])).drop i) b4 b5 b8 = some m8) (((mget beqRole G u.Role).getD [])).length (f4.slL lenCred).len ⟨e2, c2, (.slice g1 ((U.drop (Int.toNat 1))).length g4), ((U.drop (Int.toNat 1))), c3, d1, b9, _, ⟨rfl, rfl⟩, (Sub.refl _), (hST.sel St), a9, rfl, rfl, h3, h4, j6⟩ (by decide) (by decide) (by decide) (fun _ _ _ h => by obtain ⟨_, _, _, _, _, _, _, _, eIN, _⟩ := h; exact eIN) ?_ ?_
        · rintro m6 E W j1 ⟨b4, a6, b6, b5, a7, b8, d2, g3, ⟨eI, eN⟩, d4, hST, e0, e1, g5, f7, f8, Q⟩
          obtain ⟨a5, n9, l2, l1, l3⟩ := drop_cons j1
          rw [l2] at Q
          rw [m_model_Model_settle_w_L3] at Q
          refine CW_block (CW_seq (CW_region (VQ (R_indexP (enc := encCred) (i := (m6 : Int)) (x0 := a5) Tryz.underlying22 Tryz.sizeOf53 g5 eI (f4.slL lenCred) (Int.natCast_nonneg _) l1) (fun p8 k0 => V (R_load rfl (load_atA (Has.hp _) (k0.mono (memL_held (fun b o hq => hST.has.2 b o (Mt (Mt (Ma (Ma (Ml (k3 b o hq))))))))) Tryz.isAgg53 Tryz.sizeOf53)) (VE (E_alloc hST Tryz.zeroValue53 (fun p1 p5 hST => VO (F_store (.agg (encCred a5).toArray) ((encCred a5).toArray) hST rfl rfl Tryz.sizeOf53 (oneCred a5) (Nat.le_of_ble_eq_true rfl) rfl (fun p2 hST => LW_nil (sq_n (CW_region (V (R_move e0) (V (R_load rfl (load_boxA hST.has Mh (encCred a5) rfl Tryz.isAgg53 Tryz.sizeOf53)) (V (R_load e1 (load_boxA hST.has (Mt (Mt Mh)) (encFact u) rfl Tryz.isAgg38 Tryz.sizeOf38)) ?_))))))))))))))
          obtain ⟨g8, k2, Q⟩ := bind_some Q
          have hsz := hST.size
          refine VE (E_callM (args := [(.pointer (some ⟨H, 0, none⟩)), (.agg (encCred a5).toArray), (.agg (encFact u).toArray)]) (caps := #[]) _ _ hST (Cb (Pb Pz) (Cr (Qb (Qb Qz)) (Cr (Qb (Qb Qz)) (Cr (Qb (Qb Qz)) (Cr (Qb (Qb Qz)) (Cr (Qb (Qb Qz)) Cn)))))) rfl Tryz.call371 (by exact args3 rfl rfl rfl) (fun hH hN hsb hmm => (w_model_Model_use_w H a b4 a6 c M g t G y f B j b6 b5 a7 b8 a5 u _ _ ⟨hH, hN, Sub.refl _⟩ f7 c5 c7.e c6 f8 k2)) (fun p3 q1 n2 o2 hST i7 hl3113 hlift i9 => ?_))
          obtain ⟨m2, n0, m3, g0, rfl, l6, l7⟩ := i9
          replace g0 := g0.symm; subst g0
          replace hST := hST.perm (Tb (Tr (Tr (Tr (Tr (Tr Tn))))))
          refine LW_nil (bq_n (sq_n ?_))
          replace hST := hST.sel (Kb (Kr (Kr (Kr (Kr (Kr (Db St)))))))
          exact ⟨eI, g8.1, m2, n0, g8.2.1, m3, g8.2.2, n2, _, ⟨rfl, eN⟩, (d4.trans i7), (hST.sel (Kb (Sb (Pr (Pr (Pr (Pr (Pr Pz))))) St))), e0, e1, g5, l6, l7, (by rw [l3]; exact Q)⟩
        rintro E W ⟨b4, a6, b6, b5, a7, b8, d2, g3, ⟨eI, eN⟩, d4, hST, e0, e1, g5, f7, f8, Q⟩
        rw [List.drop_length] at Q
        rw [m_model_Model_settle_w_L3] at Q
        refine sq_n ?_
        replace Q := Option.some.inj Q; subst Q
        exact ⟨b4, a6, b6, b5, a7, b8, d2, _, d4, (hST.sel St), e0, e1, f7, f8, j7⟩
      rintro E W ⟨e3, d5, e6, e4, d6, e8, c0, h9, i4, hST, i1, i2, k4, k5, j2⟩
      refine CW_seq ?_
      replace hST := hST.drew
      have hS0 := hST.has.sel (Kb (Kb (Dr (Dr (Dr (Kr Sn))))))
      refine PX_start1 hS0 Tryz_mixed (X 0 rfl hS0 (R_move i1) (X 1 rfl hS0 (R_nilCheck rfl) (X 2 rfl hS0 (R_field fa294_3 rfl) (XH 3 rfl hS0 (fun _ hS => R_load rfl (load_box1 hS Mh rfl Tryz.isAgg292)) (X 4 rfl hS0 (R_field fa38_0 i2) (X 5 rfl hS0 (R_field fa28_1 rfl) (XH 6 rfl hS0 (fun _ hS => R_load rfl (load_box1 hS (Mt Mh) rfl Tryz.isAgg9)) ?_)))))))
      obtain ⟨l9, f3⟩ := c6
      obtain ⟨o4, f5, k6⟩ := DeepV.rowAt beqS_iff.1 f3 u.Role.Word
      refine XH 7 rfl hS0 (fun _ hS => R_lookupDeep (k := u.Role.Word) (z := (.slice none 0 0)) kl9 Tryz.underlying292 Tryz.zeroValue22 rfl rfl f3 (fun b o hq => hS.2 b o (Mt (Mt (Ml hq))))) (X 8 rfl hS0 (R_len Tryz.underlying22 rfl (f5.slL lenCred)) (X 9 rfl hS0 (R_move rfl) (PX_done (by kernel_rfl) (sq_n (CW_tail ?_)))))
      obtain ⟨m7, j4, j5⟩ := bind_some j2
      refine CW_cut (fun E W => ∃ (b2 : List (Role × (List (ByteArray × Bool)))) (d7 : List (Nat × Obj)) (e7 : Value) (b3 : List Fact) (d8 : List (Nat × Obj)) (b7 : Int) (e9 : Mem) (i0 : List (Nat × Obj)), Sub c0 e9 ∧ ST false (keys ((H, Obj.cells (#[a, c, t, f, K, (.int .i64 a1)] : Array Value) 294 (0, 0)) :: (N ++ (g ++ (y ++ (j ++ (J ++ []))))))) w W e9 ((H, Obj.cells (#[a, c, t, f, e7, (.int .i64 b7)] : Array Value) 294 (0, 0)) :: (d7 ++ (g ++ (y ++ (j ++ (d8 ++ i0)))))) ∧ E 0 = (.pointer (some ⟨H, 0, none⟩)) ∧ DeepE (fun (x : Role) => (.agg (encRole x).toArray)) (MapRow Value.string (fun (x : Bool) => (Value.bool x))) a b2 d7 ∧ Que 38 encFact 3 e7 b3 d8 ∧ (m_model_Model_settle_w_L1 M G B g6 b2 b3 b7) = some r) ?_ ?_
      · refine CW_range (fun i E W => ∃ (Y : List (Role × (List (ByteArray × Bool)))) (Z : List (Nat × Obj)) (a3 : Value) (a2 : List Fact) (a0 : List (Nat × Obj)) (a4 : Int) (c1 : Mem) (g2 : List (Nat × Obj)), (E 53 = .int .i64 (i : Nat) ∧ E 52 = .int .i64 ((((mget beqS B u.Role.Word).getD [])).length : Nat)) ∧ Sub c0 c1 ∧ ST false (keys ((H, Obj.cells (#[a, c, t, f, K, (.int .i64 a1)] : Array Value) 294 (0, 0)) :: (N ++ (g ++ (y ++ (j ++ (J ++ []))))))) w W c1 ((H, Obj.cells (#[a, c, t, f, a3, (.int .i64 a4)] : Array Value) 294 (0, 0)) :: ((a8, Obj.cells ((encFact u).toArray : Array Value) 38 (0, 0)) :: (Z ++ (g ++ (y ++ (j ++ (a0 ++ g2))))))) ∧ E 0 = (.pointer (some ⟨H, 0, none⟩)) ∧ E 2 = (.pointer (some ⟨a8, 0, none⟩)) ∧ E 51 = (valAt beqS l9 u.Role.Word (.slice none 0 0)) ∧ DeepE (fun (x : Role) => (.agg (encRole x).toArray)) (MapRow Value.string (fun (x : Bool) => (Value.bool x))) a Y Z ∧ Que 38 encFact 3 a3 a2 a0 ∧ m_model_Model_settle_w_L2 u M G B ((((mget beqS B u.Role.Word).getD [])).drop i) Y a2 a4 = some m7) (((mget beqS B u.Role.Word).getD [])).length (f5.slL lenCred).len ⟨e3, d5, e6, e4, d6, e8, c0, _, ⟨rfl, rfl⟩, (Sub.refl _), (hST.sel St), i1, i2, rfl, k4, k5, j4⟩ (by decide) (by decide) (by decide) (fun _ _ _ h => by obtain ⟨_, _, _, _, _, _, _, _, eIN, _⟩ := h; exact eIN) ?_ ?_
        · rintro m5 E W j0 ⟨Y, Z, a3, a2, a0, a4, c1, g2, ⟨eI, eN⟩, b1, hST, b0, c4, d9, f6, d0, D⟩
          obtain ⟨T, n8, l0, k9, h6⟩ := drop_cons j0
          rw [l0] at D
          rw [m_model_Model_settle_w_L2] at D
          refine CW_block (CW_seq (CW_region (VQ (R_indexP (enc := encCred) (i := (m5 : Int)) (x0 := T) Tryz.underlying22 Tryz.sizeOf53 d9 eI (f5.slL lenCred) (Int.natCast_nonneg _) k9) (fun p7 j9 => V (R_load rfl (load_atA (Has.hp _) (j9.mono (memL_held (fun b o hq => hST.has.2 b o (Mt (Mt (Ma (Ma (Ma (Ml (k6 b o hq)))))))))) Tryz.isAgg53 Tryz.sizeOf53)) (VE (E_alloc hST Tryz.zeroValue53 (fun o8 p4 hST => VO (F_store (.agg (encCred T).toArray) ((encCred T).toArray) hST rfl rfl Tryz.sizeOf53 (oneCred T) (Nat.le_of_ble_eq_true rfl) rfl (fun o9 hST => LW_nil (sq_n (CW_seq ?_)))))))))))
          replace hST := hST.drew
          have hS0 := hST.has.sel (Kb (Kb (Kb (Kr Sn))))
          refine PX_start1 hS0 Tryz_mixed (X 0 rfl hS0 (R_move b0) (X 1 rfl hS0 (R_nilCheck rfl) (X 2 rfl hS0 (R_field fa294_0 rfl) (XH 3 rfl hS0 (fun _ hS => R_load rfl (load_box1 hS (Mt Mh) rfl Tryz.isAgg290)) (X 4 rfl hS0 (R_field fa53_3 rfl) (XH 5 rfl hS0 (fun _ hS => R_load rfl (load_boxA hS Mh (encRole T.B) rfl Tryz.isAgg28 Tryz.sizeOf28)) ?_))))))
          obtain ⟨n6, c8⟩ := f6
          refine XH 6 rfl hS0 (fun _ hS => R_lookupDeep (k := T.B) (z := (.map none)) kl28 Tryz.underlying290 Tryz.zeroValue296 rfl rfl c8 (fun b o hq => hS.2 b o (Mt (Mt (Mt (Ml hq)))))) (X 7 rfl hS0 (R_field fa38_0 c4) (X 8 rfl hS0 (R_field fa28_0 rfl) (XH 9 rfl hS0 (fun _ hS => R_load rfl (load_box1 hS (Mt (Mt Mh)) rfl Tryz.isAgg9)) (XH 10 rfl hS0 (fun _ hS => R_lookupD (k := u.Role.Owner) (z := false) (vf := (fun (x : Bool) => (Value.bool x))) kl9 Tryz.underlying296 Tryz.zeroValue4 rfl rfl (DeepV.mapAt (μ := hp _) beqRole_iff.1 c8 T.B (fun b o hq => hS.2 b o (Mt (Mt (Mt (Ml hq))))))) (PX_done (by kernel_rfl) (sq_n (CW_if (b := (mgetD beqS (((mget beqRole Y T.B).getD [])) u.Role.Owner false)) rfl (fun f2 => ?_) (fun f2 => ?_))))))))
          · replace D := if_t f2 D
            refine CW_region (V (R_move b0) (V (R_field fa53_1 rfl) (V (R_load rfl (load_boxA hST.has Mh (encRole T.Head) rfl Tryz.isAgg28 Tryz.sizeOf28)) (V (R_field fa38_1 c4) (V (R_load rfl (load_box1 hST.has (Mt (Mt Mh)) rfl Tryz.isAgg9)) ?_)))))
            obtain ⟨g7, k1, D⟩ := bind_some D
            have hsz := hST.size
            refine VE (E_callM (args := [(.pointer (some ⟨H, 0, none⟩)), (.agg (encRole T.Head).toArray), (.string u.Who)]) (caps := #[]) _ _ hST (Cb (Pb Pz) (Cr (Qb (Qb Qz)) (Cr (Qb (Qb Qz)) (Cr (Qb (Qb Qz)) (Cr (Qb (Qb Qz)) (Cr (Qb (Qb Qz)) Cn)))))) rfl Tryz.call370 (by exact args3 rfl rfl rfl) (fun hH hN hsb hmm => GivesM.weak (w_model_Model_tell_w H a Y Z c M g t G y f B j a3 a2 a0 a4 T.Head u.Who _ _ ⟨hH, hN, Sub.refl _⟩ c8.e c5 c7.e f3.e d0 k1)) (fun p0 q0 n1 o1 hST i6 hl3012 hlift i8 => ?_))
            obtain ⟨m0, m9, m1, f9, rfl, l4, l5⟩ := i8
            replace f9 := f9.symm; subst f9
            replace hST := hST.perm (Tb (Tr (Tr (Tr (Tr (Tr Tn))))))
            refine LW_nil (bq_n (sq_n ?_))
            replace hST := hST.sel (Kb (Kr (Kr (Kr (Kr (Kr (Db St)))))))
            exact ⟨eI, g7.1, m0, m9, g7.2.1, m1, g7.2.2, n1, _, ⟨rfl, eN⟩, (b1.trans i6), (hST.sel (Kb (Sb (Pr (Pr (Pr (Pr (Pr Pz))))) St))), b0, c4, d9, l4, l5, (by rw [h6]; exact D)⟩
          replace D := if_f f2 D
          refine CW_skip (bq_n (sq_n ?_))
          replace hST := hST.sel (Db St)
          exact ⟨eI, Y, Z, a3, a2, a0, a4, c1, _, ⟨rfl, eN⟩, b1, (hST.sel St), b0, c4, d9, c8.e, d0, (by rw [h6]; exact D)⟩
        rintro E W ⟨Y, Z, a3, a2, a0, a4, c1, g2, ⟨eI, eN⟩, b1, hST, b0, c4, d9, f6, d0, D⟩
        rw [List.drop_length] at D
        rw [m_model_Model_settle_w_L2] at D
        refine sq_n ?_
        replace D := Option.some.inj D; subst D
        exact ⟨Y, Z, a3, a2, a0, a4, c1, _, b1, (hST.sel (Kb (Db St))), b0, f6, d0, j5⟩
      rintro E W ⟨b2, d7, e7, b3, d8, b7, e9, i0, i5, hST, m4, k7, k8, j3⟩
      exact bq_n (sq_n ⟨g6, Nat.lt_succ_self _, b2, d7, e7, b3, d8, b7, e9, _, ((i3.trans i4).trans i5), (hST.sel St), m4, k7, k8, j3⟩)
    replace I := if_f f1 I
    refine CW_exit (sq_e (sq_e (bq_e (sq_n (retQ_n ?_)))))
    replace I := Option.some.inj I; subst I
    exact retQ_0 rfl ⟨_, _, rfl, (hST.bkM (Kb (Kr (Kr (Kr (Kr (Kr Sn))))))), c2, e5, c3, rfl, rfl, h3, c9⟩
theorem w_model_Model_Add_w (z : Nat) (f : Value) (c2 : List (Role × (List (ByteArray × Bool)))) (I : List (Nat × Obj)) (y : Value) (b0 : List Cred) (k : List (Nat × Obj)) (c : Value) (b9 : List (Role × (List Cred))) (G : List (Nat × Obj)) (a : Value) (b1 : List (ByteArray × (List Cred))) (t : List (Nat × Obj)) (H : Value) (b8 : List Fact) (D : List (Nat × Obj)) (N : Int) (d2 : Value) (a1 : List Cred) (r : (Int × (List (Role × (List (ByteArray × Bool)))) × (List Cred) × (List (Role × (List Cred))) × (List (ByteArray × (List Cred))) × (List Fact) × Int)) (w : World) {μ0 : Mem} (h0 : Ent μ0 ((z, Obj.cells (#[f, y, c, a, H, (.int .i64 N)] : Array Value) 294 (0, 0)) :: (I ++ (k ++ (G ++ (t ++ (D ++ [])))))) w) (d8 : DeepE (fun (x : Role) => (.agg (encRole x).toArray)) (MapRow Value.string (fun (x : Bool) => (Value.bool x))) f c2 I) (c6 : Row 53 encCred 9 y b0 k) (d5 : DeepE (fun (x : Role) => (.agg (encRole x).toArray)) (Row 53 encCred 9) c b9 G) (c7 : DeepE Value.string (Row 53 encCred 9) a b1 t) (d4 : Que 38 encFact 3 H b8 D) (d9 : Sl (Pl encCred) 9 μ0 d2 a1) (hm : m_model_Model_Add_w c2 b0 b9 b1 b8 N a1 = some r) :
    GivesM false Tryz.prog 233 [(.pointer (some ⟨z, 0, none⟩)), d2] w ((z, Obj.cells (#[f, y, c, a, H, (.int .i64 N)] : Array Value) 294 (0, 0)) :: (I ++ (k ++ (G ++ (t ++ (D ++ [])))))) (fun v L1 W' => ∃ (S1 : List (Nat × Obj)) (y3 : Value) (S4 : List (Nat × Obj)) (S6 : List (Nat × Obj)) (S8 : List (Nat × Obj)) (i0 : Value) (h9 : List (Nat × Obj)), v = (.int .i64 (r.1)) ∧ L1 = ((z, Obj.cells (#[f, y3, c, a, i0, (.int .i64 (r.2.2.2.2.2.2))] : Array Value) 294 (0, 0)) :: (S1 ++ (S4 ++ (S6 ++ (S8 ++ (h9 ++ [])))))) ∧ DeepE (fun (x : Role) => (.agg (encRole x).toArray)) (MapRow Value.string (fun (x : Bool) => (Value.bool x))) f r.2.1 S1 ∧ Row 53 encCred 9 y3 r.2.2.1 S4 ∧ DeepE (fun (x : Role) => (.agg (encRole x).toArray)) (Row 53 encCred 9) c r.2.2.2.1 S6 ∧ DeepE Value.string (Row 53 encCred 9) a r.2.2.2.2.1 S8 ∧ Que 38 encFact 3 i0 r.2.2.2.2.2.1 h9) := by
  have hST := ST.startE (dd := false) h0
  unfold m_model_Model_Add_w at hm
  refine calls_of_CW (n := 46) Tryz.func233 rfl rfl (Nat.le_of_ble_eq_true rfl) (CW_seq (CW_region (V (R_assign rfl) (LW_nil (sq_n (CW_seq (CW_seq (CW_region (V (R_move rfl) (V (R_ptrEqNil Tryz.underlying171 rfl rfl) (LW_nil (sq_n (CW_if_false rfl (CW_skip ?_))))))))))))))
  refine sq_n (CW_seq (CW_region (V (R_move rfl) (V (R_nilCheck rfl) (V (R_field fa294_5 rfl) (V (R_load rfl (load_box1 hST.has Mh rfl Tryz.isAgg3)) (V (R_assign rfl) (LW_nil (sq_n (CW_seq (CW_seq (CW_region (V (R_move rfl) (V (R_len Tryz.underlying22 rfl d9) ?_))))))))))))))
  refine V (R_move rfl) (LW_nil (sq_n (CW_range (fun i E W => ∃ (T : List (Role × (List (ByteArray × Bool)))) (a0 : List (Nat × Obj)) (Y : Value) (Z : List Cred) (a2 : List (Nat × Obj)) (a6 : List (Role × (List Cred))) (a3 : List (Nat × Obj)) (a7 : List (ByteArray × (List Cred))) (a4 : List (Nat × Obj)) (a8 : Value) (U : List Fact) (a5 : List (Nat × Obj)) (Q : Int) (c1 : Mem) (d7 : List (Nat × Obj)), (E 16 = .int .i64 (i : Nat) ∧ E 15 = .int .i64 (a1.length : Nat)) ∧ Sub μ0 c1 ∧ ST false (keys ((z, Obj.cells (#[f, y, c, a, H, (.int .i64 N)] : Array Value) 294 (0, 0)) :: (I ++ (k ++ (G ++ (t ++ (D ++ []))))))) w W c1 ((z, Obj.cells (#[f, Y, c, a, a8, (.int .i64 Q)] : Array Value) 294 (0, 0)) :: (a0 ++ (a2 ++ (a3 ++ (a4 ++ (a5 ++ d7)))))) ∧ E 0 = (.pointer (some ⟨z, 0, none⟩)) ∧ E 5 = (.int .i64 N) ∧ E 14 = d2 ∧ DeepE (fun (x : Role) => (.agg (encRole x).toArray)) (MapRow Value.string (fun (x : Bool) => (Value.bool x))) f T a0 ∧ Row 53 encCred 9 Y Z a2 ∧ DeepE (fun (x : Role) => (.agg (encRole x).toArray)) (Row 53 encCred 9) c a6 a3 ∧ DeepE Value.string (Row 53 encCred 9) a a7 a4 ∧ Que 38 encFact 3 a8 U a5 ∧ m_model_Model_Add_w_L1 N (a1.drop i) T Z a6 a7 U Q = some r) a1.length d9.len ⟨c2, I, y, b0, k, b9, G, b1, t, H, b8, D, N, μ0, _, ⟨rfl, rfl⟩, (Sub.refl _), (hST.sel St), rfl, rfl, rfl, d8, c6, d5, c7, d4, hm⟩ (by decide) (by decide) (by decide) (fun _ _ _ h => by obtain ⟨_, _, _, _, _, _, _, _, _, _, _, _, _, _, _, eIN, _⟩ := h; exact eIN) ?_ ?_)))
  · rintro f9 E W g4 ⟨T, a0, Y, Z, a2, a6, a3, a7, a4, a8, U, a5, Q, c1, d7, ⟨eI, eN⟩, b3, hST, c0, c3, c4, b4, a9, b5, b6, b7, u⟩
    obtain ⟨j, e5, h3, h2, e1⟩ := drop_cons g4
    rw [h3] at u
    rw [m_model_Model_Add_w_L1] at u
    refine CW_block (CW_seq (CW_region (VQ (R_indexP (enc := encCred) (i := (f9 : Int)) (x0 := j) Tryz.underlying22 Tryz.sizeOf53 c4 eI (d9.mono (Pl.mono _) b3) (Int.natCast_nonneg _) h2) (fun l0 g5 => V (R_load rfl (load_atA hST.has g5 Tryz.isAgg53 Tryz.sizeOf53)) (VE (E_alloc hST Tryz.zeroValue53 (fun k2 f1 hST => VO (F_store (.agg (encCred j).toArray) ((encCred j).toArray) hST rfl rfl Tryz.sizeOf53 (oneCred j) (Nat.le_of_ble_eq_true rfl) rfl (fun k3 hST => LW_nil (sq_n (CW_seq ?_)))))))))))
    replace hST := hST.drew
    have hS0 := hST.has.sel (Kb (Kb Sn))
    refine PX_start1 hS0 Tryz_mixed (XH 0 rfl hS0 (fun _ hS => R_load rfl (load_boxA hS Mh (encCred j) rfl Tryz.isAgg53 Tryz.sizeOf53)) ?_)
    obtain ⟨i6, g6, u⟩ := bind_some u
    refine XE 1 rfl (E_gives (args := [(.agg (encCred j).toArray)]) hST rfl Tryz.call137 (by exact args1 rfl) (Gives.weak (w_cred_Right j _ _  g6)) (fun k4 hST => ?_))
    have hS0 := hST.has.sel (Kb (Kb Sn))
    refine ⟨hS0, (X 2 rfl hS0 (R_move rfl) ?_)⟩
    obtain ⟨l1, B, e0⟩ := bind_some u
    refine PX_join (J := fun E W => ∃ (d3 : Bool) (e7 : List (Nat × Obj)), ST false (keys ((z, Obj.cells (#[f, y, c, a, H, (.int .i64 N)] : Array Value) 294 (0, 0)) :: (I ++ (k ++ (G ++ (t ++ (D ++ []))))))) w W c1 ((f1, Obj.cells ((encCred j).toArray : Array Value) 53 (0, 0)) :: ((z, Obj.cells (#[f, Y, c, a, a8, (.int .i64 Q)] : Array Value) 294 (0, 0)) :: (a0 ++ (a2 ++ (a3 ++ (a4 ++ (a5 ++ e7))))))) ∧ E 0 = (.pointer (some ⟨z, 0, none⟩)) ∧ E 5 = (.int .i64 N) ∧ E 7 = (.pointer (some ⟨f1, 0, none⟩)) ∧ E 14 = d2 ∧ E 15 = (.int .i64 ((a1.length : Int))) ∧ E 16 = (.int .i64 ((f9 : Int))) ∧ E 30 = (.bool d3) ∧ (if d3 then (((m_model_Model_note_w T Z a6 a7 U Q j)).bind fun K => (((m_model_Model_begin_w T K.1 K.2.1 K.2.2 U Q j)).bind fun b2 => (m_model_Model_Add_w_L1 N e5 b2.1 K.1 K.2.1 K.2.2 b2.2.1 b2.2.2))) else (m_model_Model_Add_w_L1 N e5 T Z a6 a7 U Q)) = some r) #[true, true, true, true, true, true, true, true, true, true, true] 0 ?_ (fun d6 => ?_)
    · rintro E W ⟨d3, e7, hST, c5, f2, f3, f4, f5, f6, i5, M⟩
      have hS0 := hST.has.sel (Kb (Kb Sn))
      refine PX_done (by kernel_rfl) (sq_n (CW_if (b := d3) i5 (fun c8 => ?_) (fun c8 => ?_)))
      · replace M := if_t c8 M
        refine CW_seq (CW_region (V (R_move c5) (V (R_load f3 (load_boxA hST.has Mh (encCred j) rfl Tryz.isAgg53 Tryz.sizeOf53)) ?_)))
        obtain ⟨K, g7, M⟩ := bind_some M
        have hsz := hST.size
        refine VE (E_callM (args := [(.pointer (some ⟨z, 0, none⟩)), (.agg (encCred j).toArray)]) (caps := #[]) _ _ hST (Cb (Pb Pz) (Cr (Qb Qz) (Cr (Qb Qz) (Cr (Qb Qz) (Cr (Qb Qz) (Cr (Qb Qz) Cn)))))) rfl Tryz.call324 (by exact args2 rfl rfl) (fun hH hN hsb hmm => GivesM.weak (w_model_Model_note_w z f T a0 Y Z a2 c a6 a3 a a7 a4 a8 U a5 Q j _ _ ⟨hH, hN, Sub.refl _⟩ b4 a9 b5 b6 b7 g7)) (fun k5 l2 l5 j9 hST f7 hl743 hlift g1 => ?_))
        obtain ⟨g0, e8, e9, f0, c9, rfl, e2, e3, e4⟩ := g1
        replace c9 := c9.symm; subst c9
        replace hST := hST.perm (Tb (Tr (Tr (Tr (Tr (Tr Tn))))))
        refine LW_nil (sq_n (CW_region (V (R_move c5) (V (R_load f3 (load_boxA hST.has (Mt (Ma (Ma (Ma (Ma (Ma Mh)))))) (encCred j) rfl Tryz.isAgg53 Tryz.sizeOf53)) ?_))))
        obtain ⟨b2, g8, M⟩ := bind_some M
        have hsz := hST.size
        refine VE (E_callM (args := [(.pointer (some ⟨z, 0, none⟩)), (.agg (encCred j).toArray)]) (caps := #[]) _ _ hST (Cb Pz (Cr Qz (Cr Qz (Cr Qz (Cr Qz (Cr Qz Cn)))))) rfl Tryz.call325 (by exact args2 rfl rfl) (fun hH hN hsb hmm => (w_model_Model_begin_w z f T a0 g0 K.1 e8 c K.2.1 e9 a K.2.2 f0 a8 U a5 Q j _ _ ⟨hH, hN, Sub.refl _⟩ b4 e2 e3 e4 b7 g8)) (fun k6 l3 j1 k0 hST f8 hl760 hlift g2 => ?_))
        obtain ⟨i1, i9, i2, d0, rfl, h4, h5⟩ := g2
        replace d0 := d0.symm; subst d0
        replace hST := hST.perm (Tb (Tr (Tr (Tr (Tr (Tr Tn))))))
        refine LW_nil (bq_n (sq_n ?_))
        replace hST := hST.sel (Kb (Kr (Kr (Kr (Kr (Kr (Db St)))))))
        exact ⟨f6, b2.1, i1, g0, K.1, e8, K.2.1, e9, K.2.2, f0, i9, b2.2.1, i2, b2.2.2, j1, _, ⟨rfl, f5⟩, ((b3.trans f7).trans f8), (hST.sel St), c5, f2, f4, h4, e2, e3, e4, h5, (by rw [e1]; exact M)⟩
      replace M := if_f c8 M
      refine CW_skip (bq_n (sq_n ?_))
      replace hST := hST.sel (Db St)
      exact ⟨f6, T, a0, Y, Z, a2, a6, a3, a7, a4, a8, U, a5, Q, c1, _, ⟨rfl, f5⟩, b3, (hST.sel St), c5, f2, f4, b4, a9, b5, b6, b7, (by rw [e1]; exact M)⟩
    rcases bool_cases i6 with g | g
    · replace B := if_t g B
      refine Xg 3 rfl rfl (congrArg Value.bool g) hS0 (R_move c0) (Xg 4 rfl rfl (congrArg Value.bool g) hS0 (R_nilCheck rfl) (Xg 5 rfl rfl (congrArg Value.bool g) hS0 (R_field fa294_1 rfl) (XgH 6 rfl rfl (congrArg Value.bool g) hS0 (fun _ hS => R_load rfl (load_box1 hS (Mt Mh) rfl Tryz.isAgg22)) (XgH 7 rfl rfl (congrArg Value.bool g) hS0 (fun _ hS => R_load rfl (load_boxA hS Mh (encCred j) rfl Tryz.isAgg53 Tryz.sizeOf53)) ?_))))
      obtain ⟨i7, g9, B⟩ := bind_some B
      refine XgE 8 rfl rfl (congrArg Value.bool g) (E_gives (args := [Y, (.agg (encCred j).toArray)]) hST rfl Tryz.call201 (by exact args2 rfl rfl) (Gives.weak (w_cred_Has Y Z j _ _ (a9.sl lenCred (fun b o hq => hST.at_ (Mt (Mt (Ma (Ml hq)))))) g9)) (fun k7 hST => ?_))
      have hS0 := hST.has.sel (Kb (Kb Sn))
      refine ⟨hS0, (Xg 9 rfl rfl (congrArg Value.bool g) hS0 (R_not rfl) (X 10 rfl hS0 (R_pickT (congrArg Value.bool g) rfl) ?_))⟩
      replace B := Option.some.inj B; subst B
      refine PX_at (by kernel_rfl) (d6 _ _ ⟨((!i7)), _, (hST.sel St), c0, c3, rfl, c4, eN, eI, rfl, e0⟩)
    replace B := if_f g B
    refine Xn 3 rfl rfl (congrArg Value.bool g) hS0 (Xn 4 rfl rfl (congrArg Value.bool g) hS0 (Xn 5 rfl rfl (congrArg Value.bool g) hS0 (Xn 6 rfl rfl (congrArg Value.bool g) hS0 (Xn 7 rfl rfl (congrArg Value.bool g) hS0 (Xn 8 rfl rfl (congrArg Value.bool g) hS0 (Xn 9 rfl rfl (congrArg Value.bool g) hS0 (X 10 rfl hS0 (R_pickF (congrArg Value.bool g) rfl) ?_)))))))
    replace B := Option.some.inj B; subst B
    refine PX_at (by kernel_rfl) (d6 _ _ ⟨false, _, (hST.sel St), c0, c3, rfl, c4, eN, eI, rfl, e0⟩)
  rintro E W ⟨T, a0, Y, Z, a2, a6, a3, a7, a4, a8, U, a5, Q, c1, d7, ⟨eI, eN⟩, b3, hST, c0, c3, c4, b4, a9, b5, b6, b7, u⟩
  rw [List.drop_length] at u
  rw [m_model_Model_Add_w_L1] at u
  refine sq_n (CW_seq (CW_region (V (R_move c0) ?_)))
  obtain ⟨i8, h1, u⟩ := bind_some u
  have hsz := hST.size
  refine VE (E_callM (args := [(.pointer (some ⟨z, 0, none⟩))]) (caps := #[]) _ _ hST (Cb Pz (Cr Qz (Cr Qz (Cr Qz (Cr Qz (Cr Qz Cn)))))) rfl Tryz.call326 (by exact args1 rfl) (fun hH hN hsb hmm => (w_model_Model_settle_w z f T a0 Y Z a2 c a6 a3 a a7 a4 a8 U a5 Q _ _ ⟨hH, hN, Sub.refl _⟩ b4 a9 b5 b6 b7 h1)) (fun k8 l4 l6 k1 hST j6 hl782 hlift g3 => ?_))
  obtain ⟨i3, j0, i4, d1, rfl, h6, h7⟩ := g3
  replace d1 := d1.symm; subst d1
  replace hST := hST.perm (Tb (Tr (Tr (Tr (Tr (Tr Tn))))))
  refine LW_nil (sq_n (CW_seq (CW_region (V (R_move c0) (V (R_nilCheck rfl) (V (R_field fa294_5 rfl) (V (R_load rfl (load_box1 hST.has Mh rfl Tryz.isAgg3)) (V (R_move c3) (V (R_int rfl rfl rfl) (V (R_assign rfl) (LW_nil (sq_n (CW_ret ?_)))))))))))))
  replace u := Option.some.inj u; subst u
  exact retQ_1 (v := (.int .i64 ((IntKind.i64.wrap (i8.2.2 - N))))) rfl rfl ⟨_, _, rfl, (hST.bkM (Kb (Kr (Kr (Kr (Kr (Kr Sn))))))), i3, Y, a2, a3, a4, j0, i4, rfl, rfl, h6, a9, b5, b6, h7⟩
theorem w_model_Of (a : Value) (G : List Cred) (r : ((List (Role × (List (ByteArray × Bool)))) × (List Cred) × (List (Role × (List Cred))) × (List (ByteArray × (List Cred))) × (List Fact) × Int)) (w : World) (I : Sl (Pl encCred) 9 (hp w) a G) (hm : m_model_Of G = some r) :
    GivesM false Tryz.prog 117 [a] w [] (fun v L1 W' => ∃ (b1 : Nat) (y2 : Value) (Z : List (Nat × Obj)) (y5 : Value) (S6 : List (Nat × Obj)) (y8 : Value) (S9 : List (Nat × Obj)) (B : Value) (t : List (Nat × Obj)) (D : Value) (u : List (Nat × Obj)), v = (.pointer (some ⟨b1, 0, none⟩)) ∧ L1 = ((b1, Obj.cells (#[y2, y5, y8, B, D, (.int .i64 (r.2.2.2.2.2))] : Array Value) 294 (0, 0)) :: (Z ++ (S6 ++ (S9 ++ (t ++ (u ++ [])))))) ∧ DeepE (fun (x : Role) => (.agg (encRole x).toArray)) (MapRow Value.string (fun (x : Bool) => (Value.bool x))) y2 r.1 Z ∧ Row 53 encCred 9 y5 r.2.1 S6 ∧ DeepE (fun (x : Role) => (.agg (encRole x).toArray)) (Row 53 encCred 9) y8 r.2.2.1 S9 ∧ DeepE Value.string (Row 53 encCred 9) B r.2.2.2.1 t ∧ Que 38 encFact 3 D r.2.2.2.2.1 u) := by
  have hST := ST.start (dd := false) w
  unfold m_model_Of at hm
  refine calls_of_CW (n := 13) Tryz.func117 rfl rfl (Nat.le_of_ble_eq_true rfl) (CW_seq (CW_region (V (R_assign rfl) (LW_nil (sq_n (CW_seq (CW_region (VE (E_makeMapD (P := Tryz.prog) (fun (x : Role) => (.agg (encRole x).toArray)) (MapRow Value.string (fun (x : Bool) => (Value.bool x))) hST (fun W1 v4 R2 hST y => VE (E_makeMapD (P := Tryz.prog) (fun (x : Role) => (.agg (encRole x).toArray)) (Row 53 encCred 9) hST (fun W5 v8 R6 hST z => VE (E_makeMapD (P := Tryz.prog) Value.string (Row 53 encCred 9) hST (fun W9 c2 U hST k => ?_))))))))))))))
  obtain ⟨c, rfl⟩ := y.form
  obtain ⟨f, rfl⟩ := z.form
  obtain ⟨g, rfl⟩ := k.form
  refine V (R_build (qs := #[(0, (.map (some c))), (2, (.map (some f))), (3, (.map (some g)))]) (v := (.agg #[(.map (some c)), (.slice none 0 0), (.map (some f)), (.map (some g)), (.slice none 0 0), (.int .i64 0)])) (parts3 rfl rfl rfl) (run_build Tryz.zeroValue294 Tryz.underlying294 (pl294 _ Tryz.underlying294) (by kernel_rfl))) (VE (E_box (v := (.agg #[(.map (some c)), (.slice none 0 0), (.map (some f)), (.map (some g)), (.slice none 0 0), (.int .i64 0)])) hST rfl (fun b9 j hST => V (R_assign rfl) (LW_nil (sq_n (CW_seq (CW_region (V (R_move rfl) (V (R_move rfl) ?_)))))))))
  obtain ⟨c1, J, hm⟩ := bind_some hm
  have hsz := hST.size
  refine VE (E_callM (args := [(.pointer (some ⟨j, 0, none⟩)), a]) (caps := #[]) _ _ hST (Cb Pz (Cr (Qr (Qr Qz)) (C0 (Cr (Qr Qz) (Cr Qz (C0 Cn)))))) rfl Tryz.call233 (by exact args2 rfl rfl) (fun hH hN hsb hmm => (w_model_Model_Add_w j (.map (some c)) ([]) R2 (.slice none 0 0) ([]) [] (.map (some f)) ([]) R6 (.map (some g)) ([]) U (.slice none 0 0) ([]) [] 0 a G _ _ ⟨hH, hN, Sub.refl _⟩ y (Row.nil _ _ _) z k (Que.nil _ _ _) (I.mono (Pl.mono _) hsb) J)) (fun c0 c3 c4 b8 hST b4 hl23 hlift H => ?_))
  obtain ⟨Y, a9, a1, a2, a3, b0, a4, i, rfl, K, M, N, Q, T⟩ := H
  replace i := i.symm; subst i
  replace hST := hST.perm (Tb (Tr (Tr (Tr (Tr (Tr Tn))))))
  refine LW_nil (sq_n (CW_seq (CW_region (V (R_move rfl) (V (R_assign rfl) (LW_nil (sq_n (CW_ret ?_))))))))
  replace hm := Option.some.inj hm; subst hm
  exact retQ_1 (v := (.pointer (some ⟨j, 0, none⟩))) rfl rfl ⟨_, _, rfl, (hST.bkL (Kb (Kr (Kr (Kr (Kr (Kr Sn))))))), j, (.map (some c)), Y, a9, a1, (.map (some f)), a2, (.map (some g)), a3, b0, a4, rfl, rfl, K, M, N, Q, T⟩
theorem w_sortF264 (c : Value) (j : List Fact) (a : List (Nat × Obj)) (f : Value) (k : ((Fact × Fact)) → Option Int) (r : List Fact) (w : World) {u : Mem} (t : Ent u (a ++ []) w) (g : Row 38 encFact 3 c j a) (i : CbO Tryz.prog f u (fun (x : (Fact × Fact)) => [(.agg (encFact x.1).toArray), (.agg (encFact x.2).toArray)]) (fun (r : Int) => (.int .i64 r)) k) (hm : sortF k j = some r) :
    GivesM true Tryz.prog 264 [c, f] w (a ++ []) (fun v y W' => ∃ (S : List (Nat × Obj)), v = (.tuple #[]) ∧ y = (S ++ []) ∧ Row 38 encFact 3 c r S) := sortF_gives (P := Tryz.prog) (ρ := ren264) lay264 3 Tryz.isAgg38 Tryz.sizeOf38 encFact lenFact oneFact t.H t.S g i hm
theorem w_model_Model_Facts_c1 (a : Fact) (c : Fact) (r : Int) (w : World)  (hm : m_model_Model_Facts_c1 a c = some r) :
    Gives true Tryz.prog 265 [(.agg (encFact a).toArray), (.agg (encFact c).toArray)] w (.int .i64 r) := by
  have hST := ST.start (dd := true) w
  unfold m_model_Model_Facts_c1 at hm
  refine calls_of_CW (n := 17) Tryz.func265 rfl rfl (Nat.le_of_ble_eq_true rfl) (CW_seq (CW_region (VE (E_box (v := (.agg (encFact a).toArray)) hST rfl (fun D H hST => VE (E_box (v := (.agg (encFact c).toArray)) hST rfl (fun G I hST => V (R_assign rfl) (LW_nil (sq_n (CW_seq ?_))))))))))
  replace hST := hST.drew
  have hS0 := hST.has.sel (Kb (Kb Sn))
  refine PX_start1 hS0 Tryz_mixed (X 0 rfl hS0 (R_field fa38_0 rfl) (XH 1 rfl hS0 (fun _ hS => R_load rfl (load_boxA hS (Mt Mh) (encRole a.Role) rfl Tryz.isAgg28 Tryz.sizeOf28)) (X 2 rfl hS0 (R_field fa38_0 rfl) (XH 3 rfl hS0 (fun _ hS => R_load rfl (load_boxA hS Mh (encRole c.Role) rfl Tryz.isAgg28 Tryz.sizeOf28)) (X 5 rfl hS0 (R_field fa38_1 rfl) (XH 6 rfl hS0 (fun _ hS => R_load rfl (load_box1 hS (Mt Mh) rfl Tryz.isAgg9)) (X 7 rfl hS0 (R_field fa38_1 rfl) (XH 8 rfl hS0 (fun _ hS => R_load rfl (load_box1 hS Mh rfl Tryz.isAgg9)) ?_))))))))
  obtain ⟨f, j, hm⟩ := bind_some hm
  refine XE 4 rfl (E_gives (args := [(.agg (encRole a.Role).toArray), (.agg (encRole c.Role).toArray)]) hST rfl Tryz.call123 (by exact args2 rfl rfl) ((w_role_Compare a.Role c.Role _ _  j)) (fun x hST => ?_))
  have hS0 := hST.has.sel (Kb (Kb Sn))
  refine ⟨hS0, ?_⟩
  obtain ⟨g, k, hm⟩ := bind_some hm
  refine XE 9 rfl (E_gives (args := [(.string a.Who), (.string c.Who)]) hST rfl Tryz.call239 (by exact args2 rfl rfl) ((w_strings_Compare a.Who c.Who _ _  k)) (fun y hST => ?_))
  have hS0 := hST.has.sel (Kb (Kb Sn))
  refine ⟨hS0, (XE 10 rfl (E_buildSlice (qs := #[(0, (.int .i64 f)), (1, (.int .i64 g))]) (cs := #[(.int .i64 f), (.int .i64 g)]) hST (parts2 rfl rfl) (run_lit [(.int .i64 f), (.int .i64 g)] Tryz.underlying256 Tryz.sizeOf3 Tryz.zeroValue3 (by decide) rfl (by intro v hv; simp only [List.mem_cons, List.not_mem_nil, or_false] at hv; rcases hv with rfl | rfl <;> rfl) rfl rfl) (fun z i hST => ?_)))⟩
  have hS0 := hST.has.sel (Db (Kb (Kb Sn)))
  refine ⟨hS0, ?_⟩
  obtain ⟨u, t, hm⟩ := bind_some hm
  refine XE 11 rfl (E_gives (args := [(.slice (some ⟨i, 0, none⟩) 2 2)]) hST rfl Tryz.call238 (by exact args1 rfl) ((w_cmp_Or_int (.slice (some ⟨i, 0, none⟩) 2 2) ([f, g]) _ _ (Sl.lit (enc := (encIk .i64)) (l := [f, g]) (fun _ => rfl) rfl (Nat.le_of_ble_eq_true rfl) rfl (hST.at_ Mh)) t)) (fun B hST => ?_))
  have hS0 := hST.has.sel (Db (Kb (Kb Sn)))
  refine ⟨hS0, (X 12 rfl hS0 (R_assign rfl) (PX_done (by kernel_rfl) (sq_n ?_)))⟩
  replace hST := hST.sel (Db (Db (Db St)))
  refine CW_ret ?_
  replace hm := Option.some.inj hm; subst hm
  exact retQ_1 (v := (.int .i64 u)) rfl rfl ⟨rfl, hST.ex⟩
theorem w_model_Model_Facts (D : Nat) (a : Value) (z : List (Role × (List (ByteArray × Bool)))) (c : Value) (j : List Cred) (i : Value) (u : List (Role × (List Cred))) (f : Value) (k : List (ByteArray × (List Cred))) (g : Value) (t : List Fact) (J : Int) (r : List Fact) (w : World) (G : DeepAt (fun (x : Role) => (.agg (encRole x).toArray)) (MapRow Value.string (fun (x : Bool) => (Value.bool x))) (hp w) a z) (Y : Sl (Pl encCred) 9 (hp w) c j) (a3 : DeepAt (fun (x : Role) => (.agg (encRole x).toArray)) (Row 53 encCred 9) (hp w) i u) (Z : DeepAt Value.string (Row 53 encCred 9) (hp w) f k) (a2 : Sl (Pl encFact) 3 (hp w) g t) (U : At (hp w) (.pointer (some ⟨D, 0, none⟩)) [a, c, i, f, g, (.int .i64 J)]) (hm : m_model_Model_Facts z j u k t J = some r) :
    GivesRow true Tryz.prog 147 [(.pointer (some ⟨D, 0, none⟩))] w 38 encFact 3 r := by
  have hST := ST.start (dd := true) w
  unfold m_model_Model_Facts at hm
  refine calls_of_CW (n := 34) Tryz.func147 rfl rfl (Nat.le_of_ble_eq_true rfl) (CW_seq (CW_region (V (R_assign rfl) (LW_nil (sq_n (CW_seq (CW_seq (CW_region (V (R_move rfl) (V (R_ptrEqNil Tryz.underlying171 rfl rfl) (LW_nil (sq_n (CW_if_false rfl (CW_skip ?_))))))))))))))
  refine sq_n (CW_seq (CW_region (V (R_assign rfl) (LW_nil (sq_n (CW_seq (CW_cut (fun E W => ∃ (v_f : Value) (l_f : List Fact) (R_f L_f : List (Nat × Obj)), ST true NoF w W (hp w) (R_f ++ L_f) ∧ E 3 = v_f ∧ Row 38 encFact 3 v_f l_f R_f ∧ (((sortF (fun (x : (Fact × Fact)) => m_model_Model_Facts_c1 x.1 x.2) l_f)).bind fun r4 => some r4) = some r) ?_ ?_)))))))
  · refine CW_seq (CW_region (LW_v (.inl rfl) rfl (by decide) (R_move (v := (.pointer (some ⟨D, 0, none⟩))) rfl) (LW_v (.inl rfl) rfl (by decide) (R_nilCheck rfl) (LW_q (.inl rfl) rfl (by decide) (R_fieldAt [a] fa294_0 rfl U rfl) (fun p1 b8 => LW_v (.inl rfl) rfl (by decide) (R_load rfl (load_at1 hST.has (y := a) b8 Tryz.isAgg290)) ?_)))))
    obtain ⟨ll, hll, hmat, hall⟩ := DeepAt.zip G
    refine LW_e (.inl rfl) rfl (by decide) (E_rangeM (M := (hp w)) Tryz.underlying290 hST rfl hmat (fun b o hb => hST.mem b o hb) (fun W v5 R6 hST hI => LW_nil (sq_n ?_)))
    obtain ⟨fs, hfs, hm⟩ := bind_some hm
    obtain ⟨b3, b5, b7⟩ := pairsB_some hfs
    replace hm := allOrders_spec hm
    have hP0 : (([] : List Fact) ++ ll.flatMap (fun (p : Role × (Value × List (ByteArray × Bool))) => p.2.2.map (fun (q : ByteArray × Bool) => (⟨p.1, q.1⟩ : Fact)))).Perm fs := by rw [← b7, ← hll, List.nil_append, List.flatMap_map]
    refine CW_block (CW_loop (fun m E W => ∃ (v : Value) (l : List Fact) (R L : List (Nat × Obj)) (lf : List (Role × (Value × List (ByteArray × Bool)))) (Ri : List (Nat × Obj)), m = lf.length ∧ ST true NoF w W (hp w) (R ++ (Ri ++ L)) ∧ E 3 = v ∧ E 13 = v5 ∧ Iter (fun (x : Role) => (.agg (encRole x).toArray)) (fun x => x.1) (hp w) v5 lf Ri ∧ Row 38 encFact 3 v l R ∧ (∀ p ∈ lf, MapAt Value.string (fun (x : Bool) => (Value.bool x)) (hp w) p.2.1 p.2.2) ∧ (l ++ lf.flatMap (fun (p : Role × (Value × List (ByteArray × Bool))) => p.2.2.map (fun (q : ByteArray × Bool) => (⟨p.1, q.1⟩ : Fact)))).Perm fs) _ ⟨.slice none 0 0, [], [], [], ll, R6, rfl, hST.perm (by simp), rfl, rfl, hI, Row.nil _ _ _, hall, hP0⟩ ?_)
    rintro m E W ⟨v, l, R, L, lf, Ri, rfl, hST, N, eit, hI, hR, hall, hP⟩
    refine CW_seq (CW_region (LW_e (.inl rfl) rfl (by decide) (E_nextM R hST (fun b o hb => hST.mem b o hb) hI eit (fun hend => ?_) (fun W R1 p B I hST hA => ?_))))
    · subst hend
      exact LW_v (.inl rfl) rfl (by decide) (R_extract (v := .bool false) rfl rfl) (LW_nil (sq_n (CW_seq (CW_if_false rfl (CW_exit (sq_e (sq_e (bq_e (sq_n ⟨v, l, R, Ri ++ L, hST, N, hR, hm l (by simpa using hP)⟩)))))))))
    · refine LW_v (.inl rfl) rfl (by decide) (R_extract (v := .bool true) rfl rfl) (LW_nil (sq_n (CW_seq (CW_if_true rfl (CW_skip (sq_n (CW_block (CW_seq (CW_region (LW_v (.inl rfl) rfl (by decide) (R_entryM (fun q hq => (hST.box q.1 q.2 (List.mem_append_right _ (List.mem_append_left _ hq))).1) (fun b o hb => hST.mem b o hb) hA eit) (LW_v (.inl rfl) rfl (by decide) (R_extract (v := (.agg (encRole p.1).toArray)) rfl rfl) (LW_v (.inl rfl) rfl (by decide) (R_extract (v := p.2.1) rfl rfl) (LW_e (.inl rfl) rfl (by decide) (E_alloc hST Tryz.zeroValue28 (fun W b4 hST => LW_e0 (.inl rfl) rfl (E_store [] (.agg (encRole p.1).toArray) ((encRole p.1).toArray) hST rfl rfl Tryz.sizeOf28 (oneRole p.1) (Nat.le_of_ble_eq_true rfl) rfl (fun W hST => LW_v (.inl rfl) rfl (by decide) (R_assign (v := p.2.1) rfl) (LW_nil (sq_n (CW_seq (CW_region (LW_v (.inl rfl) rfl (by decide) (R_move (v := p.2.1) rfl) (LW_e (.inl rfl) rfl (by decide) (E_rangeM (M := (hp w)) Tryz.underlying296 hST rfl (hall p (I.mem_iff.2 (.head _))) (fun b o hb => hST.mem b o hb) (fun W a5 a0 hST Q => LW_nil (sq_n ?_))))))))))))))))))))))))))
      have hall1 : ∀ p ∈ B, MapAt Value.string (fun (x : Bool) => (Value.bool x)) (hp w) p.2.1 p.2.2 := fun p hp => hall p (I.mem_iff.2 (.tail _ hp))
      have hP1 : (l ++ (p.2.2.map (fun q => (⟨p.1, q.1⟩ : Fact)) ++ B.flatMap (fun (p : Role × (Value × List (ByteArray × Bool))) => p.2.2.map (fun (q : ByteArray × Bool) => (⟨p.1, q.1⟩ : Fact))))).Perm fs := (List.Perm.append_left l (List.Perm.flatMap_right (fun (p : Role × (Value × List (ByteArray × Bool))) => p.2.2.map (fun (q : ByteArray × Bool) => (⟨p.1, q.1⟩ : Fact))) I)).symm.trans hP
      refine CW_block (CW_loop (fun m E W => ∃ (v : Value) (l : List Fact) (R L : List (Nat × Obj)) (lg : List (ByteArray × Bool)) (Rj : List (Nat × Obj)), m = lg.length ∧ ST true NoF w W (hp w) ((b4, Obj.cells (encRole p.1).toArray 28 (0, 0)) :: (R ++ (Rj ++ (R1 ++ L)))) ∧ E 3 = v ∧ E 13 = v5 ∧ E 4 = .pointer (some ⟨b4, 0, none⟩) ∧ E 20 = a5 ∧ Iter Value.string (fun (x : Bool) => (Value.bool x)) (hp w) a5 lg Rj ∧ Row 38 encFact 3 v l R ∧ (l ++ (lg.map (fun q => (⟨p.1, q.1⟩ : Fact)) ++ B.flatMap (fun (p : Role × (Value × List (ByteArray × Bool))) => p.2.2.map (fun (q : ByteArray × Bool) => (⟨p.1, q.1⟩ : Fact))))).Perm fs) _ ⟨v, l, R, L, p.2.2, a0, rfl, ?_, N, eit, rfl, rfl, Q, hR, hP1⟩ ?_)
      · refine hST.perm ?_
        show (a0 ++ ((b4, Obj.cells (encRole p.1).toArray 28 (0, 0)) :: (R ++ (R1 ++ L)))).Perm _
        exact List.perm_middle.trans (List.Perm.cons _ (List.perm_append_comm_assoc _ _ _))
      rintro m E W ⟨v, l, R, L, lg, Rj, rfl, hST, N, eit, e4, K, Q, hR, hP⟩
      refine CW_seq (CW_region (LW_e (.inl rfl) rfl (by decide) (E_nextM ([_] ++ R) (by simpa only [List.append_assoc, List.cons_append, List.nil_append, List.singleton_append] using hST) (fun b o hb => hST.mem b o hb) Q K (fun hend => ?_) (fun W Rj1 q lg1 a4 hST a1 => ?_))))
      · subst hend
        exact LW_v (.inl rfl) rfl (by decide) (R_extract (v := .bool false) rfl rfl) (LW_nil (sq_n (CW_seq (CW_if_false rfl (CW_exit (sq_e (sq_e (bq_e (bq_n (sq_n ⟨_, by simp [I.length_eq], v, l, R, Rj ++ L, B, R1, rfl, (ST.drop (A := []) hST).perm (List.Perm.append_left R (List.perm_append_comm_assoc _ _ _)), N, eit, hA.iter, hR, hall1, by simpa using hP⟩))))))))))
      · simp only [List.append_assoc, List.cons_append, List.nil_append, List.singleton_append] at hST
        refine LW_v (.inl rfl) rfl (by decide) (R_extract (v := .bool true) rfl rfl) (LW_nil (sq_n (CW_seq (CW_if_true rfl (CW_skip (sq_n (CW_block (CW_seq (CW_region (LW_v (.inl rfl) rfl (by decide) (R_entryM (fun q hq => (hST.box q.1 q.2 (.tail _ (List.mem_append_right _ (List.mem_append_left _ hq)))).1) (fun b o hb => hST.mem b o hb) a1 K) (LW_v (.inl rfl) rfl (by decide) (R_extract (v := (.string q.1)) rfl rfl) (LW_v (.inl rfl) rfl (by decide) (R_assign (v := (.string q.1)) rfl) (LW_nil (sq_n (CW_region (LW_v (.inl rfl) rfl (by decide) (R_move (v := v) N) (LW_v (.inl rfl) rfl (by decide) (R_load (v := (.agg (encRole p.1).toArray)) e4 (load_boxA hST.has (.head _) (encRole p.1) rfl Tryz.isAgg28 Tryz.sizeOf28)) (LW_v (.inl rfl) rfl (by decide) (R_move (v := (.string q.1)) rfl) (LW_v (.inl rfl) rfl (by decide) (R_build (qs := #[(0, (.agg (encRole p.1).toArray)), (1, (.string q.1))]) (v := (.agg (encFact (⟨p.1, q.1⟩ : Fact)).toArray)) (parts2 rfl rfl) (run_build Tryz.zeroValue38 Tryz.underlying38 (pl38 _ Tryz.underlying38) (by kernel_rfl))) (LW_e (.inl rfl) rfl (by decide) (E_buildSlice (qs := #[(0, (.agg (encFact (⟨p.1, q.1⟩ : Fact)).toArray))]) (cs := (encFact (⟨p.1, q.1⟩ : Fact)).toArray) hST (parts1 rfl) (run_lit [(.agg (encFact (⟨p.1, q.1⟩ : Fact)).toArray)] Tryz.underlying68 Tryz.sizeOf38 Tryz.zeroValue38 (by decide) rfl (by intro v hv; simp only [List.mem_cons, List.not_mem_nil, or_false] at hv; rcases hv with rfl <;> rfl) rfl rfl) (fun W b6 hST => ?_))))))))))))))))))))))
        have hP2 : ((l ++ [(⟨p.1, q.1⟩ : Fact)]) ++ (lg1.map (fun q => (⟨p.1, q.1⟩ : Fact)) ++ B.flatMap (fun (p : Role × (Value × List (ByteArray × Bool))) => p.2.2.map (fun (q : ByteArray × Bool) => (⟨p.1, q.1⟩ : Fact))))).Perm fs := by rw [List.append_assoc]; exact (List.Perm.append_left l (List.Perm.append_right _ (a4.map (fun q => (⟨p.1, q.1⟩ : Fact))).symm)).trans hP
        have happ : appB 48 l [(⟨p.1, q.1⟩ : Fact)] = some (l ++ [(⟨p.1, q.1⟩ : Fact)]) := appB_of b3 b5 (by rw [← hP2.length_eq]; simp only [List.length_append]; omega)
        exact LW_e (.inl rfl) rfl (by decide) (E_append (enc := encFact) (v := v) (vs := (.slice (some ⟨b6, 0, none⟩) 1 1)) (R := R) [_, _] hST lenFact (by decide) oneFact Tryz.underlying68 info38.1 info38.2.1 rfl info38.2.2.1 info38.2.2.2 rfl rfl hR (Sl.lit (enc := encFact) (l := [(⟨p.1, q.1⟩ : Fact)]) lenFact rfl (Nat.le_of_ble_eq_true rfl) rfl (hST.at_ (.head _))) happ (fun W v8 R8 hST b2 => LW_v (.inl rfl) rfl (by decide) (R_assign (v := v8) rfl) (LW_nil (bq_n (sq_n ⟨_, by simp [a4.length_eq], v8, _, R8, L, lg1, Rj1, rfl, ST.drop (A := []) hST, rfl, eit, e4, K, a1.iter, b2, hP2⟩)))))
  · rintro E W ⟨v_f, l_f, R_f, L_f, hST, e_f, h_f, hm⟩
    refine CW_seq (CW_region (V (R_move e_f) ?_))
    obtain ⟨r4, b9, hm⟩ := bind_some hm
    have hsz := hST.size
    refine VE (E_callM (args := [v_f, (.func (.func 265) #[] #[])]) (caps := #[]) _ _ hST (Cr Qz Cn) rfl Tryz.call264 (by exact args2 rfl rfl) (fun hH hN hsb hmm => (w_sortF264 v_f l_f R_f (.func (.func 265) #[] #[]) (fun (x : (Fact × Fact)) => m_model_Model_Facts_c1 x.1 x.2) _ _ ⟨hH, hN, Sub.refl _⟩ h_f ⟨265, #[], rfl, Tryz.call265, fun W x r hs hm => w_model_Model_Facts_c1 x.1 x.2 r W  hm⟩ b9)) (fun W6 c7 μ7 c6 hST c5 hl9 hlift a8 => ?_))
    obtain ⟨b0, H, rfl, T⟩ := a8
    replace H := H.symm; subst H
    replace hST := hST.perm (Tr Tn)
    refine LW_nil (sq_n (CW_seq (CW_region (V (R_move e_f) (V (R_assign rfl) (LW_nil (sq_n (CW_ret ?_))))))))
    replace hm := Option.some.inj hm; subst hm
    exact retQ_1 (v := v_f) rfl rfl ⟨_, b0, rfl, hST.backRow (fun p hq => (Ml hq)) T.nd, T⟩
theorem w_slices_IndexFunc_Fact (g : Value) (t : List Fact) (j : Value) (D : Fact → Option Bool) (r : Int) (w : World) (c : Sl (Pl encFact) 3 (hp w) g t) (G : CbOk Tryz.prog j (hp w) (fun (x : Fact) => [(.agg (encFact x).toArray)]) (fun (r : Bool) => (.bool r)) D) (hm : m_slices_IndexFunc_Fact t D = some r) :
    Gives false Tryz.prog 263 [g, j] w (.int .i64 r) := by
  have hST := ST.start (dd := false) w
  unfold m_slices_IndexFunc_Fact at hm
  refine calls_of_CW (n := 19) Tryz.func263 rfl rfl (Nat.le_of_ble_eq_true rfl) (CW_seq (CW_region (V (R_assign rfl) (LW_nil (sq_n (CW_seq (CW_seq (CW_region (V (R_move rfl) (V (R_len Tryz.underlying68 rfl c) (V (R_move rfl) (LW_nil (sq_n (CW_range (fun i E W => ∃  (k : List (Nat × Obj)), (E 8 = .int .i64 (i : Nat) ∧ E 7 = .int .i64 (t.length : Nat)) ∧ ST false NoF w W (hp w) k ∧ E 0 = g ∧ E 1 = j ∧ m_slices_IndexFunc_Fact_L1 D (t.drop i) i = some r) t.length c.len ⟨_, ⟨rfl, rfl⟩, (hST.sel St), rfl, rfl, hm⟩ (by decide) (by decide) (by decide) (fun _ _ _ h => by obtain ⟨_, eIN, _⟩ := h; exact eIN) ?_ ?_))))))))))))))
  · rintro z E W H ⟨k, ⟨eI, eN⟩, hST, u, y, a⟩
    obtain ⟨B, T, M, K, N⟩ := drop_cons H
    rw [M] at a
    rw [m_slices_IndexFunc_Fact_L1] at a
    refine CW_block (CW_seq (CW_region (V (R_move eI) (V (R_assign rfl) (LW_nil (sq_n (CW_seq (CW_region (V (R_move y) (V (R_move u) (V (R_move rfl) (VQ (R_indexP (enc := encFact) (i := (z : Int)) (x0 := B) Tryz.underlying68 Tryz.sizeOf38 rfl rfl c (Int.natCast_nonneg _) K) (fun Y I => V (R_load rfl (load_atA hST.has I Tryz.isAgg38 Tryz.sizeOf38)) ?_)))))))))))))
    obtain ⟨Q, J, a⟩ := bind_some a
    refine VE (E_cb B hST G (Sub.refl _) rfl (args1 rfl) J (fun U hST => LW_nil (sq_n (CW_if (b := Q) rfl (fun f => ?_) (fun f => ?_)))))
    · replace a := if_t f a
      refine CW_seq (CW_region (V (R_move rfl) (V (R_assign rfl) (LW_nil (sq_n (CW_ret (bq_r (sq_r (bq_r (sq_r ?_))))))))))
      replace a := Option.some.inj a; subst a
      exact retQ_1 (v := (.int .i64 ((z : Int)))) rfl rfl ⟨rfl, hST.ex⟩
    replace a := if_f f a
    exact CW_skip (bq_n (sq_n ⟨eI, _, ⟨rfl, eN⟩, (hST.sel St), u, y, (by rw [N]; exact a)⟩))
  rintro E W ⟨k, ⟨eI, eN⟩, hST, u, y, a⟩
  rw [List.drop_length] at a
  rw [m_slices_IndexFunc_Fact_L1] at a
  refine sq_n (CW_seq (CW_region (V (R_assign rfl) (LW_nil (sq_n (CW_ret ?_))))))
  replace a := Option.some.inj a; subst a
  exact retQ_1 (v := (.int .i64 ((-1)))) rfl rfl ⟨rfl, hST.ex⟩
theorem w_slices_DeleteFunc_Fact (g : Value) (a0 : List Fact) (y : List (Nat × Obj)) (G : Value) (f1 : Fact → Option Bool) (r : List Fact) (w : World) {μ0 : Mem} (h0 : Ent μ0 (y ++ []) w) (a1 : Row 38 encFact 3 g a0 y) (a8 : CbOk Tryz.prog G μ0 (fun (x : Fact) => [(.agg (encFact x).toArray)]) (fun (r : Bool) => (.bool r)) f1) (hm : m_slices_DeleteFunc_Fact a0 f1 = some r) :
    GivesM false Tryz.prog 146 [g, G] w (y ++ []) (fun v L1 W' => ∃ (y1 : Value) (S2 : List (Nat × Obj)), v = y1 ∧ L1 = (S2 ++ []) ∧ Row 38 encFact 3 y1 r S2) := by
  have hST := ST.startE (dd := false) h0
  unfold m_slices_DeleteFunc_Fact at hm
  refine calls_of_CW (n := 42) Tryz.func146 rfl rfl (Nat.le_of_ble_eq_true rfl) (CW_seq (CW_region (V (R_assign rfl) (LW_nil (sq_n (CW_seq (CW_region (V (R_move rfl) (V (R_move rfl) ?_)))))))))
  obtain ⟨r1, d3, hm⟩ := bind_some hm
  refine VE (E_gives (args := [g, G]) hST rfl Tryz.call263 (by exact args2 rfl rfl) ((w_slices_IndexFunc_Fact g a0 G f1 _ _ (a1.sl lenFact (fun b o hq => hST.at_ (Ml hq))) (a8.mono hST.sub_hp) d3)) (fun W3 hST => V (R_assign rfl) (LW_nil (sq_n (CW_seq (CW_seq (CW_region (V (R_move rfl) (V (R_int rfl rfl rfl) (LW_nil (sq_n (CW_if (b := (r1 == ((-1)))) rfl (fun a9 => ?_) (fun a9 => ?_)))))))))))))
  · replace hm := if_t a9 hm
    refine CW_seq (CW_region (V (R_move rfl) (V (R_assign rfl) (LW_nil (sq_n (CW_ret (sq_r ?_)))))))
    replace hm := Option.some.inj hm; subst hm
    exact retQ_1 (v := g) rfl rfl ⟨_, _, rfl, (hST.bkM (Kr Sn)), g, y, rfl, rfl, a1⟩
  replace hm := if_f a9 hm
  refine CW_skip (sq_n (CW_seq (CW_seq (CW_region (V (R_move rfl) (V (R_int rfl rfl rfl) (V (R_assign rfl) (LW_nil (sq_n (CW_block (CW_loop (fun m E W => ∃ (D : List Fact) (I : List (Nat × Obj)) (k : Int) (t : Int) (a5 : List (Nat × Obj)), ST false (keys (y ++ [])) w W μ0 (I ++ a5) ∧ E 0 = g ∧ E 1 = G ∧ E 5 = (.int .i64 k) ∧ E 6 = (.int .i64 t) ∧ Row 38 encFact 3 g D I ∧ m_slices_DeleteFunc_Fact_L1 f1 m D k t = some r) FUEL ⟨a0, y, r1, ((IntKind.i64.wrap (r1 + 1))), _, (hST.sel St), rfl, rfl, rfl, rfl, a1, hm⟩ ?_)))))))))))
  rintro m E W ⟨D, I, k, t, a5, hST, B, Z, H, K, f, c⟩
  cases m with
  | zero => rw [m_slices_DeleteFunc_Fact_L1] at c; cases c
  | succ b0 =>
    rw [m_slices_DeleteFunc_Fact_L1] at c
    refine CW_seq (CW_seq (CW_region (V (R_move K) (V (R_move B) (V (R_lenRow Tryz.underlying68 rfl f) (V (R_int rfl rfl rfl) (LW_nil (sq_n (CW_if (b := (decide (t < ((D.length : Int))))) rfl (fun M => ?_) (fun M => ?_))))))))))
    · replace c := if_t M c
      refine CW_skip (sq_n (CW_seq ?_))
      obtain ⟨e5, a, a4⟩ := bind_some c
      refine CW_cut (fun E W => ∃ (U : List Fact) (J : List (Nat × Obj)) (Y : Int) (a6 : List (Nat × Obj)), ST false (keys (y ++ [])) w W μ0 (J ++ a6) ∧ E 0 = g ∧ E 1 = G ∧ E 5 = (.int .i64 Y) ∧ E 6 = (.int .i64 t) ∧ Row 38 encFact 3 g U J ∧ (m_slices_DeleteFunc_Fact_L1 f1 b0 U Y ((IntKind.i64.wrap (t + 1)))) = some r) ?_ ?_
      · refine CW_block (CW_seq (CW_region (V (R_move B) (V (R_move K) ?_))))
        obtain ⟨j, Q, a⟩ := bind_some a
        refine VQ (R_indexRow (i := t) (x0 := j) Tryz.underlying68 Tryz.sizeOf38 rfl rfl f (idx_nonneg Q) (idx_get Q)) (fun e3 b6 => V (R_load rfl (load_ixA hST.has (fun p hq => (Ml hq)) f lenFact b6 (idx_get Q) Tryz.isAgg38 Tryz.sizeOf38)) (VE (E_alloc hST Tryz.zeroValue38 (fun d6 e1 hST => VO (F_store (.agg (encFact j).toArray) ((encFact j).toArray) hST rfl rfl Tryz.sizeOf38 (oneFact j) (Nat.le_of_ble_eq_true rfl) rfl (fun d7 hST => LW_nil (sq_n (CW_seq (CW_region (V (R_move Z) (V (R_load rfl (load_boxA hST.has Mh (encFact j) rfl Tryz.isAgg38 Tryz.sizeOf38)) ?_)))))))))))
        obtain ⟨d0, b8, a⟩ := bind_some a
        refine VE (E_cb j hST a8 (Sub.refl _) rfl (args1 rfl) b8 (fun d8 hST => V (R_not rfl) (LW_nil (sq_n (CW_if (b := (!d0)) rfl (fun N => ?_) (fun N => ?_))))))
        · replace a := if_t N a
          refine CW_seq (CW_region (V (R_move B) (V (R_move H) (V (R_load rfl (load_boxA hST.has Mh (encFact j) rfl Tryz.isAgg38 Tryz.sizeOf38)) ?_))))
          obtain ⟨d1, T, a⟩ := bind_some a
          refine VQ (R_indexRow (i := k) (x0 := d1) Tryz.underlying68 Tryz.sizeOf38 rfl rfl f (idx_nonneg T) (idx_get T)) (fun e4 b7 => ?_)
          replace hST := hST.perm (Nr (Qb Qz) Nz)
          refine VO (F_storeRow (u := (.agg (encFact j).toArray)) (x1 := j)  hST f lenFact oneFact rfl rfl rfl b7 (idx_get T) Tryz.sizeOf38 (fun d9 c3 hST b3 => LW_nil (sq_n ?_)))
          replace hST := hST.sel (Kr (Db St))
          refine CW_region (V (R_move H) (V (R_int rfl rfl rfl) (V (R_assign rfl) (LW_nil (bq_n (sq_n ?_))))))
          replace a := Option.some.inj a; subst a
          exact ⟨((D.set (Int.toNat k) j)), c3, ((IntKind.i64.wrap (k + 1))), _, (hST.sel St), B, Z, rfl, K, b3, a4⟩
        replace a := if_f N a
        refine CW_skip (bq_n (sq_n ?_))
        replace a := Option.some.inj a; subst a
        exact ⟨D, I, k, _, (hST.sel (Db St)), B, Z, H, K, f, a4⟩
      rintro E W ⟨U, J, Y, a6, hST, c5, c6, c7, c8, b9, b5⟩
      exact CW_region (V (R_move c8) (V (R_int rfl rfl rfl) (V (R_assign rfl) (LW_nil (sq_n ⟨b0, Nat.lt_succ_self _, U, J, Y, ((IntKind.i64.wrap (t + 1))), _, (hST.sel St), c5, c6, c7, rfl, b9, b5⟩)))))
    replace c := if_f M c
    refine CW_exit (sq_e (sq_e (bq_e (sq_n (CW_seq (CW_region (V (R_move B) (V (R_move H) ?_))))))))
    obtain ⟨_, a2, c⟩ := bind_some c
    refine VQ (R_sliceTail (i := k) Tryz.underlying68 Tryz.sizeOf38 rfl rfl f (chk_1 a2) (chk_2 a2)) (fun e6 c0 => VO (F_clearTail (z := (⟨(⟨zS, zS⟩ : Role), zS⟩ : Fact))  hST f lenFact oneFact Tryz.underlying68 Tryz.zeroValue38 c0 rfl rfl (fun e0 c4 hST b4 => LW_nil (sq_n (CW_seq (CW_region (V (R_move B) (V (R_move H) ?_))))))))
    obtain ⟨_, a3, c⟩ := bind_some c
    refine VQ (R_sliceTo (i := k) Tryz.underlying68 Tryz.sizeOf38 rfl rfl b4 lenFact (chk_1 a3) (chk_2 a3)) (fun b1 c1 => V (R_assign rfl) (LW_nil (sq_n (CW_ret ?_))))
    replace c := Option.some.inj c; subst c
    exact retQ_1 (v := b1) rfl rfl ⟨_, _, rfl, (hST.bkM (Kr Sn)), b1, c4, rfl, rfl, c1⟩
theorem w_model_Model_In (J : Nat) (a : Value) (t : List (Role × (List (ByteArray × Bool)))) (c : Value) (j : List Cred) (i : Value) (D : List (Role × (List Cred))) (f : Value) (u : List (ByteArray × (List Cred))) (g : Value) (B : List Fact) (I : Int) (G : Role) (N : ByteArray) (r : Bool) (w : World) (H : DeepAt (fun (x : Role) => (.agg (encRole x).toArray)) (MapRow Value.string (fun (x : Bool) => (Value.bool x))) (hp w) a t) (T : Sl (Pl encCred) 9 (hp w) c j) (Z : DeepAt (fun (x : Role) => (.agg (encRole x).toArray)) (Row 53 encCred 9) (hp w) i D) (U : DeepAt Value.string (Row 53 encCred 9) (hp w) f u) (Y : Sl (Pl encFact) 3 (hp w) g B) (Q : At (hp w) (.pointer (some ⟨J, 0, none⟩)) [a, c, i, f, g, (.int .i64 I)]) (hm : m_model_Model_In t j D u B I G N = some r) :
    Gives true Tryz.prog 149 [(.pointer (some ⟨J, 0, none⟩)), (.agg (encRole G).toArray), (.string N)] w (.bool r) := by
  have hST := ST.start (dd := true) w
  unfold m_model_Model_In at hm
  refine calls_of_CW (n := 19) Tryz.func149 rfl rfl (Nat.le_of_ble_eq_true rfl) (CW_seq (CW_region (VE (E_box (v := (.agg (encRole G).toArray)) hST rfl (fun W2 b1 hST => V (R_assign rfl) (LW_nil (sq_n (CW_seq ?_))))))))
  replace hST := hST.drew
  have hS0 := hST.has.sel (Kb Sn)
  refine PX_start1 hS0 Tryz_mixed (X 0 rfl hS0 (R_move rfl) (X 1 rfl hS0 (R_ptrNeNil Tryz.underlying171 rfl rfl) (X 2 rfl hS0 (R_move rfl) (Xg 3 rfl rfl rfl hS0 (R_move rfl) (Xg 4 rfl rfl rfl hS0 (R_nilCheck rfl) (PX_q 5 rfl (by kernel_rfl) (.inr ⟨2, true, 9, rfl, rfl, by decide, rfl⟩) rfl (by decide) (fun _ _ h => h) hS0 (R_fieldAt [a] fa294_0 rfl Q rfl) (fun a5 a0 => XgH 6 rfl rfl rfl hS0 (fun _ hS => R_load rfl (load_at1 hS (y := a) a0 Tryz.isAgg290)) (XgH 7 rfl rfl rfl hS0 (fun _ hS => R_load rfl (load_boxA hS Mh (encRole G) rfl Tryz.isAgg28 Tryz.sizeOf28)) ?_))))))))
  obtain ⟨a3, a4, K, M⟩ := H
  refine XgH 8 rfl rfl rfl hS0 (fun _ hS => R_lookupDeep (k := G) (z := (.map none)) kl28 Tryz.underlying290 Tryz.zeroValue296 rfl rfl K (fun b o hq => hS.1 b o (M b o hq))) (Xg 9 rfl rfl rfl hS0 (R_move rfl) (XgH 10 rfl rfl rfl hS0 (fun _ hS => R_lookupD (k := N) (z := false) (vf := (fun (x : Bool) => (Value.bool x))) kl9 Tryz.underlying296 Tryz.zeroValue4 rfl rfl ((DeepV.mapAt beqRole_iff.1 K G M).mono (fun b o hq => hS.1 b o hq))) (X 11 rfl hS0 (R_pickT rfl rfl) (X 12 rfl hS0 (R_assign rfl) (PX_done (by kernel_rfl) (sq_n ?_))))))
  replace hST := hST.sel (Db St)
  refine CW_ret ?_
  replace hm := Option.some.inj hm; subst hm
  exact retQ_1 (v := (.bool ((mgetD beqS (((mget beqRole t G).getD [])) N false)))) rfl rfl ⟨rfl, hST.ex⟩
theorem w_revoke_Lost_c1 (K : Fact) (N : Nat) (z : Nat) (k : Value) (B : List (Role × (List (ByteArray × Bool)))) (a : Value) (i : List Cred) (g : Value) (u : List (Role × (List Cred))) (c : Value) (j : List (ByteArray × (List Cred))) (f : Value) (t : List Fact) (H : Int) (r : Bool) (w : World) (M : DeepAt (fun (x : Role) => (.agg (encRole x).toArray)) (MapRow Value.string (fun (x : Bool) => (Value.bool x))) (hp w) k B) (D : Sl (Pl encCred) 9 (hp w) a i) (J : DeepAt (fun (x : Role) => (.agg (encRole x).toArray)) (Row 53 encCred 9) (hp w) g u) (G : DeepAt Value.string (Row 53 encCred 9) (hp w) c j) (I : Sl (Pl encFact) 3 (hp w) f t) (Q : At (hp w) (.pointer (some ⟨z, 0, none⟩)) [k, a, g, c, f, (.int .i64 H)]) (T : At (hp w) (.pointer (some ⟨N, 0, none⟩)) [(.pointer (some ⟨z, 0, none⟩))]) (hm : m_revoke_Lost_c1 K B i u j t H = some r) :
    Gives true Tryz.prog 148 [(.agg (encFact K).toArray), (.pointer (some ⟨N, 0, none⟩))] w (.bool r) := by
  have hST := ST.start (dd := true) w
  unfold m_revoke_Lost_c1 at hm
  refine calls_of_CW (n := 10) Tryz.func148 rfl rfl (Nat.le_of_ble_eq_true rfl) (CW_seq (CW_region (VE (E_box (v := (.agg (encFact K).toArray)) hST rfl (fun Z b1 hST => V (R_assign rfl) (LW_nil (sq_n (CW_seq (CW_region (V (R_load rfl (load_at1 hST.has (y := (.pointer (some ⟨z, 0, none⟩))) T Tryz.isAgg171)) (V (R_field fa38_0 rfl) (V (R_load rfl (load_boxA hST.has Mh (encRole K.Role) rfl Tryz.isAgg28 Tryz.sizeOf28)) (V (R_field fa38_1 rfl) (V (R_load rfl (load_box1 hST.has Mh rfl Tryz.isAgg9)) ?_))))))))))))))
  obtain ⟨Y, U, hm⟩ := bind_some hm
  refine VE (E_gives (args := [(.pointer (some ⟨z, 0, none⟩)), (.agg (encRole K.Role).toArray), (.string K.Who)]) hST rfl Tryz.call149 (by exact args3 rfl rfl rfl) ((w_model_Model_In z k B a i g u c j f t H K.Role K.Who _ _ (M.mono hST.sub_hp) (D.mono (Pl.mono _) hST.sub_hp) (J.mono hST.sub_hp) (G.mono hST.sub_hp) (I.mono (Pl.mono _) hST.sub_hp) (Q.mono hST.sub_hp) U)) (fun W5 hST => V (R_assign rfl) (LW_nil (sq_n ?_))))
  replace hST := hST.sel (Db St)
  refine CW_ret ?_
  replace hm := Option.some.inj hm; subst hm
  exact retQ_1 (v := (.bool Y)) rfl rfl ⟨rfl, hST.ex⟩
theorem w_revoke_Lost (c : Value) (B : List Cred) (g : Value) (I : List Cred) (r : List Fact) (w : World) (y : Sl (Pl encCred) 9 (hp w) c B) (Q : Sl (Pl encCred) 9 (hp w) g I) (hm : m_revoke_Lost B I = some r) :
    GivesRow false Tryz.prog 45 [c, g] w 38 encFact 3 r := by
  have hST := ST.start (dd := false) w
  unfold m_revoke_Lost at hm
  refine calls_of_CW (n := 15) Tryz.func45 rfl rfl (Nat.le_of_ble_eq_true rfl) (CW_seq (CW_region (V (R_assign rfl) (LW_nil (sq_n (CW_seq (CW_region (V (R_move rfl) (V (R_move rfl) ?_)))))))))
  obtain ⟨r1, b6, hm⟩ := bind_some hm
  refine VE (F_givesRow (args := [c, g]) _ hST rfl Tryz.call145 (by exact args2 rfl rfl) ((w_revoke_without c B g I _ _ (y.mono (Pl.mono _) hST.sub_hp) (Q.mono (Pl.mono _) hST.sub_hp) b6)) (fun W3 v7 μ4 R8 hST T hl6 b5 => ?_))
  obtain ⟨a, U, hm⟩ := bind_some hm
  have hsz := hST.size
  refine VE (E_callM (args := [v7]) (caps := #[]) [] _ hST (List.Perm.refl _) rfl Tryz.call117 (by exact args1 rfl) (fun _ _ _ _ => (w_model_Of v7 r1 _ _ (b5.sl lenCred (fun b o hq => hST.at_ (Ml hq))) U)) (fun e7 f4 f7 d4 hST D hl15 hlift J => ?_))
  obtain ⟨u, b9, d7, c0, d8, c1, d9, c2, e0, c3, e1, i, rfl, a3, a4, a5, a6, a7⟩ := J
  replace i := i.symm; subst i
  replace hST := hST.perm (Tb (Tr (Tr (Tr (Tr (Tr Tn))))))
  refine VE (E_alloc hST Tryz.zeroValue171 (fun e8 t hST => VO (F_store (.pointer (some ⟨u, 0, none⟩)) (#[(.pointer (some ⟨u, 0, none⟩))]) hST rfl rfl Tryz.sizeOf171 (by simp [Value.cells, Value.oneCell']) (Nat.le_of_ble_eq_true rfl) rfl (fun e9 hST => LW_nil (sq_n ?_)))))
  replace hST := hST.sel (Kb (Kb (Kr (Kr (Kr (Kr (Kr (Dr St))))))))
  refine CW_seq (CW_region (V (R_move rfl) ?_))
  obtain ⟨f, Y, hm⟩ := bind_some hm
  have hsz := hST.size
  refine VE (E_callM (args := [c]) (caps := #[]) [] _ hST (List.Perm.refl _) rfl Tryz.call117 (by exact args1 rfl) (fun _ _ _ _ => (w_model_Of c B _ _ (y.mono (Pl.mono _) ((T.trans D).trans hST.sub_hp)) Y)) (fun f0 f5 f8 d5 hST d0 hl44 hlift K => ?_))
  obtain ⟨G, c4, e2, c5, e3, c6, e4, c7, e5, c8, e6, j, rfl, a8, a9, b0, b1, b2⟩ := K
  replace j := j.symm; subst j
  replace hST := hST.perm (Tb (Tr (Tr (Tr (Tr (Tr Tn))))))
  obtain ⟨b7, Z, hm⟩ := bind_some hm
  refine VE (F_givesRow (args := [(.pointer (some ⟨G, 0, none⟩))]) _ hST rfl Tryz.call147 (by exact args1 rfl) (GivesRow.weak (w_model_Model_Facts G c4 f.1 c5 f.2.1 c6 f.2.2.1 c7 f.2.2.2.1 c8 f.2.2.2.2.1 f.2.2.2.2.2 _ _ (a8.at (fun b o hq => hST.at_ (Mt (Ml hq)))) (a9.sl lenCred (fun b o hq => hST.at_ (Mt (Ma (Ml hq))))) (b0.at (fun b o hq => hST.at_ (Mt (Ma (Ma (Ml hq)))))) (b1.at (fun b o hq => hST.at_ (Mt (Ma (Ma (Ma (Ml hq))))))) ((b2.slL lenFact).mono (Pl.mono _) (memL_held (fun b o hq => hST.at_ (Mt (Ma (Ma (Ma (Ma (Ml hq))))))))) (At.of (hST.at_ Mh) _ rfl) Z)) (fun f1 H f9 b3 hST d1 hl70 N => V (R_makeFuncC (by exact args1 rfl) rfl) ?_))
  obtain ⟨f3, a2, hm⟩ := bind_some hm
  have hsz := hST.size
  refine VE (E_callM (args := [H, (.func (.func 148) #[] #[(.pointer (some ⟨t, 0, none⟩))])]) (caps := #[]) _ _ hST (Cr Qz Cn) rfl Tryz.call146 (by exact args2 rfl rfl) (fun hH hN hsb hmm => (w_slices_DeleteFunc_Fact H b7 b3 (.func (.func 148) #[] #[(.pointer (some ⟨t, 0, none⟩))]) (fun (x : Fact) => m_revoke_Lost_c1 x a.1 a.2.1 a.2.2.1 a.2.2.2.1 a.2.2.2.2.1 a.2.2.2.2.2) _ _ ⟨hH, hN, Sub.refl _⟩ N ⟨148, #[], #[(.pointer (some ⟨t, 0, none⟩))], rfl, Tryz.call148, fun W x r hs hm => (w_revoke_Lost_c1 x t u b9 a.1 c0 a.2.1 c1 a.2.2.1 c2 a.2.2.2.1 c3 a.2.2.2.2.1 a.2.2.2.2.2 r W (a3.at (fun b o hq => hs _ _ ((fun b o hq => hmm b o (Mt (Ma (Ma (Ma (Ma (Ma (Mt (Mt (Ml hq)))))))))) b o hq))) (a4.sl lenCred (fun b o hq => hs _ _ ((fun b o hq => hmm b o (Mt (Ma (Ma (Ma (Ma (Ma (Mt (Mt (Ma (Ml hq))))))))))) b o hq))) (a5.at (fun b o hq => hs _ _ ((fun b o hq => hmm b o (Mt (Ma (Ma (Ma (Ma (Ma (Mt (Mt (Ma (Ma (Ml hq)))))))))))) b o hq))) (a6.at (fun b o hq => hs _ _ ((fun b o hq => hmm b o (Mt (Ma (Ma (Ma (Ma (Ma (Mt (Mt (Ma (Ma (Ma (Ml hq))))))))))))) b o hq))) ((a7.slL lenFact).mono (Pl.mono _) (memL_held (fun b o hq => hs _ _ ((fun b o hq => hmm b o (Mt (Ma (Ma (Ma (Ma (Ma (Mt (Mt (Ma (Ma (Ma (Ma (Ml hq)))))))))))))) b o hq)))) (At.of (hs _ _ (hmm _ _ (Mt (Ma (Ma (Ma (Ma (Ma (Mt Mh))))))))) _ rfl) (At.of (hs _ _ (hmm _ _ (Mt (Ma (Ma (Ma (Ma (Ma Mh)))))))) _ rfl) hm).weak⟩ a2)) (fun f2 f6 g0 d6 hST d2 hl79 hlift M => ?_))
  obtain ⟨c9, b4, k, rfl, z⟩ := M
  replace k := k.symm; subst k
  replace hST := hST.perm (Tr Tn)
  refine V (R_assign rfl) (LW_nil (sq_n ?_))
  replace hST := hST.sel (Kr (Db (Dr (Dr (Dr (Dr (Dr (Db (Db (Dr (Dr (Dr (Dr (Dr St))))))))))))))
  refine CW_ret ?_
  replace hm := Option.some.inj hm; subst hm
  exact retQ_1 (v := c9) rfl rfl ⟨_, b4, rfl, hST.backRow (fun p hq => (Ml hq)) z.nd, z⟩
theorem w_revoke_Critical_c1 (g : Cred) (z : Nat) (f : Value) (Z : List Cred) (B : Nat) (i : Fact) (r : Bool) (w : World) (a1 : Sl (Pl encCred) 9 (hp w) f Z) (G : At (hp w) (.pointer (some ⟨z, 0, none⟩)) [f]) (t : At (hp w) (.pointer (some ⟨B, 0, none⟩)) (encFact i)) (hm : m_revoke_Critical_c1 g Z i = some r) :
    Gives false Tryz.prog 151 [(.agg (encCred g).toArray), (.pointer (some ⟨z, 0, none⟩)), (.pointer (some ⟨B, 0, none⟩))] w (.bool r) := by
  have hST := ST.start (dd := false) w
  unfold m_revoke_Critical_c1 at hm
  refine calls_of_CW (n := 15) Tryz.func151 rfl rfl (Nat.le_of_ble_eq_true rfl) (CW_seq (CW_region (VE (E_box (v := (.agg (encCred g).toArray)) hST rfl (fun W2 b1 hST => V (R_assign rfl) (LW_nil (sq_n (CW_seq ?_))))))))
  replace hST := hST.drew
  have hS0 := hST.has.sel (Kb Sn)
  refine PX_start1 hS0 Tryz_mixed (XH 0 rfl hS0 (fun _ hS => R_load rfl (load_at1 hS (y := f) G Tryz.isAgg22)) (XH 1 rfl hS0 (fun _ hS => R_load rfl (load_boxA hS Mh (encCred g) rfl Tryz.isAgg53 Tryz.sizeOf53)) (XQ 5 rfl hS0 (R_fieldAt (encRole i.Role) fa38_0 rfl t rfl) (fun c8 a2 => XH 6 rfl hS0 (fun _ hS => R_load rfl (load_atA hS a2 Tryz.isAgg28 Tryz.sizeOf28)) (XQ 7 rfl hS0 (R_fieldAt [(.string i.Who)] fa38_1 rfl t rfl) (fun c9 a3 => XH 8 rfl hS0 (fun _ hS => R_load rfl (load_at1 hS (y := (.string i.Who)) a3 Tryz.isAgg9)) (XE 2 rfl (E_buildSlice (qs := #[(0, (.agg (encCred g).toArray))]) (cs := (encCred g).toArray) hST (parts1 rfl) (run_lit [(.agg (encCred g).toArray)] Tryz.underlying22 Tryz.sizeOf53 Tryz.zeroValue53 (by decide) rfl (by intro v hv; simp only [List.mem_cons, List.not_mem_nil, or_false] at hv; rcases hv with rfl <;> rfl) rfl rfl) (fun b9 u hST => ?_)))))))))
  have hS0 := hST.has.sel (Db (Kb Sn))
  refine ⟨hS0, ?_⟩
  obtain ⟨a4, J, hm⟩ := bind_some hm
  refine XE 3 rfl (F_givesRow (args := [f, (.slice (some ⟨u, 0, none⟩) 1 1)]) _ hST rfl Tryz.call145 (by exact args2 rfl rfl) ((w_revoke_without f Z (.slice (some ⟨u, 0, none⟩) 1 1) ([g]) _ _ (a1.mono (Pl.mono _) hST.sub_hp) (Sl.lit (enc := encCred) (l := [g]) lenCred rfl (Nat.le_of_ble_eq_true rfl) rfl (hST.at_ Mh)) J)) (fun c2 D c6 b3 hST c hl108 I => ?_))
  have hS0 := hST.has.selS c (Dr (Db (Kb Sn)))
  refine ⟨hS0, ?_⟩
  obtain ⟨a, K, hm⟩ := bind_some hm
  have hsz := hST.size
  refine XE 4 rfl (E_callM (args := [D]) (caps := #[]) [] _ hST (List.Perm.refl _) rfl Tryz.call117 (by exact args1 rfl) (fun _ _ _ _ => (w_model_Of D a4 _ _ (I.sl lenCred (fun b o hq => hST.at_ (Ml hq))) K)) (fun c3 c5 c7 b2 hST k hl117 hlift H => ?_))
  obtain ⟨x, a6, b4, a7, b5, a8, b6, a9, b7, b0, b8, j, rfl, N, Q, T, U, Y⟩ := H
  replace j := j.symm; subst j
  replace hST := hST.perm (Tb (Tr (Tr (Tr (Tr (Tr Tn))))))
  have hS0 := hST.has.selS (c.trans k) (Db (Dr (Dr (Dr (Dr (Dr (Dr (Db (Kb Sn)))))))))
  refine ⟨hS0, ?_⟩
  obtain ⟨a5, M, hm⟩ := bind_some hm
  refine XE 9 rfl (E_gives (args := [(.pointer (some ⟨x, 0, none⟩)), (.agg (encRole i.Role).toArray), (.string i.Who)]) hST rfl Tryz.call149 (by exact args3 rfl rfl rfl) (Gives.weak (w_model_Model_In x a6 a.1 a7 a.2.1 a8 a.2.2.1 a9 a.2.2.2.1 b0 a.2.2.2.2.1 a.2.2.2.2.2 i.Role i.Who _ _ (N.at (fun b o hq => hST.at_ (Mt (Ml hq)))) (Q.sl lenCred (fun b o hq => hST.at_ (Mt (Ma (Ml hq))))) (T.at (fun b o hq => hST.at_ (Mt (Ma (Ma (Ml hq)))))) (U.at (fun b o hq => hST.at_ (Mt (Ma (Ma (Ma (Ml hq))))))) ((Y.slL lenFact).mono (Pl.mono _) (memL_held (fun b o hq => hST.at_ (Mt (Ma (Ma (Ma (Ma (Ml hq))))))))) (At.of (hST.at_ Mh) _ rfl) M)) (fun c4 hST => ?_))
  have hS0 := hST.has.selS (c.trans k) (Db (Dr (Dr (Dr (Dr (Dr (Dr (Db (Kb Sn)))))))))
  refine ⟨hS0, (X 10 rfl hS0 (R_assign rfl) (PX_done (by kernel_rfl) (sq_n ?_)))⟩
  replace hST := hST.sel (Db (Dr (Dr (Dr (Dr (Dr (Dr (Db (Db St)))))))))
  refine CW_ret ?_
  replace hm := Option.some.inj hm; subst hm
  exact retQ_1 (v := (.bool a5)) rfl rfl ⟨rfl, hST.ex⟩
theorem w_revoke_Critical (D : Value) (a : List Cred) (f : Fact) (r : List Cred) (w : World) (i : Sl (Pl encCred) 9 (hp w) D a) (hm : m_revoke_Critical a f = some r) :
    GivesRow false Tryz.prog 47 [D, (.agg (encFact f).toArray)] w 53 encCred 9 r := by
  have hST := ST.start (dd := false) w
  unfold m_revoke_Critical at hm
  refine calls_of_CW (n := 17) Tryz.func47 rfl rfl (Nat.le_of_ble_eq_true rfl) (CW_seq (CW_region ?_))
  obtain ⟨y, z, rfl⟩ := i.form
  refine VE (E_box (v := (.slice y a.length z)) hST rfl (fun W4 G hST => VE (E_box (v := (.agg (encFact f).toArray)) hST rfl (fun W6 H hST => V (R_assign rfl) (LW_nil (sq_n (CW_seq (CW_seq ?_))))))))
  replace hST := hST.drew
  have hS0 := hST.has.sel (Kb (Kb Sn))
  refine PX_start1 hS0 Tryz_mixed (XH 0 rfl hS0 (fun _ hS => R_load rfl (load_box1 hS (Mt Mh) rfl Tryz.isAgg22)) (X 2 rfl hS0 (R_field fa38_0 rfl) (XH 3 rfl hS0 (fun _ hS => R_load rfl (load_boxA hS Mh (encRole f.Role) rfl Tryz.isAgg28 Tryz.sizeOf28)) (X 4 rfl hS0 (R_field fa38_1 rfl) (XH 5 rfl hS0 (fun _ hS => R_load rfl (load_box1 hS Mh rfl Tryz.isAgg9)) ?_)))))
  obtain ⟨g, Y, hm⟩ := bind_some hm
  have hsz := hST.size
  refine XE 1 rfl (E_callM (args := [(.slice y a.length z)]) (caps := #[]) [] _ hST (List.Perm.refl _) rfl Tryz.call117 (by exact args1 rfl) (fun _ _ _ _ => (w_model_Of (.slice y a.length z) a _ _ (i.mono (Pl.mono _) hST.sub_hp) Y)) (fun d1 d4 d5 c5 hST c hl70 hlift U => ?_))
  obtain ⟨N, b2, c6, b4, c7, b6, c8, b7, c9, b8, d0, t, rfl, a3, a4, a5, a6, a7⟩ := U
  replace t := t.symm; subst t
  replace hST := hST.perm (Tb (Tr (Tr (Tr (Tr (Tr Tn))))))
  have hS0 := hST.has.selS c (Db (Dr (Dr (Dr (Dr (Dr (Kb (Kb Sn))))))))
  refine ⟨hS0, ?_⟩
  obtain ⟨b0, Z, hm⟩ := bind_some hm
  refine XE 6 rfl (E_gives (args := [(.pointer (some ⟨N, 0, none⟩)), (.agg (encRole f.Role).toArray), (.string f.Who)]) hST rfl Tryz.call149 (by exact args3 rfl rfl rfl) (Gives.weak (w_model_Model_In N b2 g.1 b4 g.2.1 b6 g.2.2.1 b7 g.2.2.2.1 b8 g.2.2.2.2.1 g.2.2.2.2.2 f.Role f.Who _ _ (a3.at (fun b o hq => hST.at_ (Mt (Ml hq)))) (a4.sl lenCred (fun b o hq => hST.at_ (Mt (Ma (Ml hq))))) (a5.at (fun b o hq => hST.at_ (Mt (Ma (Ma (Ml hq)))))) (a6.at (fun b o hq => hST.at_ (Mt (Ma (Ma (Ma (Ml hq))))))) ((a7.slL lenFact).mono (Pl.mono _) (memL_held (fun b o hq => hST.at_ (Mt (Ma (Ma (Ma (Ma (Ml hq))))))))) (At.of (hST.at_ Mh) _ rfl) Z)) (fun d2 hST => ?_))
  have hS0 := hST.has.selS c (Db (Dr (Dr (Dr (Dr (Dr (Kb (Kb Sn))))))))
  refine ⟨hS0, (X 7 rfl hS0 (R_not rfl) (PX_done (by kernel_rfl) (sq_n ?_)))⟩
  replace hST := hST.sel (Db (Dr (Dr (Dr (Dr (Dr St))))))
  refine CW_if (b := (!b0)) rfl (fun k => ?_) (fun k => ?_)
  · replace hm := if_t k hm
    refine CW_seq (CW_region (V (R_assign rfl) (LW_nil (sq_n ?_))))
    replace hST := hST.sel (Db (Db St))
    refine CW_ret (sq_r ?_)
    replace hm := Option.some.inj hm; subst hm
    exact retQ_1 (v := (.slice none 0 0)) rfl rfl ⟨_, [], rfl, hST.backRow (fun p hq => by cases hq) (by simp), Row.nil _ _ _⟩
  replace hm := if_f k hm
  refine CW_skip (sq_n (CW_seq (CW_region (V (R_load rfl (load_box1 hST.has (Mt Mh) rfl Tryz.isAgg22)) ?_))))
  obtain ⟨b1, a2, hm⟩ := bind_some hm
  refine VE (F_givesRow (args := [(.slice y a.length z)]) _ hST rfl Tryz.call116 (by exact args1 rfl) ((w_cred_Set (.slice y a.length z) a _ _ (i.mono (Pl.mono _) (c.trans hST.sub_hp)) a2)) (fun d3 B d6 Q hST K hl100 J => V (R_makeFuncC (by exact args2 rfl rfl) rfl) ?_))
  obtain ⟨c1, M, hm⟩ := bind_some hm
  have hsz := hST.size
  refine VE (E_callM (args := [B, (.func (.func 151) #[] #[(.pointer (some ⟨G, 0, none⟩)), (.pointer (some ⟨H, 0, none⟩))])]) (caps := #[]) _ _ hST (Cr Qz Cn) rfl Tryz.call143 (by exact args2 rfl rfl) (fun hH hN hsb hmm => (w_slices_DeleteFunc_Cred B b1 Q (.func (.func 151) #[] #[(.pointer (some ⟨G, 0, none⟩)), (.pointer (some ⟨H, 0, none⟩))]) (fun (x : Cred) => m_revoke_Critical_c1 x a f) _ _ ⟨hH, hN, Sub.refl _⟩ J ⟨151, #[], #[(.pointer (some ⟨G, 0, none⟩)), (.pointer (some ⟨H, 0, none⟩))], rfl, Tryz.call151, fun W x r hs hm => w_revoke_Critical_c1 x G (.slice y a.length z) a H f r W (i.mono (Pl.mono _) (((c.trans K).trans hsb).trans hs)) (At.of (hs _ _ (hmm _ _ (Mt Mh))) _ rfl) (At.of (hs _ _ (hmm _ _ Mh)) _ rfl) hm⟩ M)) (fun c0 c3 c4 b9 hST a9 hl109 hlift I => ?_))
  obtain ⟨a8, T, j, rfl, u⟩ := I
  replace j := j.symm; subst j
  replace hST := hST.perm (Tr Tn)
  refine V (R_assign rfl) (LW_nil (sq_n ?_))
  replace hST := hST.sel (Kr (Db (Db St)))
  refine CW_ret ?_
  replace hm := Option.some.inj hm; subst hm
  exact retQ_1 (v := a8) rfl rfl ⟨_, T, rfl, hST.backRow (fun p hq => (Ml hq)) u.nd, u⟩
theorem w_law34_first  (r : Bool) (w : World)  (hm : m_law34_first  = some r) :
    Gives false Tryz.prog 34 [] w (.bool r) := by
  have hST := ST.start (dd := false) w
  unfold m_law34_first at hm
  refine calls_of_CW (n := 88) Tryz.func34 rfl rfl (Nat.le_of_ble_eq_true rfl) (CW_seq (CW_region (V (R_assign rfl) (LW_nil (sq_n (CW_seq (CW_region (VE (E_buildSlice (qs := #[(0, (.int .u8 107))]) (cs := [(.int .u8 107)].toArray) hST (parts1 rfl) (run_lit [(.int .u8 107)] Tryz.underlying54 Tryz.sizeOf5 Tryz.zeroValue5 (by decide) rfl (by intro v hv; simp only [List.mem_cons, List.not_mem_nil, or_false] at hv; rcases hv with rfl <;> rfl) rfl rfl) (fun W2 b1 hST => ?_))))))))))
  have s0 : Fr w.heap.size (.slice (some ⟨b1, 0, none⟩) 1 1) := Fr.box hST Mh
  refine VE (E_bytesConst (l := [107]) hST Tryz.underlying54 Tryz.underlying5 rfl rfl rfl (by decide) (fun W3 μ4 hST p3 hl6 n2 => V (R_build (qs := #[(0, (.string ((⟨#[120]⟩ : ByteArray)))), (1, (.slice (some ⟨b1, 0, none⟩) 1 1))]) (v := (.agg #[(.string ((⟨#[120]⟩ : ByteArray))), (.slice (some ⟨b1, 0, none⟩) 1 1)])) (parts2 rfl rfl) (run_build Tryz.zeroValue196 Tryz.underlying196 (pl196 _ Tryz.underlying196) (by kernel_rfl))) (VE (E_buildSlice (qs := #[(0, (.agg #[(.string ((⟨#[120]⟩ : ByteArray))), (.slice (some ⟨b1, 0, none⟩) 1 1)]))]) (cs := #[(.string ((⟨#[120]⟩ : ByteArray))), (.slice (some ⟨b1, 0, none⟩) 1 1)]) hST (parts1 rfl) (run_lit [(.agg #[(.string ((⟨#[120]⟩ : ByteArray))), (.slice (some ⟨b1, 0, none⟩) 1 1)])] Tryz.underlying49 Tryz.sizeOf196 Tryz.zeroValue196 (by decide) rfl (by intro v hv; simp only [List.mem_cons, List.not_mem_nil, or_false] at hv; rcases hv with rfl <;> rfl) rfl rfl) (fun q8 b9 hST => V (R_assign rfl) (LW_nil (sq_n (CW_seq (CW_region (V (R_build (qs := #[(0, (.string ((⟨#[120]⟩ : ByteArray)))), (1, (.string ((⟨#[121]⟩ : ByteArray))))]) (v := (.agg (encRole ((⟨(⟨#[120]⟩ : ByteArray), (⟨#[121]⟩ : ByteArray)⟩ : Role))).toArray)) (parts2 rfl rfl) (run_build Tryz.zeroValue28 Tryz.underlying28 (pl28 _ Tryz.underlying28) (by kernel_rfl))) (V (R_build (qs := #[(0, (.int .i64 1)), (1, (.agg (encRole ((⟨(⟨#[120]⟩ : ByteArray), (⟨#[121]⟩ : ByteArray)⟩ : Role))).toArray)), (2, (.string ((⟨#[100]⟩ : ByteArray))))]) (v := (.agg (encCred ((⟨1, (⟨(⟨#[120]⟩ : ByteArray), (⟨#[121]⟩ : ByteArray)⟩ : Role), (⟨#[100]⟩ : ByteArray), (⟨zS, zS⟩ : Role), (⟨zS, zS⟩ : Role), zS⟩ : Cred))).toArray)) (parts3 rfl rfl rfl) (run_build Tryz.zeroValue53 Tryz.underlying53 (pl53 _ Tryz.underlying53) (by kernel_rfl))) (VE (E_alloc hST Tryz.zeroValue53 (fun q9 a4 hST => VO (F_store (.agg (encCred ((⟨1, (⟨(⟨#[120]⟩ : ByteArray), (⟨#[121]⟩ : ByteArray)⟩ : Role), (⟨#[100]⟩ : ByteArray), (⟨zS, zS⟩ : Role), (⟨zS, zS⟩ : Role), zS⟩ : Cred))).toArray) ((encCred ((⟨1, (⟨(⟨#[120]⟩ : ByteArray), (⟨#[121]⟩ : ByteArray)⟩ : Role), (⟨#[100]⟩ : ByteArray), (⟨zS, zS⟩ : Role), (⟨zS, zS⟩ : Role), zS⟩ : Cred))).toArray) hST rfl rfl Tryz.sizeOf53 (oneCred ((⟨1, (⟨(⟨#[120]⟩ : ByteArray), (⟨#[121]⟩ : ByteArray)⟩ : Role), (⟨#[100]⟩ : ByteArray), (⟨zS, zS⟩ : Role), (⟨zS, zS⟩ : Role), zS⟩ : Cred))) (Nat.le_of_ble_eq_true rfl) rfl (fun r0 hST => LW_nil (sq_n (CW_seq ?_))))))))))))))))))
  refine CW_region (V (R_field fa53_1 rfl) (V (R_load rfl (load_boxA hST.has Mh (encRole ((⟨(⟨#[120]⟩ : ByteArray), (⟨#[121]⟩ : ByteArray)⟩ : Role))) rfl Tryz.isAgg28 Tryz.sizeOf28)) (V (R_build (qs := #[(0, (.agg (encRole ((⟨(⟨#[120]⟩ : ByteArray), (⟨#[121]⟩ : ByteArray)⟩ : Role))).toArray)), (1, (.string ((⟨#[100]⟩ : ByteArray))))]) (v := (.agg (encFact ((⟨(⟨(⟨#[120]⟩ : ByteArray), (⟨#[121]⟩ : ByteArray)⟩ : Role), (⟨#[100]⟩ : ByteArray)⟩ : Fact))).toArray)) (parts2 rfl rfl) (run_build Tryz.zeroValue38 Tryz.underlying38 (pl38 _ Tryz.underlying38) (by kernel_rfl))) (VE (E_alloc hST Tryz.zeroValue38 (fun r1 a5 hST => VO (F_store (.agg (encFact ((⟨(⟨(⟨#[120]⟩ : ByteArray), (⟨#[121]⟩ : ByteArray)⟩ : Role), (⟨#[100]⟩ : ByteArray)⟩ : Fact))).toArray) ((encFact ((⟨(⟨(⟨#[120]⟩ : ByteArray), (⟨#[121]⟩ : ByteArray)⟩ : Role), (⟨#[100]⟩ : ByteArray)⟩ : Fact))).toArray) hST rfl rfl Tryz.sizeOf38 (oneFact ((⟨(⟨(⟨#[120]⟩ : ByteArray), (⟨#[121]⟩ : ByteArray)⟩ : Role), (⟨#[100]⟩ : ByteArray)⟩ : Fact))) (Nat.le_of_ble_eq_true rfl) rfl (fun r2 hST => LW_nil (sq_n (CW_seq (CW_region (V (R_move rfl) ?_))))))))))))
  replace hST := hST.perm (Nb (Pb (Pb Pz)) Nz)
  have p2 : Fr w.heap.size (.slice (some ⟨b9, 0, none⟩) 1 1) := Fr.box hST Mh
  obtain ⟨s6, hST, n4, hl19, b0⟩ := ST.pubD (B := [(b9, Obj.cells (#[(.string ((⟨#[120]⟩ : ByteArray))), (.slice (some ⟨b1, 0, none⟩) 1 1)] : Array Value) 196 (0, 0))]) dKey hST (RowD.lit dKey (l := [(⟨(⟨#[120]⟩ : ByteArray), [107]⟩ : Key)]) (.cons (ys := [(.string ((⟨#[120]⟩ : ByteArray))), (.slice (some ⟨b1, 0, none⟩) 1 1)]) (relKey.mk ⟨(.slice (some ⟨b1, 0, none⟩) 1 1), rfl, n2⟩) .nil) rfl (Nat.le_of_ble_eq_true rfl) rfl)
  obtain ⟨n3, l9, hm⟩ := bind_some hm
  have hsz := hST.size
  refine VE (E_givesD (args := [(.slice (some ⟨b9, 0, none⟩) 1 1)]) (caps := #[]) [] _ hST (List.Perm.refl _) rfl Tryz.call49 (by exact args1 rfl) (fun hH hN hsb hmm => GivesD.weak (w_keys_New (.slice (some ⟨b9, 0, none⟩) 1 1) ([(⟨(⟨#[120]⟩ : ByteArray), [107]⟩ : Key)]) _ _ ⟨hH, hN, hsb⟩ (b0.mono dKey.mono (Sub.refl _)) l9)) (fun r3 s1 s7 q5 hST a8 hl27 l3 => ?_))
  obtain ⟨k2, d6, rfl, m2⟩ := l3
  replace d6 := d6.symm; subst d6
  replace hST := hST.perm Tn
  refine V (R_move rfl) (V (R_extract rfl rfl) (V (R_extract rfl rfl) (V (R_assign rfl) (V (R_assign rfl) (LW_nil (sq_n (CW_seq (CW_region (V (R_move rfl) (V (R_load rfl (load_boxA hST.has (Mt Mh) (encCred ((⟨1, (⟨(⟨#[120]⟩ : ByteArray), (⟨#[121]⟩ : ByteArray)⟩ : Role), (⟨#[100]⟩ : ByteArray), (⟨zS, zS⟩ : Role), (⟨zS, zS⟩ : Role), zS⟩ : Cred))) rfl Tryz.isAgg53 Tryz.sizeOf53)) ?_))))))))))
  obtain ⟨a, m0, hm⟩ := bind_some hm
  have hsz := hST.size
  refine VE (E_givesD (args := [k2, (.agg (encCred ((⟨1, (⟨(⟨#[120]⟩ : ByteArray), (⟨#[121]⟩ : ByteArray)⟩ : Role), (⟨#[100]⟩ : ByteArray), (⟨zS, zS⟩ : Role), (⟨zS, zS⟩ : Role), zS⟩ : Cred))).toArray)]) (caps := #[]) [] _ hST (List.Perm.refl _) rfl Tryz.call50 (by exact args2 rfl rfl) (fun hH hN hsb hmm => GivesD.weak (w_keys_Registry_Sign k2 n3.1 ((⟨1, (⟨(⟨#[120]⟩ : ByteArray), (⟨#[121]⟩ : ByteArray)⟩ : Role), (⟨#[100]⟩ : ByteArray), (⟨zS, zS⟩ : Role), (⟨zS, zS⟩ : Role), zS⟩ : Cred)) _ _ ⟨hH, hN, hsb⟩ (m2.mono dKeysRegistry (Sub.refl _)) m0)) (fun r4 s2 s8 q6 hST a9 hl39 l4 => ?_))
  obtain ⟨s4, d7, rfl, c5⟩ := l4
  replace d7 := d7.symm; subst d7
  replace hST := hST.perm Tn
  refine V (R_move rfl) (V (R_extract rfl rfl) (V (R_extract rfl rfl) (VE (E_alloc hST Tryz.zeroValue56 (fun r5 b2 hST => ?_)))))
  obtain ⟨t, u, rfl⟩ := c5.form
  refine VO (F_store (.agg #[(.int .i64 (((a.1).Cred).Kind)), (.string ((((a.1).Cred).Head).Owner)), (.string ((((a.1).Cred).Head).Word)), (.string (((a.1).Cred).Who)), (.string ((((a.1).Cred).B).Owner)), (.string ((((a.1).Cred).B).Word)), (.string ((((a.1).Cred).C).Owner)), (.string ((((a.1).Cred).C).Word)), (.string (((a.1).Cred).Word2)), (.slice t ((a.1).Tag).length u)]) (#[(.int .i64 (((a.1).Cred).Kind)), (.string ((((a.1).Cred).Head).Owner)), (.string ((((a.1).Cred).Head).Word)), (.string (((a.1).Cred).Who)), (.string ((((a.1).Cred).B).Owner)), (.string ((((a.1).Cred).B).Word)), (.string ((((a.1).Cred).C).Owner)), (.string ((((a.1).Cred).C).Word)), (.string (((a.1).Cred).Word2)), (.slice t ((a.1).Tag).length u)]) hST rfl rfl Tryz.sizeOf56 (by simp [Value.cells, Value.oneCell']) (Nat.le_of_ble_eq_true rfl) rfl (fun r6 hST => V (R_assign rfl) (LW_nil (sq_n (CW_seq (CW_region (V (R_move rfl) (V (R_load rfl (load_boxA hST.has (Mt (Mt Mh)) (encCred ((⟨1, (⟨(⟨#[120]⟩ : ByteArray), (⟨#[121]⟩ : ByteArray)⟩ : Role), (⟨#[100]⟩ : ByteArray), (⟨zS, zS⟩ : Role), (⟨zS, zS⟩ : Role), zS⟩ : Cred))) rfl Tryz.isAgg53 Tryz.sizeOf53)) ?_))))))))
  obtain ⟨c, m1, hm⟩ := bind_some hm
  have hsz := hST.size
  refine VE (E_givesD (args := [(.slice (some ⟨b9, 0, none⟩) 1 1), (.agg (encCred ((⟨1, (⟨(⟨#[120]⟩ : ByteArray), (⟨#[121]⟩ : ByteArray)⟩ : Role), (⟨#[100]⟩ : ByteArray), (⟨zS, zS⟩ : Role), (⟨zS, zS⟩ : Role), zS⟩ : Cred))).toArray)]) (caps := #[]) [] _ hST (List.Perm.refl _) rfl Tryz.call36 (by exact args2 rfl rfl) (fun hH hN hsb hmm => GivesD.weak (w_revoke_Make (.slice (some ⟨b9, 0, none⟩) 1 1) ([(⟨(⟨#[120]⟩ : ByteArray), [107]⟩ : Key)]) ((⟨1, (⟨(⟨#[120]⟩ : ByteArray), (⟨#[121]⟩ : ByteArray)⟩ : Role), (⟨#[100]⟩ : ByteArray), (⟨zS, zS⟩ : Role), (⟨zS, zS⟩ : Role), zS⟩ : Cred)) _ _ ⟨hH, hN, hsb⟩ (b0.mono dKey.mono (a8.trans a9)) m1)) (fun r7 s3 d3 q7 hST a2 hl56 l5 => ?_))
  obtain ⟨s5, d8, rfl, d9⟩ := l5
  replace d8 := d8.symm; subst d8
  replace hST := hST.perm Tn
  refine V (R_move rfl) (V (R_extract rfl rfl) (V (R_extract rfl rfl) (VE (E_alloc hST Tryz.zeroValue56 (fun r8 b3 hST => ?_)))))
  obtain ⟨T, U, rfl⟩ := d9.form
  refine VO (F_store (.agg #[(.int .i64 (((c.1).Cred).Kind)), (.string ((((c.1).Cred).Head).Owner)), (.string ((((c.1).Cred).Head).Word)), (.string (((c.1).Cred).Who)), (.string ((((c.1).Cred).B).Owner)), (.string ((((c.1).Cred).B).Word)), (.string ((((c.1).Cred).C).Owner)), (.string ((((c.1).Cred).C).Word)), (.string (((c.1).Cred).Word2)), (.slice T ((c.1).Tag).length U)]) (#[(.int .i64 (((c.1).Cred).Kind)), (.string ((((c.1).Cred).Head).Owner)), (.string ((((c.1).Cred).Head).Word)), (.string (((c.1).Cred).Who)), (.string ((((c.1).Cred).B).Owner)), (.string ((((c.1).Cred).B).Word)), (.string ((((c.1).Cred).C).Owner)), (.string ((((c.1).Cred).C).Word)), (.string (((c.1).Cred).Word2)), (.slice T ((c.1).Tag).length U)]) hST rfl rfl Tryz.sizeOf56 (by simp [Value.cells, Value.oneCell']) (Nat.le_of_ble_eq_true rfl) rfl (fun r9 hST => V (R_assign rfl) (LW_nil (sq_n (CW_seq (CW_region (V (R_move rfl) (V (R_int rfl rfl rfl) (V (R_move rfl) ?_)))))))))
  obtain ⟨q0, N, e8⟩ := bind_some hm
  refine LW_join (J := fun E W => ∃ (e9 : Bool) (j1 : List (Nat × Obj)), ST false NoF w W d3 ((b3, Obj.cells (#[(.int .i64 (((c.1).Cred).Kind)), (.string ((((c.1).Cred).Head).Owner)), (.string ((((c.1).Cred).Head).Word)), (.string (((c.1).Cred).Who)), (.string ((((c.1).Cred).B).Owner)), (.string ((((c.1).Cred).B).Word)), (.string ((((c.1).Cred).C).Owner)), (.string ((((c.1).Cred).C).Word)), (.string (((c.1).Cred).Word2)), (.slice T ((c.1).Tag).length U)] : Array Value) 56 (0, 0)) :: ((b2, Obj.cells (#[(.int .i64 (((a.1).Cred).Kind)), (.string ((((a.1).Cred).Head).Owner)), (.string ((((a.1).Cred).Head).Word)), (.string (((a.1).Cred).Who)), (.string ((((a.1).Cred).B).Owner)), (.string ((((a.1).Cred).B).Word)), (.string ((((a.1).Cred).C).Owner)), (.string ((((a.1).Cred).C).Word)), (.string (((a.1).Cred).Word2)), (.slice t ((a.1).Tag).length u)] : Array Value) 56 (0, 0)) :: ((a5, Obj.cells ((encFact ((⟨(⟨(⟨#[120]⟩ : ByteArray), (⟨#[121]⟩ : ByteArray)⟩ : Role), (⟨#[100]⟩ : ByteArray)⟩ : Fact))).toArray : Array Value) 38 (0, 0)) :: ((a4, Obj.cells ((encCred ((⟨1, (⟨(⟨#[120]⟩ : ByteArray), (⟨#[121]⟩ : ByteArray)⟩ : Role), (⟨#[100]⟩ : ByteArray), (⟨zS, zS⟩ : Role), (⟨zS, zS⟩ : Role), zS⟩ : Cred))).toArray : Array Value) 53 (0, 0)) :: j1)))) ∧ E 0 = (.bool false) ∧ E 1 = (.slice (some ⟨b9, 0, none⟩) 1 1) ∧ E 2 = (.pointer (some ⟨a4, 0, none⟩)) ∧ E 3 = (.pointer (some ⟨a5, 0, none⟩)) ∧ E 6 = (.pointer (some ⟨b2, 0, none⟩)) ∧ E 8 = (.pointer (some ⟨b3, 0, none⟩)) ∧ E 41 = (.bool e9) ∧ (((if e9 then (((m_revoke_Good ([(⟨(⟨#[120]⟩ : ByteArray), [107]⟩ : Key)]) c.1)).bind fun e0 => some e0) else some false) : Option Bool).bind fun c1 => (((if c1 then (((m_revoke_Good ([(⟨(⟨#[120]⟩ : ByteArray), [107]⟩ : Key)]) a.1)).bind fun b6 => some ((!b6))) else some false) : Option Bool).bind fun b4 => (((if b4 then (((m_revoke_Live ([(⟨(⟨#[120]⟩ : ByteArray), [107]⟩ : Key)]) ([a.1]) ([]))).bind fun a7 => some ((((a7.length : Int)) == 1))) else some false) : Option Bool).bind fun a0 => (((if a0 then (((m_revoke_Live ([(⟨(⟨#[120]⟩ : ByteArray), [107]⟩ : Key)]) ([a.1]) ([c.1]))).bind fun a3 => some ((((a3.length : Int)) == 0))) else some false) : Option Bool).bind fun Q => (((if Q then (((m_revoke_Lost ([(⟨1, (⟨(⟨#[120]⟩ : ByteArray), (⟨#[121]⟩ : ByteArray)⟩ : Role), (⟨#[100]⟩ : ByteArray), (⟨zS, zS⟩ : Role), (⟨zS, zS⟩ : Role), zS⟩ : Cred)]) ([(⟨1, (⟨(⟨#[120]⟩ : ByteArray), (⟨#[121]⟩ : ByteArray)⟩ : Role), (⟨#[100]⟩ : ByteArray), (⟨zS, zS⟩ : Role), (⟨zS, zS⟩ : Role), zS⟩ : Cred)]))).bind fun Z => some ((((Z.length : Int)) == 1))) else some false) : Option Bool).bind fun I => (((if I then (((m_revoke_Critical ([(⟨1, (⟨(⟨#[120]⟩ : ByteArray), (⟨#[121]⟩ : ByteArray)⟩ : Role), (⟨#[100]⟩ : ByteArray), (⟨zS, zS⟩ : Role), (⟨zS, zS⟩ : Role), zS⟩ : Cred)]) ((⟨(⟨(⟨#[120]⟩ : ByteArray), (⟨#[121]⟩ : ByteArray)⟩ : Role), (⟨#[100]⟩ : ByteArray)⟩ : Fact)))).bind fun M => some ((((M.length : Int)) == 1))) else some false) : Option Bool).bind fun k => some k)))))) = some r) 3 ?_ (fun d2 => ?_)
  · rintro E W ⟨e9, j1, hST, j4, h0, j5, j6, j7, h1, m7, l6⟩
    refine V (R_move m7) ?_
    obtain ⟨p9, H, e7⟩ := bind_some l6
    refine LW_join (J := fun E W => ∃ (c1 : Bool) (j2 : List (Nat × Obj)), ST false NoF w W d3 ((b3, Obj.cells (#[(.int .i64 (((c.1).Cred).Kind)), (.string ((((c.1).Cred).Head).Owner)), (.string ((((c.1).Cred).Head).Word)), (.string (((c.1).Cred).Who)), (.string ((((c.1).Cred).B).Owner)), (.string ((((c.1).Cred).B).Word)), (.string ((((c.1).Cred).C).Owner)), (.string ((((c.1).Cred).C).Word)), (.string (((c.1).Cred).Word2)), (.slice T ((c.1).Tag).length U)] : Array Value) 56 (0, 0)) :: ((b2, Obj.cells (#[(.int .i64 (((a.1).Cred).Kind)), (.string ((((a.1).Cred).Head).Owner)), (.string ((((a.1).Cred).Head).Word)), (.string (((a.1).Cred).Who)), (.string ((((a.1).Cred).B).Owner)), (.string ((((a.1).Cred).B).Word)), (.string ((((a.1).Cred).C).Owner)), (.string ((((a.1).Cred).C).Word)), (.string (((a.1).Cred).Word2)), (.slice t ((a.1).Tag).length u)] : Array Value) 56 (0, 0)) :: ((a5, Obj.cells ((encFact ((⟨(⟨(⟨#[120]⟩ : ByteArray), (⟨#[121]⟩ : ByteArray)⟩ : Role), (⟨#[100]⟩ : ByteArray)⟩ : Fact))).toArray : Array Value) 38 (0, 0)) :: ((a4, Obj.cells ((encCred ((⟨1, (⟨(⟨#[120]⟩ : ByteArray), (⟨#[121]⟩ : ByteArray)⟩ : Role), (⟨#[100]⟩ : ByteArray), (⟨zS, zS⟩ : Role), (⟨zS, zS⟩ : Role), zS⟩ : Cred))).toArray : Array Value) 53 (0, 0)) :: j2)))) ∧ E 0 = (.bool false) ∧ E 1 = (.slice (some ⟨b9, 0, none⟩) 1 1) ∧ E 2 = (.pointer (some ⟨a4, 0, none⟩)) ∧ E 3 = (.pointer (some ⟨a5, 0, none⟩)) ∧ E 6 = (.pointer (some ⟨b2, 0, none⟩)) ∧ E 8 = (.pointer (some ⟨b3, 0, none⟩)) ∧ E 46 = (.bool c1) ∧ (((if c1 then (((m_revoke_Good ([(⟨(⟨#[120]⟩ : ByteArray), [107]⟩ : Key)]) a.1)).bind fun b6 => some ((!b6))) else some false) : Option Bool).bind fun b4 => (((if b4 then (((m_revoke_Live ([(⟨(⟨#[120]⟩ : ByteArray), [107]⟩ : Key)]) ([a.1]) ([]))).bind fun a7 => some ((((a7.length : Int)) == 1))) else some false) : Option Bool).bind fun a0 => (((if a0 then (((m_revoke_Live ([(⟨(⟨#[120]⟩ : ByteArray), [107]⟩ : Key)]) ([a.1]) ([c.1]))).bind fun a3 => some ((((a3.length : Int)) == 0))) else some false) : Option Bool).bind fun Q => (((if Q then (((m_revoke_Lost ([(⟨1, (⟨(⟨#[120]⟩ : ByteArray), (⟨#[121]⟩ : ByteArray)⟩ : Role), (⟨#[100]⟩ : ByteArray), (⟨zS, zS⟩ : Role), (⟨zS, zS⟩ : Role), zS⟩ : Cred)]) ([(⟨1, (⟨(⟨#[120]⟩ : ByteArray), (⟨#[121]⟩ : ByteArray)⟩ : Role), (⟨#[100]⟩ : ByteArray), (⟨zS, zS⟩ : Role), (⟨zS, zS⟩ : Role), zS⟩ : Cred)]))).bind fun Z => some ((((Z.length : Int)) == 1))) else some false) : Option Bool).bind fun I => (((if I then (((m_revoke_Critical ([(⟨1, (⟨(⟨#[120]⟩ : ByteArray), (⟨#[121]⟩ : ByteArray)⟩ : Role), (⟨#[100]⟩ : ByteArray), (⟨zS, zS⟩ : Role), (⟨zS, zS⟩ : Role), zS⟩ : Cred)]) ((⟨(⟨(⟨#[120]⟩ : ByteArray), (⟨#[121]⟩ : ByteArray)⟩ : Role), (⟨#[100]⟩ : ByteArray)⟩ : Fact)))).bind fun M => some ((((M.length : Int)) == 1))) else some false) : Option Bool).bind fun k => some k))))) = some r) 4 ?_ (fun d1 => ?_)
    · rintro E W ⟨c1, j2, hST, j8, h2, j9, k0, h3, k1, m8, l7⟩
      refine V (R_move m8) ?_
      obtain ⟨p8, G, e6⟩ := bind_some l7
      refine LW_join (J := fun E W => ∃ (b4 : Bool) (j3 : List (Nat × Obj)), ST false NoF w W d3 ((b3, Obj.cells (#[(.int .i64 (((c.1).Cred).Kind)), (.string ((((c.1).Cred).Head).Owner)), (.string ((((c.1).Cred).Head).Word)), (.string (((c.1).Cred).Who)), (.string ((((c.1).Cred).B).Owner)), (.string ((((c.1).Cred).B).Word)), (.string ((((c.1).Cred).C).Owner)), (.string ((((c.1).Cred).C).Word)), (.string (((c.1).Cred).Word2)), (.slice T ((c.1).Tag).length U)] : Array Value) 56 (0, 0)) :: ((b2, Obj.cells (#[(.int .i64 (((a.1).Cred).Kind)), (.string ((((a.1).Cred).Head).Owner)), (.string ((((a.1).Cred).Head).Word)), (.string (((a.1).Cred).Who)), (.string ((((a.1).Cred).B).Owner)), (.string ((((a.1).Cred).B).Word)), (.string ((((a.1).Cred).C).Owner)), (.string ((((a.1).Cred).C).Word)), (.string (((a.1).Cred).Word2)), (.slice t ((a.1).Tag).length u)] : Array Value) 56 (0, 0)) :: ((a5, Obj.cells ((encFact ((⟨(⟨(⟨#[120]⟩ : ByteArray), (⟨#[121]⟩ : ByteArray)⟩ : Role), (⟨#[100]⟩ : ByteArray)⟩ : Fact))).toArray : Array Value) 38 (0, 0)) :: ((a4, Obj.cells ((encCred ((⟨1, (⟨(⟨#[120]⟩ : ByteArray), (⟨#[121]⟩ : ByteArray)⟩ : Role), (⟨#[100]⟩ : ByteArray), (⟨zS, zS⟩ : Role), (⟨zS, zS⟩ : Role), zS⟩ : Cred))).toArray : Array Value) 53 (0, 0)) :: j3)))) ∧ E 0 = (.bool false) ∧ E 1 = (.slice (some ⟨b9, 0, none⟩) 1 1) ∧ E 2 = (.pointer (some ⟨a4, 0, none⟩)) ∧ E 3 = (.pointer (some ⟨a5, 0, none⟩)) ∧ E 6 = (.pointer (some ⟨b2, 0, none⟩)) ∧ E 8 = (.pointer (some ⟨b3, 0, none⟩)) ∧ E 52 = (.bool b4) ∧ (((if b4 then (((m_revoke_Live ([(⟨(⟨#[120]⟩ : ByteArray), [107]⟩ : Key)]) ([a.1]) ([]))).bind fun a7 => some ((((a7.length : Int)) == 1))) else some false) : Option Bool).bind fun a0 => (((if a0 then (((m_revoke_Live ([(⟨(⟨#[120]⟩ : ByteArray), [107]⟩ : Key)]) ([a.1]) ([c.1]))).bind fun a3 => some ((((a3.length : Int)) == 0))) else some false) : Option Bool).bind fun Q => (((if Q then (((m_revoke_Lost ([(⟨1, (⟨(⟨#[120]⟩ : ByteArray), (⟨#[121]⟩ : ByteArray)⟩ : Role), (⟨#[100]⟩ : ByteArray), (⟨zS, zS⟩ : Role), (⟨zS, zS⟩ : Role), zS⟩ : Cred)]) ([(⟨1, (⟨(⟨#[120]⟩ : ByteArray), (⟨#[121]⟩ : ByteArray)⟩ : Role), (⟨#[100]⟩ : ByteArray), (⟨zS, zS⟩ : Role), (⟨zS, zS⟩ : Role), zS⟩ : Cred)]))).bind fun Z => some ((((Z.length : Int)) == 1))) else some false) : Option Bool).bind fun I => (((if I then (((m_revoke_Critical ([(⟨1, (⟨(⟨#[120]⟩ : ByteArray), (⟨#[121]⟩ : ByteArray)⟩ : Role), (⟨#[100]⟩ : ByteArray), (⟨zS, zS⟩ : Role), (⟨zS, zS⟩ : Role), zS⟩ : Cred)]) ((⟨(⟨(⟨#[120]⟩ : ByteArray), (⟨#[121]⟩ : ByteArray)⟩ : Role), (⟨#[100]⟩ : ByteArray)⟩ : Fact)))).bind fun M => some ((((M.length : Int)) == 1))) else some false) : Option Bool).bind fun k => some k)))) = some r) 5 ?_ (fun d0 => ?_)
      · rintro E W ⟨b4, j3, hST, g0, d4, g1, g2, d5, g3, k3, l8⟩
        refine V (R_move k3) ?_
        obtain ⟨p7, D, e5⟩ := bind_some l8
        refine LW_join (J := fun E W => ∃ (a0 : Bool) (b7 : Mem) (f0 : List (Nat × Obj)), Sub d3 b7 ∧ ST false NoF w W b7 ((b3, Obj.cells (#[(.int .i64 (((c.1).Cred).Kind)), (.string ((((c.1).Cred).Head).Owner)), (.string ((((c.1).Cred).Head).Word)), (.string (((c.1).Cred).Who)), (.string ((((c.1).Cred).B).Owner)), (.string ((((c.1).Cred).B).Word)), (.string ((((c.1).Cred).C).Owner)), (.string ((((c.1).Cred).C).Word)), (.string (((c.1).Cred).Word2)), (.slice T ((c.1).Tag).length U)] : Array Value) 56 (0, 0)) :: ((b2, Obj.cells (#[(.int .i64 (((a.1).Cred).Kind)), (.string ((((a.1).Cred).Head).Owner)), (.string ((((a.1).Cred).Head).Word)), (.string (((a.1).Cred).Who)), (.string ((((a.1).Cred).B).Owner)), (.string ((((a.1).Cred).B).Word)), (.string ((((a.1).Cred).C).Owner)), (.string ((((a.1).Cred).C).Word)), (.string (((a.1).Cred).Word2)), (.slice t ((a.1).Tag).length u)] : Array Value) 56 (0, 0)) :: ((a5, Obj.cells ((encFact ((⟨(⟨(⟨#[120]⟩ : ByteArray), (⟨#[121]⟩ : ByteArray)⟩ : Role), (⟨#[100]⟩ : ByteArray)⟩ : Fact))).toArray : Array Value) 38 (0, 0)) :: ((a4, Obj.cells ((encCred ((⟨1, (⟨(⟨#[120]⟩ : ByteArray), (⟨#[121]⟩ : ByteArray)⟩ : Role), (⟨#[100]⟩ : ByteArray), (⟨zS, zS⟩ : Role), (⟨zS, zS⟩ : Role), zS⟩ : Cred))).toArray : Array Value) 53 (0, 0)) :: f0)))) ∧ E 0 = (.bool false) ∧ E 1 = (.slice (some ⟨b9, 0, none⟩) 1 1) ∧ E 2 = (.pointer (some ⟨a4, 0, none⟩)) ∧ E 3 = (.pointer (some ⟨a5, 0, none⟩)) ∧ E 6 = (.pointer (some ⟨b2, 0, none⟩)) ∧ E 8 = (.pointer (some ⟨b3, 0, none⟩)) ∧ E 60 = (.bool a0) ∧ (((if a0 then (((m_revoke_Live ([(⟨(⟨#[120]⟩ : ByteArray), [107]⟩ : Key)]) ([a.1]) ([c.1]))).bind fun a3 => some ((((a3.length : Int)) == 0))) else some false) : Option Bool).bind fun Q => (((if Q then (((m_revoke_Lost ([(⟨1, (⟨(⟨#[120]⟩ : ByteArray), (⟨#[121]⟩ : ByteArray)⟩ : Role), (⟨#[100]⟩ : ByteArray), (⟨zS, zS⟩ : Role), (⟨zS, zS⟩ : Role), zS⟩ : Cred)]) ([(⟨1, (⟨(⟨#[120]⟩ : ByteArray), (⟨#[121]⟩ : ByteArray)⟩ : Role), (⟨#[100]⟩ : ByteArray), (⟨zS, zS⟩ : Role), (⟨zS, zS⟩ : Role), zS⟩ : Cred)]))).bind fun Z => some ((((Z.length : Int)) == 1))) else some false) : Option Bool).bind fun I => (((if I then (((m_revoke_Critical ([(⟨1, (⟨(⟨#[120]⟩ : ByteArray), (⟨#[121]⟩ : ByteArray)⟩ : Role), (⟨#[100]⟩ : ByteArray), (⟨zS, zS⟩ : Role), (⟨zS, zS⟩ : Role), zS⟩ : Cred)]) ((⟨(⟨(⟨#[120]⟩ : ByteArray), (⟨#[121]⟩ : ByteArray)⟩ : Role), (⟨#[100]⟩ : ByteArray)⟩ : Fact)))).bind fun M => some ((((M.length : Int)) == 1))) else some false) : Option Bool).bind fun k => some k))) = some r) 7 ?_ (fun c9 => ?_)
        · rintro E W ⟨a0, b7, f0, b5, hST, g4, k4, g5, g6, k5, k6, k7, i2⟩
          refine V (R_move k7) ?_
          obtain ⟨p6, z, e4⟩ := bind_some i2
          refine LW_join (J := fun E W => ∃ (Q : Bool) (b8 : Mem) (f1 : List (Nat × Obj)), Sub b7 b8 ∧ ST false NoF w W b8 ((a5, Obj.cells ((encFact ((⟨(⟨(⟨#[120]⟩ : ByteArray), (⟨#[121]⟩ : ByteArray)⟩ : Role), (⟨#[100]⟩ : ByteArray)⟩ : Fact))).toArray : Array Value) 38 (0, 0)) :: ((a4, Obj.cells ((encCred ((⟨1, (⟨(⟨#[120]⟩ : ByteArray), (⟨#[121]⟩ : ByteArray)⟩ : Role), (⟨#[100]⟩ : ByteArray), (⟨zS, zS⟩ : Role), (⟨zS, zS⟩ : Role), zS⟩ : Cred))).toArray : Array Value) 53 (0, 0)) :: f1)) ∧ E 0 = (.bool false) ∧ E 2 = (.pointer (some ⟨a4, 0, none⟩)) ∧ E 3 = (.pointer (some ⟨a5, 0, none⟩)) ∧ E 70 = (.bool Q) ∧ (((if Q then (((m_revoke_Lost ([(⟨1, (⟨(⟨#[120]⟩ : ByteArray), (⟨#[121]⟩ : ByteArray)⟩ : Role), (⟨#[100]⟩ : ByteArray), (⟨zS, zS⟩ : Role), (⟨zS, zS⟩ : Role), zS⟩ : Cred)]) ([(⟨1, (⟨(⟨#[120]⟩ : ByteArray), (⟨#[121]⟩ : ByteArray)⟩ : Role), (⟨#[100]⟩ : ByteArray), (⟨zS, zS⟩ : Role), (⟨zS, zS⟩ : Role), zS⟩ : Cred)]))).bind fun Z => some ((((Z.length : Int)) == 1))) else some false) : Option Bool).bind fun I => (((if I then (((m_revoke_Critical ([(⟨1, (⟨(⟨#[120]⟩ : ByteArray), (⟨#[121]⟩ : ByteArray)⟩ : Role), (⟨#[100]⟩ : ByteArray), (⟨zS, zS⟩ : Role), (⟨zS, zS⟩ : Role), zS⟩ : Cred)]) ((⟨(⟨(⟨#[120]⟩ : ByteArray), (⟨#[121]⟩ : ByteArray)⟩ : Role), (⟨#[100]⟩ : ByteArray)⟩ : Fact)))).bind fun M => some ((((M.length : Int)) == 1))) else some false) : Option Bool).bind fun k => some k)) = some r) 9 ?_ (fun c8 => ?_)
          · rintro E W ⟨Q, b8, f1, m9, hST, g7, c3, g8, k8, i3⟩
            refine V (R_move k8) ?_
            obtain ⟨p5, y, e3⟩ := bind_some i3
            refine LW_join (J := fun E W => ∃ (I : Bool) (c0 : Mem) (f2 : List (Nat × Obj)), Sub b8 c0 ∧ ST false NoF w W c0 ((a5, Obj.cells ((encFact ((⟨(⟨(⟨#[120]⟩ : ByteArray), (⟨#[121]⟩ : ByteArray)⟩ : Role), (⟨#[100]⟩ : ByteArray)⟩ : Fact))).toArray : Array Value) 38 (0, 0)) :: ((a4, Obj.cells ((encCred ((⟨1, (⟨(⟨#[120]⟩ : ByteArray), (⟨#[121]⟩ : ByteArray)⟩ : Role), (⟨#[100]⟩ : ByteArray), (⟨zS, zS⟩ : Role), (⟨zS, zS⟩ : Role), zS⟩ : Cred))).toArray : Array Value) 53 (0, 0)) :: f2)) ∧ E 0 = (.bool false) ∧ E 2 = (.pointer (some ⟨a4, 0, none⟩)) ∧ E 3 = (.pointer (some ⟨a5, 0, none⟩)) ∧ E 79 = (.bool I) ∧ (((if I then (((m_revoke_Critical ([(⟨1, (⟨(⟨#[120]⟩ : ByteArray), (⟨#[121]⟩ : ByteArray)⟩ : Role), (⟨#[100]⟩ : ByteArray), (⟨zS, zS⟩ : Role), (⟨zS, zS⟩ : Role), zS⟩ : Cred)]) ((⟨(⟨(⟨#[120]⟩ : ByteArray), (⟨#[121]⟩ : ByteArray)⟩ : Role), (⟨#[100]⟩ : ByteArray)⟩ : Fact)))).bind fun M => some ((((M.length : Int)) == 1))) else some false) : Option Bool).bind fun k => some k) = some r) 8 ?_ (fun c7 => ?_)
            · rintro E W ⟨I, c0, f2, n0, hST, g9, k9, l0, l1, i4⟩
              refine V (R_move l1) ?_
              obtain ⟨p4, x, e2⟩ := bind_some i4
              refine LW_join (J := fun E W => ∃ (k : Bool) (e1 : Mem) (f3 : List (Nat × Obj)), Sub c0 e1 ∧ ST false NoF w W e1 f3 ∧ E 0 = (.bool false) ∧ E 87 = (.bool k) ∧ some k = some r) 7 ?_ (fun c6 => ?_)
              · rintro E W ⟨k, e1, f3, n1, hST, p1, l2, c4⟩
                refine V (R_assign l2) (LW_nil (sq_n (CW_ret ?_)))
                replace c4 := Option.some.inj c4; subst c4
                exact retQ_1 (v := (.bool k)) rfl rfl ⟨rfl, hST.ex⟩
              rcases bool_cases I with j | j
              · replace x := if_t j x
                refine Vg rfl (congrArg Value.bool j) (R_load k9 (load_boxA hST.has (Mt Mh) (encCred ((⟨1, (⟨(⟨#[120]⟩ : ByteArray), (⟨#[121]⟩ : ByteArray)⟩ : Role), (⟨#[100]⟩ : ByteArray), (⟨zS, zS⟩ : Role), (⟨zS, zS⟩ : Role), zS⟩ : Cred))) rfl Tryz.isAgg53 Tryz.sizeOf53)) (VgE rfl (congrArg Value.bool j) (E_buildSlice (qs := #[(0, (.agg (encCred ((⟨1, (⟨(⟨#[120]⟩ : ByteArray), (⟨#[121]⟩ : ByteArray)⟩ : Role), (⟨#[100]⟩ : ByteArray), (⟨zS, zS⟩ : Role), (⟨zS, zS⟩ : Role), zS⟩ : Cred))).toArray))]) (cs := (encCred ((⟨1, (⟨(⟨#[120]⟩ : ByteArray), (⟨#[121]⟩ : ByteArray)⟩ : Role), (⟨#[100]⟩ : ByteArray), (⟨zS, zS⟩ : Role), (⟨zS, zS⟩ : Role), zS⟩ : Cred))).toArray) hST (parts1 rfl) (run_lit [(.agg (encCred ((⟨1, (⟨(⟨#[120]⟩ : ByteArray), (⟨#[121]⟩ : ByteArray)⟩ : Role), (⟨#[100]⟩ : ByteArray), (⟨zS, zS⟩ : Role), (⟨zS, zS⟩ : Role), zS⟩ : Cred))).toArray)] Tryz.underlying22 Tryz.sizeOf53 Tryz.zeroValue53 (by decide) rfl (by intro v hv; simp only [List.mem_cons, List.not_mem_nil, or_false] at hv; rcases hv with rfl <;> rfl) rfl rfl) (fun n9 f4 hST => Vg rfl (congrArg Value.bool j) (R_load l0 (load_boxA hST.has (Mt Mh) (encFact ((⟨(⟨(⟨#[120]⟩ : ByteArray), (⟨#[121]⟩ : ByteArray)⟩ : Role), (⟨#[100]⟩ : ByteArray)⟩ : Fact))) rfl Tryz.isAgg38 Tryz.sizeOf38)) ?_)))
                obtain ⟨M, i5, x⟩ := bind_some x
                refine VgE rfl (congrArg Value.bool j) (F_givesRow (args := [(.slice (some ⟨f4, 0, none⟩) 1 1), (.agg (encFact ((⟨(⟨(⟨#[120]⟩ : ByteArray), (⟨#[121]⟩ : ByteArray)⟩ : Role), (⟨#[100]⟩ : ByteArray)⟩ : Fact))).toArray)]) _ hST rfl Tryz.call47 (by exact args2 rfl rfl) ((w_revoke_Critical (.slice (some ⟨f4, 0, none⟩) 1 1) ([(⟨1, (⟨(⟨#[120]⟩ : ByteArray), (⟨#[121]⟩ : ByteArray)⟩ : Role), (⟨#[100]⟩ : ByteArray), (⟨zS, zS⟩ : Role), (⟨zS, zS⟩ : Role), zS⟩ : Cred)]) ((⟨(⟨(⟨#[120]⟩ : ByteArray), (⟨#[121]⟩ : ByteArray)⟩ : Role), (⟨#[100]⟩ : ByteArray)⟩ : Fact)) _ _ (Sl.lit (enc := encCred) (l := [(⟨1, (⟨(⟨#[120]⟩ : ByteArray), (⟨#[121]⟩ : ByteArray)⟩ : Role), (⟨#[100]⟩ : ByteArray), (⟨zS, zS⟩ : Role), (⟨zS, zS⟩ : Role), zS⟩ : Cred)]) lenCred rfl (Nat.le_of_ble_eq_true rfl) rfl (hST.at_ Mh)) i5)) (fun o0 q1 m3 n5 hST h4 hl207 h8 => Vg rfl (congrArg Value.bool j) (R_lenRow Tryz.underlying22 rfl h8) (Vg rfl (congrArg Value.bool j) (R_int rfl rfl rfl) (V (R_pickT (congrArg Value.bool j) rfl) ?_))))
                replace x := Option.some.inj x; subst x
                exact c6 _ _ ⟨((((M.length : Int)) == 1)), m3, _, h4, (hST.sel (Dr (Db (Db (Db St))))), g9, rfl, e2⟩
              replace x := if_f j x
              refine Vn rfl (congrArg Value.bool j) (Vn rfl (congrArg Value.bool j) (Vn rfl (congrArg Value.bool j) (Vn rfl (congrArg Value.bool j) (Vn rfl (congrArg Value.bool j) (Vn rfl (congrArg Value.bool j) (V (R_pickF (congrArg Value.bool j) rfl) ?_))))))
              replace x := Option.some.inj x; subst x
              exact c6 _ _ ⟨false, c0, _, (Sub.refl _), (hST.sel (Db (Db St))), g9, rfl, e2⟩
            rcases bool_cases Q with g | g
            · replace y := if_t g y
              refine Vg rfl (congrArg Value.bool g) (R_load c3 (load_boxA hST.has (Mt Mh) (encCred ((⟨1, (⟨(⟨#[120]⟩ : ByteArray), (⟨#[121]⟩ : ByteArray)⟩ : Role), (⟨#[100]⟩ : ByteArray), (⟨zS, zS⟩ : Role), (⟨zS, zS⟩ : Role), zS⟩ : Cred))) rfl Tryz.isAgg53 Tryz.sizeOf53)) (VgE rfl (congrArg Value.bool g) (E_buildSlice (qs := #[(0, (.agg (encCred ((⟨1, (⟨(⟨#[120]⟩ : ByteArray), (⟨#[121]⟩ : ByteArray)⟩ : Role), (⟨#[100]⟩ : ByteArray), (⟨zS, zS⟩ : Role), (⟨zS, zS⟩ : Role), zS⟩ : Cred))).toArray))]) (cs := (encCred ((⟨1, (⟨(⟨#[120]⟩ : ByteArray), (⟨#[121]⟩ : ByteArray)⟩ : Role), (⟨#[100]⟩ : ByteArray), (⟨zS, zS⟩ : Role), (⟨zS, zS⟩ : Role), zS⟩ : Cred))).toArray) hST (parts1 rfl) (run_lit [(.agg (encCred ((⟨1, (⟨(⟨#[120]⟩ : ByteArray), (⟨#[121]⟩ : ByteArray)⟩ : Role), (⟨#[100]⟩ : ByteArray), (⟨zS, zS⟩ : Role), (⟨zS, zS⟩ : Role), zS⟩ : Cred))).toArray)] Tryz.underlying22 Tryz.sizeOf53 Tryz.zeroValue53 (by decide) rfl (by intro v hv; simp only [List.mem_cons, List.not_mem_nil, or_false] at hv; rcases hv with rfl <;> rfl) rfl rfl) (fun o1 f5 hST => Vg rfl (congrArg Value.bool g) (R_load c3 (load_boxA hST.has (Mt (Mt Mh)) (encCred ((⟨1, (⟨(⟨#[120]⟩ : ByteArray), (⟨#[121]⟩ : ByteArray)⟩ : Role), (⟨#[100]⟩ : ByteArray), (⟨zS, zS⟩ : Role), (⟨zS, zS⟩ : Role), zS⟩ : Cred))) rfl Tryz.isAgg53 Tryz.sizeOf53)) (VgE rfl (congrArg Value.bool g) (E_buildSlice (qs := #[(0, (.agg (encCred ((⟨1, (⟨(⟨#[120]⟩ : ByteArray), (⟨#[121]⟩ : ByteArray)⟩ : Role), (⟨#[100]⟩ : ByteArray), (⟨zS, zS⟩ : Role), (⟨zS, zS⟩ : Role), zS⟩ : Cred))).toArray))]) (cs := (encCred ((⟨1, (⟨(⟨#[120]⟩ : ByteArray), (⟨#[121]⟩ : ByteArray)⟩ : Role), (⟨#[100]⟩ : ByteArray), (⟨zS, zS⟩ : Role), (⟨zS, zS⟩ : Role), zS⟩ : Cred))).toArray) hST (parts1 rfl) (run_lit [(.agg (encCred ((⟨1, (⟨(⟨#[120]⟩ : ByteArray), (⟨#[121]⟩ : ByteArray)⟩ : Role), (⟨#[100]⟩ : ByteArray), (⟨zS, zS⟩ : Role), (⟨zS, zS⟩ : Role), zS⟩ : Cred))).toArray)] Tryz.underlying22 Tryz.sizeOf53 Tryz.zeroValue53 (by decide) rfl (by intro v hv; simp only [List.mem_cons, List.not_mem_nil, or_false] at hv; rcases hv with rfl <;> rfl) rfl rfl) (fun o2 f6 hST => ?_))))))
              obtain ⟨Z, i6, y⟩ := bind_some y
              refine VgE rfl (congrArg Value.bool g) (F_givesRow (args := [(.slice (some ⟨f5, 0, none⟩) 1 1), (.slice (some ⟨f6, 0, none⟩) 1 1)]) _ hST rfl Tryz.call45 (by exact args2 rfl rfl) ((w_revoke_Lost (.slice (some ⟨f5, 0, none⟩) 1 1) ([(⟨1, (⟨(⟨#[120]⟩ : ByteArray), (⟨#[121]⟩ : ByteArray)⟩ : Role), (⟨#[100]⟩ : ByteArray), (⟨zS, zS⟩ : Role), (⟨zS, zS⟩ : Role), zS⟩ : Cred)]) (.slice (some ⟨f6, 0, none⟩) 1 1) ([(⟨1, (⟨(⟨#[120]⟩ : ByteArray), (⟨#[121]⟩ : ByteArray)⟩ : Role), (⟨#[100]⟩ : ByteArray), (⟨zS, zS⟩ : Role), (⟨zS, zS⟩ : Role), zS⟩ : Cred)]) _ _ (Sl.lit (enc := encCred) (l := [(⟨1, (⟨(⟨#[120]⟩ : ByteArray), (⟨#[121]⟩ : ByteArray)⟩ : Role), (⟨#[100]⟩ : ByteArray), (⟨zS, zS⟩ : Role), (⟨zS, zS⟩ : Role), zS⟩ : Cred)]) lenCred rfl (Nat.le_of_ble_eq_true rfl) rfl (hST.at_ (Mt Mh))) (Sl.lit (enc := encCred) (l := [(⟨1, (⟨(⟨#[120]⟩ : ByteArray), (⟨#[121]⟩ : ByteArray)⟩ : Role), (⟨#[100]⟩ : ByteArray), (⟨zS, zS⟩ : Role), (⟨zS, zS⟩ : Role), zS⟩ : Cred)]) lenCred rfl (Nat.le_of_ble_eq_true rfl) rfl (hST.at_ Mh)) i6)) (fun o3 q2 m4 n6 hST h5 hl224 h9 => Vg rfl (congrArg Value.bool g) (R_lenRow Tryz.underlying68 rfl h9) (Vg rfl (congrArg Value.bool g) (R_int rfl rfl rfl) (V (R_pickT (congrArg Value.bool g) rfl) ?_))))
              replace y := Option.some.inj y; subst y
              exact c7 _ _ ⟨((((Z.length : Int)) == 1)), m4, _, h5, (hST.sel (Dr (Db (Db St)))), g7, c3, g8, rfl, e3⟩
            replace y := if_f g y
            refine Vn rfl (congrArg Value.bool g) (Vn rfl (congrArg Value.bool g) (Vn rfl (congrArg Value.bool g) (Vn rfl (congrArg Value.bool g) (Vn rfl (congrArg Value.bool g) (Vn rfl (congrArg Value.bool g) (Vn rfl (congrArg Value.bool g) (V (R_pickF (congrArg Value.bool g) rfl) ?_)))))))
            replace y := Option.some.inj y; subst y
            exact c7 _ _ ⟨false, b8, _, (Sub.refl _), (hST.sel St), g7, c3, g8, rfl, e3⟩
          rcases bool_cases a0 with f | f
          · replace z := if_t f z
            refine Vg rfl (congrArg Value.bool f) (R_move k4) (Vg rfl (congrArg Value.bool f) (R_load k5 (load_boxA hST.has (Mt Mh) [(.int .i64 (((a.1).Cred).Kind)), (.string ((((a.1).Cred).Head).Owner)), (.string ((((a.1).Cred).Head).Word)), (.string (((a.1).Cred).Who)), (.string ((((a.1).Cred).B).Owner)), (.string ((((a.1).Cred).B).Word)), (.string ((((a.1).Cred).C).Owner)), (.string ((((a.1).Cred).C).Word)), (.string (((a.1).Cred).Word2)), (.slice t ((a.1).Tag).length u)] rfl Tryz.isAgg56 Tryz.sizeOf56)) (VgE rfl (congrArg Value.bool f) (E_buildSlice (qs := #[(0, (.agg #[(.int .i64 (((a.1).Cred).Kind)), (.string ((((a.1).Cred).Head).Owner)), (.string ((((a.1).Cred).Head).Word)), (.string (((a.1).Cred).Who)), (.string ((((a.1).Cred).B).Owner)), (.string ((((a.1).Cred).B).Word)), (.string ((((a.1).Cred).C).Owner)), (.string ((((a.1).Cred).C).Word)), (.string (((a.1).Cred).Word2)), (.slice t ((a.1).Tag).length u)]))]) (cs := #[(.int .i64 (((a.1).Cred).Kind)), (.string ((((a.1).Cred).Head).Owner)), (.string ((((a.1).Cred).Head).Word)), (.string (((a.1).Cred).Who)), (.string ((((a.1).Cred).B).Owner)), (.string ((((a.1).Cred).B).Word)), (.string ((((a.1).Cred).C).Owner)), (.string ((((a.1).Cred).C).Word)), (.string (((a.1).Cred).Word2)), (.slice t ((a.1).Tag).length u)]) hST (parts1 rfl) (run_lit [(.agg #[(.int .i64 (((a.1).Cred).Kind)), (.string ((((a.1).Cred).Head).Owner)), (.string ((((a.1).Cred).Head).Word)), (.string (((a.1).Cred).Who)), (.string ((((a.1).Cred).B).Owner)), (.string ((((a.1).Cred).B).Word)), (.string ((((a.1).Cred).C).Owner)), (.string ((((a.1).Cred).C).Word)), (.string (((a.1).Cred).Word2)), (.slice t ((a.1).Tag).length u)])] Tryz.underlying50 Tryz.sizeOf56 Tryz.zeroValue56 (by decide) rfl (by intro v hv; simp only [List.mem_cons, List.not_mem_nil, or_false] at hv; rcases hv with rfl <;> rfl) rfl rfl) (fun o4 f7 hST => Vg rfl (congrArg Value.bool f) (R_load k6 (load_boxA hST.has (Mt Mh) [(.int .i64 (((c.1).Cred).Kind)), (.string ((((c.1).Cred).Head).Owner)), (.string ((((c.1).Cred).Head).Word)), (.string (((c.1).Cred).Who)), (.string ((((c.1).Cred).B).Owner)), (.string ((((c.1).Cred).B).Word)), (.string ((((c.1).Cred).C).Owner)), (.string ((((c.1).Cred).C).Word)), (.string (((c.1).Cred).Word2)), (.slice T ((c.1).Tag).length U)] rfl Tryz.isAgg56 Tryz.sizeOf56)) (VgE rfl (congrArg Value.bool f) (E_buildSlice (qs := #[(0, (.agg #[(.int .i64 (((c.1).Cred).Kind)), (.string ((((c.1).Cred).Head).Owner)), (.string ((((c.1).Cred).Head).Word)), (.string (((c.1).Cred).Who)), (.string ((((c.1).Cred).B).Owner)), (.string ((((c.1).Cred).B).Word)), (.string ((((c.1).Cred).C).Owner)), (.string ((((c.1).Cred).C).Word)), (.string (((c.1).Cred).Word2)), (.slice T ((c.1).Tag).length U)]))]) (cs := #[(.int .i64 (((c.1).Cred).Kind)), (.string ((((c.1).Cred).Head).Owner)), (.string ((((c.1).Cred).Head).Word)), (.string (((c.1).Cred).Who)), (.string ((((c.1).Cred).B).Owner)), (.string ((((c.1).Cred).B).Word)), (.string ((((c.1).Cred).C).Owner)), (.string ((((c.1).Cred).C).Word)), (.string (((c.1).Cred).Word2)), (.slice T ((c.1).Tag).length U)]) hST (parts1 rfl) (run_lit [(.agg #[(.int .i64 (((c.1).Cred).Kind)), (.string ((((c.1).Cred).Head).Owner)), (.string ((((c.1).Cred).Head).Word)), (.string (((c.1).Cred).Who)), (.string ((((c.1).Cred).B).Owner)), (.string ((((c.1).Cred).B).Word)), (.string ((((c.1).Cred).C).Owner)), (.string ((((c.1).Cred).C).Word)), (.string (((c.1).Cred).Word2)), (.slice T ((c.1).Tag).length U)])] Tryz.underlying50 Tryz.sizeOf56 Tryz.zeroValue56 (by decide) rfl (by intro v hv; simp only [List.mem_cons, List.not_mem_nil, or_false] at hv; rcases hv with rfl <;> rfl) rfl rfl) (fun o5 f8 hST => ?_)))))))
            obtain ⟨a3, i7, z⟩ := bind_some z
            refine VgE rfl (congrArg Value.bool f) (F_givesRow (args := [(.slice (some ⟨b9, 0, none⟩) 1 1), (.slice (some ⟨f7, 0, none⟩) 1 1), (.slice (some ⟨f8, 0, none⟩) 1 1)]) _ hST rfl Tryz.call42 (by exact args3 rfl rfl rfl) ((w_revoke_Live (.slice (some ⟨b9, 0, none⟩) 1 1) ([(⟨(⟨#[120]⟩ : ByteArray), [107]⟩ : Key)]) (.slice (some ⟨f7, 0, none⟩) 1 1) ([a.1]) (.slice (some ⟨f8, 0, none⟩) 1 1) ([c.1]) _ _ (b0.mono dKey.mono ((((a8.trans a9).trans a2).trans b5).trans hST.sub_hp)) ((RowD.lit dSigned (l := [a.1]) (.cons (ys := [(.int .i64 (((a.1).Cred).Kind)), (.string ((((a.1).Cred).Head).Owner)), (.string ((((a.1).Cred).Head).Word)), (.string (((a.1).Cred).Who)), (.string ((((a.1).Cred).B).Owner)), (.string ((((a.1).Cred).B).Word)), (.string ((((a.1).Cred).C).Owner)), (.string ((((a.1).Cred).C).Word)), (.string (((a.1).Cred).Word2)), (.slice t ((a.1).Tag).length u)]) (relSigned.mk ⟨(.slice t ((a.1).Tag).length u), rfl, (c5.mono (Pl.mono _) (a2.trans b5))⟩) .nil) rfl (Nat.le_of_ble_eq_true rfl) rfl).sl dSigned hST.sub_hp (fun b o hq => (by rw [List.mem_singleton] at hq; cases hq; exact hST.at_ (Mt Mh)))) ((RowD.lit dSigned (l := [c.1]) (.cons (ys := [(.int .i64 (((c.1).Cred).Kind)), (.string ((((c.1).Cred).Head).Owner)), (.string ((((c.1).Cred).Head).Word)), (.string (((c.1).Cred).Who)), (.string ((((c.1).Cred).B).Owner)), (.string ((((c.1).Cred).B).Word)), (.string ((((c.1).Cred).C).Owner)), (.string ((((c.1).Cred).C).Word)), (.string (((c.1).Cred).Word2)), (.slice T ((c.1).Tag).length U)]) (relSigned.mk ⟨(.slice T ((c.1).Tag).length U), rfl, (d9.mono (Pl.mono _) b5)⟩) .nil) rfl (Nat.le_of_ble_eq_true rfl) rfl).sl dSigned hST.sub_hp (fun b o hq => (by rw [List.mem_singleton] at hq; cases hq; exact hST.at_ Mh))) i7)) (fun o6 q3 m5 n7 hST h6 hl241 i0 => Vg rfl (congrArg Value.bool f) (R_lenRow Tryz.underlying22 rfl i0) (Vg rfl (congrArg Value.bool f) (R_int rfl rfl rfl) (V (R_pickT (congrArg Value.bool f) rfl) ?_))))
            replace z := Option.some.inj z; subst z
            exact c8 _ _ ⟨((((a3.length : Int)) == 0)), m5, _, h6, (hST.sel (Dr (Db (Db (Db (Db St)))))), g4, g5, g6, rfl, e4⟩
          replace z := if_f f z
          refine Vn rfl (congrArg Value.bool f) (Vn rfl (congrArg Value.bool f) (Vn rfl (congrArg Value.bool f) (Vn rfl (congrArg Value.bool f) (Vn rfl (congrArg Value.bool f) (Vn rfl (congrArg Value.bool f) (Vn rfl (congrArg Value.bool f) (Vn rfl (congrArg Value.bool f) (V (R_pickF (congrArg Value.bool f) rfl) ?_))))))))
          replace z := Option.some.inj z; subst z
          exact c8 _ _ ⟨false, b7, _, (Sub.refl _), (hST.sel (Db (Db St))), g4, g5, g6, rfl, e4⟩
        rcases bool_cases b4 with i | i
        · replace D := if_t i D
          refine Vg rfl (congrArg Value.bool i) (R_move d4) (Vg rfl (congrArg Value.bool i) (R_load d5 (load_boxA hST.has (Mt Mh) [(.int .i64 (((a.1).Cred).Kind)), (.string ((((a.1).Cred).Head).Owner)), (.string ((((a.1).Cred).Head).Word)), (.string (((a.1).Cred).Who)), (.string ((((a.1).Cred).B).Owner)), (.string ((((a.1).Cred).B).Word)), (.string ((((a.1).Cred).C).Owner)), (.string ((((a.1).Cred).C).Word)), (.string (((a.1).Cred).Word2)), (.slice t ((a.1).Tag).length u)] rfl Tryz.isAgg56 Tryz.sizeOf56)) (VgE rfl (congrArg Value.bool i) (E_buildSlice (qs := #[(0, (.agg #[(.int .i64 (((a.1).Cred).Kind)), (.string ((((a.1).Cred).Head).Owner)), (.string ((((a.1).Cred).Head).Word)), (.string (((a.1).Cred).Who)), (.string ((((a.1).Cred).B).Owner)), (.string ((((a.1).Cred).B).Word)), (.string ((((a.1).Cred).C).Owner)), (.string ((((a.1).Cred).C).Word)), (.string (((a.1).Cred).Word2)), (.slice t ((a.1).Tag).length u)]))]) (cs := #[(.int .i64 (((a.1).Cred).Kind)), (.string ((((a.1).Cred).Head).Owner)), (.string ((((a.1).Cred).Head).Word)), (.string (((a.1).Cred).Who)), (.string ((((a.1).Cred).B).Owner)), (.string ((((a.1).Cred).B).Word)), (.string ((((a.1).Cred).C).Owner)), (.string ((((a.1).Cred).C).Word)), (.string (((a.1).Cred).Word2)), (.slice t ((a.1).Tag).length u)]) hST (parts1 rfl) (run_lit [(.agg #[(.int .i64 (((a.1).Cred).Kind)), (.string ((((a.1).Cred).Head).Owner)), (.string ((((a.1).Cred).Head).Word)), (.string (((a.1).Cred).Who)), (.string ((((a.1).Cred).B).Owner)), (.string ((((a.1).Cred).B).Word)), (.string ((((a.1).Cred).C).Owner)), (.string ((((a.1).Cred).C).Word)), (.string (((a.1).Cred).Word2)), (.slice t ((a.1).Tag).length u)])] Tryz.underlying50 Tryz.sizeOf56 Tryz.zeroValue56 (by decide) rfl (by intro v hv; simp only [List.mem_cons, List.not_mem_nil, or_false] at hv; rcases hv with rfl <;> rfl) rfl rfl) (fun o7 f9 hST => ?_))))
          obtain ⟨a7, i8, D⟩ := bind_some D
          refine VgE rfl (congrArg Value.bool i) (F_givesRow (args := [(.slice (some ⟨b9, 0, none⟩) 1 1), (.slice (some ⟨f9, 0, none⟩) 1 1), (.slice none 0 0)]) _ hST rfl Tryz.call42 (by exact args3 rfl rfl rfl) ((w_revoke_Live (.slice (some ⟨b9, 0, none⟩) 1 1) ([(⟨(⟨#[120]⟩ : ByteArray), [107]⟩ : Key)]) (.slice (some ⟨f9, 0, none⟩) 1 1) ([a.1]) (.slice none 0 0) ([]) _ _ (b0.mono dKey.mono (((a8.trans a9).trans a2).trans hST.sub_hp)) ((RowD.lit dSigned (l := [a.1]) (.cons (ys := [(.int .i64 (((a.1).Cred).Kind)), (.string ((((a.1).Cred).Head).Owner)), (.string ((((a.1).Cred).Head).Word)), (.string (((a.1).Cred).Who)), (.string ((((a.1).Cred).B).Owner)), (.string ((((a.1).Cred).B).Word)), (.string ((((a.1).Cred).C).Owner)), (.string ((((a.1).Cred).C).Word)), (.string (((a.1).Cred).Word2)), (.slice t ((a.1).Tag).length u)]) (relSigned.mk ⟨(.slice t ((a.1).Tag).length u), rfl, (c5.mono (Pl.mono _) a2)⟩) .nil) rfl (Nat.le_of_ble_eq_true rfl) rfl).sl dSigned hST.sub_hp (fun b o hq => (by rw [List.mem_singleton] at hq; cases hq; exact hST.at_ Mh))) (Sl.nil _ _ _) i8)) (fun o8 q4 m6 n8 hST h7 hl256 i1 => Vg rfl (congrArg Value.bool i) (R_lenRow Tryz.underlying22 rfl i1) (Vg rfl (congrArg Value.bool i) (R_int rfl rfl rfl) (V (R_pickT (congrArg Value.bool i) rfl) ?_))))
          replace D := Option.some.inj D; subst D
          exact c9 _ _ ⟨((((a7.length : Int)) == 1)), m6, _, h7, (hST.sel (Dr (Db St))), g0, d4, g1, g2, d5, g3, rfl, e5⟩
        replace D := if_f i D
        refine Vn rfl (congrArg Value.bool i) (Vn rfl (congrArg Value.bool i) (Vn rfl (congrArg Value.bool i) (Vn rfl (congrArg Value.bool i) (Vn rfl (congrArg Value.bool i) (Vn rfl (congrArg Value.bool i) (V (R_pickF (congrArg Value.bool i) rfl) ?_))))))
        replace D := Option.some.inj D; subst D
        exact c9 _ _ ⟨false, d3, _, (Sub.refl _), (hST.sel St), g0, d4, g1, g2, d5, g3, rfl, e5⟩
      rcases bool_cases c1 with K | K
      · replace G := if_t K G
        refine Vg rfl (congrArg Value.bool K) (R_move h2) (Vg rfl (congrArg Value.bool K) (R_load h3 (load_boxA hST.has (Mt Mh) [(.int .i64 (((a.1).Cred).Kind)), (.string ((((a.1).Cred).Head).Owner)), (.string ((((a.1).Cred).Head).Word)), (.string (((a.1).Cred).Who)), (.string ((((a.1).Cred).B).Owner)), (.string ((((a.1).Cred).B).Word)), (.string ((((a.1).Cred).C).Owner)), (.string ((((a.1).Cred).C).Word)), (.string (((a.1).Cred).Word2)), (.slice t ((a.1).Tag).length u)] rfl Tryz.isAgg56 Tryz.sizeOf56)) ?_)
        obtain ⟨b6, i9, G⟩ := bind_some G
        refine VgE rfl (congrArg Value.bool K) (E_gives (args := [(.slice (some ⟨b9, 0, none⟩) 1 1), (.agg #[(.int .i64 (((a.1).Cred).Kind)), (.string ((((a.1).Cred).Head).Owner)), (.string ((((a.1).Cred).Head).Word)), (.string (((a.1).Cred).Who)), (.string ((((a.1).Cred).B).Owner)), (.string ((((a.1).Cred).B).Word)), (.string ((((a.1).Cred).C).Owner)), (.string ((((a.1).Cred).C).Word)), (.string (((a.1).Cred).Word2)), (.slice t ((a.1).Tag).length u)])]) hST rfl Tryz.call39 (by exact args2 rfl rfl) (Gives.weak (w_revoke_Good (.slice (some ⟨b9, 0, none⟩) 1 1) ([(⟨(⟨#[120]⟩ : ByteArray), [107]⟩ : Key)]) a.1 (.slice t ((a.1).Tag).length u) _ _ (b0.mono dKey.mono (((a8.trans a9).trans a2).trans hST.sub_hp)) (c5.mono (Pl.mono _) (a2.trans hST.sub_hp)) i9)) (fun o9 hST => Vg rfl (congrArg Value.bool K) (R_not rfl) (V (R_pickT (congrArg Value.bool K) rfl) ?_)))
        replace G := Option.some.inj G; subst G
        exact d0 _ _ ⟨((!b6)), _, (hST.sel St), j8, h2, j9, k0, h3, k1, rfl, e6⟩
      replace G := if_f K G
      refine Vn rfl (congrArg Value.bool K) (Vn rfl (congrArg Value.bool K) (Vn rfl (congrArg Value.bool K) (Vn rfl (congrArg Value.bool K) (V (R_pickF (congrArg Value.bool K) rfl) ?_))))
      replace G := Option.some.inj G; subst G
      exact d0 _ _ ⟨false, _, (hST.sel St), j8, h2, j9, k0, h3, k1, rfl, e6⟩
    rcases bool_cases e9 with Y | Y
    · replace H := if_t Y H
      refine Vg rfl (congrArg Value.bool Y) (R_move h0) (Vg rfl (congrArg Value.bool Y) (R_load h1 (load_boxA hST.has Mh [(.int .i64 (((c.1).Cred).Kind)), (.string ((((c.1).Cred).Head).Owner)), (.string ((((c.1).Cred).Head).Word)), (.string (((c.1).Cred).Who)), (.string ((((c.1).Cred).B).Owner)), (.string ((((c.1).Cred).B).Word)), (.string ((((c.1).Cred).C).Owner)), (.string ((((c.1).Cred).C).Word)), (.string (((c.1).Cred).Word2)), (.slice T ((c.1).Tag).length U)] rfl Tryz.isAgg56 Tryz.sizeOf56)) ?_)
      obtain ⟨e0, j0, H⟩ := bind_some H
      refine VgE rfl (congrArg Value.bool Y) (E_gives (args := [(.slice (some ⟨b9, 0, none⟩) 1 1), (.agg #[(.int .i64 (((c.1).Cred).Kind)), (.string ((((c.1).Cred).Head).Owner)), (.string ((((c.1).Cred).Head).Word)), (.string (((c.1).Cred).Who)), (.string ((((c.1).Cred).B).Owner)), (.string ((((c.1).Cred).B).Word)), (.string ((((c.1).Cred).C).Owner)), (.string ((((c.1).Cred).C).Word)), (.string (((c.1).Cred).Word2)), (.slice T ((c.1).Tag).length U)])]) hST rfl Tryz.call39 (by exact args2 rfl rfl) (Gives.weak (w_revoke_Good (.slice (some ⟨b9, 0, none⟩) 1 1) ([(⟨(⟨#[120]⟩ : ByteArray), [107]⟩ : Key)]) c.1 (.slice T ((c.1).Tag).length U) _ _ (b0.mono dKey.mono (((a8.trans a9).trans a2).trans hST.sub_hp)) (d9.mono (Pl.mono _) hST.sub_hp) j0)) (fun p0 hST => V (R_pickT (congrArg Value.bool Y) rfl) ?_))
      replace H := Option.some.inj H; subst H
      exact d1 _ _ ⟨e0, _, (hST.sel St), j4, h0, j5, j6, j7, h1, rfl, e7⟩
    replace H := if_f Y H
    refine Vn rfl (congrArg Value.bool Y) (Vn rfl (congrArg Value.bool Y) (Vn rfl (congrArg Value.bool Y) (V (R_pickF (congrArg Value.bool Y) rfl) ?_)))
    replace H := Option.some.inj H; subst H
    exact d1 _ _ ⟨false, _, (hST.sel St), j4, h0, j5, j6, j7, h1, rfl, e7⟩
  rcases bool_cases ((a.2 == 0)) with a1 | a1
  · replace N := if_t a1 N
    refine Vg rfl (congrArg Value.bool a1) (R_move rfl) (Vg rfl (congrArg Value.bool a1) (R_int rfl rfl rfl) (V (R_pickT (congrArg Value.bool a1) rfl) ?_))
    replace N := Option.some.inj N; subst N
    exact d2 _ _ ⟨((c.2 == 0)), _, (hST.sel St), rfl, rfl, rfl, rfl, rfl, rfl, rfl, e8⟩
  replace N := if_f a1 N
  refine Vn rfl (congrArg Value.bool a1) (Vn rfl (congrArg Value.bool a1) (V (R_pickF (congrArg Value.bool a1) rfl) ?_))
  replace N := Option.some.inj N; subst N
  exact d2 _ _ ⟨false, _, (hST.sel St), rfl, rfl, rfl, rfl, rfl, rfl, rfl, e8⟩
theorem w_law05_Great (j : Value) (t : List Cred) (r : Int) (w : World) (g : Sl (Pl encCred) 9 (hp w) j t) (hm : m_law05_Great t = some r) :
    Gives true Tryz.prog 21 [j] w (.int .i64 r) := by
  have hST := ST.start (dd := true) w
  unfold m_law05_Great at hm
  refine calls_of_CW (n := 54) Tryz.func21 rfl rfl (Nat.le_of_ble_eq_true rfl) (CW_seq (CW_region (V (R_assign rfl) (LW_nil (sq_n (CW_seq (CW_region (V (R_assign rfl) (LW_nil (sq_n (CW_seq (CW_seq (CW_region (V (R_move rfl) ?_))))))))))))))
  refine V (R_len Tryz.underlying22 rfl g) (V (R_move rfl) (LW_nil (sq_n (CW_range (fun i E W => ∃ (f : Int) (k : List (Nat × Obj)), (E 8 = .int .i64 (i : Nat) ∧ E 7 = .int .i64 (t.length : Nat)) ∧ ST true NoF w W (hp w) k ∧ E 3 = (.int .i64 f) ∧ E 6 = j ∧ m_law05_Great_L1 (t.drop i) f = some r) t.length g.len ⟨0, _, ⟨rfl, rfl⟩, (hST.sel St), rfl, rfl, hm⟩ (by decide) (by decide) (by decide) (fun _ _ _ h => by obtain ⟨_, _, eIN, _⟩ := h; exact eIN) ?_ ?_))))
  · rintro H E W y ⟨f, k, ⟨eI, eN⟩, hST, u, x, a⟩
    obtain ⟨c, I, D, B, G⟩ := drop_cons y
    rw [D] at a
    rw [m_law05_Great_L1] at a
    refine CW_block (CW_seq (CW_region (VQ (R_indexP (enc := encCred) (i := (H : Int)) (x0 := c) Tryz.underlying22 Tryz.sizeOf53 x eI g (Int.natCast_nonneg _) B) (fun N z => V (R_load rfl (load_atA hST.has z Tryz.isAgg53 Tryz.sizeOf53)) (VE (E_alloc hST Tryz.zeroValue53 (fun J M hST => VO (F_store (.agg (encCred c).toArray) ((encCred c).toArray) hST rfl rfl Tryz.sizeOf53 (oneCred c) (Nat.le_of_ble_eq_true rfl) rfl (fun K hST => LW_nil (sq_n (CW_region (V (R_move u) (V (R_field fa53_1 rfl) (V (R_field fa28_0 rfl) (V (R_load rfl (load_box1 hST.has Mh rfl Tryz.isAgg9)) (V (R_lenStr Tryz.underlying9 rfl) ?_))))))))))))))))
    refine V (R_int rfl rfl rfl) (V (R_field fa53_1 rfl) (V (R_field fa28_1 rfl) (V (R_load rfl (load_box1 hST.has Mh rfl Tryz.isAgg9)) (V (R_lenStr Tryz.underlying9 rfl) (V (R_int rfl rfl rfl) (V (R_field fa53_2 rfl) (V (R_load rfl (load_box1 hST.has Mh rfl Tryz.isAgg9)) (V (R_lenStr Tryz.underlying9 rfl) (V (R_int rfl rfl rfl) (V (R_field fa53_3 rfl) (V (R_field fa28_0 rfl) (V (R_load rfl (load_box1 hST.has Mh rfl Tryz.isAgg9)) (V (R_lenStr Tryz.underlying9 rfl) (V (R_int rfl rfl rfl) ?_))))))))))))))
    refine V (R_field fa53_3 rfl) (V (R_field fa28_1 rfl) (V (R_load rfl (load_box1 hST.has Mh rfl Tryz.isAgg9)) (V (R_lenStr Tryz.underlying9 rfl) (V (R_int rfl rfl rfl) (V (R_field fa53_4 rfl) (V (R_field fa28_0 rfl) (V (R_load rfl (load_box1 hST.has Mh rfl Tryz.isAgg9)) (V (R_lenStr Tryz.underlying9 rfl) (V (R_int rfl rfl rfl) (V (R_field fa53_4 rfl) (V (R_field fa28_1 rfl) (V (R_load rfl (load_box1 hST.has Mh rfl Tryz.isAgg9)) (V (R_lenStr Tryz.underlying9 rfl) (V (R_int rfl rfl rfl) ?_))))))))))))))
    refine V (R_field fa53_5 rfl) (V (R_load rfl (load_box1 hST.has Mh rfl Tryz.isAgg9)) (V (R_lenStr Tryz.underlying9 rfl) (V (R_int rfl rfl rfl) (V (R_int rfl rfl rfl) (V (R_assign rfl) (LW_nil (bq_n (sq_n ?_))))))))
    replace hST := hST.sel (Db St)
    exact ⟨eI, ((IntKind.i64.wrap (f + ((IntKind.i64.wrap (((IntKind.i64.wrap (((IntKind.i64.wrap (((IntKind.i64.wrap (((IntKind.i64.wrap (((IntKind.i64.wrap (((IntKind.i64.wrap (((IntKind.i64.wrap (20 + ((c.Head.Owner.size : Int))))) + ((c.Head.Word.size : Int))))) + ((c.Who.size : Int))))) + ((c.B.Owner.size : Int))))) + ((c.B.Word.size : Int))))) + ((c.C.Owner.size : Int))))) + ((c.C.Word.size : Int))))) + ((c.Word2.size : Int)))))))), _, ⟨rfl, eN⟩, (hST.sel St), rfl, x, (by rw [G]; exact a)⟩
  rintro E W ⟨f, k, ⟨eI, eN⟩, hST, u, x, a⟩
  rw [List.drop_length] at a
  rw [m_law05_Great_L1] at a
  refine sq_n (CW_seq (CW_region (V (R_move u) (V (R_assign rfl) (LW_nil (sq_n (CW_ret ?_)))))))
  replace a := Option.some.inj a; subst a
  exact retQ_1 (v := (.int .i64 f)) rfl rfl ⟨rfl, hST.ex⟩
theorem w_law06_Great (H : Value) (Q : List Key) (u : Value) (J : List Signed) (r : Int) (w : World) (D : Sl relKey 2 (hp w) H Q) (G : Sl relSigned 10 (hp w) u J) (hm : m_law06_Great Q J = some r) :
    Gives true Tryz.prog 35 [H, u] w (.int .i64 r) := by
  have hST := ST.start (dd := true) w
  unfold m_law06_Great at hm
  refine calls_of_CW (n := 45) Tryz.func35 rfl rfl (Nat.le_of_ble_eq_true rfl) (CW_seq (CW_region (V (R_assign rfl) (LW_nil (sq_n (CW_seq (CW_region (V (R_assign rfl) (LW_nil (sq_n (CW_seq (CW_seq (CW_region (V (R_move rfl) ?_))))))))))))))
  refine V (R_len Tryz.underlying49 rfl D) (V (R_move rfl) (LW_nil (sq_n (CW_range (fun i E W => ∃ (k : Int) (N : List (Nat × Obj)), (E 12 = .int .i64 (i : Nat) ∧ E 11 = .int .i64 (Q.length : Nat)) ∧ ST true NoF w W (hp w) N ∧ E 1 = u ∧ E 5 = (.int .i64 k) ∧ E 10 = H ∧ m_law06_Great_L1 J (Q.drop i) k = some r) Q.length D.len ⟨0, _, ⟨rfl, rfl⟩, (hST.sel St), rfl, rfl, rfl, hm⟩ (by decide) (by decide) (by decide) (fun _ _ _ h => by obtain ⟨_, _, eIN, _⟩ := h; exact eIN) ?_ ?_))))
  · rintro c3 E W b5 ⟨k, N, ⟨eI, eN⟩, hST, Y, Z, a2, f⟩
    obtain ⟨j, d3, b8, b7, b9⟩ := drop_cons b5
    rw [b8] at f
    rw [m_law06_Great_L1] at f
    refine CW_block (CW_seq (CW_region (VQ (R_indexD (i := (c3 : Int)) (x0 := j) relKey.out Tryz.underlying49 Tryz.sizeOf196 a2 eI D (Int.natCast_nonneg _) b7) (fun d7 ⟨_, ⟨d8, rfl, a3⟩, b6⟩ => V (R_load rfl (load_atA hST.has b6 Tryz.isAgg196 Tryz.sizeOf196)) (VE (E_alloc hST Tryz.zeroValue196 (fun d4 d6 hST => ?_)))))))
    obtain ⟨b2, b3, rfl⟩ := a3.form
    refine VO (F_store (.agg #[(.string j.Who), (.slice b2 j.Key.length b3)]) (#[(.string j.Who), (.slice b2 j.Key.length b3)]) hST rfl rfl Tryz.sizeOf196 (by simp [Value.cells, Value.oneCell']) (Nat.le_of_ble_eq_true rfl) rfl (fun d5 hST => LW_nil (sq_n (CW_region (V (R_move Z) (V (R_field fa196_0 rfl) (V (R_load rfl (load_box1 hST.has Mh rfl Tryz.isAgg9)) (V (R_lenStr Tryz.underlying9 rfl) (V (R_int rfl rfl rfl) (V (R_field fa196_1 rfl) (V (R_load rfl (load_box1 hST.has Mh rfl Tryz.isAgg54)) (V (R_len Tryz.underlying54 rfl a3) (V (R_int rfl rfl rfl) (V (R_int rfl rfl rfl) (V (R_assign rfl) ?_)))))))))))))))
    refine LW_nil (bq_n (sq_n ?_))
    replace hST := hST.sel (Db St)
    exact ⟨eI, ((IntKind.i64.wrap (k + ((IntKind.i64.wrap (((IntKind.i64.wrap (10 + ((j.Who.size : Int))))) + ((j.Key.length : Int)))))))), _, ⟨rfl, eN⟩, (hST.sel St), Y, rfl, a2, (by rw [b9]; exact f)⟩
  rintro E W ⟨k, N, ⟨eI, eN⟩, hST, Y, Z, a2, f⟩
  rw [List.drop_length] at f
  rw [m_law06_Great_L1] at f
  refine sq_n (CW_seq (CW_seq (CW_region (V (R_move Y) (V (R_len Tryz.underlying50 rfl G) (V (R_move rfl) (LW_nil (sq_n ?_))))))))
  obtain ⟨c2, a5, a6⟩ := bind_some f
  refine CW_cut (fun E W => ∃ (x : Int) (M : List (Nat × Obj)), ST true NoF w W (hp w) M ∧ E 5 = (.int .i64 x) ∧ some x = some r) ?_ ?_
  · refine CW_range (fun i E W => ∃ (g : Int) (y : List (Nat × Obj)), (E 29 = .int .i64 (i : Nat) ∧ E 28 = .int .i64 (J.length : Nat)) ∧ ST true NoF w W (hp w) y ∧ E 5 = (.int .i64 g) ∧ E 27 = u ∧ m_law06_Great_L2 (J.drop i) g = some c2) J.length G.len ⟨k, _, ⟨rfl, rfl⟩, (hST.sel St), Z, rfl, a5⟩ (by decide) (by decide) (by decide) (fun _ _ _ h => by obtain ⟨_, _, eIN, _⟩ := h; exact eIN) ?_ ?_
    · rintro c0 E W a4 ⟨g, y, ⟨eI, eN⟩, hST, z, B, c⟩
      obtain ⟨a, c4, b0, a9, b1⟩ := drop_cons a4
      rw [b0] at c
      rw [m_law06_Great_L2] at c
      refine CW_block (CW_seq (CW_region (VQ (R_indexD (i := (c0 : Int)) (x0 := a) relSigned.out Tryz.underlying50 Tryz.sizeOf56 B eI G (Int.natCast_nonneg _) a9) (fun d0 ⟨_, ⟨d1, rfl, I⟩, a7⟩ => V (R_load rfl (load_atA hST.has a7 Tryz.isAgg56 Tryz.sizeOf56)) (VE (E_alloc hST Tryz.zeroValue56 (fun c5 c9 hST => ?_)))))))
      obtain ⟨K, U, rfl⟩ := I.form
      refine VO (F_store (.agg #[(.int .i64 a.Cred.Kind), (.string a.Cred.Head.Owner), (.string a.Cred.Head.Word), (.string a.Cred.Who), (.string a.Cred.B.Owner), (.string a.Cred.B.Word), (.string a.Cred.C.Owner), (.string a.Cred.C.Word), (.string a.Cred.Word2), (.slice K a.Tag.length U)]) (#[(.int .i64 a.Cred.Kind), (.string a.Cred.Head.Owner), (.string a.Cred.Head.Word), (.string a.Cred.Who), (.string a.Cred.B.Owner), (.string a.Cred.B.Word), (.string a.Cred.C.Owner), (.string a.Cred.C.Word), (.string a.Cred.Word2), (.slice K a.Tag.length U)]) hST rfl rfl Tryz.sizeOf56 (by simp [Value.cells, Value.oneCell']) (Nat.le_of_ble_eq_true rfl) rfl (fun c6 hST => LW_nil (sq_n ?_)))
      replace hST := hST.drew
      have hS0 := hST.has.sel (Kb Sn)
      refine PX_start1 hS0 Tryz_mixed (X 0 rfl hS0 (R_move z) (X 1 rfl hS0 (R_field fa56_0 rfl) (XH 2 rfl hS0 (fun _ hS => R_load rfl (load_boxA hS Mh (encCred a.Cred) rfl Tryz.isAgg53 Tryz.sizeOf53)) (X 5 rfl hS0 (R_field fa56_1 rfl) (XH 6 rfl hS0 (fun _ hS => R_load rfl (load_box1 hS Mh rfl Tryz.isAgg54)) (X 7 rfl hS0 (R_len Tryz.underlying54 rfl I) (XE 3 rfl (E_buildSlice (qs := #[(0, (.agg (encCred a.Cred).toArray))]) (cs := (encCred a.Cred).toArray) hST (parts1 rfl) (run_lit [(.agg (encCred a.Cred).toArray)] Tryz.underlying22 Tryz.sizeOf53 Tryz.zeroValue53 (by decide) rfl (by intro v hv; simp only [List.mem_cons, List.not_mem_nil, or_false] at hv; rcases hv with rfl <;> rfl) rfl rfl) (fun c7 T hST => ?_)))))))))
      have hS0 := hST.has.sel (Db (Kb Sn))
      refine ⟨hS0, ?_⟩
      obtain ⟨c1, a8, c⟩ := bind_some c
      refine XE 4 rfl (E_gives (args := [(.slice (some ⟨T, 0, none⟩) 1 1)]) hST rfl Tryz.call21 (by exact args1 rfl) ((w_law05_Great (.slice (some ⟨T, 0, none⟩) 1 1) ([a.Cred]) _ _ (Sl.lit (enc := encCred) (l := [a.Cred]) lenCred rfl (Nat.le_of_ble_eq_true rfl) rfl (hST.at_ Mh)) a8)) (fun c8 hST => ?_))
      have hS0 := hST.has.sel (Db (Kb Sn))
      refine ⟨hS0, (X 8 rfl hS0 (R_int rfl rfl rfl) (X 9 rfl hS0 (R_int rfl rfl rfl) (X 10 rfl hS0 (R_assign rfl) (PX_done (by kernel_rfl) (bq_n (sq_n ?_))))))⟩
      replace hST := hST.sel (Db (Db St))
      exact ⟨eI, ((IntKind.i64.wrap (g + ((IntKind.i64.wrap (c1 + ((a.Tag.length : Int)))))))), _, ⟨rfl, eN⟩, (hST.sel St), rfl, B, (by rw [b1]; exact c)⟩
    rintro E W ⟨g, y, ⟨eI, eN⟩, hST, z, B, c⟩
    rw [List.drop_length] at c
    rw [m_law06_Great_L2] at c
    refine sq_n ?_
    replace c := Option.some.inj c; subst c
    exact ⟨g, _, (hST.sel St), z, a6⟩
  rintro E W ⟨x, M, hST, b4, t⟩
  refine CW_seq (CW_region (V (R_move b4) (V (R_assign rfl) (LW_nil (sq_n (CW_ret ?_))))))
  replace t := Option.some.inj t; subst t
  exact retQ_1 (v := (.int .i64 x)) rfl rfl ⟨rfl, hST.ex⟩
theorem w_ref05_Has (k : Value) (u : List Cred) (f : Cred) (r : Bool) (w : World) (g : Sl (Pl encCred) 9 (hp w) k u) (hm : m_ref05_Has u f = some r) :
    Gives true Tryz.prog 53 [k, (.agg (encCred f).toArray)] w (.bool r) := by
  have hST := ST.start (dd := true) w
  unfold m_ref05_Has at hm
  refine calls_of_CW (n := 17) Tryz.func53 rfl rfl (Nat.le_of_ble_eq_true rfl) (CW_seq (CW_region (VE (E_box (v := (.agg (encCred f).toArray)) hST rfl (fun U I hST => V (R_assign rfl) (LW_nil (sq_n (CW_seq (CW_seq (CW_region (V (R_move rfl) (V (R_len Tryz.underlying22 rfl g) (V (R_move rfl) (LW_nil (sq_n ?_)))))))))))))))
  refine CW_range (fun i E W => ∃  (t : List (Nat × Obj)), (E 9 = .int .i64 (i : Nat) ∧ E 8 = .int .i64 (u.length : Nat)) ∧ ST true NoF w W (hp w) ((I, Obj.cells ((encCred f).toArray : Array Value) 53 (0, 0)) :: t) ∧ E 3 = (.pointer (some ⟨I, 0, none⟩)) ∧ E 7 = k ∧ m_ref05_Has_L1 f (u.drop i) = some r) u.length g.len ⟨_, ⟨rfl, rfl⟩, (hST.sel St), rfl, rfl, hm⟩ (by decide) (by decide) (by decide) (fun _ _ _ h => by obtain ⟨_, eIN, _⟩ := h; exact eIN) ?_ ?_
  · rintro J E W z ⟨t, ⟨eI, eN⟩, hST, x, y, a⟩
    obtain ⟨c, K, G, D, H⟩ := drop_cons z
    rw [G] at a
    rw [m_ref05_Has_L1] at a
    refine CW_block (CW_seq (CW_region (VQ (R_indexP (enc := encCred) (i := (J : Int)) (x0 := c) Tryz.underlying22 Tryz.sizeOf53 y eI g (Int.natCast_nonneg _) D) (fun T B => V (R_load rfl (load_atA hST.has B Tryz.isAgg53 Tryz.sizeOf53)) (VE (E_alloc hST Tryz.zeroValue53 (fun M Q hST => VO (F_store (.agg (encCred c).toArray) ((encCred c).toArray) hST rfl rfl Tryz.sizeOf53 (oneCred c) (Nat.le_of_ble_eq_true rfl) rfl (fun N hST => LW_nil (sq_n (CW_seq (CW_region (V (R_load rfl (load_boxA hST.has Mh (encCred c) rfl Tryz.isAgg53 Tryz.sizeOf53)) (V (R_load x (load_boxA hST.has (Mt Mh) (encCred f) rfl Tryz.isAgg53 Tryz.sizeOf53)) (V (R_eql rfl rfl (guard_agg Tryz.eqGuardType53) (bin_eql (eqInCred _ c f))) (LW_nil ?_))))))))))))))))
    refine sq_n ?_
    replace hST := hST.sel (Db St)
    refine CW_if (b := (beqCred c f)) rfl (fun j => ?_) (fun j => ?_)
    · replace a := if_t j a
      refine CW_seq (CW_region (V (R_assign rfl) (LW_nil (sq_n ?_))))
      replace hST := hST.sel (Db St)
      refine CW_ret (bq_r (sq_r (bq_r (sq_r ?_))))
      replace a := Option.some.inj a; subst a
      exact retQ_1 (v := (.bool true)) rfl rfl ⟨rfl, hST.ex⟩
    replace a := if_f j a
    exact CW_skip (bq_n (sq_n ⟨eI, _, ⟨rfl, eN⟩, (hST.sel St), x, y, (by rw [H]; exact a)⟩))
  rintro E W ⟨t, ⟨eI, eN⟩, hST, x, y, a⟩
  rw [List.drop_length] at a
  rw [m_ref05_Has_L1] at a
  refine sq_n ?_
  replace hST := hST.sel (Db St)
  refine CW_seq (CW_region (V (R_assign rfl) (LW_nil (sq_n (CW_ret ?_)))))
  replace a := Option.some.inj a; subst a
  exact retQ_1 (v := (.bool false)) rfl rfl ⟨rfl, hST.ex⟩
theorem w_sortS273 (c : Value) (g : List ByteArray) (a : List (Nat × Obj)) (r : List ByteArray) (w : World) {k : Mem} (j : Ent k (a ++ []) w) (f : Row 9 encSk 1 c g a) (hm : sortS g = some r) :
    GivesM true Tryz.prog 273 [c] w (a ++ []) (fun v i W' => ∃ (S : List (Nat × Obj)), v = (.tuple #[]) ∧ i = (S ++ []) ∧ Row 9 encSk 1 c r S) := sortS_gives (P := Tryz.prog) (ρ := ren273) lay273 j.H f hm
theorem w_slices_Compact_string (t : Value) (a0 : List ByteArray) (B : List (Nat × Obj)) (r : List ByteArray) (w : World) {μ0 : Mem} (h0 : Ent μ0 (B ++ []) w) (H : Row 9 encSk 1 t a0 B) (hm : m_slices_Compact_string a0 = some r) :
    GivesM true Tryz.prog 381 [t] w (B ++ []) (fun v L1 W' => ∃ (y1 : Value) (S2 : List (Nat × Obj)), v = y1 ∧ L1 = (S2 ++ []) ∧ Row 9 encSk 1 y1 r S2) := by
  have hST := ST.startE (dd := true) h0
  unfold m_slices_Compact_string at hm
  refine calls_of_CW (n := 61) Tryz.func381 rfl rfl (Nat.le_of_ble_eq_true rfl) (CW_seq (CW_region (V (R_assign rfl) (LW_nil (sq_n (CW_seq (CW_seq (CW_region (V (R_move rfl) (V (R_lenRow Tryz.underlying82 rfl H) (V (R_int rfl rfl rfl) (LW_nil (sq_n (CW_if (b := (decide (((a0.length : Int)) < 2))) rfl (fun d8 => ?_) (fun d8 => ?_)))))))))))))))
  · replace hm := if_t d8 hm
    refine CW_seq (CW_region (V (R_move rfl) (V (R_assign rfl) (LW_nil (sq_n (CW_ret (sq_r ?_)))))))
    replace hm := Option.some.inj hm; subst hm
    exact retQ_1 (v := t) rfl rfl ⟨_, _, rfl, (hST.bkM (Kr Sn)), t, B, rfl, rfl, H⟩
  replace hm := if_f d8 hm
  refine CW_skip (sq_n (CW_seq (CW_seq (CW_region (V (R_assign rfl) (LW_nil (sq_n (CW_block (CW_loop (fun m E W => ∃ (j : Int) (c5 : List (Nat × Obj)), ST true (keys (B ++ [])) w W μ0 (B ++ c5) ∧ E 0 = t ∧ E 3 = (.int .i64 j) ∧ m_slices_Compact_string_L1 a0 m j = some r) FUEL ⟨1, _, (hST.sel St), rfl, rfl, hm⟩ ?_)))))))))
  rintro m E W ⟨j, c5, hST, I, K, a⟩
  cases m with
  | zero => rw [m_slices_Compact_string_L1] at a; cases a
  | succ f9 =>
    rw [m_slices_Compact_string_L1] at a
    refine CW_seq (CW_seq (CW_region (V (R_move K) (V (R_move I) (V (R_lenRow Tryz.underlying82 rfl H) (V (R_int rfl rfl rfl) (LW_nil (sq_n (CW_if (b := (decide (j < ((a0.length : Int))))) rfl (fun a5 => ?_) (fun a5 => ?_))))))))))
    · replace a := if_t a5 a
      refine CW_skip (sq_n (CW_seq (CW_block (CW_seq ?_))))
      replace hST := hST.drew
      have hS0 := hST.has.sel (Kr Sn)
      refine PX_start1 hS0 Tryz_mixed (X 0 rfl hS0 (R_move I) (X 1 rfl hS0 (R_move K) ?_))
      obtain ⟨b6, a9, a⟩ := bind_some a
      refine XQ 2 rfl hS0 (R_indexRow (i := j) (x0 := b6) Tryz.underlying82 Tryz.sizeOf9 rfl rfl H (idx_nonneg a9) (idx_get a9)) (fun g5 e2 => XH 3 rfl hS0 (fun _ hS => R_load rfl (load_ix1 hS (fun p hq => (Ml hq)) H (fun _ => rfl) e2 (idx_get a9) (y := (.string b6)) rfl Tryz.isAgg9)) (X 4 rfl hS0 (R_move I) (X 5 rfl hS0 (R_move K) (X 6 rfl hS0 (R_int rfl rfl rfl) ?_))))
      obtain ⟨b7, b0, a⟩ := bind_some a
      refine XQ 7 rfl hS0 (R_indexRow (i := (IntKind.i64.wrap (j - 1))) (x0 := b7) Tryz.underlying82 Tryz.sizeOf9 rfl rfl H (idx_nonneg b0) (idx_get b0)) (fun g6 e3 => XH 8 rfl hS0 (fun _ hS => R_load rfl (load_ix1 hS (fun p hq => (Ml hq)) H (fun _ => rfl) e3 (idx_get b0) (y := (.string b7)) rfl Tryz.isAgg9)) (X 9 rfl hS0 (R_str rfl rfl rfl) (PX_done (by kernel_rfl) (sq_n (CW_if (b := (beqS b6 b7)) rfl (fun a6 => ?_) (fun a6 => ?_))))))
      · replace a := if_t a6 a
        refine CW_seq (CW_region (V (R_move I) (V (R_move K) ?_)))
        obtain ⟨_, c0, a⟩ := bind_some a
        refine VQ (R_sliceTail (i := j) Tryz.underlying82 Tryz.sizeOf9 rfl rfl H (chk_1 c0) (chk_2 c0)) (fun d3 T => V (R_assign rfl) (LW_nil (sq_n (CW_seq (CW_seq (CW_region (V (R_assign rfl) (LW_nil (sq_n ?_)))))))))
        obtain ⟨d2, d9, e0⟩ := bind_some a
        refine CW_cut (fun E W => ∃ (U : List ByteArray) (b5 : List (Nat × Obj)) (k : Int) (c6 : List (Nat × Obj)), ST true (keys (B ++ [])) w W μ0 (b5 ++ c6) ∧ E 0 = t ∧ E 3 = (.int .i64 k) ∧ Row 9 encSk 1 t U b5 ∧ (((chk (decide (0 ≤ k) && decide (k ≤ (U.length : Int))))).bind fun _ => (((chk (decide (0 ≤ k) && decide (k ≤ (((clearT U (Int.toNat k) zS)).length : Int))))).bind fun _ => some (((clearT U (Int.toNat k) zS)).take (Int.toNat k)))) = some r) ?_ ?_
        · refine CW_block (CW_loop (fun m E W => ∃ (J : List ByteArray) (Q : List (Nat × Obj)) (G : Int) (x : Int) (c7 : List (Nat × Obj)), ST true (keys (B ++ [])) w W μ0 (Q ++ c7) ∧ E 0 = t ∧ E 3 = (.int .i64 G) ∧ E 4 = d3 ∧ E 5 = (.int .i64 x) ∧ Row 9 encSk 1 t J Q ∧ m_slices_Compact_string_L2 j m J G x = some d2) FUEL ⟨a0, B, j, 1, _, (hST.sel St), I, K, rfl, rfl, H, d9⟩ ?_)
          rintro m E W ⟨J, Q, G, x, c7, hST, a1, a2, M, N, g, f⟩
          cases m with
          | zero => rw [m_slices_Compact_string_L2] at f; cases f
          | succ d1 =>
            rw [m_slices_Compact_string_L2] at f
            refine CW_seq (CW_seq (CW_region (V (R_move N) (V (R_move M) (V (R_lenTail Tryz.underlying82 rfl T g) (V (R_int rfl rfl rfl) (LW_nil (sq_n (CW_if (b := (decide (x < (((J.length - (Int.toNat j) : Nat) : Int))))) rfl (fun a7 => ?_) (fun a7 => ?_))))))))))
            · replace f := if_t a7 f
              refine CW_skip (sq_n (CW_seq ?_))
              obtain ⟨h2, c, c3⟩ := bind_some f
              refine CW_cut (fun E W => ∃ (a3 : List ByteArray) (Z : List (Nat × Obj)) (a4 : Int) (c8 : List (Nat × Obj)), ST true (keys (B ++ [])) w W μ0 (Z ++ c8) ∧ E 0 = t ∧ E 3 = (.int .i64 a4) ∧ E 4 = d3 ∧ E 5 = (.int .i64 x) ∧ Row 9 encSk 1 t a3 Z ∧ (m_slices_Compact_string_L2 j d1 a3 a4 ((IntKind.i64.wrap (x + 1)))) = some d2) ?_ ?_
              · refine CW_block (CW_seq ?_)
                replace hST := hST.drew
                have hS0 := hST.has.sel (Kr Sn)
                refine PX_start1 hS0 Tryz_mixed (X 0 rfl hS0 (R_move M) (X 1 rfl hS0 (R_move N) ?_))
                obtain ⟨b8, b1, c⟩ := bind_some c
                refine XQ 2 rfl hS0 (R_indexTail (i := x) (x0 := b8) Tryz.underlying82 Tryz.sizeOf9 rfl rfl g T (idx_nonneg b1) (idx_get b1)) (fun g7 e4 => XH 3 rfl hS0 (fun _ hS => R_load rfl (load_ix1 hS (fun p hq => (Ml hq)) g (fun _ => rfl) e4 (tail_get (idx_get b1)) (y := (.string b8)) rfl Tryz.isAgg9)) (X 4 rfl hS0 (R_move M) (X 5 rfl hS0 (R_move N) (X 6 rfl hS0 (R_int rfl rfl rfl) ?_))))
                obtain ⟨b9, b2, c⟩ := bind_some c
                refine XQ 7 rfl hS0 (R_indexTail (i := (IntKind.i64.wrap (x - 1))) (x0 := b9) Tryz.underlying82 Tryz.sizeOf9 rfl rfl g T (idx_nonneg b2) (idx_get b2)) (fun g8 e5 => XH 8 rfl hS0 (fun _ hS => R_load rfl (load_ix1 hS (fun p hq => (Ml hq)) g (fun _ => rfl) e5 (tail_get (idx_get b2)) (y := (.string b9)) rfl Tryz.isAgg9)) (X 9 rfl hS0 (R_str rfl rfl rfl) (PX_done (by kernel_rfl) (sq_n (CW_if (b := (!(beqS b8 b9))) rfl (fun a8 => ?_) (fun a8 => ?_))))))
                · replace c := if_t a8 c
                  refine CW_seq (CW_region (V (R_move a1) (V (R_move a2) (V (R_move M) (V (R_move N) ?_)))))
                  obtain ⟨Y, b3, c⟩ := bind_some c
                  refine VQ (R_indexTail (i := x) (x0 := Y) Tryz.underlying82 Tryz.sizeOf9 rfl rfl g T (idx_nonneg b3) (idx_get b3)) (fun g9 e6 => V (R_load rfl (load_ix1 hST.has (fun p hq => (Ml hq)) g (fun _ => rfl) e6 (tail_get (idx_get b3)) (y := (.string Y)) rfl Tryz.isAgg9)) ?_)
                  obtain ⟨g0, b4, c⟩ := bind_some c
                  refine VQ (R_indexRow (i := G) (x0 := g0) Tryz.underlying82 Tryz.sizeOf9 rfl rfl g (idx_nonneg b4) (idx_get b4)) (fun h1 e7 => VO (F_storeRow (u := (.string Y)) (x1 := Y)  hST g (fun _ => rfl) oneS rfl rfl rfl e7 (idx_get b4) Tryz.sizeOf9 (fun g4 f4 hST d7 => LW_nil (sq_n (CW_region (V (R_move a2) (V (R_int rfl rfl rfl) (V (R_assign rfl) (LW_nil (bq_n (sq_n ?_)))))))))))
                  replace c := Option.some.inj c; subst c
                  exact ⟨((J.set (Int.toNat G) Y)), f4, ((IntKind.i64.wrap (G + 1))), _, (hST.sel St), a1, rfl, M, N, d7, c3⟩
                replace c := if_f a8 c
                refine CW_skip (bq_n (sq_n ?_))
                replace c := Option.some.inj c; subst c
                exact ⟨J, Q, G, _, (hST.sel St), a1, a2, M, N, g, c3⟩
              rintro E W ⟨a3, Z, a4, c8, hST, f5, f6, f7, f8, f0, e1⟩
              exact CW_region (V (R_move f8) (V (R_int rfl rfl rfl) (V (R_assign rfl) (LW_nil (sq_n ⟨d1, Nat.lt_succ_self _, a3, Z, a4, ((IntKind.i64.wrap (x + 1))), _, (hST.sel St), f5, f6, f7, rfl, f0, e1⟩)))))
            replace f := if_f a7 f
            refine CW_exit (sq_e (sq_e (bq_e (sq_n ?_))))
            replace f := Option.some.inj f; subst f
            exact ⟨J, Q, G, _, (hST.sel St), a1, a2, g, e0⟩
        rintro E W ⟨U, b5, k, c6, hST, c9, d0, c4, D⟩
        refine CW_seq (CW_region (V (R_move c9) (V (R_move d0) ?_)))
        obtain ⟨_, c1, D⟩ := bind_some D
        refine VQ (R_sliceTail (i := k) Tryz.underlying82 Tryz.sizeOf9 rfl rfl c4 (chk_1 c1) (chk_2 c1)) (fun h3 e8 => VO (F_clearTail (z := zS)  hST c4 (fun _ => rfl) oneS Tryz.underlying82 Tryz.zeroValue9 e8 rfl rfl (fun g3 f3 hST d6 => LW_nil (sq_n (CW_seq (CW_region (V (R_move c9) (V (R_move d0) ?_))))))))
        obtain ⟨_, c2, D⟩ := bind_some D
        refine VQ (R_sliceTo (i := k) Tryz.underlying82 Tryz.sizeOf9 rfl rfl d6 (fun _ => rfl) (chk_1 c2) (chk_2 c2)) (fun d4 e9 => V (R_assign rfl) (LW_nil (sq_n (CW_ret (bq_r (sq_r (sq_r (bq_r (sq_r ?_)))))))))
        replace D := Option.some.inj D; subst D
        exact retQ_1 (v := d4) rfl rfl ⟨_, _, rfl, (hST.bkM (Kr Sn)), d4, f3, rfl, rfl, e9⟩
      replace a := if_f a6 a
      exact CW_skip (bq_n (sq_n (CW_region (V (R_move K) (V (R_int rfl rfl rfl) (V (R_assign rfl) (LW_nil (sq_n ⟨f9, Nat.lt_succ_self _, ((IntKind.i64.wrap (j + 1))), _, (hST.sel St), I, rfl, a⟩))))))))
    replace a := if_f a5 a
    refine CW_exit (sq_e (sq_e (bq_e (sq_n (CW_seq (CW_region (V (R_move I) (V (R_assign rfl) (LW_nil (sq_n (CW_ret ?_)))))))))))
    replace a := Option.some.inj a; subst a
    exact retQ_1 (v := t) rfl rfl ⟨_, _, rfl, (hST.bkM (Kr Sn)), t, B, rfl, rfl, H⟩
theorem w_name_Set (H : Value) (J : List ByteArray) (r : List ByteArray) (w : World) (G : Sl (Pl encSk) 1 (hp w) H J) (hm : m_name_Set J = some r) :
    GivesRow true Tryz.prog 332 [H] w 9 encSk 1 r := by
  have hST := ST.start (dd := true) w
  unfold m_name_Set at hm
  refine calls_of_CW (n := 23) Tryz.func332 rfl rfl (Nat.le_of_ble_eq_true rfl) (CW_seq (CW_region (V (R_assign rfl) (LW_nil (sq_n (CW_seq (CW_region (V (R_assign rfl) (LW_nil (sq_n (CW_seq (CW_seq (CW_region (V (R_move rfl) ?_))))))))))))))
  refine V (R_len Tryz.underlying82 rfl G) (V (R_move rfl) (LW_nil (sq_n (CW_range (fun i E W => ∃ (c : Value) (k : List ByteArray) (g : List (Nat × Obj)) (D : List (Nat × Obj)), (E 8 = .int .i64 (i : Nat) ∧ E 7 = .int .i64 (J.length : Nat)) ∧ ST true NoF w W (hp w) (g ++ D) ∧ E 3 = c ∧ E 6 = H ∧ Row 9 encSk 1 c k g ∧ m_name_Set_L1 (J.drop i) k = some r) J.length G.len ⟨(.slice none 0 0), ([]), [], _, ⟨rfl, rfl⟩, (hST.sel St), rfl, rfl, (Row.nil _ _ _), hm⟩ (by decide) (by decide) (by decide) (fun _ _ _ h => by obtain ⟨_, _, _, _, eIN, _⟩ := h; exact eIN) ?_ ?_))))
  · rintro b7 E W a7 ⟨c, k, g, D, ⟨eI, eN⟩, hST, j, t, x, a⟩
    obtain ⟨f, c9, a9, a8, K⟩ := drop_cons a7
    rw [a9] at a
    rw [m_name_Set_L1] at a
    refine CW_block (CW_seq (CW_region (VQ (R_indexP (enc := encSk) (i := (b7 : Int)) (x0 := f) Tryz.underlying82 Tryz.sizeOf9 t eI G (Int.natCast_nonneg _) a8) (fun c5 U => V (R_load rfl (load_at1 hST.has (y := (.string f)) U Tryz.isAgg9)) (V (R_assign rfl) (LW_nil (sq_n (CW_seq (CW_region (V (R_move rfl) ?_))))))))))
    obtain ⟨b1, Y, a⟩ := bind_some a
    refine VE (E_gives (args := [(.string f)]) hST rfl Tryz.call152 (by exact args1 rfl) ((w_name_Right f _ _  Y)) (fun c0 hST => LW_nil (sq_n (CW_if (b := b1) rfl (fun u => ?_) (fun u => ?_)))))
    · replace a := if_t u a
      refine CW_region (V (R_move j) (V (R_move rfl) (VE (E_buildSlice (qs := #[(0, (.string f))]) (cs := [(.string f)].toArray) hST (parts1 rfl) (run_lit [(.string f)] Tryz.underlying82 Tryz.sizeOf9 Tryz.zeroValue9 (by decide) rfl (by intro v hv; simp only [List.mem_cons, List.not_mem_nil, or_false] at hv; rcases hv with rfl <;> rfl) rfl rfl) (fun c1 a6 hST => ?_)))))
      replace hST := hST.perm (Nr (Qb Qz) Nz)
      obtain ⟨b0, T, a⟩ := bind_some a
      refine VE (F_append (enc := encSk) (v := c) (vs := (.slice (some ⟨a6, 0, none⟩) 1 1)) (R := g) hST (fun _ => rfl) (by decide) oneS Tryz.underlying82 info9.1 info9.2.1 rfl info9.2.2.1 info9.2.2.2 rfl rfl x (Sl.lit (enc := encSk) (l := [f]) (fun _ => rfl) rfl (Nat.le_of_ble_eq_true rfl) rfl (hST.at_ (Ma Mh))) T (fun c2 b3 a3 hST Q => V (R_assign rfl) (LW_nil (bq_n (sq_n ?_)))))
      replace hST := hST.sel (Kr (Db St))
      exact ⟨eI, b3, b0, a3, _, ⟨rfl, eN⟩, (hST.sel St), rfl, t, Q, (by rw [K]; exact a)⟩
    replace a := if_f u a
    exact CW_skip (bq_n (sq_n ⟨eI, c, k, g, _, ⟨rfl, eN⟩, (hST.sel St), j, t, x, (by rw [K]; exact a)⟩))
  rintro E W ⟨c, k, g, D, ⟨eI, eN⟩, hST, j, t, x, a⟩
  rw [List.drop_length] at a
  rw [m_name_Set_L1] at a
  refine sq_n (CW_seq (CW_region (V (R_move j) ?_)))
  obtain ⟨b2, Z, a⟩ := bind_some a
  have hsz := hST.size
  refine VE (E_callM (args := [c]) (caps := #[]) _ _ hST (Cr Qz Cn) rfl Tryz.call273 (by exact args1 rfl) (fun hH hN hsb hmm => (w_sortS273 c k g _ _ ⟨hH, hN, Sub.refl _⟩ x Z)) (fun c3 c7 d0 b8 hST b5 hl138 hlift M => ?_))
  obtain ⟨a4, z, rfl, a2⟩ := M
  replace z := z.symm; subst z
  replace hST := hST.perm (Tr Tn)
  refine LW_nil (sq_n (CW_seq (CW_region (V (R_move j) ?_))))
  obtain ⟨c6, a1, a⟩ := bind_some a
  have hsz := hST.size
  refine VE (E_callM (args := [c]) (caps := #[]) _ _ hST (Cr Qz Cn) rfl Tryz.call381 (by exact args1 rfl) (fun hH hN hsb hmm => (w_slices_Compact_string c b2 a4 _ _ ⟨hH, hN, Sub.refl _⟩ a2 a1)) (fun c4 c8 d1 b9 hST b6 hl150 hlift N => ?_))
  obtain ⟨b4, a5, B, rfl, I⟩ := N
  replace B := B.symm; subst B
  replace hST := hST.perm (Tr Tn)
  refine V (R_assign rfl) (LW_nil (sq_n (CW_ret ?_)))
  replace a := Option.some.inj a; subst a
  exact retQ_1 (v := b4) rfl rfl ⟨_, a5, rfl, hST.backRow (fun p hq => (Ml hq)) I.nd, I⟩
theorem w_chain_names (z : Value) (D : List Cred) (r : List ByteArray) (w : World) (x : Sl (Pl encCred) 9 (hp w) z D) (hm : m_chain_names D = some r) :
    GivesRow true Tryz.prog 247 [z] w 9 encSk 1 r := by
  have hST := ST.start (dd := true) w
  unfold m_chain_names at hm
  refine calls_of_CW (n := 29) Tryz.func247 rfl rfl (Nat.le_of_ble_eq_true rfl) (CW_seq (CW_region (V (R_assign rfl) (LW_nil (sq_n (CW_seq (CW_region (V (R_assign rfl) (LW_nil (sq_n (CW_seq (CW_seq (CW_region (V (R_move rfl) ?_))))))))))))))
  refine V (R_len Tryz.underlying22 rfl x) (V (R_move rfl) (LW_nil (sq_n (CW_range (fun i E W => ∃ (f : Value) (j : List ByteArray) (g : List (Nat × Obj)) (k : List (Nat × Obj)), (E 8 = .int .i64 (i : Nat) ∧ E 7 = .int .i64 (D.length : Nat)) ∧ ST true NoF w W (hp w) (g ++ k) ∧ E 3 = f ∧ E 6 = z ∧ Row 9 encSk 1 f j g ∧ m_chain_names_L1 (D.drop i) j = some r) D.length x.len ⟨(.slice none 0 0), ([]), [], _, ⟨rfl, rfl⟩, (hST.sel St), rfl, rfl, (Row.nil _ _ _), hm⟩ (by decide) (by decide) (by decide) (fun _ _ _ h => by obtain ⟨_, _, _, _, eIN, _⟩ := h; exact eIN) ?_ ?_))))
  · rintro a4 E W Q ⟨f, j, g, k, ⟨eI, eN⟩, hST, t, u, y, a⟩
    obtain ⟨c, b3, U, T, Y⟩ := drop_cons Q
    rw [U] at a
    rw [m_chain_names_L1] at a
    refine CW_block (CW_seq (CW_region (VQ (R_indexP (enc := encCred) (i := (a4 : Int)) (x0 := c) Tryz.underlying22 Tryz.sizeOf53 u eI x (Int.natCast_nonneg _) T) (fun b1 I => V (R_load rfl (load_atA hST.has I Tryz.isAgg53 Tryz.sizeOf53)) (VE (E_alloc hST Tryz.zeroValue53 (fun a5 b0 hST => VO (F_store (.agg (encCred c).toArray) ((encCred c).toArray) hST rfl rfl Tryz.sizeOf53 (oneCred c) (Nat.le_of_ble_eq_true rfl) rfl (fun a6 hST => LW_nil (sq_n (CW_region (V (R_move t) (V (R_field fa53_2 rfl) (V (R_load rfl (load_box1 hST.has Mh rfl Tryz.isAgg9)) (V (R_field fa53_1 rfl) (V (R_field fa28_0 rfl) ?_))))))))))))))))
    refine V (R_load rfl (load_box1 hST.has Mh rfl Tryz.isAgg9)) (V (R_field fa53_3 rfl) (V (R_field fa28_0 rfl) (V (R_load rfl (load_box1 hST.has Mh rfl Tryz.isAgg9)) (V (R_field fa53_4 rfl) (V (R_field fa28_0 rfl) (V (R_load rfl (load_box1 hST.has Mh rfl Tryz.isAgg9)) (VE (E_buildSlice (qs := #[(0, (.string c.Who)), (1, (.string c.Head.Owner)), (2, (.string c.B.Owner)), (3, (.string c.C.Owner))]) (cs := #[(.string c.Who), (.string c.Head.Owner), (.string c.B.Owner), (.string c.C.Owner)]) hST (parts4 rfl rfl rfl rfl) (run_lit [(.string c.Who), (.string c.Head.Owner), (.string c.B.Owner), (.string c.C.Owner)] Tryz.underlying82 Tryz.sizeOf9 Tryz.zeroValue9 (by decide) rfl (by intro v hv; simp only [List.mem_cons, List.not_mem_nil, or_false] at hv; rcases hv with rfl | rfl | rfl | rfl <;> rfl) rfl rfl) (fun a7 N hST => ?_)))))))))
    replace hST := hST.perm (Nr (Qb (Qb Qz)) Nz)
    obtain ⟨Z, H, a⟩ := bind_some a
    refine VE (F_append (enc := encSk) (v := f) (vs := (.slice (some ⟨N, 0, none⟩) 4 4)) (R := g) hST (fun _ => rfl) (by decide) oneS Tryz.underlying82 info9.1 info9.2.1 rfl info9.2.2.1 info9.2.2.2 rfl rfl y (Sl.lit (enc := encSk) (l := [c.Who, c.Head.Owner, c.B.Owner, c.C.Owner]) (fun _ => rfl) rfl (Nat.le_of_ble_eq_true rfl) rfl (hST.at_ (Ma Mh))) H (fun a8 a1 K hST G => V (R_assign rfl) (LW_nil (bq_n (sq_n ?_)))))
    replace hST := hST.sel (Kr (Db (Db St)))
    exact ⟨eI, a1, Z, K, _, ⟨rfl, eN⟩, (hST.sel St), rfl, u, G, (by rw [Y]; exact a)⟩
  rintro E W ⟨f, j, g, k, ⟨eI, eN⟩, hST, t, u, y, a⟩
  rw [List.drop_length] at a
  rw [m_chain_names_L1] at a
  refine sq_n (CW_seq (CW_region (V (R_move t) ?_)))
  obtain ⟨b2, J, a⟩ := bind_some a
  refine VE (F_givesRow (args := [f]) _ hST rfl Tryz.call332 (by exact args1 rfl) ((w_name_Set f j _ _ (y.sl (fun _ => rfl) (fun b o hq => hST.at_ (Ml hq))) J)) (fun a9 a2 b4 M hST a3 hl132 B => V (R_assign rfl) (LW_nil (sq_n ?_))))
  replace hST := hST.sel (Kr (Dr St))
  refine CW_ret ?_
  replace a := Option.some.inj a; subst a
  exact retQ_1 (v := a2) rfl rfl ⟨_, M, rfl, hST.backRow (fun p hq => (Ml hq)) B.nd, B⟩
theorem w_slices_IndexFunc_string (g : Value) (t : List ByteArray) (j : Value) (G : ByteArray → Option Bool) (r : Int) (w : World) (c : Sl (Pl encSk) 1 (hp w) g t) (H : CbOk Tryz.prog j (hp w) (fun (x : ByteArray) => [(.string x)]) (fun (r : Bool) => (.bool r)) G) (hm : m_slices_IndexFunc_string t G = some r) :
    Gives false Tryz.prog 419 [g, j] w (.int .i64 r) := by
  have hST := ST.start (dd := false) w
  unfold m_slices_IndexFunc_string at hm
  refine calls_of_CW (n := 19) Tryz.func419 rfl rfl (Nat.le_of_ble_eq_true rfl) (CW_seq (CW_region (V (R_assign rfl) (LW_nil (sq_n (CW_seq (CW_seq (CW_region (V (R_move rfl) (V (R_len Tryz.underlying82 rfl c) (V (R_move rfl) (LW_nil (sq_n (CW_range (fun i E W => ∃  (k : List (Nat × Obj)), (E 8 = .int .i64 (i : Nat) ∧ E 7 = .int .i64 (t.length : Nat)) ∧ ST false NoF w W (hp w) k ∧ E 0 = g ∧ E 1 = j ∧ m_slices_IndexFunc_string_L1 G (t.drop i) i = some r) t.length c.len ⟨_, ⟨rfl, rfl⟩, (hST.sel St), rfl, rfl, hm⟩ (by decide) (by decide) (by decide) (fun _ _ _ h => by obtain ⟨_, eIN, _⟩ := h; exact eIN) ?_ ?_))))))))))))))
  · rintro D E W I ⟨k, ⟨eI, eN⟩, hST, u, z, a⟩
    obtain ⟨B, U, N, M, Q⟩ := drop_cons I
    rw [N] at a
    rw [m_slices_IndexFunc_string_L1] at a
    refine CW_block (CW_seq (CW_region (V (R_move eI) (V (R_assign rfl) (LW_nil (sq_n (CW_seq (CW_region (V (R_move z) (V (R_move u) (V (R_move rfl) (VQ (R_indexP (enc := encSk) (i := (D : Int)) (x0 := B) Tryz.underlying82 Tryz.sizeOf9 rfl rfl c (Int.natCast_nonneg _) M) (fun Z J => V (R_load rfl (load_at1 hST.has (y := (.string B)) J Tryz.isAgg9)) ?_)))))))))))))
    obtain ⟨T, K, a⟩ := bind_some a
    refine VE (E_cb B hST H (Sub.refl _) rfl (args1 rfl) K (fun Y hST => LW_nil (sq_n (CW_if (b := T) rfl (fun f => ?_) (fun f => ?_)))))
    · replace a := if_t f a
      refine CW_seq (CW_region (V (R_move rfl) (V (R_assign rfl) (LW_nil (sq_n (CW_ret (bq_r (sq_r (bq_r (sq_r ?_))))))))))
      replace a := Option.some.inj a; subst a
      exact retQ_1 (v := (.int .i64 ((D : Int)))) rfl rfl ⟨rfl, hST.ex⟩
    replace a := if_f f a
    exact CW_skip (bq_n (sq_n ⟨eI, _, ⟨rfl, eN⟩, (hST.sel St), u, z, (by rw [Q]; exact a)⟩))
  rintro E W ⟨k, ⟨eI, eN⟩, hST, u, z, a⟩
  rw [List.drop_length] at a
  rw [m_slices_IndexFunc_string_L1] at a
  refine sq_n (CW_seq (CW_region (V (R_assign rfl) (LW_nil (sq_n (CW_ret ?_))))))
  replace a := Option.some.inj a; subst a
  exact retQ_1 (v := (.int .i64 ((-1)))) rfl rfl ⟨rfl, hST.ex⟩
theorem w_slices_ContainsFunc_string (a : Value) (f : List ByteArray) (c : Value) (g : ByteArray → Option Bool) (r : Bool) (w : World) (i : Sl (Pl encSk) 1 (hp w) a f) (j : CbOk Tryz.prog c (hp w) (fun (x : ByteArray) => [(.string x)]) (fun (r : Bool) => (.bool r)) g) (hm : m_slices_ContainsFunc_string f g = some r) :
    Gives false Tryz.prog 382 [a, c] w (.bool r) := by
  have hST := ST.start (dd := false) w
  unfold m_slices_ContainsFunc_string at hm
  refine calls_of_CW (n := 9) Tryz.func382 rfl rfl (Nat.le_of_ble_eq_true rfl) (CW_seq (CW_region (V (R_assign rfl) (LW_nil (sq_n (CW_seq (CW_region (V (R_move rfl) (V (R_move rfl) ?_)))))))))
  obtain ⟨t, k, hm⟩ := bind_some hm
  refine VE (E_gives (args := [a, c]) hST rfl Tryz.call419 (by exact args2 rfl rfl) ((w_slices_IndexFunc_string a f c g _ _ (i.mono (Pl.mono _) hST.sub_hp) (j.mono hST.sub_hp) k)) (fun u hST => V (R_int rfl rfl rfl) (V (R_assign rfl) (LW_nil (sq_n (CW_ret ?_))))))
  replace hm := Option.some.inj hm; subst hm
  exact retQ_1 (v := (.bool ((decide (t ≥ 0))))) rfl rfl ⟨rfl, hST.ex⟩
theorem w_model_brings_c1 (z : ByteArray) (B : Nat) (g : Value) (H : ((Role × ByteArray)) → Option Bool) (D : Nat) (f : Cred) (G : Nat) (M : ByteArray) (r : Bool) (w : World) (I : CbOk Tryz.prog g (hp w) (fun (x : (Role × ByteArray)) => [(.agg (encRole x.1).toArray), (.string x.2)]) (fun (r : Bool) => (.bool r)) H) (j : At (hp w) (.pointer (some ⟨B, 0, none⟩)) [g]) (k : At (hp w) (.pointer (some ⟨D, 0, none⟩)) (encCred f)) (N : At (hp w) (.pointer (some ⟨G, 0, none⟩)) [(.string M)]) (hm : m_model_brings_c1 z H f M = some r) :
    Gives false Tryz.prog 383 [(.string z), (.pointer (some ⟨B, 0, none⟩)), (.pointer (some ⟨D, 0, none⟩)), (.pointer (some ⟨G, 0, none⟩))] w (.bool r) := by
  have hST := ST.start (dd := false) w
  unfold m_model_brings_c1 at hm
  refine calls_of_CW (n := 20) Tryz.func383 rfl rfl (Nat.le_of_ble_eq_true rfl) (CW_seq (CW_region (V (R_assign rfl) (LW_nil (sq_n (CW_seq (CW_region (V (R_load rfl (load_at1 hST.has (y := g) j Tryz.isAgg207)) (VQ (R_fieldAt (encRole f.B) fa53_3 rfl k rfl) (fun p1 Z => V (R_load rfl (load_atA hST.has Z Tryz.isAgg28 Tryz.sizeOf28)) (V (R_move rfl) ?_)))))))))))
  obtain ⟨r4, a1, hm⟩ := bind_some hm
  refine VE (E_cb ((f.B, z)) hST I (Sub.refl _) rfl (args2 rfl rfl) a1 (fun W6 hST => V (R_move rfl) ?_))
  obtain ⟨a7, c, K⟩ := bind_some hm
  refine LW_join (J := fun E W => ∃ (u : Bool) (Q : List (Nat × Obj)), ST false NoF w W (hp w) Q ∧ E 5 = (.bool false) ∧ E 19 = (.bool u) ∧ some u = some r) 8 ?_ (fun t => ?_)
  · rintro E W ⟨u, Q, hST, a5, Y, i⟩
    refine V (R_assign Y) (LW_nil (sq_n (CW_ret ?_)))
    replace i := Option.some.inj i; subst i
    exact retQ_1 (v := (.bool u)) rfl rfl ⟨rfl, hST.ex⟩
  rcases bool_cases r4 with a | a
  · replace c := if_t a c
    refine Vg rfl (congrArg Value.bool a) (R_load rfl (load_at1 hST.has (y := g) j Tryz.isAgg207)) (Vg rfl (congrArg Value.bool a) (R_move rfl) (VgQ rfl (congrArg Value.bool a) (R_fieldAt [(.string f.Word2)] fa53_5 rfl k rfl) (fun a6 T => Vg rfl (congrArg Value.bool a) (R_load rfl (load_at1 hST.has (y := (.string f.Word2)) T Tryz.isAgg9)) (Vg rfl (congrArg Value.bool a) (R_build (qs := #[(0, (.string z)), (1, (.string f.Word2))]) (v := (.agg (encRole ((⟨z, f.Word2⟩ : Role))).toArray)) (parts2 rfl rfl) (run_build Tryz.zeroValue28 Tryz.underlying28 (pl28 _ Tryz.underlying28) (by kernel_rfl))) (Vg rfl (congrArg Value.bool a) (R_load rfl (load_at1 hST.has (y := (.string M)) N Tryz.isAgg9)) ?_)))))
    obtain ⟨a2, U, c⟩ := bind_some c
    refine VgE rfl (congrArg Value.bool a) (E_cb (((⟨z, f.Word2⟩ : Role), M)) hST I (Sub.refl _) rfl (args2 rfl rfl) U (fun a4 hST => V (R_pickT (congrArg Value.bool a) rfl) ?_))
    replace c := Option.some.inj c; subst c
    exact t _ _ ⟨a2, _, (hST.sel St), rfl, rfl, K⟩
  replace c := if_f a c
  refine Vn rfl (congrArg Value.bool a) (Vn rfl (congrArg Value.bool a) (Vn rfl (congrArg Value.bool a) (Vn rfl (congrArg Value.bool a) (Vn rfl (congrArg Value.bool a) (Vn rfl (congrArg Value.bool a) (Vn rfl (congrArg Value.bool a) (V (R_pickF (congrArg Value.bool a) rfl) ?_)))))))
  replace c := Option.some.inj c; subst c
  exact t _ _ ⟨false, _, (hST.sel St), rfl, rfl, K⟩
theorem w_model_brings (f : Cred) (G : Value) (M : ((Role × ByteArray)) → Option Bool) (j : Value) (Q : List ByteArray) (i : ByteArray) (r : Bool) (w : World) (g : CbOk Tryz.prog G (hp w) (fun (x : (Role × ByteArray)) => [(.agg (encRole x.1).toArray), (.string x.2)]) (fun (r : Bool) => (.bool r)) M) (T : Sl (Pl encSk) 1 (hp w) j Q) (hm : m_model_brings f M Q i = some r) :
    Gives false Tryz.prog 334 [(.agg (encCred f).toArray), G, j, (.string i)] w (.bool r) := by
  have hST := ST.start (dd := false) w
  unfold m_model_brings at hm
  refine calls_of_CW (n := 41) Tryz.func334 rfl rfl (Nat.le_of_ble_eq_true rfl) (CW_seq (CW_region (VE (E_box (v := (.agg (encCred f).toArray)) hST rfl (fun W2 H hST => ?_)))))
  obtain ⟨f3, f4, f5, rfl⟩ := g.form
  refine VE (E_box (v := (.func f3 f4 f5)) hST rfl (fun W7 I hST => VE (E_box (v := (.string i)) hST rfl (fun W9 K hST => V (R_assign rfl) (LW_nil (sq_n (CW_seq (CW_seq (CW_region (V (R_field fa53_0 rfl) (V (R_load rfl (load_box1 hST.has (Mt (Mt Mh)) rfl Tryz.isAgg3)) (LW_nil (sq_n (CW_block (CW_seq (CW_region ?_))))))))))))))))
  refine V (R_int rfl rfl rfl) (V (R_assign rfl) (LW_nil (sq_n (CW_if (b := (f.Kind == 1)) rfl (fun k => ?_) (fun k => ?_)))))
  · replace hm := if_t k hm
    refine CW_seq (CW_region (V (R_field fa53_2 rfl) (V (R_load rfl (load_box1 hST.has (Mt (Mt Mh)) rfl Tryz.isAgg9)) (V (R_load rfl (load_box1 hST.has Mh rfl Tryz.isAgg9)) (V (R_str rfl rfl rfl) (V (R_assign rfl) (LW_nil (sq_n ?_))))))))
    replace hST := hST.sel (Db (Db (Db St)))
    refine CW_ret (bq_r (sq_r ?_))
    replace hm := Option.some.inj hm; subst hm
    exact retQ_1 (v := (.bool ((beqS f.Who i)))) rfl rfl ⟨rfl, hST.ex⟩
  replace hm := if_f k hm
  refine CW_seq (CW_region (V (R_int rfl rfl rfl) (V (R_assign rfl) (LW_nil (sq_n (CW_if (b := (f.Kind == 2)) rfl (fun t => ?_) (fun t => ?_)))))))
  · replace hm := if_t t hm
    refine CW_seq (CW_region (V (R_load rfl (load_box1 hST.has (Mt Mh) rfl Tryz.isAgg207)) (V (R_field fa53_3 rfl) (V (R_load rfl (load_boxA hST.has (Mt (Mt Mh)) (encRole f.B) rfl Tryz.isAgg28 Tryz.sizeOf28)) (V (R_load rfl (load_box1 hST.has Mh rfl Tryz.isAgg9)) ?_)))))
    obtain ⟨a8, U, hm⟩ := bind_some hm
    refine VE (E_cb ((f.B, i)) hST g (Sub.refl _) rfl (args2 rfl rfl) U (fun b3 hST => V (R_assign rfl) (LW_nil (sq_n ?_))))
    replace hST := hST.sel (Db (Db (Db St)))
    refine CW_ret (bq_r (sq_r ?_))
    replace hm := Option.some.inj hm; subst hm
    exact retQ_1 (v := (.bool a8)) rfl rfl ⟨rfl, hST.ex⟩
  replace hm := if_f t hm
  refine CW_seq (CW_region (V (R_int rfl rfl rfl) (V (R_assign rfl) (LW_nil (sq_n (CW_if (b := (f.Kind == 4)) rfl (fun u => ?_) (fun u => ?_)))))))
  · replace hm := if_t u hm
    refine CW_seq (CW_region (V (R_load rfl (load_box1 hST.has (Mt Mh) rfl Tryz.isAgg207)) (V (R_field fa53_3 rfl) (V (R_load rfl (load_boxA hST.has (Mt (Mt Mh)) (encRole f.B) rfl Tryz.isAgg28 Tryz.sizeOf28)) (V (R_load rfl (load_box1 hST.has Mh rfl Tryz.isAgg9)) ?_)))))
    obtain ⟨a9, Y, hm⟩ := bind_some hm
    refine VE (E_cb ((f.B, i)) hST g (Sub.refl _) rfl (args2 rfl rfl) Y (fun b4 hST => V (R_move rfl) ?_))
    obtain ⟨c0, c, D⟩ := bind_some hm
    refine LW_join (J := fun E W => ∃ (B : Bool) (N : List (Nat × Obj)), ST false NoF w W (hp w) N ∧ E 8 = (.bool false) ∧ E 37 = (.bool B) ∧ some B = some r) 6 ?_ (fun z => ?_)
    · rintro E W ⟨B, N, hST, b9, a4, y⟩
      refine V (R_assign a4) (LW_nil (sq_n (CW_ret (bq_r (sq_r ?_)))))
      replace y := Option.some.inj y; subst y
      exact retQ_1 (v := (.bool B)) rfl rfl ⟨rfl, hST.ex⟩
    rcases bool_cases a9 with a | a
    · replace c := if_t a c
      refine Vg rfl (congrArg Value.bool a) (R_load rfl (load_box1 hST.has (Mt Mh) rfl Tryz.isAgg207)) (Vg rfl (congrArg Value.bool a) (R_field fa53_4 rfl) (Vg rfl (congrArg Value.bool a) (R_load rfl (load_boxA hST.has (Mt (Mt Mh)) (encRole f.C) rfl Tryz.isAgg28 Tryz.sizeOf28)) (Vg rfl (congrArg Value.bool a) (R_load rfl (load_box1 hST.has Mh rfl Tryz.isAgg9)) ?_)))
      obtain ⟨b0, Z, c⟩ := bind_some c
      refine VgE rfl (congrArg Value.bool a) (E_cb ((f.C, i)) hST g (Sub.refl _) rfl (args2 rfl rfl) Z (fun b5 hST => V (R_pickT (congrArg Value.bool a) rfl) ?_))
      replace c := Option.some.inj c; subst c
      exact z _ _ ⟨b0, _, (hST.sel (Db (Db (Db St)))), rfl, rfl, D⟩
    replace c := if_f a c
    refine Vn rfl (congrArg Value.bool a) (Vn rfl (congrArg Value.bool a) (Vn rfl (congrArg Value.bool a) (Vn rfl (congrArg Value.bool a) (Vn rfl (congrArg Value.bool a) (V (R_pickF (congrArg Value.bool a) rfl) ?_)))))
    replace c := Option.some.inj c; subst c
    exact z _ _ ⟨false, _, (hST.sel (Db (Db (Db St)))), rfl, rfl, D⟩
  replace hm := if_f u hm
  refine CW_skip (bq_n (sq_n (CW_seq (CW_region (V (R_move rfl) (V (R_makeFuncC (by exact args3 rfl rfl rfl) rfl) ?_))))))
  obtain ⟨b2, a1, hm⟩ := bind_some hm
  refine VE (E_gives (args := [j, (.func (.func 383) #[] #[(.pointer (some ⟨I, 0, none⟩)), (.pointer (some ⟨H, 0, none⟩)), (.pointer (some ⟨K, 0, none⟩))])]) hST rfl Tryz.call382 (by exact args2 rfl rfl) ((w_slices_ContainsFunc_string j Q (.func (.func 383) #[] #[(.pointer (some ⟨I, 0, none⟩)), (.pointer (some ⟨H, 0, none⟩)), (.pointer (some ⟨K, 0, none⟩))]) (fun (x : ByteArray) => m_model_brings_c1 x M f i) _ _ (T.mono (Pl.mono _) hST.sub_hp) ⟨383, #[], #[(.pointer (some ⟨I, 0, none⟩)), (.pointer (some ⟨H, 0, none⟩)), (.pointer (some ⟨K, 0, none⟩))], rfl, Tryz.call383, fun W x r hs hm => w_model_brings_c1 x I (.func f3 f4 f5) M H f K i r W (g.mono (hST.sub_hp.trans hs)) (At.of (hs _ _ (hST.at_ (Mt Mh))) _ rfl) (At.of (hs _ _ (hST.at_ (Mt (Mt Mh)))) _ rfl) (At.of (hs _ _ (hST.at_ Mh)) _ rfl) hm⟩ a1)) (fun b7 hST => V (R_assign rfl) (LW_nil (sq_n ?_))))
  replace hST := hST.sel (Db (Db (Db St)))
  refine CW_ret ?_
  replace hm := Option.some.inj hm; subst hm
  exact retQ_1 (v := (.bool b2)) rfl rfl ⟨rfl, hST.ex⟩
theorem w_model_Holds (c : Cred) (z : Value) (f1 : ((Role × ByteArray)) → Option Bool) (M : Value) (a2 : List ByteArray) (r : List Fact) (w : World) (b9 : CbOk Tryz.prog z (hp w) (fun (x : (Role × ByteArray)) => [(.agg (encRole x.1).toArray), (.string x.2)]) (fun (r : Bool) => (.bool r)) f1) (e0 : Sl (Pl encSk) 1 (hp w) M a2) (hm : m_model_Holds c f1 a2 = some r) :
    GivesRow false Tryz.prog 246 [(.agg (encCred c).toArray), z, M] w 38 encFact 3 r := by
  have hST := ST.start (dd := false) w
  unfold m_model_Holds at hm
  refine calls_of_CW (n := 47) Tryz.func246 rfl rfl (Nat.le_of_ble_eq_true rfl) (CW_seq (CW_region (VE (E_box (v := (.agg (encCred c).toArray)) hST rfl (fun W2 b1 hST => V (R_assign rfl) (LW_nil (sq_n (CW_seq (CW_seq (CW_region (V (R_load rfl (load_boxA hST.has Mh (encCred c) rfl Tryz.isAgg53 Tryz.sizeOf53)) ?_)))))))))))
  obtain ⟨r3, f7, hm⟩ := bind_some hm
  refine VE (E_gives (args := [(.agg (encCred c).toArray)]) hST rfl Tryz.call137 (by exact args1 rfl) (Gives.weak (w_cred_Right c _ _  f7)) (fun W5 hST => V (R_not rfl) (V (R_move rfl) ?_)))
  obtain ⟨g7, g, b4⟩ := bind_some hm
  refine LW_join (J := fun E W => ∃ (x7 : Bool) (L8 : List (Nat × Obj)), ST false NoF w W (hp w) ((b1, Obj.cells ((encCred c).toArray : Array Value) 53 (0, 0)) :: L8) ∧ E 1 = z ∧ E 2 = M ∧ E 3 = (.pointer (some ⟨b1, 0, none⟩)) ∧ E 17 = (.bool x7) ∧ (if x7 then some [] else (((m_name_Set a2)).bind fun K => (((if (c.Kind == 1) then some ([c.Who]) else some K) : Option (List ByteArray)).bind fun G => m_model_Holds_L1 c f1 K G ([])))) = some r) 3 ?_ (fun a3 => ?_)
  · rintro E W ⟨x7, L8, hST, d6, f0, b0, f2, k⟩
    refine LW_nil (sq_n (CW_if (b := x7) f2 (fun a8 => ?_) (fun a8 => ?_)))
    · replace k := if_t a8 k
      refine CW_seq (CW_region (V (R_assign rfl) (LW_nil (sq_n ?_))))
      replace hST := hST.sel (Db St)
      refine CW_ret (sq_r ?_)
      replace k := Option.some.inj k; subst k
      exact retQ_1 (v := (.slice none 0 0)) rfl rfl ⟨_, [], rfl, hST.backRow (fun p hq => by cases hq) (by simp), Row.nil _ _ _⟩
    replace k := if_f a8 k
    refine CW_skip (sq_n (CW_seq (CW_region (V (R_move f0) ?_))))
    obtain ⟨K, e3, k⟩ := bind_some k
    refine VE (F_givesRow (args := [M]) _ hST rfl Tryz.call332 (by exact args1 rfl) (GivesRow.weak (w_name_Set M a2 _ _ (e0.mono (Pl.mono _) hST.sub_hp) e3)) (fun g9 a4 h0 g8 hST c7 hl20 b8 => V (R_assign rfl) (LW_nil (sq_n (CW_seq (CW_region (V (R_move rfl) (V (R_assign rfl) (LW_nil (sq_n (CW_seq ?_)))))))))))
    have e1 := b8.frM hST (fun p hq => (Ml hq))
    obtain ⟨d7, hST, c8, hl33, c1⟩ := ST.pub1 hST b8 (fun _ => rfl)
    obtain ⟨g6, f, b3⟩ := bind_some k
    refine CW_cut (fun E W => ∃ (a5 : Value) (G : List ByteArray) (a6 : Mem) (d5 : List (Nat × Obj)), Sub d7 a6 ∧ ST false NoF w W a6 ((b1, Obj.cells ((encCred c).toArray : Array Value) 53 (0, 0)) :: d5) ∧ E 1 = z ∧ E 2 = a4 ∧ E 3 = (.pointer (some ⟨b1, 0, none⟩)) ∧ E 7 = a5 ∧ Sl (Pl encSk) 1 a6 a5 G ∧ Fr w.heap.size a5 ∧ m_model_Holds_L1 c f1 K G ([]) = some r) ?_ ?_
    · refine CW_seq (CW_region (V (R_field fa53_0 b0) (V (R_load rfl (load_box1 hST.has Mh rfl Tryz.isAgg3)) (V (R_int rfl rfl rfl) (LW_nil (sq_n (CW_if (b := (c.Kind == 1)) rfl (fun a1 => ?_) (fun a1 => ?_))))))))
      · replace f := if_t a1 f
        refine CW_region (V (R_field fa53_2 b0) (V (R_load rfl (load_box1 hST.has Mh rfl Tryz.isAgg9)) (VE (E_buildSlice (qs := #[(0, (.string c.Who))]) (cs := [(.string c.Who)].toArray) hST (parts1 rfl) (run_lit [(.string c.Who)] Tryz.underlying82 Tryz.sizeOf9 Tryz.zeroValue9 (by decide) rfl (by intro v hv; simp only [List.mem_cons, List.not_mem_nil, or_false] at hv; rcases hv with rfl <;> rfl) rfl rfl) (fun g2 N hST => V (R_assign rfl) (LW_nil (sq_n ?_)))))))
        replace f := Option.some.inj f; subst f
        have c5 : Fr w.heap.size (.slice (some ⟨N, 0, none⟩) 1 1) := Fr.box hST Mh
        obtain ⟨e8, hST, c0, hl207, d1⟩ := ST.pub1 (R := [(N, Obj.cells ([(.string c.Who)].toArray : Array Value) 9 (0, 0))]) hST (Row.lit (l := [c.Who]) (enc := encSk) (b := N) (m := 1) rfl (by decide) rfl rfl) (fun _ => rfl)
        exact ⟨(.slice (some ⟨N, 0, none⟩) 1 1), ([c.Who]), e8, _, c0, (hST.sel St), d6, rfl, b0, rfl, d1, c5, b3⟩
      replace f := if_f a1 f
      refine CW_skip (sq_n ?_)
      replace f := Option.some.inj f; subst f
      exact ⟨a4, K, d7, _, (Sub.refl _), (hST.sel St), d6, rfl, b0, rfl, c1, e1, b3⟩
    rintro E W ⟨a5, G, a6, d5, b2, hST, f3, f4, f5, f6, a9, g3, e2⟩
    refine CW_seq (CW_region (V (R_assign rfl) (LW_nil (sq_n (CW_seq (CW_seq (CW_region (V (R_move f6) (V (R_len Tryz.underlying82 rfl a9) (V (R_move rfl) (LW_nil (sq_n (CW_range (fun i E W => ∃ (u : Value) (I : List Fact) (t : List (Nat × Obj)) (a7 : List (Nat × Obj)), (E 29 = .int .i64 (i : Nat) ∧ E 28 = .int .i64 (G.length : Nat)) ∧ ST false NoF w W a6 ((b1, Obj.cells ((encCred c).toArray : Array Value) 53 (0, 0)) :: (t ++ a7)) ∧ E 1 = z ∧ E 2 = a4 ∧ E 3 = (.pointer (some ⟨b1, 0, none⟩)) ∧ E 8 = u ∧ E 27 = a5 ∧ Row 38 encFact 3 u I t ∧ m_model_Holds_L1 c f1 K (G.drop i) I = some r) G.length a9.len ⟨(.slice none 0 0), ([]), [], _, ⟨rfl, rfl⟩, (hST.sel St), f3, f4, f5, rfl, rfl, (Row.nil _ _ _), e2⟩ (by decide) (by decide) (by decide) (fun _ _ _ h => by obtain ⟨_, _, _, _, eIN, _⟩ := h; exact eIN) ?_ ?_)))))))))))))
    · rintro e4 E W c6 ⟨u, I, t, a7, ⟨eI, eN⟩, hST, Q, T, H, U, Y, D, a⟩
      obtain ⟨j, f8, d3, d2, b5⟩ := drop_cons c6
      rw [d3] at a
      rw [m_model_Holds_L1] at a
      refine CW_block (CW_seq (CW_region (VQ (R_indexP (enc := encSk) (i := (e4 : Int)) (x0 := j) Tryz.underlying82 Tryz.sizeOf9 Y eI a9 (Int.natCast_nonneg _) d2) (fun g4 c9 => V (R_load rfl (load_at1 hST.has (y := (.string j)) c9 Tryz.isAgg9)) (V (R_assign rfl) (LW_nil (sq_n (CW_seq (CW_region (V (R_load H (load_boxA hST.has Mh (encCred c) rfl Tryz.isAgg53 Tryz.sizeOf53)) (V (R_move Q) (V (R_move T) (V (R_move rfl) ?_)))))))))))))
      obtain ⟨e6, d0, a⟩ := bind_some a
      refine VE (E_gives (args := [(.agg (encCred c).toArray), z, a4, (.string j)]) hST rfl Tryz.call334 (by exact args4 rfl rfl rfl rfl) ((w_model_brings c z f1 a4 K j _ _ (b9.mono (((c7.trans c8).trans b2).trans hST.sub_hp)) (c1.mono (Pl.mono _) (b2.trans hST.sub_hp)) d0)) (fun f9 hST => LW_nil (sq_n (CW_if (b := e6) rfl (fun Z => ?_) (fun Z => ?_)))))
      · replace a := if_t Z a
        refine CW_region (V (R_move U) (V (R_field fa53_1 H) (V (R_load rfl (load_boxA hST.has Mh (encRole c.Head) rfl Tryz.isAgg28 Tryz.sizeOf28)) (V (R_move rfl) (V (R_build (qs := #[(0, (.agg (encRole c.Head).toArray)), (1, (.string j))]) (v := (.agg (encFact ((⟨c.Head, j⟩ : Fact))).toArray)) (parts2 rfl rfl) (run_build Tryz.zeroValue38 Tryz.underlying38 (pl38 _ Tryz.underlying38) (by kernel_rfl))) (VE (E_buildSlice (qs := #[(0, (.agg (encFact ((⟨c.Head, j⟩ : Fact))).toArray))]) (cs := (encFact ((⟨c.Head, j⟩ : Fact))).toArray) hST (parts1 rfl) (run_lit [(.agg (encFact ((⟨c.Head, j⟩ : Fact))).toArray)] Tryz.underlying68 Tryz.sizeOf38 Tryz.zeroValue38 (by decide) rfl (by intro v hv; simp only [List.mem_cons, List.not_mem_nil, or_false] at hv; rcases hv with rfl <;> rfl) rfl rfl) (fun g0 d9 hST => ?_))))))))
        replace hST := hST.perm (Nr (Qb (Qb Qz)) Nz)
        obtain ⟨e5, c4, a⟩ := bind_some a
        refine VE (F_append (enc := encFact) (v := u) (vs := (.slice (some ⟨d9, 0, none⟩) 1 1)) (R := t) hST lenFact (by decide) oneFact Tryz.underlying68 info38.1 info38.2.1 rfl info38.2.2.1 info38.2.2.2 rfl rfl D (Sl.lit (enc := encFact) (l := [(⟨c.Head, j⟩ : Fact)]) lenFact rfl (Nat.le_of_ble_eq_true rfl) rfl (hST.at_ (Ma Mh))) c4 (fun g1 e7 d8 hST c3 => V (R_assign rfl) (LW_nil (bq_n (sq_n ?_)))))
        replace hST := hST.sel (Kr (Db St))
        exact ⟨eI, e7, e5, d8, _, ⟨rfl, eN⟩, (hST.sel (Sb (Pr Pz) St)), Q, T, H, rfl, Y, c3, (by rw [b5]; exact a)⟩
      replace a := if_f Z a
      exact CW_skip (bq_n (sq_n ⟨eI, u, I, t, _, ⟨rfl, eN⟩, (hST.sel St), Q, T, H, U, Y, D, (by rw [b5]; exact a)⟩))
    rintro E W ⟨u, I, t, a7, ⟨eI, eN⟩, hST, Q, T, H, U, Y, D, a⟩
    rw [List.drop_length] at a
    rw [m_model_Holds_L1] at a
    refine sq_n ?_
    replace hST := hST.sel (Db St)
    refine CW_seq (CW_region (V (R_move U) (V (R_assign rfl) (LW_nil (sq_n (CW_ret ?_))))))
    replace a := Option.some.inj a; subst a
    exact retQ_1 (v := u) rfl rfl ⟨_, t, rfl, hST.backRow (fun p hq => (Ml hq)) D.nd, D⟩
  rcases bool_cases ((!r3)) with B | B
  · replace g := if_t B g
    refine Vn rfl (congrArg Value.bool B) (Vn rfl (congrArg Value.bool B) (V (R_pickT (congrArg Value.bool B) rfl) ?_))
    replace g := Option.some.inj g; subst g
    exact a3 _ _ ⟨true, _, (hST.sel St), rfl, rfl, rfl, rfl, b4⟩
  replace g := if_f B g
  refine Vg rfl (congrArg Value.bool B) (R_move rfl) (Vg rfl (congrArg Value.bool B) (R_cbEqNil Tryz.underlying207 b9 rfl rfl) (V (R_pickF (congrArg Value.bool B) rfl) ?_))
  replace g := Option.some.inj g; subst g
  exact a3 _ _ ⟨false, _, (hST.sel St), rfl, rfl, rfl, rfl, b4⟩
theorem w_chain_grown_c1 (a : Role) (f : ByteArray) (g : Nat) (c : Value) (j : List (Fact × Bool)) (r : Bool) (w : World) (t : MapAt (fun (x : Fact) => (.agg (encFact x).toArray)) (fun (x : Bool) => (Value.bool x)) (hp w) c j) (i : At (hp w) (.pointer (some ⟨g, 0, none⟩)) [c]) (hm : m_chain_grown_c1 a f j = some r) :
    Gives true Tryz.prog 248 [(.agg (encRole a).toArray), (.string f), (.pointer (some ⟨g, 0, none⟩))] w (.bool r) := by
  have hST := ST.start (dd := true) w
  unfold m_chain_grown_c1 at hm
  refine calls_of_CW (n := 11) Tryz.func248 rfl rfl (Nat.le_of_ble_eq_true rfl) (CW_seq (CW_region (VE (E_box (v := (.agg (encRole a).toArray)) hST rfl (fun u B hST => V (R_assign rfl) (LW_nil (sq_n (CW_seq (CW_region (V (R_load rfl (load_at1 hST.has (y := c) i Tryz.isAgg306)) (V (R_load rfl (load_boxA hST.has Mh (encRole a) rfl Tryz.isAgg28 Tryz.sizeOf28)) (V (R_move rfl) (V (R_build (qs := #[(0, (.agg (encRole a).toArray)), (1, (.string f))]) (v := (.agg (encFact ((⟨a, f⟩ : Fact))).toArray)) (parts2 rfl rfl) (run_build Tryz.zeroValue38 Tryz.underlying38 (pl38 _ Tryz.underlying38) (by kernel_rfl))) (V (R_lookupD (k := ((⟨a, f⟩ : Fact))) (z := false) (vf := (fun (x : Bool) => (Value.bool x))) kl38 Tryz.underlying306 Tryz.zeroValue4 rfl rfl (t.mono (fun b o hq => hST.has.1 b o hq))) (V (R_assign rfl) ?_)))))))))))))))
  refine LW_nil (sq_n ?_)
  replace hST := hST.sel (Db St)
  refine CW_ret ?_
  replace hm := Option.some.inj hm; subst hm
  exact retQ_1 (v := (.bool ((mgetD beqFact j ((⟨a, f⟩ : Fact)) false)))) rfl rfl ⟨rfl, hST.ex⟩
theorem w_chain_grown (b2 : Value) (a0 : List Cred) (a1 : Fact) (r : ((List Step) × Bool)) (w : World) (i5 : Sl (Pl encCred) 9 (hp w) b2 a0) (hm : m_chain_grown a0 a1 = some r) :
    GivesM false Tryz.prog 132 [b2, (.agg (encFact a1).toArray)] w [] (fun v L1 W' => ∃ (y1 : Value) (S2 : List (Nat × Obj)), v = (.tuple #[y1, (.bool (r.2))]) ∧ L1 = (S2 ++ []) ∧ Row 220 encStep 12 y1 r.1 S2) := by
  have hST := ST.start (dd := false) w
  unfold m_chain_grown at hm
  refine calls_of_CW (n := 60) Tryz.func132 rfl rfl (Nat.le_of_ble_eq_true rfl) (CW_seq (CW_region (VE (E_box (v := (.agg (encFact a1).toArray)) hST rfl (fun W2 b1 hST => V (R_assign rfl) (V (R_assign rfl) (LW_nil (sq_n (CW_seq (CW_region (V (R_move rfl) ?_)))))))))))
  obtain ⟨r3, o0, hm⟩ := bind_some hm
  refine VE (F_givesRow (args := [b2]) _ hST rfl Tryz.call116 (by exact args1 rfl) ((w_cred_Set b2 a0 _ _ (i5.mono (Pl.mono _) hST.sub_hp) o0)) (fun W5 v9 μ6 g4 hST n6 hl8 f7 => V (R_move rfl) ?_))
  obtain ⟨h0, n7, hm⟩ := bind_some hm
  refine VE (F_givesRow (args := [b2]) _ hST rfl Tryz.call247 (by exact args1 rfl) (GivesRow.weak (w_chain_names b2 a0 _ _ (i5.mono (Pl.mono _) (n6.trans hST.sub_hp)) n7)) (fun p7 e6 n4 g5 hST p2 hl17 n5 => V (R_assign rfl) (V (R_assign rfl) (LW_nil (sq_n (CW_seq (CW_region (VE (E_makeMap (P := Tryz.prog) (fun (x : Fact) => (.agg (encFact x).toArray)) (fun (x : Bool) => (Value.bool x)) hST (fun p8 q1 n8 hST i3 => VE (E_alloc hST Tryz.zeroValue306 (fun p9 t hST => ?_))))))))))))
  obtain ⟨I, rfl⟩ := i3.form
  refine VO (F_store (.map (some I)) (#[(.map (some I))]) hST rfl rfl Tryz.sizeOf306 (by simp [Value.cells, Value.oneCell']) (Nat.le_of_ble_eq_true rfl) rfl (fun q0 hST => LW_nil (sq_n (CW_seq (CW_region (V (R_makeFuncC (by exact args1 rfl) rfl) (V (R_assign rfl) (LW_nil (sq_n (CW_seq (CW_region (V (R_assign rfl) (LW_nil (sq_n (CW_seq ?_)))))))))))))))
  refine CW_seq (CW_region (V (R_assign rfl) (LW_nil (sq_n (CW_block (CW_loop (fun m E W => ∃ (d6 : Value) (y : List Step) (b3 : List (Nat × Obj)) (d9 : Int) (d1 : List (Fact × Bool)) (b4 : List (Nat × Obj)) (a3 : Mem) (h3 : List (Nat × Obj)), Sub n4 a3 ∧ ST false NoF w W a3 ((t, Obj.cells (#[(.map (some I))] : Array Value) 306 (0, 0)) :: ((b1, Obj.cells ((encFact a1).toArray : Array Value) 38 (0, 0)) :: (b3 ++ (b4 ++ (g5 ++ (g4 ++ h3)))))) ∧ E 3 = (.pointer (some ⟨b1, 0, none⟩)) ∧ E 6 = v9 ∧ E 7 = e6 ∧ E 8 = (.pointer (some ⟨t, 0, none⟩)) ∧ E 9 = (.func (.func 248) #[] #[(.pointer (some ⟨t, 0, none⟩))]) ∧ E 10 = d6 ∧ E 11 = (.int .i64 d9) ∧ Row 220 encStep 12 d6 y b3 ∧ MapRow (fun (x : Fact) => (.agg (encFact x).toArray)) (fun (x : Bool) => (Value.bool x)) (.map (some I)) d1 b4 ∧ m_chain_grown_L1 h0 a1 r3 m y d9 d1 = some r) FUEL ⟨(.slice none 0 0), ([]), [], ((-1)), ([]), n8, n4, _, (Sub.refl _), (hST.sel (Kb (Sb (Pr (Pr (Pr Pz))) St))), rfl, rfl, rfl, rfl, rfl, rfl, rfl, (Row.nil _ _ _), i3, hm⟩ ?_))))))
  rintro m E W ⟨d6, y, b3, d9, d1, b4, a3, h3, i0, hST, k9, h8, l0, l1, l2, f0, l3, e4, j6, g⟩
  cases m with
  | zero => rw [m_chain_grown_L1] at g; cases g
  | succ h9 =>
    rw [m_chain_grown_L1] at g
    refine CW_seq (CW_seq (CW_region (V (R_move l3) (V (R_move f0) (V (R_lenRow Tryz.underlying45 rfl e4) (V (R_int rfl rfl rfl) (LW_nil (sq_n (CW_if (b := (decide (d9 < ((y.length : Int))))) rfl (fun e1 => ?_) (fun e1 => ?_))))))))))
    · replace g := if_t e1 g
      refine CW_skip (sq_n (CW_block (CW_seq (CW_region (V (R_move f0) (V (R_lenRow Tryz.underlying45 rfl e4) (V (R_assign rfl) (LW_nil (sq_n (CW_seq (CW_region (V (R_move h8) (V (R_lenRow Tryz.underlying22 rfl f7) (V (R_move rfl) ?_))))))))))))))
      refine LW_nil (sq_n (CW_tail ?_))
      obtain ⟨g1, j0, G⟩ := bind_some g
      refine CW_cut (fun E W => ∃ (d7 : Value) (d2 : List Step) (b5 : List (Nat × Obj)) (d3 : List (Fact × Bool)) (b6 : List (Nat × Obj)) (e0 : Mem) (h4 : List (Nat × Obj)), Sub a3 e0 ∧ ST false NoF w W e0 ((t, Obj.cells (#[(.map (some I))] : Array Value) 306 (0, 0)) :: ((b1, Obj.cells ((encFact a1).toArray : Array Value) 38 (0, 0)) :: (b5 ++ (b6 ++ (g5 ++ (g4 ++ h4)))))) ∧ E 3 = (.pointer (some ⟨b1, 0, none⟩)) ∧ E 6 = v9 ∧ E 7 = e6 ∧ E 8 = (.pointer (some ⟨t, 0, none⟩)) ∧ E 9 = (.func (.func 248) #[] #[(.pointer (some ⟨t, 0, none⟩))]) ∧ E 10 = d7 ∧ E 11 = (.int .i64 ((y.length : Int))) ∧ Row 220 encStep 12 d7 d2 b5 ∧ MapRow (fun (x : Fact) => (.agg (encFact x).toArray)) (fun (x : Bool) => (Value.bool x)) (.map (some I)) d3 b6 ∧ (m_chain_grown_L1 h0 a1 r3 h9 d2 ((y.length : Int)) d3) = some r) ?_ ?_
      · refine CW_range (fun i E W => ∃ (a2 : Value) (Y : List Step) (N : List (Nat × Obj)) (B : List (Fact × Bool)) (Q : List (Nat × Obj)) (a9 : Mem) (e8 : List (Nat × Obj)), (E 30 = .int .i64 (i : Nat) ∧ E 29 = .int .i64 (r3.length : Nat)) ∧ Sub a3 a9 ∧ ST false NoF w W a9 ((t, Obj.cells (#[(.map (some I))] : Array Value) 306 (0, 0)) :: ((b1, Obj.cells ((encFact a1).toArray : Array Value) 38 (0, 0)) :: (N ++ (Q ++ (g5 ++ (g4 ++ e8)))))) ∧ E 3 = (.pointer (some ⟨b1, 0, none⟩)) ∧ E 6 = v9 ∧ E 7 = e6 ∧ E 8 = (.pointer (some ⟨t, 0, none⟩)) ∧ E 9 = (.func (.func 248) #[] #[(.pointer (some ⟨t, 0, none⟩))]) ∧ E 10 = a2 ∧ E 11 = (.int .i64 ((y.length : Int))) ∧ E 28 = v9 ∧ Row 220 encStep 12 a2 Y N ∧ MapRow (fun (x : Fact) => (.agg (encFact x).toArray)) (fun (x : Bool) => (Value.bool x)) (.map (some I)) B Q ∧ m_chain_grown_L2 h0 a1 (r3.drop i) Y B = some g1) r3.length f7.len ⟨d6, y, b3, d1, b4, a3, _, ⟨rfl, rfl⟩, (Sub.refl _), (hST.sel St), k9, h8, l0, l1, l2, f0, rfl, rfl, e4, j6, j0⟩ (by decide) (by decide) (by decide) (fun _ _ _ h => by obtain ⟨_, _, _, _, _, _, _, eIN, _⟩ := h; exact eIN) ?_ ?_
        · rintro f8 E W i7 ⟨a2, Y, N, B, Q, a9, e8, ⟨eI, eN⟩, b0, hST, f1, f2, b9, f3, c0, f4, f5, f6, e5, a7, j⟩
          obtain ⟨f, k4, k1, g7, k2⟩ := drop_cons i7
          rw [k1] at j
          rw [m_chain_grown_L2] at j
          refine CW_block (CW_seq (CW_region (VQ (R_indexRow (i := (f8 : Int)) (x0 := f) Tryz.underlying22 Tryz.sizeOf53 f6 eI f7 (Int.natCast_nonneg _) g7) (fun p3 j3 => V (R_load rfl (load_ixA hST.has (fun p hq => (Mt (Mt (Ma (Ma (Ma (Ml hq))))))) f7 lenCred j3 g7 Tryz.isAgg53 Tryz.sizeOf53)) (VE (E_alloc hST Tryz.zeroValue53 (fun o3 h7 hST => VO (F_store (.agg (encCred f).toArray) ((encCred f).toArray) hST rfl rfl Tryz.sizeOf53 (oneCred f) (Nat.le_of_ble_eq_true rfl) rfl (fun o4 hST => LW_nil (sq_n (CW_seq (CW_region (V (R_load rfl (load_boxA hST.has Mh (encCred f) rfl Tryz.isAgg53 Tryz.sizeOf53)) (V (R_move c0) (V (R_move b9) ?_)))))))))))))))
          obtain ⟨g0, j5, j⟩ := bind_some j
          refine VE (F_givesRow (args := [(.agg (encCred f).toArray), (.func (.func 248) #[] #[(.pointer (some ⟨t, 0, none⟩))]), e6]) _ hST rfl Tryz.call246 (by exact args3 rfl rfl rfl) ((w_model_Holds f (.func (.func 248) #[] #[(.pointer (some ⟨t, 0, none⟩))]) (fun (x : (Role × ByteArray)) => m_chain_grown_c1 x.1 x.2 B) e6 h0 _ _ ⟨248, #[], #[(.pointer (some ⟨t, 0, none⟩))], rfl, Tryz.call248, fun W x r hs hm => (w_chain_grown_c1 x.1 x.2 t (.map (some I)) B r W (a7.at (fun b o hq => hs _ _ ((fun b o hq => hST.at_ (Mt (Mt (Mt (Ma (Ml hq)))))) b o hq))) (At.of (hs _ _ (hST.at_ (Mt Mh))) _ rfl) hm).weak⟩ (n5.sl (fun _ => rfl) (fun b o hq => hST.at_ (Mt (Mt (Mt (Ma (Ma (Ml hq)))))))) j5)) (fun o5 n3 g3 k5 hST i2 hl9377 a6 => V (R_lenRow Tryz.underlying68 rfl a6) (V (R_move rfl) (LW_nil (sq_n (CW_tail ?_))))))
          obtain ⟨n2, j2, H⟩ := bind_some j
          refine CW_cut (fun E W => ∃ (d8 : Value) (d4 : List Step) (b7 : List (Nat × Obj)) (d5 : List (Fact × Bool)) (b8 : List (Nat × Obj)) (h5 : List (Nat × Obj)), ST false NoF w W g3 ((t, Obj.cells (#[(.map (some I))] : Array Value) 306 (0, 0)) :: ((b1, Obj.cells ((encFact a1).toArray : Array Value) 38 (0, 0)) :: (b7 ++ (b8 ++ (g5 ++ (g4 ++ h5)))))) ∧ E 3 = (.pointer (some ⟨b1, 0, none⟩)) ∧ E 6 = v9 ∧ E 7 = e6 ∧ E 8 = (.pointer (some ⟨t, 0, none⟩)) ∧ E 9 = (.func (.func 248) #[] #[(.pointer (some ⟨t, 0, none⟩))]) ∧ E 10 = d8 ∧ E 11 = (.int .i64 ((y.length : Int))) ∧ E 28 = v9 ∧ E 29 = (.int .i64 ((r3.length : Int))) ∧ E 30 = (.int .i64 ((f8 : Int))) ∧ Row 220 encStep 12 d8 d4 b7 ∧ MapRow (fun (x : Fact) => (.agg (encFact x).toArray)) (fun (x : Bool) => (Value.bool x)) (.map (some I)) d5 b8 ∧ (m_chain_grown_L2 h0 a1 k4 d4 d5) = some g1) ?_ ?_
          · refine CW_range (fun i E W => ∃ (K : Value) (Z : List Step) (J : List (Nat × Obj)) (D : List (Fact × Bool)) (T : List (Nat × Obj)) (e9 : List (Nat × Obj)), (E 39 = .int .i64 (i : Nat) ∧ E 38 = .int .i64 (g0.length : Nat)) ∧ ST false NoF w W g3 ((h7, Obj.cells ((encCred f).toArray : Array Value) 53 (0, 0)) :: ((t, Obj.cells (#[(.map (some I))] : Array Value) 306 (0, 0)) :: ((b1, Obj.cells ((encFact a1).toArray : Array Value) 38 (0, 0)) :: (J ++ (T ++ (k5 ++ (g5 ++ (g4 ++ e9)))))))) ∧ E 3 = (.pointer (some ⟨b1, 0, none⟩)) ∧ E 6 = v9 ∧ E 7 = e6 ∧ E 8 = (.pointer (some ⟨t, 0, none⟩)) ∧ E 9 = (.func (.func 248) #[] #[(.pointer (some ⟨t, 0, none⟩))]) ∧ E 10 = K ∧ E 11 = (.int .i64 ((y.length : Int))) ∧ E 13 = (.pointer (some ⟨h7, 0, none⟩)) ∧ E 28 = v9 ∧ E 29 = (.int .i64 ((r3.length : Int))) ∧ E 30 = (.int .i64 ((f8 : Int))) ∧ E 37 = n3 ∧ Row 220 encStep 12 K Z J ∧ MapRow (fun (x : Fact) => (.agg (encFact x).toArray)) (fun (x : Bool) => (Value.bool x)) (.map (some I)) D T ∧ m_chain_grown_L3 f a1 (g0.drop i) Z D = some n2) g0.length a6.len ⟨a2, Y, N, B, Q, _, ⟨rfl, rfl⟩, (hST.sel (Sb (Pr Pz) (Sb (Pr Pz) (Sb (Pr Pz) (Sr (Qr Qz) (Sr (Qr Qz) St)))))), f1, f2, b9, f3, c0, f4, f5, rfl, f6, eN, eI, rfl, e5, a7, j2⟩ (by decide) (by decide) (by decide) (fun _ _ _ h => by obtain ⟨_, _, _, _, _, _, eIN, _⟩ := h; exact eIN) ?_ ?_
            · rintro n1 E W i8 ⟨K, Z, J, D, T, e9, ⟨eI, eN⟩, hST, a5, c1, c2, U, c3, c4, c5, c6, c7, c8, c9, d0, a8, M, a⟩
              obtain ⟨c, o1, k3, g8, g9⟩ := drop_cons i8
              rw [k3] at a
              rw [m_chain_grown_L3] at a
              refine CW_block (CW_seq (CW_region (VQ (R_indexRow (i := (n1 : Int)) (x0 := c) Tryz.underlying68 Tryz.sizeOf38 d0 eI a6 (Int.natCast_nonneg _) g8) (fun p4 j4 => V (R_load rfl (load_ixA hST.has (fun p hq => (Mt (Mt (Mt (Ma (Ma (Ml hq))))))) a6 lenFact j4 g8 Tryz.isAgg38 Tryz.sizeOf38)) (VE (E_alloc hST Tryz.zeroValue38 (fun o6 p1 hST => VO (F_store (.agg (encFact c).toArray) ((encFact c).toArray) hST rfl rfl Tryz.sizeOf38 (oneFact c) (Nat.le_of_ble_eq_true rfl) rfl (fun o7 hST => LW_nil (sq_n (CW_seq (CW_seq (CW_region (V (R_load U (load_box1 hST.has (Mt (Mt Mh)) rfl Tryz.isAgg306)) (V (R_load rfl (load_boxA hST.has Mh (encFact c) rfl Tryz.isAgg38 Tryz.sizeOf38)) (V (R_lookupD (k := c) (z := false) (vf := (fun (x : Bool) => (Value.bool x))) kl38 Tryz.underlying306 Tryz.zeroValue4 rfl rfl (M.at (fun b o hq => hST.has.2 b o (Mt (Mt (Mt (Mt (Ma (Ml hq))))))))) ?_))))))))))))))))
              refine LW_nil (sq_n (CW_if (b := (mgetD beqFact D c false)) rfl (fun e2 => ?_) (fun e2 => ?_)))
              · replace a := if_t e2 a
                refine CW_exit (sq_e (bq_e (sq_n ?_)))
                replace hST := hST.sel (Db St)
                exact ⟨eI, K, Z, J, D, T, _, ⟨rfl, eN⟩, (hST.sel St), a5, c1, c2, U, c3, c4, c5, c6, c7, c8, c9, d0, a8, M, (by rw [g9]; exact a)⟩
              replace a := if_f e2 a
              refine CW_skip (sq_n (CW_seq (CW_region (V (R_load U (load_box1 hST.has (Mt (Mt Mh)) rfl Tryz.isAgg306)) (V (R_load rfl (load_boxA hST.has Mh (encFact c) rfl Tryz.isAgg38 Tryz.sizeOf38)) ?_)))))
              replace hST := hST.perm (Nr (Qb (Qb (Qb (Qb (Qr Qz))))) Nz)
              refine VO (F_mapUpdate (k := c) (v := true) (vf := (fun (x : Bool) => (Value.bool x)))  kl38 Tryz.underlying306 hST M rfl rfl rfl (fun o8 k6 hST i4 => LW_nil (sq_n (CW_seq (CW_region (V (R_move c4) (V (R_load c6 (load_boxA hST.has (Ma (Mt Mh)) (encCred f) rfl Tryz.isAgg53 Tryz.sizeOf53)) (V (R_load rfl (load_boxA hST.has (Ma Mh) (encFact c) rfl Tryz.isAgg38 Tryz.sizeOf38)) (V (R_build (qs := #[(0, (.agg (encCred f).toArray)), (1, (.agg (encFact c).toArray))]) (v := (.agg (encStep ((⟨f, c⟩ : Step))).toArray)) (parts2 rfl rfl) (run_build Tryz.zeroValue220 Tryz.underlying220 (pl220 _ Tryz.underlying220) (by kernel_rfl))) (VE (E_buildSlice (qs := #[(0, (.agg (encStep ((⟨f, c⟩ : Step))).toArray))]) (cs := (encStep ((⟨f, c⟩ : Step))).toArray) hST (parts1 rfl) (run_lit [(.agg (encStep ((⟨f, c⟩ : Step))).toArray)] Tryz.underlying45 Tryz.sizeOf220 Tryz.zeroValue220 (by decide) rfl (by intro v hv; simp only [List.mem_cons, List.not_mem_nil, or_false] at hv; rcases hv with rfl <;> rfl) rfl rfl) (fun o9 k8 hST => ?_))))))))))))
              replace hST := hST.perm (Nr (Qb (Qr (Qb (Qb (Qb (Qb Qz)))))) Nz)
              obtain ⟨f9, i6, a⟩ := bind_some a
              refine VE (F_append (enc := encStep) (v := K) (vs := (.slice (some ⟨k8, 0, none⟩) 1 1)) (R := J) hST lenStep (by decide) oneStep Tryz.underlying45 info220.1 info220.2.1 rfl info220.2.2.1 info220.2.2.2 rfl rfl a8 (Sl.lit (enc := encStep) (l := [(⟨f, c⟩ : Step)]) lenStep rfl (Nat.le_of_ble_eq_true rfl) rfl (hST.at_ (Ma Mh))) i6 (fun p0 g2 h6 hST g6 => V (R_assign rfl) (LW_nil (sq_n ?_))))
              replace hST := hST.sel (Kr (Db St))
              refine CW_seq (CW_region (V (R_load rfl (load_boxA hST.has (Ma (Ma Mh)) (encFact c) rfl Tryz.isAgg38 Tryz.sizeOf38)) (V (R_load a5 (load_boxA hST.has (Ma (Ma (Mt (Mt (Mt Mh))))) (encFact a1) rfl Tryz.isAgg38 Tryz.sizeOf38)) (V (R_eql rfl rfl (guard_agg Tryz.eqGuardType38) (bin_eql (eqInFact _ c a1))) (LW_nil (sq_n ?_))))))
              replace hST := hST.sel (Kr (Kr (Db St)))
              refine CW_if (b := (beqFact c a1)) rfl (fun e3 => ?_) (fun e3 => ?_)
              · replace a := if_t e3 a
                refine CW_seq (CW_region (V (R_move rfl) (V (R_assign rfl) (V (R_assign rfl) (LW_nil (sq_n ?_))))))
                replace hST := hST.sel (Kr (Dr (Db (Db (Db (Dr (Dr (Dr St))))))))
                refine CW_ret (bq_r (sq_r (bq_r (sq_r (bq_r (sq_r (bq_r (sq_r (bq_r (sq_r (bq_r (sq_r ?_))))))))))))
                replace a := Option.some.inj a; subst a
                replace H : some (Sum.inl (f9, true)) = some g1 := H
                replace H := Option.some.inj H; subst H
                replace G : some (f9, true) = some r := G
                replace G := Option.some.inj G; subst G
                exact retQ_2 (v := g2) (u := (.bool true)) rfl rfl rfl ⟨_, _, rfl, (hST.bkL (Kr Sn)), g2, h6, rfl, rfl, g6⟩
              replace a := if_f e3 a
              exact CW_skip (bq_n (sq_n ⟨eI, g2, f9, h6, ((mput beqFact D c true)), k6, _, ⟨rfl, eN⟩, (hST.sel (Sb (Pr (Pr Pz)) (Sb (Pr (Pr Pz)) (Sb (Pr (Pr Pz)) St)))), a5, c1, c2, U, c3, rfl, c5, c6, c7, c8, c9, d0, g6, i4, (by rw [g9]; exact a)⟩))
            rintro E W ⟨K, Z, J, D, T, e9, ⟨eI, eN⟩, hST, a5, c1, c2, U, c3, c4, c5, c6, c7, c8, c9, d0, a8, M, a⟩
            rw [List.drop_length] at a
            rw [m_chain_grown_L3] at a
            refine sq_n ?_
            replace a := Option.some.inj a; subst a
            exact ⟨K, Z, J, D, T, _, (hST.sel (Db (Kb (Kb (Kr (Kr (Dr St))))))), a5, c1, c2, U, c3, c4, c5, c7, c8, c9, a8, M, H⟩
          rintro E W ⟨d8, d4, b7, d5, b8, h5, hST, m1, m2, m3, m4, m5, m6, m7, m8, m9, n0, j9, k0, j1⟩
          exact bq_n (sq_n ⟨n0, d8, d4, b7, d5, b8, g3, _, ⟨rfl, m9⟩, (b0.trans i2), (hST.sel St), m1, m2, m3, m4, m5, m6, m7, m8, j9, k0, (by rw [k2]; exact j1)⟩)
        rintro E W ⟨a2, Y, N, B, Q, a9, e8, ⟨eI, eN⟩, b0, hST, f1, f2, b9, f3, c0, f4, f5, f6, e5, a7, j⟩
        rw [List.drop_length] at j
        rw [m_chain_grown_L2] at j
        refine sq_n ?_
        replace j := Option.some.inj j; subst j
        exact ⟨a2, Y, N, B, Q, a9, _, b0, (hST.sel St), f1, f2, b9, f3, c0, f4, f5, e5, a7, G⟩
      rintro E W ⟨d7, d2, b5, d3, b6, e0, h4, i1, hST, l4, l5, l6, l7, l8, l9, m0, j7, j8, i9⟩
      exact bq_n (sq_n ⟨h9, Nat.lt_succ_self _, d7, d2, b5, ((y.length : Int)), d3, b6, e0, _, (i0.trans i1), (hST.sel St), l4, l5, l6, l7, l8, l9, m0, j7, j8, i9⟩)
    replace g := if_f e1 g
    refine CW_exit (sq_e (sq_e (bq_e (sq_n ?_))))
    replace hST := hST.sel (Db (Db (Dr (Dr (Dr (Dr St))))))
    refine CW_seq (CW_region (V (R_assign rfl) (V (R_assign rfl) (LW_nil (sq_n (CW_ret ?_))))))
    replace g := Option.some.inj g; subst g
    refine retQ_2 (v := (.slice none 0 0)) (u := (.bool false)) rfl rfl rfl ?_
    replace hST : ST false _ _ _ _ ([] ++ _) := hST
    exact ⟨_, _, rfl, (hST.bkL (Kr Sn)), (.slice none 0 0), [], rfl, rfl, (Row.nil _ _ _)⟩
theorem w_check_facts (y : Value) (B : List Step) (r : List Fact) (w : World) (x : Sl (Pl encStep) 12 (hp w) y B) (hm : m_check_facts B = some r) :
    GivesRow true Tryz.prog 335 [y] w 38 encFact 3 r := by
  have hST := ST.start (dd := true) w
  unfold m_check_facts at hm
  refine calls_of_CW (n := 19) Tryz.func335 rfl rfl (Nat.le_of_ble_eq_true rfl) (CW_seq (CW_region (V (R_assign rfl) (LW_nil (sq_n (CW_seq (CW_region (V (R_assign rfl) (LW_nil (sq_n (CW_seq (CW_seq (CW_region (V (R_move rfl) ?_))))))))))))))
  refine V (R_len Tryz.underlying45 rfl x) (V (R_move rfl) (LW_nil (sq_n (CW_range (fun i E W => ∃ (g : Value) (z : List Fact) (f : List (Nat × Obj)) (k : List (Nat × Obj)), (E 8 = .int .i64 (i : Nat) ∧ E 7 = .int .i64 (B.length : Nat)) ∧ ST true NoF w W (hp w) (f ++ k) ∧ E 3 = g ∧ E 6 = y ∧ Row 38 encFact 3 g z f ∧ m_check_facts_L1 (B.drop i) z = some r) B.length x.len ⟨(.slice none 0 0), ([]), [], _, ⟨rfl, rfl⟩, (hST.sel St), rfl, rfl, (Row.nil _ _ _), hm⟩ (by decide) (by decide) (by decide) (fun _ _ _ h => by obtain ⟨_, _, _, _, eIN, _⟩ := h; exact eIN) ?_ ?_))))
  · rintro Y E W K ⟨g, z, f, k, ⟨eI, eN⟩, hST, t, u, j, a⟩
    obtain ⟨c, a6, N, M, Q⟩ := drop_cons K
    rw [N] at a
    rw [m_check_facts_L1] at a
    refine CW_block (CW_seq (CW_region (VQ (R_indexP (enc := encStep) (i := (Y : Int)) (x0 := c) Tryz.underlying45 Tryz.sizeOf220 u eI x (Int.natCast_nonneg _) M) (fun a5 H => V (R_load rfl (load_atA hST.has H Tryz.isAgg220 Tryz.sizeOf220)) (VE (E_alloc hST Tryz.zeroValue220 (fun Z a4 hST => VO (F_store (.agg (encStep c).toArray) ((encStep c).toArray) hST rfl rfl Tryz.sizeOf220 (oneStep c) (Nat.le_of_ble_eq_true rfl) rfl (fun a1 hST => LW_nil (sq_n (CW_region (V (R_move t) (V (R_field fa220_1 rfl) (V (R_load rfl (load_boxA hST.has Mh (encFact c.Fact) rfl Tryz.isAgg38 Tryz.sizeOf38)) (VE (E_buildSlice (qs := #[(0, (.agg (encFact c.Fact).toArray))]) (cs := (encFact c.Fact).toArray) hST (parts1 rfl) (run_lit [(.agg (encFact c.Fact).toArray)] Tryz.underlying68 Tryz.sizeOf38 Tryz.zeroValue38 (by decide) rfl (by intro v hv; simp only [List.mem_cons, List.not_mem_nil, or_false] at hv; rcases hv with rfl <;> rfl) rfl rfl) (fun a2 J hST => ?_)))))))))))))))))
    replace hST := hST.perm (Nr (Qb (Qb Qz)) Nz)
    obtain ⟨T, G, a⟩ := bind_some a
    refine VE (F_append (enc := encFact) (v := g) (vs := (.slice (some ⟨J, 0, none⟩) 1 1)) (R := f) hST lenFact (by decide) oneFact Tryz.underlying68 info38.1 info38.2.1 rfl info38.2.2.1 info38.2.2.2 rfl rfl j (Sl.lit (enc := encFact) (l := [c.Fact]) lenFact rfl (Nat.le_of_ble_eq_true rfl) rfl (hST.at_ (Ma Mh))) G (fun a3 U I hST D => V (R_assign rfl) (LW_nil (bq_n (sq_n ?_)))))
    replace hST := hST.sel (Kr (Db (Db St)))
    exact ⟨eI, U, T, I, _, ⟨rfl, eN⟩, (hST.sel St), rfl, u, D, (by rw [Q]; exact a)⟩
  rintro E W ⟨g, z, f, k, ⟨eI, eN⟩, hST, t, u, j, a⟩
  rw [List.drop_length] at a
  rw [m_check_facts_L1] at a
  refine sq_n (CW_seq (CW_region (V (R_move t) (V (R_assign rfl) (LW_nil (sq_n (CW_ret ?_)))))))
  replace a := Option.some.inj a; subst a
  exact retQ_1 (v := g) rfl rfl ⟨_, f, rfl, hST.backRow (fun p hq => (Ml hq)) j.nd, j⟩
theorem w_slices_Index_Fact (j : Value) (t : List Fact) (c : Fact) (r : Int) (w : World) (f : Sl (Pl encFact) 3 (hp w) j t) (hm : m_slices_Index_Fact t c = some r) :
    Gives true Tryz.prog 384 [j, (.agg (encFact c).toArray)] w (.int .i64 r) := by
  have hST := ST.start (dd := true) w
  unfold m_slices_Index_Fact at hm
  refine calls_of_CW (n := 19) Tryz.func384 rfl rfl (Nat.le_of_ble_eq_true rfl) (CW_seq (CW_region (VE (E_box (v := (.agg (encFact c).toArray)) hST rfl (fun N J hST => V (R_assign rfl) (LW_nil (sq_n (CW_seq (CW_seq (CW_region (V (R_move rfl) (V (R_len Tryz.underlying68 rfl f) (V (R_move rfl) (LW_nil (sq_n ?_)))))))))))))))
  refine CW_range (fun i E W => ∃  (k : List (Nat × Obj)), (E 8 = .int .i64 (i : Nat) ∧ E 7 = .int .i64 (t.length : Nat)) ∧ ST true NoF w W (hp w) ((J, Obj.cells ((encFact c).toArray : Array Value) 38 (0, 0)) :: k) ∧ E 0 = j ∧ E 3 = (.pointer (some ⟨J, 0, none⟩)) ∧ m_slices_Index_Fact_L1 c (t.drop i) i = some r) t.length f.len ⟨_, ⟨rfl, rfl⟩, (hST.sel St), rfl, rfl, hm⟩ (by decide) (by decide) (by decide) (fun _ _ _ h => by obtain ⟨_, eIN, _⟩ := h; exact eIN) ?_ ?_
  · rintro z E W B ⟨k, ⟨eI, eN⟩, hST, u, x, a⟩
    obtain ⟨y, K, H, G, I⟩ := drop_cons B
    rw [H] at a
    rw [m_slices_Index_Fact_L1] at a
    refine CW_block (CW_seq (CW_region (V (R_move eI) (V (R_assign rfl) (LW_nil (sq_n (CW_seq ?_)))))))
    replace hST := hST.drew
    have hS0 := hST.has.sel (Kb Sn)
    refine PX_start1 hS0 Tryz_mixed (XH 0 rfl hS0 (fun _ hS => R_load x (load_boxA hS Mh (encFact c) rfl Tryz.isAgg38 Tryz.sizeOf38)) (X 1 rfl hS0 (R_move u) (X 2 rfl hS0 (R_move rfl) (XQ 3 rfl hS0 (R_indexP (enc := encFact) (i := (z : Int)) (x0 := y) Tryz.underlying68 Tryz.sizeOf38 rfl rfl f (Int.natCast_nonneg _) G) (fun M D => XH 4 rfl hS0 (fun _ hS => R_load rfl (load_atA hS D Tryz.isAgg38 Tryz.sizeOf38)) (X 5 rfl hS0 (R_eql rfl rfl (guard_agg Tryz.eqGuardType38) (bin_eql (eqInFact _ c y))) (PX_done (by kernel_rfl) (sq_n (CW_if (b := (beqFact c y)) rfl (fun g => ?_) (fun g => ?_))))))))))
    · replace a := if_t g a
      refine CW_seq (CW_region (V (R_move rfl) (V (R_assign rfl) (LW_nil (sq_n ?_)))))
      replace hST := hST.sel (Db St)
      refine CW_ret (bq_r (sq_r (bq_r (sq_r ?_))))
      replace a := Option.some.inj a; subst a
      exact retQ_1 (v := (.int .i64 ((z : Int)))) rfl rfl ⟨rfl, hST.ex⟩
    replace a := if_f g a
    exact CW_skip (bq_n (sq_n ⟨eI, _, ⟨rfl, eN⟩, (hST.sel St), u, x, (by rw [I]; exact a)⟩))
  rintro E W ⟨k, ⟨eI, eN⟩, hST, u, x, a⟩
  rw [List.drop_length] at a
  rw [m_slices_Index_Fact_L1] at a
  refine sq_n ?_
  replace hST := hST.sel (Db St)
  refine CW_seq (CW_region (V (R_assign rfl) (LW_nil (sq_n (CW_ret ?_)))))
  replace a := Option.some.inj a; subst a
  exact retQ_1 (v := (.int .i64 ((-1)))) rfl rfl ⟨rfl, hST.ex⟩
theorem w_slices_Contains_Fact (a : Value) (f : List Fact) (c : Fact) (r : Bool) (w : World) (g : Sl (Pl encFact) 3 (hp w) a f) (hm : m_slices_Contains_Fact f c = some r) :
    Gives true Tryz.prog 336 [a, (.agg (encFact c).toArray)] w (.bool r) := by
  have hST := ST.start (dd := true) w
  unfold m_slices_Contains_Fact at hm
  refine calls_of_CW (n := 9) Tryz.func336 rfl rfl (Nat.le_of_ble_eq_true rfl) (CW_seq (CW_region (VE (E_box (v := (.agg (encFact c).toArray)) hST rfl (fun k u hST => V (R_assign rfl) (LW_nil (sq_n (CW_seq (CW_region (V (R_move rfl) (V (R_load rfl (load_boxA hST.has Mh (encFact c) rfl Tryz.isAgg38 Tryz.sizeOf38)) ?_)))))))))))
  obtain ⟨j, i, hm⟩ := bind_some hm
  refine VE (E_gives (args := [a, (.agg (encFact c).toArray)]) hST rfl Tryz.call384 (by exact args2 rfl rfl) ((w_slices_Index_Fact a f c _ _ (g.mono (Pl.mono _) hST.sub_hp) i)) (fun t hST => V (R_int rfl rfl rfl) (V (R_assign rfl) (LW_nil (sq_n ?_)))))
  replace hST := hST.sel (Db St)
  refine CW_ret ?_
  replace hm := Option.some.inj hm; subst hm
  exact retQ_1 (v := (.bool ((decide (j ≥ 0))))) rfl rfl ⟨rfl, hST.ex⟩
theorem w_slices_Index_had_Fact (j : Value) (t : List Fact) (c : Fact) (r : Int) (w : World) (f : Sl (Pl encFact) 3 (hp w) j t) (hm : m_slices_Index_had_Fact t c = some r) :
    Gives true Tryz.prog 451 [j, (.agg (encFact c).toArray)] w (.int .i64 r) := by
  have hST := ST.start (dd := true) w
  unfold m_slices_Index_had_Fact at hm
  refine calls_of_CW (n := 19) Tryz.func451 rfl rfl (Nat.le_of_ble_eq_true rfl) (CW_seq (CW_region (VE (E_box (v := (.agg (encFact c).toArray)) hST rfl (fun N J hST => V (R_assign rfl) (LW_nil (sq_n (CW_seq (CW_seq (CW_region (V (R_move rfl) (V (R_len Tryz.underlying400 rfl f) (V (R_move rfl) (LW_nil (sq_n ?_)))))))))))))))
  refine CW_range (fun i E W => ∃  (k : List (Nat × Obj)), (E 8 = .int .i64 (i : Nat) ∧ E 7 = .int .i64 (t.length : Nat)) ∧ ST true NoF w W (hp w) ((J, Obj.cells ((encFact c).toArray : Array Value) 38 (0, 0)) :: k) ∧ E 0 = j ∧ E 3 = (.pointer (some ⟨J, 0, none⟩)) ∧ m_slices_Index_had_Fact_L1 c (t.drop i) i = some r) t.length f.len ⟨_, ⟨rfl, rfl⟩, (hST.sel St), rfl, rfl, hm⟩ (by decide) (by decide) (by decide) (fun _ _ _ h => by obtain ⟨_, eIN, _⟩ := h; exact eIN) ?_ ?_
  · rintro z E W B ⟨k, ⟨eI, eN⟩, hST, u, x, a⟩
    obtain ⟨y, K, H, G, I⟩ := drop_cons B
    rw [H] at a
    rw [m_slices_Index_had_Fact_L1] at a
    refine CW_block (CW_seq (CW_region (V (R_move eI) (V (R_assign rfl) (LW_nil (sq_n (CW_seq ?_)))))))
    replace hST := hST.drew
    have hS0 := hST.has.sel (Kb Sn)
    refine PX_start1 hS0 Tryz_mixed (XH 0 rfl hS0 (fun _ hS => R_load x (load_boxA hS Mh (encFact c) rfl Tryz.isAgg38 Tryz.sizeOf38)) (X 1 rfl hS0 (R_move u) (X 2 rfl hS0 (R_move rfl) (XQ 3 rfl hS0 (R_indexP (enc := encFact) (i := (z : Int)) (x0 := y) Tryz.underlying400 Tryz.sizeOf38 rfl rfl f (Int.natCast_nonneg _) G) (fun M D => XH 4 rfl hS0 (fun _ hS => R_load rfl (load_atA hS D Tryz.isAgg38 Tryz.sizeOf38)) (X 5 rfl hS0 (R_eql rfl rfl (guard_agg Tryz.eqGuardType38) (bin_eql (eqInFact _ c y))) (PX_done (by kernel_rfl) (sq_n (CW_if (b := (beqFact c y)) rfl (fun g => ?_) (fun g => ?_))))))))))
    · replace a := if_t g a
      refine CW_seq (CW_region (V (R_move rfl) (V (R_assign rfl) (LW_nil (sq_n ?_)))))
      replace hST := hST.sel (Db St)
      refine CW_ret (bq_r (sq_r (bq_r (sq_r ?_))))
      replace a := Option.some.inj a; subst a
      exact retQ_1 (v := (.int .i64 ((z : Int)))) rfl rfl ⟨rfl, hST.ex⟩
    replace a := if_f g a
    exact CW_skip (bq_n (sq_n ⟨eI, _, ⟨rfl, eN⟩, (hST.sel St), u, x, (by rw [I]; exact a)⟩))
  rintro E W ⟨k, ⟨eI, eN⟩, hST, u, x, a⟩
  rw [List.drop_length] at a
  rw [m_slices_Index_had_Fact_L1] at a
  refine sq_n ?_
  replace hST := hST.sel (Db St)
  refine CW_seq (CW_region (V (R_assign rfl) (LW_nil (sq_n (CW_ret ?_)))))
  replace a := Option.some.inj a; subst a
  exact retQ_1 (v := (.int .i64 ((-1)))) rfl rfl ⟨rfl, hST.ex⟩
theorem w_slices_Contains_had_Fact (a : Value) (f : List Fact) (c : Fact) (r : Bool) (w : World) (g : Sl (Pl encFact) 3 (hp w) a f) (hm : m_slices_Contains_had_Fact f c = some r) :
    Gives true Tryz.prog 420 [a, (.agg (encFact c).toArray)] w (.bool r) := by
  have hST := ST.start (dd := true) w
  unfold m_slices_Contains_had_Fact at hm
  refine calls_of_CW (n := 9) Tryz.func420 rfl rfl (Nat.le_of_ble_eq_true rfl) (CW_seq (CW_region (VE (E_box (v := (.agg (encFact c).toArray)) hST rfl (fun k u hST => V (R_assign rfl) (LW_nil (sq_n (CW_seq (CW_region (V (R_move rfl) (V (R_load rfl (load_boxA hST.has Mh (encFact c) rfl Tryz.isAgg38 Tryz.sizeOf38)) ?_)))))))))))
  obtain ⟨j, i, hm⟩ := bind_some hm
  refine VE (E_gives (args := [a, (.agg (encFact c).toArray)]) hST rfl Tryz.call451 (by exact args2 rfl rfl) ((w_slices_Index_had_Fact a f c _ _ (g.mono (Pl.mono _) hST.sub_hp) i)) (fun t hST => V (R_int rfl rfl rfl) (V (R_assign rfl) (LW_nil (sq_n ?_)))))
  replace hST := hST.sel (Db St)
  refine CW_ret ?_
  replace hm := Option.some.inj hm; subst hm
  exact retQ_1 (v := (.bool ((decide (j ≥ 0))))) rfl rfl ⟨rfl, hST.ex⟩
theorem w_check_had_in (a : Value) (g : List Fact) (c : Role) (f : ByteArray) (r : Bool) (w : World) (i : Sl (Pl encFact) 3 (hp w) a g) (hm : m_check_had_in g c f = some r) :
    Gives true Tryz.prog 385 [a, (.agg (encRole c).toArray), (.string f)] w (.bool r) := by
  have hST := ST.start (dd := true) w
  unfold m_check_had_in at hm
  refine calls_of_CW (n := 12) Tryz.func385 rfl rfl (Nat.le_of_ble_eq_true rfl) (CW_seq (CW_region (VE (E_box (v := (.agg (encRole c).toArray)) hST rfl (fun t x hST => V (R_assign rfl) (LW_nil (sq_n (CW_seq (CW_region (V (R_move rfl) (V (R_load rfl (load_boxA hST.has Mh (encRole c) rfl Tryz.isAgg28 Tryz.sizeOf28)) (V (R_move rfl) (V (R_build (qs := #[(0, (.agg (encRole c).toArray)), (1, (.string f))]) (v := (.agg (encFact ((⟨c, f⟩ : Fact))).toArray)) (parts2 rfl rfl) (run_build Tryz.zeroValue38 Tryz.underlying38 (pl38 _ Tryz.underlying38) (by kernel_rfl))) ?_)))))))))))))
  obtain ⟨k, j, hm⟩ := bind_some hm
  refine VE (E_gives (args := [a, (.agg (encFact ((⟨c, f⟩ : Fact))).toArray)]) hST rfl Tryz.call420 (by exact args2 rfl rfl) ((w_slices_Contains_had_Fact a g ((⟨c, f⟩ : Fact)) _ _ (i.mono (Pl.mono _) hST.sub_hp) j)) (fun u hST => V (R_assign rfl) (LW_nil (sq_n ?_))))
  replace hST := hST.sel (Db St)
  refine CW_ret ?_
  replace hm := Option.some.inj hm; subst hm
  exact retQ_1 (v := (.bool k)) rfl rfl ⟨rfl, hST.ex⟩
theorem w_slices_IndexFunc_had_Fact (g : Value) (t : List Fact) (j : Value) (D : Fact → Option Bool) (r : Int) (w : World) (c : Sl (Pl encFact) 3 (hp w) g t) (G : CbOk Tryz.prog j (hp w) (fun (x : Fact) => [(.agg (encFact x).toArray)]) (fun (r : Bool) => (.bool r)) D) (hm : m_slices_IndexFunc_had_Fact t D = some r) :
    Gives false Tryz.prog 452 [g, j] w (.int .i64 r) := by
  have hST := ST.start (dd := false) w
  unfold m_slices_IndexFunc_had_Fact at hm
  refine calls_of_CW (n := 19) Tryz.func452 rfl rfl (Nat.le_of_ble_eq_true rfl) (CW_seq (CW_region (V (R_assign rfl) (LW_nil (sq_n (CW_seq (CW_seq (CW_region (V (R_move rfl) (V (R_len Tryz.underlying400 rfl c) (V (R_move rfl) (LW_nil (sq_n (CW_range (fun i E W => ∃  (k : List (Nat × Obj)), (E 8 = .int .i64 (i : Nat) ∧ E 7 = .int .i64 (t.length : Nat)) ∧ ST false NoF w W (hp w) k ∧ E 0 = g ∧ E 1 = j ∧ m_slices_IndexFunc_had_Fact_L1 D (t.drop i) i = some r) t.length c.len ⟨_, ⟨rfl, rfl⟩, (hST.sel St), rfl, rfl, hm⟩ (by decide) (by decide) (by decide) (fun _ _ _ h => by obtain ⟨_, eIN, _⟩ := h; exact eIN) ?_ ?_))))))))))))))
  · rintro z E W H ⟨k, ⟨eI, eN⟩, hST, u, y, a⟩
    obtain ⟨B, T, M, K, N⟩ := drop_cons H
    rw [M] at a
    rw [m_slices_IndexFunc_had_Fact_L1] at a
    refine CW_block (CW_seq (CW_region (V (R_move eI) (V (R_assign rfl) (LW_nil (sq_n (CW_seq (CW_region (V (R_move y) (V (R_move u) (V (R_move rfl) (VQ (R_indexP (enc := encFact) (i := (z : Int)) (x0 := B) Tryz.underlying400 Tryz.sizeOf38 rfl rfl c (Int.natCast_nonneg _) K) (fun Y I => V (R_load rfl (load_atA hST.has I Tryz.isAgg38 Tryz.sizeOf38)) ?_)))))))))))))
    obtain ⟨Q, J, a⟩ := bind_some a
    refine VE (E_cb B hST G (Sub.refl _) rfl (args1 rfl) J (fun U hST => LW_nil (sq_n (CW_if (b := Q) rfl (fun f => ?_) (fun f => ?_)))))
    · replace a := if_t f a
      refine CW_seq (CW_region (V (R_move rfl) (V (R_assign rfl) (LW_nil (sq_n (CW_ret (bq_r (sq_r (bq_r (sq_r ?_))))))))))
      replace a := Option.some.inj a; subst a
      exact retQ_1 (v := (.int .i64 ((z : Int)))) rfl rfl ⟨rfl, hST.ex⟩
    replace a := if_f f a
    exact CW_skip (bq_n (sq_n ⟨eI, _, ⟨rfl, eN⟩, (hST.sel St), u, y, (by rw [N]; exact a)⟩))
  rintro E W ⟨k, ⟨eI, eN⟩, hST, u, y, a⟩
  rw [List.drop_length] at a
  rw [m_slices_IndexFunc_had_Fact_L1] at a
  refine sq_n (CW_seq (CW_region (V (R_assign rfl) (LW_nil (sq_n (CW_ret ?_))))))
  replace a := Option.some.inj a; subst a
  exact retQ_1 (v := (.int .i64 ((-1)))) rfl rfl ⟨rfl, hST.ex⟩
theorem w_slices_ContainsFunc_had_Fact (a : Value) (f : List Fact) (c : Value) (g : Fact → Option Bool) (r : Bool) (w : World) (i : Sl (Pl encFact) 3 (hp w) a f) (j : CbOk Tryz.prog c (hp w) (fun (x : Fact) => [(.agg (encFact x).toArray)]) (fun (r : Bool) => (.bool r)) g) (hm : m_slices_ContainsFunc_had_Fact f g = some r) :
    Gives false Tryz.prog 421 [a, c] w (.bool r) := by
  have hST := ST.start (dd := false) w
  unfold m_slices_ContainsFunc_had_Fact at hm
  refine calls_of_CW (n := 9) Tryz.func421 rfl rfl (Nat.le_of_ble_eq_true rfl) (CW_seq (CW_region (V (R_assign rfl) (LW_nil (sq_n (CW_seq (CW_region (V (R_move rfl) (V (R_move rfl) ?_)))))))))
  obtain ⟨t, k, hm⟩ := bind_some hm
  refine VE (E_gives (args := [a, c]) hST rfl Tryz.call452 (by exact args2 rfl rfl) ((w_slices_IndexFunc_had_Fact a f c g _ _ (i.mono (Pl.mono _) hST.sub_hp) (j.mono hST.sub_hp) k)) (fun u hST => V (R_int rfl rfl rfl) (V (R_assign rfl) (LW_nil (sq_n (CW_ret ?_))))))
  replace hm := Option.some.inj hm; subst hm
  exact retQ_1 (v := (.bool ((decide (t ≥ 0))))) rfl rfl ⟨rfl, hST.ex⟩
theorem w_check_had_linked_c1 (g : Fact) (k : Nat) (G : Role) (t : Nat) (f : Value) (Q : List Fact) (u : Nat) (i : ByteArray) (x : Nat) (z : ByteArray) (r : Bool) (w : World) (H : At (hp w) (.pointer (some ⟨k, 0, none⟩)) (encRole G)) (T : Sl (Pl encFact) 3 (hp w) f Q) (I : At (hp w) (.pointer (some ⟨t, 0, none⟩)) [f]) (K : At (hp w) (.pointer (some ⟨u, 0, none⟩)) [(.string i)]) (M : At (hp w) (.pointer (some ⟨x, 0, none⟩)) [(.string z)]) (hm : m_check_had_linked_c1 g G Q i z = some r) :
    Gives true Tryz.prog 422 [(.agg (encFact g).toArray), (.pointer (some ⟨k, 0, none⟩)), (.pointer (some ⟨t, 0, none⟩)), (.pointer (some ⟨u, 0, none⟩)), (.pointer (some ⟨x, 0, none⟩))] w (.bool r) := by
  have hST := ST.start (dd := true) w
  unfold m_check_had_linked_c1 at hm
  refine calls_of_CW (n := 20) Tryz.func422 rfl rfl (Nat.le_of_ble_eq_true rfl) (CW_seq (CW_region (VE (E_box (v := (.agg (encFact g).toArray)) hST rfl (fun W2 b1 hST => V (R_assign rfl) (LW_nil (sq_n (CW_seq (CW_region (V (R_field fa38_0 rfl) (V (R_load rfl (load_boxA hST.has Mh (encRole g.Role) rfl Tryz.isAgg28 Tryz.sizeOf28)) (V (R_load rfl (load_atA hST.has H Tryz.isAgg28 Tryz.sizeOf28)) (V (R_eql rfl rfl (guard_agg Tryz.eqGuardType28) (bin_eql (eqInRole _ g.Role G))) (V (R_move rfl) ?_))))))))))))))
  obtain ⟨a4, c, B⟩ := bind_some hm
  refine LW_join (J := fun E W => ∃ (N : Bool) (Y : List (Nat × Obj)), ST true NoF w W (hp w) Y ∧ E 6 = (.bool false) ∧ E 19 = (.bool N) ∧ some N = some r) 8 ?_ (fun j => ?_)
  · rintro E W ⟨N, Y, hST, a3, Z, D⟩
    refine V (R_assign Z) (LW_nil (sq_n (CW_ret ?_)))
    replace D := Option.some.inj D; subst D
    exact retQ_1 (v := (.bool N)) rfl rfl ⟨rfl, hST.ex⟩
  rcases bool_cases ((beqRole g.Role G)) with a | a
  · replace c := if_t a c
    refine Vg rfl (congrArg Value.bool a) (R_load rfl (load_at1 hST.has (y := f) I Tryz.isAgg400)) (Vg rfl (congrArg Value.bool a) (R_field fa38_1 rfl) (Vg rfl (congrArg Value.bool a) (R_load rfl (load_box1 hST.has Mh rfl Tryz.isAgg9)) (Vg rfl (congrArg Value.bool a) (R_load rfl (load_at1 hST.has (y := (.string i)) K Tryz.isAgg9)) (Vg rfl (congrArg Value.bool a) (R_build (qs := #[(0, (.string g.Who)), (1, (.string i))]) (v := (.agg (encRole ((⟨g.Who, i⟩ : Role))).toArray)) (parts2 rfl rfl) (run_build Tryz.zeroValue28 Tryz.underlying28 (pl28 _ Tryz.underlying28) (by kernel_rfl))) (Vg rfl (congrArg Value.bool a) (R_load rfl (load_at1 hST.has (y := (.string z)) M Tryz.isAgg9)) ?_)))))
    obtain ⟨a1, U, c⟩ := bind_some c
    refine VgE rfl (congrArg Value.bool a) (E_gives (args := [f, (.agg (encRole ((⟨g.Who, i⟩ : Role))).toArray), (.string z)]) hST rfl Tryz.call385 (by exact args3 rfl rfl rfl) ((w_check_had_in f Q ((⟨g.Who, i⟩ : Role)) z _ _ (T.mono (Pl.mono _) hST.sub_hp) U)) (fun a2 hST => V (R_pickT (congrArg Value.bool a) rfl) ?_))
    replace c := Option.some.inj c; subst c
    exact j _ _ ⟨a1, _, (hST.sel (Db St)), rfl, rfl, B⟩
  replace c := if_f a c
  refine Vn rfl (congrArg Value.bool a) (Vn rfl (congrArg Value.bool a) (Vn rfl (congrArg Value.bool a) (Vn rfl (congrArg Value.bool a) (Vn rfl (congrArg Value.bool a) (Vn rfl (congrArg Value.bool a) (Vn rfl (congrArg Value.bool a) (V (R_pickF (congrArg Value.bool a) rfl) ?_)))))))
  replace c := Option.some.inj c; subst c
  exact j _ _ ⟨false, _, (hST.sel (Db St)), rfl, rfl, B⟩
theorem w_check_had_linked (j : Value) (a : List Fact) (f : Role) (g : ByteArray) (i : ByteArray) (r : Bool) (w : World) (c : Sl (Pl encFact) 3 (hp w) j a) (hm : m_check_had_linked a f g i = some r) :
    Gives false Tryz.prog 386 [j, (.agg (encRole f).toArray), (.string g), (.string i)] w (.bool r) := by
  have hST := ST.start (dd := false) w
  unfold m_check_had_linked at hm
  refine calls_of_CW (n := 12) Tryz.func386 rfl rfl (Nat.le_of_ble_eq_true rfl) (CW_seq (CW_region ?_))
  obtain ⟨k, B, rfl⟩ := c.form
  refine VE (E_box (v := (.slice k a.length B)) hST rfl (fun J t hST => VE (E_box (v := (.agg (encRole f).toArray)) hST rfl (fun K u hST => VE (E_box (v := (.string g)) hST rfl (fun M y hST => VE (E_box (v := (.string i)) hST rfl (fun H z hST => V (R_assign rfl) (LW_nil (sq_n (CW_seq (CW_region (V (R_load rfl (load_box1 hST.has (Mt (Mt (Mt Mh))) rfl Tryz.isAgg400)) (V (R_makeFuncC (by exact args4 rfl rfl rfl rfl) rfl) ?_))))))))))))))
  obtain ⟨G, D, hm⟩ := bind_some hm
  refine VE (E_gives (args := [(.slice k a.length B), (.func (.func 422) #[] #[(.pointer (some ⟨u, 0, none⟩)), (.pointer (some ⟨t, 0, none⟩)), (.pointer (some ⟨y, 0, none⟩)), (.pointer (some ⟨z, 0, none⟩))])]) hST rfl Tryz.call421 (by exact args2 rfl rfl) ((w_slices_ContainsFunc_had_Fact (.slice k a.length B) a (.func (.func 422) #[] #[(.pointer (some ⟨u, 0, none⟩)), (.pointer (some ⟨t, 0, none⟩)), (.pointer (some ⟨y, 0, none⟩)), (.pointer (some ⟨z, 0, none⟩))]) (fun (x : Fact) => m_check_had_linked_c1 x f a g i) _ _ (c.mono (Pl.mono _) hST.sub_hp) ⟨422, #[], #[(.pointer (some ⟨u, 0, none⟩)), (.pointer (some ⟨t, 0, none⟩)), (.pointer (some ⟨y, 0, none⟩)), (.pointer (some ⟨z, 0, none⟩))], rfl, Tryz.call422, fun W x r hs hm => (w_check_had_linked_c1 x u f t (.slice k a.length B) a y g z i r W (At.of (hs _ _ (hST.at_ (Mt (Mt Mh)))) _ rfl) (c.mono (Pl.mono _) (hST.sub_hp.trans hs)) (At.of (hs _ _ (hST.at_ (Mt (Mt (Mt Mh))))) _ rfl) (At.of (hs _ _ (hST.at_ (Mt Mh))) _ rfl) (At.of (hs _ _ (hST.at_ Mh)) _ rfl) hm).weak⟩ D)) (fun I hST => V (R_assign rfl) (LW_nil (sq_n ?_))))
  replace hST := hST.sel (Db (Db (Db (Db St))))
  refine CW_ret ?_
  replace hm := Option.some.inj hm; subst hm
  exact retQ_1 (v := (.bool G)) rfl rfl ⟨rfl, hST.ex⟩
theorem w_check_Follows (c : Step) (j : Value) (u : List Fact) (r : Bool) (w : World) (y : Sl (Pl encFact) 3 (hp w) j u) (hm : m_check_Follows c u = some r) :
    Gives false Tryz.prog 338 [(.agg (encStep c).toArray), j] w (.bool r) := by
  have hST := ST.start (dd := false) w
  unfold m_check_Follows at hm
  refine calls_of_CW (n := 67) Tryz.func338 rfl rfl (Nat.le_of_ble_eq_true rfl) (CW_seq (CW_region (VE (E_box (v := (.agg (encStep c).toArray)) hST rfl (fun W2 b1 hST => V (R_assign rfl) (LW_nil (sq_n (CW_seq ?_))))))))
  replace hST := hST.drew
  have hS0 := hST.has.sel (Kb Sn)
  refine PX_start1 hS0 Tryz_mixed (X 0 rfl hS0 (R_move rfl) (X 1 rfl hS0 (R_field fa220_0 rfl) (XH 2 rfl hS0 (fun _ hS => R_load rfl (load_boxA hS Mh (encCred c.Cred) rfl Tryz.isAgg53 Tryz.sizeOf53)) (XE 3 rfl (E_alloc hST Tryz.zeroValue53 (fun b7 b9 hST => ?_))))))
  have hS0 := hST.has.sel (Db (Kb Sn))
  refine ⟨hS0, (X 4 rfl hS0 (R_assign rfl) (XO 5 rfl (F_store (.agg (encCred c.Cred).toArray) ((encCred c.Cred).toArray) hST rfl rfl Tryz.sizeOf53 (oneCred c.Cred) (Nat.le_of_ble_eq_true rfl) rfl (fun b8 hST => ?_))))⟩
  have hS0 := hST.has.sel (Db (Kb Sn))
  refine ⟨hS0, (PX_done (by kernel_rfl) (sq_n (CW_seq (CW_seq (CW_region (V (R_load rfl (load_boxA hST.has Mh (encCred c.Cred) rfl Tryz.isAgg53 Tryz.sizeOf53)) ?_))))))⟩
  obtain ⟨b6, a6, hm⟩ := bind_some hm
  refine VE (E_gives (args := [(.agg (encCred c.Cred).toArray)]) hST rfl Tryz.call137 (by exact args1 rfl) (Gives.weak (w_cred_Right c.Cred _ _  a6)) (fun c0 hST => V (R_not rfl) (V (R_move rfl) ?_)))
  obtain ⟨c6, k, U⟩ := bind_some hm
  refine LW_join (J := fun E W => ∃ (Q : Bool) (a4 : List (Nat × Obj)), ST false NoF w W (hp w) ((b9, Obj.cells ((encCred c.Cred).toArray : Array Value) 53 (0, 0)) :: ((b1, Obj.cells ((encStep c).toArray : Array Value) 220 (0, 0)) :: a4)) ∧ E 2 = (.pointer (some ⟨b1, 0, none⟩)) ∧ E 5 = j ∧ E 6 = (.pointer (some ⟨b9, 0, none⟩)) ∧ E 20 = (.bool Q) ∧ (if Q then some false else (if (c.Cred.Kind == 1) then some (beqS c.Cred.Who c.Fact.Who) else (if (c.Cred.Kind == 2) then (((m_check_had_in u c.Cred.B c.Fact.Who)).bind fun Y => some Y) else (if (c.Cred.Kind == 3) then (((m_check_had_linked u c.Cred.B c.Cred.Word2 c.Fact.Who)).bind fun Z => some Z) else (((m_check_had_in u c.Cred.B c.Fact.Who)).bind fun a2 => (((if a2 then (((m_check_had_in u c.Cred.C c.Fact.Who)).bind fun a3 => some a3) else some false) : Option Bool).bind fun x => some x)))))) = some r) 7 ?_ (fun N => ?_)
  · rintro E W ⟨Q, a4, hST, z, K, t, b4, a⟩
    refine LW_nil (sq_n (CW_if (b := Q) b4 (fun B => ?_) (fun B => ?_)))
    · replace a := if_t B a
      refine CW_seq (CW_region (V (R_assign rfl) (LW_nil (sq_n ?_))))
      replace hST := hST.sel (Db (Db St))
      refine CW_ret (sq_r ?_)
      replace a := Option.some.inj a; subst a
      exact retQ_1 (v := (.bool false)) rfl rfl ⟨rfl, hST.ex⟩
    replace a := if_f B a
    refine CW_skip (sq_n (CW_seq (CW_seq (CW_region (V (R_field fa53_0 t) (V (R_load rfl (load_box1 hST.has Mh rfl Tryz.isAgg3)) (LW_nil (sq_n (CW_block (CW_seq (CW_region (V (R_int rfl rfl rfl) (V (R_assign rfl) (LW_nil ?_))))))))))))))
    refine sq_n (CW_if (b := (c.Cred.Kind == 1)) rfl (fun D => ?_) (fun D => ?_))
    · replace a := if_t D a
      refine CW_seq (CW_region (V (R_field fa53_2 t) (V (R_load rfl (load_box1 hST.has Mh rfl Tryz.isAgg9)) (V (R_field fa220_1 z) (V (R_field fa38_1 rfl) (V (R_load rfl (load_box1 hST.has (Mt Mh) rfl Tryz.isAgg9)) (V (R_str rfl rfl rfl) (V (R_assign rfl) (LW_nil (sq_n ?_))))))))))
      replace hST := hST.sel (Db (Db St))
      refine CW_ret (bq_r (sq_r ?_))
      replace a := Option.some.inj a; subst a
      exact retQ_1 (v := (.bool ((beqS c.Cred.Who c.Fact.Who)))) rfl rfl ⟨rfl, hST.ex⟩
    replace a := if_f D a
    refine CW_seq (CW_region (V (R_int rfl rfl rfl) (V (R_assign rfl) (LW_nil (sq_n (CW_if (b := (c.Cred.Kind == 2)) rfl (fun G => ?_) (fun G => ?_)))))))
    · replace a := if_t G a
      refine CW_seq (CW_region (V (R_move K) (V (R_field fa53_3 t) (V (R_load rfl (load_boxA hST.has Mh (encRole c.Cred.B) rfl Tryz.isAgg28 Tryz.sizeOf28)) (V (R_field fa220_1 z) (V (R_field fa38_1 rfl) (V (R_load rfl (load_box1 hST.has (Mt Mh) rfl Tryz.isAgg9)) ?_)))))))
      obtain ⟨Y, a7, a⟩ := bind_some a
      refine VE (E_gives (args := [j, (.agg (encRole c.Cred.B).toArray), (.string c.Fact.Who)]) hST rfl Tryz.call385 (by exact args3 rfl rfl rfl) (Gives.weak (w_check_had_in j u c.Cred.B c.Fact.Who _ _ (y.mono (Pl.mono _) hST.sub_hp) a7)) (fun c1 hST => V (R_assign rfl) (LW_nil (sq_n ?_))))
      replace hST := hST.sel (Db (Db St))
      refine CW_ret (bq_r (sq_r ?_))
      replace a := Option.some.inj a; subst a
      exact retQ_1 (v := (.bool Y)) rfl rfl ⟨rfl, hST.ex⟩
    replace a := if_f G a
    refine CW_seq (CW_region (V (R_int rfl rfl rfl) (V (R_assign rfl) (LW_nil (sq_n (CW_if (b := (c.Cred.Kind == 3)) rfl (fun H => ?_) (fun H => ?_)))))))
    · replace a := if_t H a
      refine CW_seq (CW_region (V (R_move K) (V (R_field fa53_3 t) (V (R_load rfl (load_boxA hST.has Mh (encRole c.Cred.B) rfl Tryz.isAgg28 Tryz.sizeOf28)) (V (R_field fa53_5 t) (V (R_load rfl (load_box1 hST.has Mh rfl Tryz.isAgg9)) (V (R_field fa220_1 z) (V (R_field fa38_1 rfl) (V (R_load rfl (load_box1 hST.has (Mt Mh) rfl Tryz.isAgg9)) ?_)))))))))
      obtain ⟨Z, a8, a⟩ := bind_some a
      refine VE (E_gives (args := [j, (.agg (encRole c.Cred.B).toArray), (.string c.Cred.Word2), (.string c.Fact.Who)]) hST rfl Tryz.call386 (by exact args4 rfl rfl rfl rfl) ((w_check_had_linked j u c.Cred.B c.Cred.Word2 c.Fact.Who _ _ (y.mono (Pl.mono _) hST.sub_hp) a8)) (fun c2 hST => V (R_assign rfl) (LW_nil (sq_n ?_))))
      replace hST := hST.sel (Db (Db St))
      refine CW_ret (bq_r (sq_r ?_))
      replace a := Option.some.inj a; subst a
      exact retQ_1 (v := (.bool Z)) rfl rfl ⟨rfl, hST.ex⟩
    replace a := if_f H a
    refine CW_skip (bq_n (sq_n (CW_seq (CW_region (V (R_move K) (V (R_field fa53_3 t) (V (R_load rfl (load_boxA hST.has Mh (encRole c.Cred.B) rfl Tryz.isAgg28 Tryz.sizeOf28)) (V (R_field fa220_1 z) (V (R_field fa38_1 rfl) (V (R_load rfl (load_box1 hST.has (Mt Mh) rfl Tryz.isAgg9)) ?_))))))))))
    obtain ⟨a2, a9, a⟩ := bind_some a
    refine VE (E_gives (args := [j, (.agg (encRole c.Cred.B).toArray), (.string c.Fact.Who)]) hST rfl Tryz.call385 (by exact args3 rfl rfl rfl) (Gives.weak (w_check_had_in j u c.Cred.B c.Fact.Who _ _ (y.mono (Pl.mono _) hST.sub_hp) a9)) (fun c3 hST => V (R_move rfl) ?_))
    obtain ⟨c5, i, T⟩ := bind_some a
    refine LW_join (J := fun E W => ∃ (x : Bool) (a5 : List (Nat × Obj)), ST false NoF w W (hp w) a5 ∧ E 66 = (.bool x) ∧ some x = some r) 8 ?_ (fun M => ?_)
    · rintro E W ⟨x, a5, hST, b5, I⟩
      refine V (R_assign b5) (LW_nil (sq_n (CW_ret ?_)))
      replace I := Option.some.inj I; subst I
      exact retQ_1 (v := (.bool x)) rfl rfl ⟨rfl, hST.ex⟩
    rcases bool_cases a2 with f | f
    · replace i := if_t f i
      refine Vg rfl (congrArg Value.bool f) (R_move K) (Vg rfl (congrArg Value.bool f) (R_field fa53_4 t) (Vg rfl (congrArg Value.bool f) (R_load rfl (load_boxA hST.has Mh (encRole c.Cred.C) rfl Tryz.isAgg28 Tryz.sizeOf28)) (Vg rfl (congrArg Value.bool f) (R_field fa220_1 z) (Vg rfl (congrArg Value.bool f) (R_field fa38_1 rfl) (Vg rfl (congrArg Value.bool f) (R_load rfl (load_box1 hST.has (Mt Mh) rfl Tryz.isAgg9)) ?_)))))
      obtain ⟨a3, b0, i⟩ := bind_some i
      refine VgE rfl (congrArg Value.bool f) (E_gives (args := [j, (.agg (encRole c.Cred.C).toArray), (.string c.Fact.Who)]) hST rfl Tryz.call385 (by exact args3 rfl rfl rfl) (Gives.weak (w_check_had_in j u c.Cred.C c.Fact.Who _ _ (y.mono (Pl.mono _) hST.sub_hp) b0)) (fun c4 hST => V (R_pickT (congrArg Value.bool f) rfl) ?_))
      replace i := Option.some.inj i; subst i
      exact M _ _ ⟨a3, _, (hST.sel (Db (Db St))), rfl, T⟩
    replace i := if_f f i
    refine Vn rfl (congrArg Value.bool f) (Vn rfl (congrArg Value.bool f) (Vn rfl (congrArg Value.bool f) (Vn rfl (congrArg Value.bool f) (Vn rfl (congrArg Value.bool f) (Vn rfl (congrArg Value.bool f) (Vn rfl (congrArg Value.bool f) (V (R_pickF (congrArg Value.bool f) rfl) ?_)))))))
    replace i := Option.some.inj i; subst i
    exact M _ _ ⟨false, _, (hST.sel (Db (Db St))), rfl, T⟩
  rcases bool_cases ((!b6)) with g | g
  · replace k := if_t g k
    refine Vn rfl (congrArg Value.bool g) (Vn rfl (congrArg Value.bool g) (Vn rfl (congrArg Value.bool g) (Vn rfl (congrArg Value.bool g) (Vn rfl (congrArg Value.bool g) (Vn rfl (congrArg Value.bool g) (V (R_pickT (congrArg Value.bool g) rfl) ?_))))))
    replace k := Option.some.inj k; subst k
    exact N _ _ ⟨true, _, (hST.sel St), rfl, rfl, rfl, rfl, U⟩
  replace k := if_f g k
  refine Vg rfl (congrArg Value.bool g) (R_field fa220_1 rfl) (Vg rfl (congrArg Value.bool g) (R_field fa38_0 rfl) (Vg rfl (congrArg Value.bool g) (R_load rfl (load_boxA hST.has (Mt Mh) (encRole c.Fact.Role) rfl Tryz.isAgg28 Tryz.sizeOf28)) (Vg rfl (congrArg Value.bool g) (R_field fa53_1 rfl) (Vg rfl (congrArg Value.bool g) (R_load rfl (load_boxA hST.has Mh (encRole c.Cred.Head) rfl Tryz.isAgg28 Tryz.sizeOf28)) (Vg rfl (congrArg Value.bool g) (R_neq rfl rfl (guard_agg Tryz.eqGuardType28) (bin_neq (eqInRole _ c.Fact.Role c.Cred.Head))) (V (R_pickF (congrArg Value.bool g) rfl) ?_))))))
  replace k := Option.some.inj k; subst k
  exact N _ _ ⟨((!(beqRole c.Fact.Role c.Cred.Head))), _, (hST.sel St), rfl, rfl, rfl, rfl, U⟩
theorem w_check_stands (c : Value) (y : List Step) (r : Bool) (w : World) (g : Sl (Pl encStep) 12 (hp w) c y) (hm : m_check_stands y = some r) :
    Gives false Tryz.prog 337 [c] w (.bool r) := by
  have hST := ST.start (dd := false) w
  unfold m_check_stands at hm
  refine calls_of_CW (n := 22) Tryz.func337 rfl rfl (Nat.le_of_ble_eq_true rfl) (CW_seq (CW_region (V (R_assign rfl) (LW_nil (sq_n (CW_seq (CW_region (V (R_move rfl) ?_))))))))
  obtain ⟨Y, U, hm⟩ := bind_some hm
  refine VE (F_givesRow (args := [c]) _ hST rfl Tryz.call335 (by exact args1 rfl) (GivesRow.weak (w_check_facts c y _ _ (g.mono (Pl.mono _) hST.sub_hp) U)) (fun W3 v7 μ4 R8 hST N hl6 T => V (R_assign rfl) (LW_nil (sq_n (CW_seq (CW_seq (CW_region (V (R_move rfl) (V (R_len Tryz.underlying45 rfl g) (V (R_move rfl) (LW_nil (sq_n (CW_range (fun i E W => ∃  (k : List (Nat × Obj)), (E 10 = .int .i64 (i : Nat) ∧ E 9 = .int .i64 (y.length : Nat)) ∧ ST false NoF w W μ4 (R8 ++ k) ∧ E 3 = v7 ∧ E 8 = c ∧ m_check_stands_L1 Y (y.drop i) i = some r) y.length g.len ⟨_, ⟨rfl, rfl⟩, (hST.sel St), rfl, rfl, hm⟩ (by decide) (by decide) (by decide) (fun _ _ _ h => by obtain ⟨_, eIN, _⟩ := h; exact eIN) ?_ ?_)))))))))))))
  · rintro z E W D ⟨k, ⟨eI, eN⟩, hST, t, u, a⟩
    obtain ⟨f, Z, K, J, M⟩ := drop_cons D
    rw [K] at a
    rw [m_check_stands_L1] at a
    refine CW_block (CW_seq (CW_region (V (R_move eI) (VQ (R_indexP (enc := encStep) (i := (z : Int)) (x0 := f) Tryz.underlying45 Tryz.sizeOf220 u eI (g.mono (Pl.mono _) N) (Int.natCast_nonneg _) J) (fun a6 G => V (R_load rfl (load_atA hST.has G Tryz.isAgg220 Tryz.sizeOf220)) (VE (E_alloc hST Tryz.zeroValue220 (fun a2 a5 hST => V (R_assign rfl) (VO (F_store (.agg (encStep f).toArray) ((encStep f).toArray) hST rfl rfl Tryz.sizeOf220 (oneStep f) (Nat.le_of_ble_eq_true rfl) rfl (fun a3 hST => LW_nil (sq_n (CW_seq ?_)))))))))))))
    replace hST := hST.drew
    have hS0 := hST.has.sel (Kb Sn)
    refine PX_start1 hS0 Tryz_mixed (XH 0 rfl hS0 (fun _ hS => R_load rfl (load_boxA hS Mh (encStep f) rfl Tryz.isAgg220 Tryz.sizeOf220)) (X 1 rfl hS0 (R_move t) (X 2 rfl hS0 (R_move rfl) ?_)))
    obtain ⟨_, x, a⟩ := bind_some a
    refine XQ 3 rfl hS0 (R_sliceTo (i := (z : Int)) Tryz.underlying68 Tryz.sizeOf38 rfl rfl T lenFact (chk_1 x) (chk_2 x)) (fun B I => ?_)
    obtain ⟨Q, H, a⟩ := bind_some a
    refine XE 4 rfl (E_gives (args := [(.agg (encStep f).toArray), B]) hST rfl Tryz.call338 (by exact args2 rfl rfl) ((w_check_Follows f B ((Y.take (Int.toNat ((z : Int))))) _ _ (I.sl lenFact (fun b o hq => hST.at_ (Mt (Ml hq)))) H)) (fun a4 hST => ?_))
    have hS0 := hST.has.sel (Kb Sn)
    refine ⟨hS0, (X 5 rfl hS0 (R_not rfl) (PX_done (by kernel_rfl) (sq_n ?_)))⟩
    replace hST := hST.sel (Db St)
    refine CW_if (b := (!Q)) rfl (fun j => ?_) (fun j => ?_)
    · replace a := if_t j a
      refine CW_seq (CW_region (V (R_assign rfl) (LW_nil (sq_n ?_))))
      replace hST := hST.sel (Dr St)
      refine CW_ret (bq_r (sq_r (bq_r (sq_r ?_))))
      replace a := Option.some.inj a; subst a
      exact retQ_1 (v := (.bool false)) rfl rfl ⟨rfl, hST.ex⟩
    replace a := if_f j a
    exact CW_skip (bq_n (sq_n ⟨eI, _, ⟨rfl, eN⟩, (hST.sel St), t, u, (by rw [M]; exact a)⟩))
  rintro E W ⟨k, ⟨eI, eN⟩, hST, t, u, a⟩
  rw [List.drop_length] at a
  rw [m_check_stands_L1] at a
  refine sq_n ?_
  replace hST := hST.sel (Dr St)
  refine CW_seq (CW_region (V (R_assign rfl) (LW_nil (sq_n (CW_ret ?_)))))
  replace a := Option.some.inj a; subst a
  exact retQ_1 (v := (.bool true)) rfl rfl ⟨rfl, hST.ex⟩
theorem w_slices_Clone_Step (f : Value) (g : List Step) (r : List Step) (w : World) (a : Sl (Pl encStep) 12 (hp w) f g) (hm : m_slices_Clone_Step g = some r) :
    GivesRow true Tryz.prog 251 [f] w 220 encStep 12 r := by
  have hST := ST.start (dd := true) w
  unfold m_slices_Clone_Step at hm
  refine calls_of_CW (n := 8) Tryz.func251 rfl rfl (Nat.le_of_ble_eq_true rfl) (CW_seq (CW_region (V (R_assign rfl) (LW_nil (sq_n (CW_seq (CW_seq (CW_region (V (R_move rfl) ?_)))))))))
  obtain ⟨x, z, rfl⟩ := a.form
  refine V (R_slEqNil Tryz.underlying45 rfl rfl) (LW_nil (sq_n ?_))
  rcases x with _ | y
  · have t := a.isNil
    replace hm : some [] = some r := by rw [t] at hm; simpa [appB, maxLen] using hm
    refine CW_if_true (rfl) (CW_seq (CW_region (V (R_assign rfl) (LW_nil (sq_n (CW_ret (sq_r ?_)))))))
    replace hm := Option.some.inj hm; subst hm
    exact retQ_1 (v := (.slice none 0 0)) rfl rfl ⟨_, [], rfl, hST.backRow (fun p hq => by cases hq) (by simp), Row.nil _ _ _⟩
  · refine CW_if_false (rfl) (CW_skip (sq_n (CW_seq (CW_region (VE (E_buildSlice (qs := #[]) (cs := #[]) hST parts0 (run_lit [] Tryz.underlying45 Tryz.sizeOf220 Tryz.zeroValue220 (by decide) rfl (by simp) rfl rfl) (fun D j hST => V (R_move rfl) ?_)))))))
    obtain ⟨G, k, hm⟩ := bind_some hm
    refine VE (F_append (enc := encStep) (v := (.slice (some ⟨j, 0, none⟩) 0 0)) (vs := (.slice (some y) g.length z)) (R := [(j, Obj.cells (#[] : Array Value) 220 (0, 0))]) hST lenStep (by decide) oneStep Tryz.underlying45 info220.1 info220.2.1 rfl info220.2.2.1 info220.2.2.2 rfl rfl (Row.lit (l := []) (enc := encStep) rfl (by decide) rfl rfl) (a.mono (Pl.mono _) hST.sub_hp) k (fun B u i hST c => V (R_assign rfl) (LW_nil (sq_n (CW_ret ?_)))))
    replace hm := Option.some.inj hm; subst hm
    exact retQ_1 (v := u) rfl rfl ⟨_, i, rfl, hST.backRow (fun p hq => (Ml hq)) c.nd, c⟩
theorem w_slices_Delete_Step (k : Value) (D : List Step) (g : List (Nat × Obj)) (t : Int) (u : Int) (r : List Step) (w : World) {μ0 : Mem} (h0 : Ent μ0 (g ++ []) w) (c : Row 220 encStep 12 k D g) (hm : m_slices_Delete_Step D t u = some r) :
    GivesM true Tryz.prog 250 [k, (.int .i64 t), (.int .i64 u)] w (g ++ []) (fun v L1 W' => ∃ (Z : Value) (Y : List (Nat × Obj)), v = Z ∧ L1 = (Y ++ []) ∧ Row 220 encStep 12 Z r Y) := by
  have hST := ST.startE (dd := true) h0
  unfold m_slices_Delete_Step at hm
  refine calls_of_CW (n := 33) Tryz.func250 rfl rfl (Nat.le_of_ble_eq_true rfl) (CW_seq (CW_region (V (R_assign rfl) (LW_nil (sq_n (CW_seq (CW_region (V (R_move rfl) (V (R_move rfl) (V (R_move rfl) (V (R_move rfl) (V (R_lenRow Tryz.underlying45 rfl c) ?_))))))))))))
  obtain ⟨_, B, hm⟩ := bind_some hm
  refine VQ (R_slice3 (a := t) (b := u) (m := (D.length : Int)) Tryz.underlying45 Tryz.sizeOf220 c rfl rfl rfl rfl (chkP B).1 (chkP B).2.1 (chkP B).2.2.1 (chkP B).2.2.2) (fun v1 a9 => LW_nil (sq_n (CW_seq (CW_seq (CW_region (V (R_move rfl) (V (R_move rfl) (V (R_int rfl rfl rfl) (LW_nil (sq_n (CW_if (b := (t == u)) rfl (fun H => ?_) (fun H => ?_))))))))))))
  · replace hm := if_t H hm
    refine CW_seq (CW_region (V (R_move rfl) (V (R_assign rfl) (LW_nil (sq_n (CW_ret (sq_r ?_)))))))
    replace hm := Option.some.inj hm; subst hm
    exact retQ_1 (v := k) rfl rfl ⟨_, _, rfl, (hST.bkM (Kr Sn)), k, g, rfl, rfl, c⟩
  replace hm := if_f H hm
  refine CW_skip (sq_n (CW_seq (CW_region (V (R_move rfl) (V (R_lenRow Tryz.underlying45 rfl c) (V (R_assign rfl) (LW_nil (sq_n (CW_seq ?_)))))))))
  replace hST := hST.drew
  have hS0 := hST.has.sel Sn
  refine PX_start1 hS0 Tryz_mixed (X 0 rfl hS0 (R_move rfl) (X 1 rfl hS0 (R_move rfl) ?_))
  obtain ⟨_, I, hm⟩ := bind_some hm
  refine XQ 2 rfl hS0 (R_sliceTo (i := t) Tryz.underlying45 Tryz.sizeOf220 rfl rfl c lenStep (chk_1 I) (chk_2 I)) (fun b1 N => X 3 rfl hS0 (R_move rfl) (X 4 rfl hS0 (R_move rfl) ?_))
  obtain ⟨_, J, hm⟩ := bind_some hm
  refine XQ 5 rfl hS0 (R_sliceTail (i := u) Tryz.underlying45 Tryz.sizeOf220 rfl rfl c (chk_1 J) (chk_2 J)) (fun b2 Q => ?_)
  obtain ⟨b0, G, hm⟩ := bind_some hm
  refine XE 6 rfl (F_appendTail (i := (Int.toNat t)) (j := (Int.toNat u))  hST c N lenStep (by decide) oneStep Tryz.underlying45 info220.1 info220.2.2.1 (chkP G).1 (chkP G).2 Q rfl rfl (fun a7 K a6 hST x y => ?_))
  have hS0 := hST.has.sel Sn
  refine ⟨hS0, (X 7 rfl hS0 (R_assign rfl) (PX_done (by kernel_rfl) (sq_n (CW_seq (CW_region (V (R_move rfl) (V (R_move rfl) (V (R_lenRow Tryz.underlying45 rfl y) (V (R_move rfl) ?_)))))))))⟩
  obtain ⟨_, f, hm⟩ := bind_some hm
  refine VQ (R_sliceUp (a := (((D.take (Int.toNat t) ++ D.drop (Int.toNat u))).length : Int)) (b := (D.length : Int)) Tryz.underlying45 Tryz.sizeOf220 (by decide) x y rfl rfl rfl (chkP f).1 (chkP f).2.1 (chkP f).2.2.1 (chkP f).2.2.2) (fun b3 T => VO (F_clearTail (z := (⟨(⟨0, (⟨zS, zS⟩ : Role), zS, (⟨zS, zS⟩ : Role), (⟨zS, zS⟩ : Role), zS⟩ : Cred), (⟨(⟨zS, zS⟩ : Role), zS⟩ : Fact)⟩ : Step))  hST x lenStep oneStep Tryz.underlying45 Tryz.zeroValue220 T rfl rfl (fun a8 U hST M => LW_nil (sq_n (CW_seq (CW_region (V (R_move rfl) (V (R_assign rfl) (LW_nil (sq_n (CW_ret ?_)))))))))))
  replace hm := Option.some.inj hm; subst hm
  exact retQ_1 (v := K) rfl rfl ⟨_, _, rfl, (hST.bkM (Kr Sn)), K, U, rfl, rfl, (Row.keep (by decide) lenStep x y M (by have := chkP f; rw [clearT_length _ _ _ (by omega)]; omega))⟩
theorem w_check_Tight (f : Value) (u : List Step) (r : Bool) (w : World) (z : Sl (Pl encStep) 12 (hp w) f u) (hm : m_check_Tight u = some r) :
    Gives false Tryz.prog 249 [f] w (.bool r) := by
  have hST := ST.start (dd := false) w
  unfold m_check_Tight at hm
  refine calls_of_CW (n := 40) Tryz.func249 rfl rfl (Nat.le_of_ble_eq_true rfl) (CW_seq (CW_region (V (R_assign rfl) (LW_nil (sq_n (CW_seq (CW_region (V (R_move rfl) ?_))))))))
  obtain ⟨r1, d9, hm⟩ := bind_some hm
  refine VE (F_givesRow (args := [f]) _ hST rfl Tryz.call335 (by exact args1 rfl) (GivesRow.weak (w_check_facts f u _ _ (z.mono (Pl.mono _) hST.sub_hp) d9)) (fun W3 v7 μ4 R8 hST a9 hl6 M => V (R_assign rfl) (LW_nil (sq_n (CW_seq (CW_seq (CW_region (V (R_move rfl) (V (R_lenRow Tryz.underlying68 rfl M) (V (R_move rfl) (LW_nil (sq_n (CW_range (fun i E W => ∃  (N : List (Nat × Obj)), (E 11 = .int .i64 (i : Nat) ∧ E 10 = .int .i64 (r1.length : Nat)) ∧ ST false NoF w W μ4 (R8 ++ N) ∧ E 0 = f ∧ E 3 = v7 ∧ E 9 = v7 ∧ m_check_Tight_L1 r1 u (r1.drop i) i = some r) r1.length M.len ⟨_, ⟨rfl, rfl⟩, (hST.sel St), rfl, rfl, rfl, hm⟩ (by decide) (by decide) (by decide) (fun _ _ _ h => by obtain ⟨_, eIN, _⟩ := h; exact eIN) ?_ ?_)))))))))))))
  · rintro Y E W b6 ⟨N, ⟨eI, eN⟩, hST, x, Q, T, a⟩
    obtain ⟨t, e1, c5, a2, c6⟩ := drop_cons b6
    rw [c5] at a
    rw [m_check_Tight_L1] at a
    refine CW_block (CW_seq (CW_region (V (R_move eI) (VQ (R_indexRow (i := (Y : Int)) (x0 := t) Tryz.underlying68 Tryz.sizeOf38 T eI M (Int.natCast_nonneg _) a2) (fun f3 b8 => V (R_load rfl (load_ixA hST.has (fun p hq => (Ml hq)) M lenFact b8 a2 Tryz.isAgg38 Tryz.sizeOf38)) (VE (E_alloc hST Tryz.zeroValue38 (fun e5 f2 hST => V (R_assign rfl) (VO (F_store (.agg (encFact t).toArray) ((encFact t).toArray) hST rfl rfl Tryz.sizeOf38 (oneFact t) (Nat.le_of_ble_eq_true rfl) rfl (fun e6 hST => LW_nil (sq_n (CW_seq ?_)))))))))))))
    replace hST := hST.drew
    have hS0 := hST.has.sel (Kb Sn)
    refine PX_start1 hS0 Tryz_mixed (X 0 rfl hS0 (R_move Q) (X 1 rfl hS0 (R_move rfl) ?_))
    obtain ⟨_, a1, a⟩ := bind_some a
    refine XQ 2 rfl hS0 (R_sliceTo (i := (Y : Int)) Tryz.underlying68 Tryz.sizeOf38 rfl rfl M lenFact (chk_1 a1) (chk_2 a1)) (fun b1 c4 => XH 3 rfl hS0 (fun _ hS => R_load rfl (load_boxA hS Mh (encFact t) rfl Tryz.isAgg38 Tryz.sizeOf38)) ?_)
    obtain ⟨d1, b9, a⟩ := bind_some a
    refine XE 4 rfl (E_gives (args := [b1, (.agg (encFact t).toArray)]) hST rfl Tryz.call336 (by exact args2 rfl rfl) (Gives.weak (w_slices_Contains_Fact b1 ((r1.take (Int.toNat ((Y : Int))))) t _ _ (c4.sl lenFact (fun b o hq => hST.at_ (Mt (Ml hq)))) b9)) (fun e7 hST => ?_))
    have hS0 := hST.has.sel (Kb Sn)
    refine ⟨hS0, (PX_done (by kernel_rfl) (sq_n ?_))⟩
    replace hST := hST.sel (Db St)
    refine CW_if (b := d1) rfl (fun B => ?_) (fun B => ?_)
    · replace a := if_t B a
      refine CW_seq (CW_region (V (R_assign rfl) (LW_nil (sq_n ?_))))
      replace hST := hST.sel (Dr St)
      refine CW_ret (bq_r (sq_r (bq_r (sq_r ?_))))
      replace a := Option.some.inj a; subst a
      exact retQ_1 (v := (.bool false)) rfl rfl ⟨rfl, hST.ex⟩
    replace a := if_f B a
    exact CW_skip (bq_n (sq_n ⟨eI, _, ⟨rfl, eN⟩, (hST.sel St), x, Q, T, (by rw [c6]; exact a)⟩))
  rintro E W ⟨N, ⟨eI, eN⟩, hST, x, Q, T, a⟩
  rw [List.drop_length] at a
  rw [m_check_Tight_L1] at a
  refine sq_n ?_
  replace hST := hST.sel (Dr St)
  refine CW_seq (CW_seq (CW_region (V (R_move x) ?_)))
  obtain ⟨d2, c0, a⟩ := bind_some a
  refine VE (E_gives (args := [f]) hST rfl Tryz.call337 (by exact args1 rfl) ((w_check_stands f u _ _ (z.mono (Pl.mono _) (a9.trans hST.sub_hp)) c0)) (fun e8 hST => V (R_not rfl) (LW_nil (sq_n (CW_if (b := (!d2)) rfl (fun D => ?_) (fun D => ?_))))))
  · replace a := if_t D a
    refine CW_seq (CW_region (V (R_assign rfl) (LW_nil (sq_n (CW_ret (sq_r ?_))))))
    replace a := Option.some.inj a; subst a
    exact retQ_1 (v := (.bool false)) rfl rfl ⟨rfl, hST.ex⟩
  replace a := if_f D a
  refine CW_skip (sq_n (CW_seq (CW_seq (CW_region (V (R_move x) (V (R_len Tryz.underlying45 rfl z) (V (R_int rfl rfl rfl) (V (R_max2 (k := .i64) rfl rfl) (V (R_move rfl) (LW_nil (sq_n ?_)))))))))))
  obtain ⟨d6, b7, j⟩ := bind_some a
  refine CW_cut (fun E W => ∃  (Z : Mem) (a3 : List (Nat × Obj)), Sub μ4 Z ∧ ST false NoF w W Z a3 ∧ some true = some r) ?_ ?_
  · refine CW_block (CW_loop (fun m E W => ∃ (g : Int) (K : Mem) (a4 : List (Nat × Obj)), Sub μ4 K ∧ ST false NoF w W K a4 ∧ E 0 = f ∧ E 28 = (.int .i64 ((if 0 > (IntKind.i64.wrap (((u.length : Int)) - 1)) then 0 else (IntKind.i64.wrap (((u.length : Int)) - 1))))) ∧ E 29 = (.int .i64 g) ∧ m_check_Tight_L2 u m g = some d6) FUEL ⟨0, μ4, _, (Sub.refl _), (hST.sel St), x, rfl, rfl, b7⟩ ?_)
    rintro m E W ⟨g, K, a4, y, hST, a5, a6, U, c⟩
    cases m with
    | zero => rw [m_check_Tight_L2] at c; cases c
    | succ d0 =>
      rw [m_check_Tight_L2] at c
      refine CW_seq (CW_region (V (R_int U a6 rfl) (LW_nil (sq_n (CW_seq (CW_if (b := (decide (g < ((if 0 > (IntKind.i64.wrap (((u.length : Int)) - 1)) then 0 else (IntKind.i64.wrap (((u.length : Int)) - 1))))))) rfl (fun G => ?_) (fun G => ?_)))))))
      · replace c := if_t G c
        refine CW_skip (sq_n (CW_seq (CW_block (CW_seq (CW_region (V (R_move U) (V (R_assign rfl) (LW_nil (sq_n (CW_seq (CW_region (V (R_move a5) ?_))))))))))))
        obtain ⟨d3, c1, c⟩ := bind_some c
        refine VE (F_givesRow (args := [f]) _ hST rfl Tryz.call251 (by exact args1 rfl) (GivesRow.weak (w_slices_Clone_Step f u _ _ (z.mono (Pl.mono _) ((a9.trans y).trans hST.sub_hp)) c1)) (fun e9 b2 f5 c9 hST a7 hl372 b5 => V (R_move rfl) (V (R_move rfl) (V (R_int rfl rfl rfl) ?_))))
        obtain ⟨d4, c2, c⟩ := bind_some c
        have hsz := hST.size
        refine VE (E_callM (args := [b2, (.int .i64 g), (.int .i64 ((IntKind.i64.wrap (g + 1))))]) (caps := #[]) _ _ hST (Cr Qz Cn) rfl Tryz.call250 (by exact args3 rfl rfl rfl) (fun hH hN hsb hmm => GivesM.weak (w_slices_Delete_Step b2 d3 c9 g ((IntKind.i64.wrap (g + 1))) _ _ ⟨hH, hN, Sub.refl _⟩ b5 c2)) (fun f0 f4 d7 e2 hST a8 hl381 hlift b4 => ?_))
        obtain ⟨b3, e4, J, rfl, c7⟩ := b4
        replace J := J.symm; subst J
        replace hST := hST.perm (Tr Tn)
        obtain ⟨d5, c3, c⟩ := bind_some c
        refine VE (E_gives (args := [b3]) hST rfl Tryz.call337 (by exact args1 rfl) ((w_check_stands b3 d4 _ _ (c7.sl lenStep (fun b o hq => hST.at_ (Ml hq))) c3)) (fun f1 hST => LW_nil (sq_n ?_)))
        replace hST := hST.sel (Dr St)
        refine CW_if (b := d5) rfl (fun H => ?_) (fun H => ?_)
        · replace c := if_t H c
          refine CW_seq (CW_region (V (R_assign rfl) (LW_nil (sq_n (CW_ret (bq_r (sq_r (sq_r (bq_r (sq_r ?_))))))))))
          replace c := Option.some.inj c; subst c
          replace j : some false = some r := j
          replace j := Option.some.inj j; subst j
          exact retQ_1 (v := (.bool false)) rfl rfl ⟨rfl, hST.ex⟩
        replace c := if_f H c
        exact CW_skip (bq_n (sq_n (CW_region (V (R_int U rfl rfl) (V (R_move rfl) (LW_nil (sq_n ⟨d0, Nat.lt_succ_self _, ((IntKind.i64.wrap (g + 1))), d7, _, ((y.trans a7).trans a8), (hST.sel St), a5, a6, rfl, c⟩)))))))
      replace c := if_f G c
      refine CW_exit (sq_e (sq_e (bq_e (sq_n ?_))))
      replace c := Option.some.inj c; subst c
      exact ⟨K, _, y, (hST.sel St), j⟩
  rintro E W ⟨Z, a3, d8, hST, I⟩
  refine CW_seq (CW_region (V (R_assign rfl) (LW_nil (sq_n (CW_ret ?_)))))
  replace I := Option.some.inj I; subst I
  exact retQ_1 (v := (.bool true)) rfl rfl ⟨rfl, hST.ex⟩
theorem w_chain_stands (B : Value) (D : List Step) (r : Bool) (w : World) (z : Sl (Pl encStep) 12 (hp w) B D) (hm : m_chain_stands D = some r) :
    Gives false Tryz.prog 252 [B] w (.bool r) := by
  have hST := ST.start (dd := false) w
  unfold m_chain_stands at hm
  refine calls_of_CW (n := 22) Tryz.func252 rfl rfl (Nat.le_of_ble_eq_true rfl) (CW_seq (CW_region (V (R_assign rfl) (LW_nil (sq_n (CW_seq (CW_region (V (R_assign rfl) (LW_nil (sq_n (CW_seq (CW_seq (CW_region (V (R_move rfl) ?_))))))))))))))
  refine V (R_len Tryz.underlying45 rfl z) (V (R_move rfl) (LW_nil (sq_n (CW_range (fun i E W => ∃ (f : Value) (j : List Fact) (g : List (Nat × Obj)) (u : List (Nat × Obj)), (E 8 = .int .i64 (i : Nat) ∧ E 7 = .int .i64 (D.length : Nat)) ∧ ST false NoF w W (hp w) (g ++ u) ∧ E 3 = f ∧ E 6 = B ∧ Row 38 encFact 3 f j g ∧ m_chain_stands_L1 (D.drop i) j = some r) D.length z.len ⟨(.slice none 0 0), ([]), [], _, ⟨rfl, rfl⟩, (hST.sel St), rfl, rfl, (Row.nil _ _ _), hm⟩ (by decide) (by decide) (by decide) (fun _ _ _ h => by obtain ⟨_, _, _, _, eIN, _⟩ := h; exact eIN) ?_ ?_))))
  · rintro a2 E W N ⟨f, j, g, u, ⟨eI, eN⟩, hST, x, y, t, a⟩
    obtain ⟨c, b0, T, Q, U⟩ := drop_cons N
    rw [T] at a
    rw [m_chain_stands_L1] at a
    refine CW_block (CW_seq (CW_region (VQ (R_indexP (enc := encStep) (i := (a2 : Int)) (x0 := c) Tryz.underlying45 Tryz.sizeOf220 y eI z (Int.natCast_nonneg _) Q) (fun a9 I => V (R_load rfl (load_atA hST.has I Tryz.isAgg220 Tryz.sizeOf220)) (VE (E_alloc hST Tryz.zeroValue220 (fun a3 a8 hST => VO (F_store (.agg (encStep c).toArray) ((encStep c).toArray) hST rfl rfl Tryz.sizeOf220 (oneStep c) (Nat.le_of_ble_eq_true rfl) rfl (fun a4 hST => LW_nil (sq_n (CW_seq (CW_seq (CW_region (V (R_load rfl (load_boxA hST.has Mh (encStep c) rfl Tryz.isAgg220 Tryz.sizeOf220)) (V (R_move x) ?_)))))))))))))))
    obtain ⟨Z, J, a⟩ := bind_some a
    refine VE (E_gives (args := [(.agg (encStep c).toArray), f]) hST rfl Tryz.call338 (by exact args2 rfl rfl) ((w_check_Follows c f j _ _ (t.sl lenFact (fun b o hq => hST.at_ (Mt (Ml hq)))) J)) (fun a5 hST => V (R_not rfl) (LW_nil (sq_n (CW_if (b := (!Z)) rfl (fun k => ?_) (fun k => ?_))))))
    · replace a := if_t k a
      refine CW_seq (CW_region (V (R_assign rfl) (LW_nil (sq_n ?_))))
      replace hST := hST.sel (Db (Dr St))
      refine CW_ret (sq_r (bq_r (sq_r (bq_r (sq_r ?_)))))
      replace a := Option.some.inj a; subst a
      exact retQ_1 (v := (.bool false)) rfl rfl ⟨rfl, hST.ex⟩
    replace a := if_f k a
    refine CW_skip (sq_n (CW_region (V (R_move x) (V (R_field fa220_1 rfl) (V (R_load rfl (load_boxA hST.has Mh (encFact c.Fact) rfl Tryz.isAgg38 Tryz.sizeOf38)) (VE (E_buildSlice (qs := #[(0, (.agg (encFact c.Fact).toArray))]) (cs := (encFact c.Fact).toArray) hST (parts1 rfl) (run_lit [(.agg (encFact c.Fact).toArray)] Tryz.underlying68 Tryz.sizeOf38 Tryz.zeroValue38 (by decide) rfl (by intro v hv; simp only [List.mem_cons, List.not_mem_nil, or_false] at hv; rcases hv with rfl <;> rfl) rfl rfl) (fun a6 M hST => ?_))))))))
    replace hST := hST.perm (Nr (Qb (Qb Qz)) Nz)
    obtain ⟨Y, H, a⟩ := bind_some a
    refine VE (F_append (enc := encFact) (v := f) (vs := (.slice (some ⟨M, 0, none⟩) 1 1)) (R := g) hST lenFact (by decide) oneFact Tryz.underlying68 info38.1 info38.2.1 rfl info38.2.2.1 info38.2.2.2 rfl rfl t (Sl.lit (enc := encFact) (l := [c.Fact]) lenFact rfl (Nat.le_of_ble_eq_true rfl) rfl (hST.at_ (Ma Mh))) H (fun a7 a1 K hST G => V (R_assign rfl) (LW_nil (bq_n (sq_n ?_)))))
    replace hST := hST.sel (Kr (Db (Db St)))
    exact ⟨eI, a1, Y, K, _, ⟨rfl, eN⟩, (hST.sel St), rfl, y, G, (by rw [U]; exact a)⟩
  rintro E W ⟨f, j, g, u, ⟨eI, eN⟩, hST, x, y, t, a⟩
  rw [List.drop_length] at a
  rw [m_chain_stands_L1] at a
  refine sq_n ?_
  replace hST := hST.sel (Dr St)
  refine CW_seq (CW_region (V (R_assign rfl) (LW_nil (sq_n (CW_ret ?_)))))
  replace a := Option.some.inj a; subst a
  exact retQ_1 (v := (.bool true)) rfl rfl ⟨rfl, hST.ex⟩
theorem w_chain_tightened (b1 : Value) (a0 : List Step) (k : List (Nat × Obj)) (r : List Step) (w : World) {μ0 : Mem} (h0 : Ent μ0 (k ++ []) w) (e6 : Row 220 encStep 12 b1 a0 k) (hm : m_chain_tightened a0 = some r) :
    GivesM false Tryz.prog 133 [b1] w (k ++ []) (fun v L1 W' => ∃ (y1 : Value) (S2 : List (Nat × Obj)), v = y1 ∧ L1 = (S2 ++ []) ∧ Row 220 encStep 12 y1 r S2) := by
  have hST := ST.startE (dd := false) h0
  unfold m_chain_tightened at hm
  refine calls_of_CW (n := 25) Tryz.func133 rfl rfl (Nat.le_of_ble_eq_true rfl) (CW_seq (CW_region (V (R_assign rfl) (LW_nil (sq_n (CW_seq (CW_block (CW_loop (fun m E W => ∃ (i : Value) (t : List Step) (y : List (Nat × Obj)) (x : Mem) (b2 : List (Nat × Obj)), Sub μ0 x ∧ ST false (keys (k ++ [])) w W x (y ++ b2) ∧ E 0 = i ∧ Row 220 encStep 12 i t y ∧ m_chain_tightened_L1 m t = some r) FUEL ⟨b1, a0, k, μ0, _, (Sub.refl _), (hST.sel St), rfl, e6, hm⟩ ?_))))))))
  rintro m E W ⟨i, t, y, x, b2, c2, hST, J, D, c⟩
  cases m with
  | zero => rw [m_chain_tightened_L1] at c; cases c
  | succ b6 =>
    rw [m_chain_tightened_L1] at c
    refine CW_seq (CW_seq (CW_region (V (R_move J) ?_)))
    obtain ⟨e2, d1, c⟩ := bind_some c
    refine VE (E_gives (args := [i]) hST rfl Tryz.call249 (by exact args1 rfl) ((w_check_Tight i t _ _ (D.sl lenStep (fun b o hq => hST.at_ (Ml hq))) d1)) (fun f1 hST => V (R_not rfl) (LW_nil (sq_n (CW_if (b := (!e2)) rfl (fun Y => ?_) (fun Y => ?_))))))
    · replace c := if_t Y c
      refine CW_skip (sq_n (CW_block (CW_seq (CW_region (V (R_move J) (V (R_lenRow Tryz.underlying45 rfl D) (V (R_int rfl rfl rfl) (V (R_assign rfl) (LW_nil (sq_n (CW_tail ?_)))))))))))
      obtain ⟨b9, c8, c9⟩ := bind_some c
      refine CW_cut (fun E W => ∃ (N : Value) (K : List Step) (H : List (Nat × Obj)) (T : Mem) (b3 : List (Nat × Obj)), Sub x T ∧ ST false (keys (k ++ [])) w W T (H ++ b3) ∧ E 0 = N ∧ Row 220 encStep 12 N K H ∧ (m_chain_tightened_L1 b6 K) = some r) ?_ ?_
      · refine CW_block (CW_loop (fun m E W => ∃ (j : Value) (u : List Step) (z : List (Nat × Obj)) (g : Int) (G : Mem) (b4 : List (Nat × Obj)), Sub x G ∧ ST false (keys (k ++ [])) w W G (z ++ b4) ∧ E 0 = j ∧ E 3 = (.int .i64 g) ∧ Row 220 encStep 12 j u z ∧ m_chain_tightened_L2 m u g = some b9) FUEL ⟨i, t, y, ((IntKind.i64.wrap (((t.length : Int)) - 2))), x, _, (Sub.refl _), (hST.sel St), J, rfl, D, c8⟩ ?_)
        rintro m E W ⟨j, u, z, g, G, b4, a4, hST, a7, B, a2, f⟩
        cases m with
        | zero => rw [m_chain_tightened_L2] at f; cases f
        | succ b7 =>
          rw [m_chain_tightened_L2] at f
          refine CW_seq (CW_seq (CW_region (V (R_move B) (V (R_int rfl rfl rfl) (LW_nil (sq_n (CW_if (b := (decide (g ≥ 0))) rfl (fun Z => ?_) (fun Z => ?_))))))))
          · replace f := if_t Z f
            refine CW_skip (sq_n (CW_seq ?_))
            obtain ⟨f5, a, a9⟩ := bind_some f
            refine CW_cut (fun E W => ∃ (Q : Value) (M : List Step) (I : List (Nat × Obj)) (U : Mem) (b5 : List (Nat × Obj)), Sub G U ∧ ST false (keys (k ++ [])) w W U (I ++ b5) ∧ E 0 = Q ∧ E 3 = (.int .i64 g) ∧ Row 220 encStep 12 Q M I ∧ (m_chain_tightened_L2 b7 M ((IntKind.i64.wrap (g - 1)))) = some b9) ?_ ?_
            · refine CW_block (CW_seq (CW_region (V (R_move a7) ?_)))
              obtain ⟨e3, d2, a⟩ := bind_some a
              refine VE (F_givesRow (args := [j]) _ hST rfl Tryz.call251 (by exact args1 rfl) (GivesRow.weak (w_slices_Clone_Step j u _ _ (a2.sl lenStep (fun b o hq => hST.at_ (Ml hq))) d2)) (fun f2 c0 f7 d7 hST a5 hl2738 c6 => V (R_move B) (V (R_move B) (V (R_int rfl rfl rfl) ?_))))
              obtain ⟨b8, d3, a⟩ := bind_some a
              have hsz := hST.size
              refine VE (E_callM (args := [c0, (.int .i64 g), (.int .i64 ((IntKind.i64.wrap (g + 1))))]) (caps := #[]) _ _ hST (Cr Qz Cn) rfl Tryz.call250 (by exact args3 rfl rfl rfl) (fun hH hN hsb hmm => GivesM.weak (w_slices_Delete_Step c0 e3 d7 g ((IntKind.i64.wrap (g + 1))) _ _ ⟨hH, hN, Sub.refl _⟩ c6 d3)) (fun f3 f6 c1 f0 hST a6 hl2747 hlift c5 => ?_))
              obtain ⟨a8, d8, a3, rfl, b0⟩ := c5
              replace a3 := a3.symm; subst a3
              replace hST := hST.perm (Tr Tn)
              refine V (R_assign rfl) (LW_nil (sq_n (CW_seq (CW_region (V (R_move rfl) ?_)))))
              obtain ⟨e4, d4, a⟩ := bind_some a
              refine VE (E_gives (args := [a8]) hST rfl Tryz.call252 (by exact args1 rfl) ((w_chain_stands a8 b8 _ _ (b0.sl lenStep (fun b o hq => hST.at_ (Ml hq))) d4)) (fun f4 hST => LW_nil (sq_n (CW_if (b := e4) rfl (fun a1 => ?_) (fun a1 => ?_)))))
              · replace a := if_t a1 a
                refine CW_region (V (R_move rfl) (V (R_assign rfl) (LW_nil (bq_n (sq_n ?_)))))
                replace a := Option.some.inj a; subst a
                exact ⟨a8, b8, d8, c1, _, (a5.trans a6), (hST.sel (Kr (Dr St))), rfl, B, b0, a9⟩
              replace a := if_f a1 a
              refine CW_skip (bq_n (sq_n ?_))
              replace a := Option.some.inj a; subst a
              exact ⟨j, u, z, c1, _, (a5.trans a6), (hST.sel (Dr St)), a7, B, a2, a9⟩
            rintro E W ⟨Q, M, I, U, b5, c4, hST, e0, e1, d6, d0⟩
            exact CW_region (V (R_move e1) (V (R_int rfl rfl rfl) (V (R_assign rfl) (LW_nil (sq_n ⟨b7, Nat.lt_succ_self _, Q, M, I, ((IntKind.i64.wrap (g - 1))), U, _, (a4.trans c4), (hST.sel St), e0, rfl, d6, d0⟩)))))
          replace f := if_f Z f
          refine CW_exit (sq_e (sq_e (bq_e (sq_n ?_))))
          replace f := Option.some.inj f; subst f
          exact ⟨j, u, z, G, _, a4, (hST.sel St), a7, a2, c9⟩
      rintro E W ⟨N, K, H, T, b3, c3, hST, d9, d5, c7⟩
      exact bq_n (sq_n ⟨b6, Nat.lt_succ_self _, N, K, H, T, _, (c2.trans c3), (hST.sel St), d9, d5, c7⟩)
    replace c := if_f Y c
    refine CW_exit (sq_e (sq_e (bq_e (sq_n (CW_seq (CW_region (V (R_move J) (V (R_assign rfl) (LW_nil (sq_n (CW_ret ?_)))))))))))
    replace c := Option.some.inj c; subst c
    exact retQ_1 (v := i) rfl rfl ⟨_, _, rfl, (hST.bkM (Kr Sn)), i, y, rfl, rfl, D⟩
theorem w_chain_Find (a : Value) (t : List Cred) (i : Fact) (r : ((List Step) × Bool)) (w : World) (z : Sl (Pl encCred) 9 (hp w) a t) (hm : m_chain_Find t i = some r) :
    GivesM false Tryz.prog 32 [a, (.agg (encFact i).toArray)] w [] (fun v T W' => ∃ (N : Value) (I : List (Nat × Obj)), v = (.tuple #[N, (.bool (r.2))]) ∧ T = (I ++ []) ∧ Row 220 encStep 12 N r.1 I) := by
  have hST := ST.start (dd := false) w
  unfold m_chain_Find at hm
  refine calls_of_CW (n := 18) Tryz.func32 rfl rfl (Nat.le_of_ble_eq_true rfl) (CW_seq (CW_region (VE (E_box (v := (.agg (encFact i).toArray)) hST rfl (fun W2 b1 hST => V (R_assign rfl) (V (R_assign rfl) (LW_nil (sq_n (CW_seq (CW_region (V (R_move rfl) (V (R_load rfl (load_boxA hST.has Mh (encFact i) rfl Tryz.isAgg38 Tryz.sizeOf38)) ?_))))))))))))
  obtain ⟨M, K, hm⟩ := bind_some hm
  have hsz := hST.size
  refine VE (E_callM (args := [a, (.agg (encFact i).toArray)]) (caps := #[]) [] _ hST (List.Perm.refl _) rfl Tryz.call132 (by exact args2 rfl rfl) (fun _ _ _ _ => (w_chain_grown a t i _ _ (z.mono (Pl.mono _) hST.sub_hp) K)) (fun W5 v9 μ6 Y hST U hl8 hlift x => ?_))
  obtain ⟨j, H, f, rfl, D⟩ := x
  replace f := f.symm; subst f
  replace hST := hST.perm (Tr Tn)
  refine V (R_move rfl) (V (R_extract rfl rfl) (V (R_extract rfl rfl) (V (R_assign rfl) (V (R_assign rfl) (LW_nil (sq_n ?_))))))
  replace hST := hST.sel (Kr (Db St))
  refine CW_seq (CW_seq (CW_region (V (R_move rfl) (V (R_not rfl) (LW_nil (sq_n (CW_if (b := (!M.2)) rfl (fun c => ?_) (fun c => ?_))))))))
  · replace hm := if_t c hm
    refine CW_seq (CW_region (V (R_assign rfl) (V (R_assign rfl) (LW_nil (sq_n ?_)))))
    replace hST := hST.sel (Dr St)
    refine CW_ret (sq_r ?_)
    replace hm := Option.some.inj hm; subst hm
    refine retQ_2 (v := (.slice none 0 0)) (u := (.bool false)) rfl rfl rfl ?_
    replace hST : ST false _ _ _ _ ([] ++ _) := hST
    exact ⟨_, _, rfl, (hST.bkL (Kr Sn)), (.slice none 0 0), [], rfl, rfl, (Row.nil _ _ _)⟩
  replace hm := if_f c hm
  refine CW_skip (sq_n (CW_seq (CW_region (V (R_move rfl) ?_))))
  obtain ⟨a3, B, hm⟩ := bind_some hm
  have hsz := hST.size
  refine VE (E_callM (args := [j]) (caps := #[]) _ _ hST (Cr Qz Cn) rfl Tryz.call133 (by exact args1 rfl) (fun hH hN hsb hmm => (w_chain_tightened j M.1 H _ _ ⟨hH, hN, Sub.refl _⟩ D B)) (fun a2 a4 a5 Z hST Q hl22 hlift y => ?_))
  obtain ⟨k, J, g, rfl, G⟩ := y
  replace g := g.symm; subst g
  replace hST := hST.perm (Tr Tn)
  refine V (R_assign rfl) (V (R_assign rfl) (LW_nil (sq_n (CW_ret ?_))))
  replace hm := Option.some.inj hm; subst hm
  exact retQ_2 (v := k) (u := (.bool true)) rfl rfl rfl ⟨_, _, rfl, (hST.bkL (Kr Sn)), k, J, rfl, rfl, G⟩
theorem w_chain_Used (z : Value) (D : List Step) (r : List Cred) (w : World) (x : Sl (Pl encStep) 12 (hp w) z D) (hm : m_chain_Used D = some r) :
    GivesRow false Tryz.prog 52 [z] w 53 encCred 9 r := by
  have hST := ST.start (dd := false) w
  unfold m_chain_Used at hm
  refine calls_of_CW (n := 20) Tryz.func52 rfl rfl (Nat.le_of_ble_eq_true rfl) (CW_seq (CW_region (V (R_assign rfl) (LW_nil (sq_n (CW_seq (CW_region (V (R_assign rfl) (LW_nil (sq_n (CW_seq (CW_seq (CW_region (V (R_move rfl) ?_))))))))))))))
  refine V (R_len Tryz.underlying45 rfl x) (V (R_move rfl) (LW_nil (sq_n (CW_range (fun i E W => ∃ (f : Value) (j : List Cred) (g : List (Nat × Obj)) (k : List (Nat × Obj)), (E 8 = .int .i64 (i : Nat) ∧ E 7 = .int .i64 (D.length : Nat)) ∧ ST false NoF w W (hp w) (g ++ k) ∧ E 3 = f ∧ E 6 = z ∧ Row 53 encCred 9 f j g ∧ m_chain_Used_L1 (D.drop i) j = some r) D.length x.len ⟨(.slice none 0 0), ([]), [], _, ⟨rfl, rfl⟩, (hST.sel St), rfl, rfl, (Row.nil _ _ _), hm⟩ (by decide) (by decide) (by decide) (fun _ _ _ h => by obtain ⟨_, _, _, _, eIN, _⟩ := h; exact eIN) ?_ ?_))))
  · rintro a4 E W Q ⟨f, j, g, k, ⟨eI, eN⟩, hST, t, u, y, a⟩
    obtain ⟨c, b3, U, T, Y⟩ := drop_cons Q
    rw [U] at a
    rw [m_chain_Used_L1] at a
    refine CW_block (CW_seq (CW_region (VQ (R_indexP (enc := encStep) (i := (a4 : Int)) (x0 := c) Tryz.underlying45 Tryz.sizeOf220 u eI x (Int.natCast_nonneg _) T) (fun b1 I => V (R_load rfl (load_atA hST.has I Tryz.isAgg220 Tryz.sizeOf220)) (VE (E_alloc hST Tryz.zeroValue220 (fun a5 b0 hST => VO (F_store (.agg (encStep c).toArray) ((encStep c).toArray) hST rfl rfl Tryz.sizeOf220 (oneStep c) (Nat.le_of_ble_eq_true rfl) rfl (fun a6 hST => LW_nil (sq_n (CW_region (V (R_move t) (V (R_field fa220_0 rfl) (V (R_load rfl (load_boxA hST.has Mh (encCred c.Cred) rfl Tryz.isAgg53 Tryz.sizeOf53)) (VE (E_buildSlice (qs := #[(0, (.agg (encCred c.Cred).toArray))]) (cs := (encCred c.Cred).toArray) hST (parts1 rfl) (run_lit [(.agg (encCred c.Cred).toArray)] Tryz.underlying22 Tryz.sizeOf53 Tryz.zeroValue53 (by decide) rfl (by intro v hv; simp only [List.mem_cons, List.not_mem_nil, or_false] at hv; rcases hv with rfl <;> rfl) rfl rfl) (fun a7 N hST => ?_)))))))))))))))))
    replace hST := hST.perm (Nr (Qb (Qb Qz)) Nz)
    obtain ⟨Z, H, a⟩ := bind_some a
    refine VE (F_append (enc := encCred) (v := f) (vs := (.slice (some ⟨N, 0, none⟩) 1 1)) (R := g) hST lenCred (by decide) oneCred Tryz.underlying22 info53.1 info53.2.1 rfl info53.2.2.1 info53.2.2.2 rfl rfl y (Sl.lit (enc := encCred) (l := [c.Cred]) lenCred rfl (Nat.le_of_ble_eq_true rfl) rfl (hST.at_ (Ma Mh))) H (fun a8 a1 K hST G => V (R_assign rfl) (LW_nil (bq_n (sq_n ?_)))))
    replace hST := hST.sel (Kr (Db (Db St)))
    exact ⟨eI, a1, Z, K, _, ⟨rfl, eN⟩, (hST.sel St), rfl, u, G, (by rw [Y]; exact a)⟩
  rintro E W ⟨f, j, g, k, ⟨eI, eN⟩, hST, t, u, y, a⟩
  rw [List.drop_length] at a
  rw [m_chain_Used_L1] at a
  refine sq_n (CW_seq (CW_region (V (R_move t) ?_)))
  obtain ⟨b2, J, a⟩ := bind_some a
  refine VE (F_givesRow (args := [f]) _ hST rfl Tryz.call116 (by exact args1 rfl) ((w_cred_Set f j _ _ (y.sl lenCred (fun b o hq => hST.at_ (Ml hq))) J)) (fun a9 a2 b4 M hST a3 hl132 B => V (R_assign rfl) (LW_nil (sq_n ?_))))
  replace hST := hST.sel (Kr (Dr St))
  refine CW_ret ?_
  replace a := Option.some.inj a; subst a
  exact retQ_1 (v := a2) rfl rfl ⟨_, M, rfl, hST.backRow (fun p hq => (Ml hq)) B.nd, B⟩
end Go.Proofs.YtmlncblocfcmiaaGreat
