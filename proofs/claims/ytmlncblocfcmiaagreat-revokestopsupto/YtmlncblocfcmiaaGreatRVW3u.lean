/- a part of a proof of RevokeStops -/
import Derived.Test.YtmlncblocfcmiaaGreatRVW2u
set_option linter.all false
namespace Go.Proofs.YtmlncblocfcmiaaGreat
open Go.RowKit
set_option maxRecDepth 10000
theorem w_law34_RevokeStops (z : Value) (a0 : List Key) (x : Value) (a1 : List Cred) (D : Fact) (r : Bool) (w : World) (f1 : Sl relKey 2 (hp w) z a0) (f2 : Sl (Pl encCred) 9 (hp w) x a1) (hm : m_law34_RevokeStops a0 a1 D = some r) :
    Gives false Tryz.prog 8 [z, x, (.agg (encFact D).toArray)] w (.bool r) := by
  have hST := ST.start (dd := false) w
  unfold m_law34_RevokeStops at hm
  refine calls_of_CW (n := 165) Tryz.func8 rfl rfl (Nat.le_of_ble_eq_true rfl) (CW_seq (CW_region (VE (E_box (v := (.agg (encFact D).toArray)) hST rfl (fun W2 b1 hST => V (R_assign rfl) (LW_nil (sq_n (CW_seq (CW_seq (CW_region ?_))))))))))
  obtain ⟨r3, be, hm⟩ := bind_some hm
  refine VE (E_gives (args := []) hST rfl Tryz.call34 (by exact args0 ) ((w_law34_first  _ _  be)) (fun W5 hST => V (R_not rfl) (LW_nil (sq_n (CW_if (b := (!r3)) rfl (fun s8 => ?_) (fun s8 => ?_))))))
  · replace hm := if_t s8 hm
    refine CW_seq (CW_region (V (R_assign rfl) (LW_nil (sq_n ?_))))
    replace hST := hST.sel (Db St)
    refine CW_ret (sq_r ?_)
    replace hm := Option.some.inj hm; subst hm
    exact retQ_1 (v := (.bool false)) rfl rfl ⟨rfl, hST.ex⟩
  replace hm := if_f s8 hm
  refine CW_skip (sq_n (CW_seq (CW_region (V (R_move rfl) ?_))))
  obtain ⟨r7, bf, hm⟩ := bind_some hm
  have hsz := hST.size
  refine VE (E_givesD (args := [z]) (caps := #[]) [] _ hST (List.Perm.refl _) rfl Tryz.call49 (by exact args1 rfl) (fun hH hN hsb hmm => GivesD.weak (w_keys_New z a0 _ _ ⟨hH, hN, hsb⟩ (f1.mono dKey.mono (Sub.refl _)) bf)) (fun W9 dt l9 dr hST b9 hl12 al => ?_))
  obtain ⟨d9, m7, rfl, v3⟩ := al
  replace m7 := m7.symm; subst m7
  replace hST := hST.perm Tn
  refine V (R_move rfl) (V (R_extract rfl rfl) (V (R_extract rfl rfl) (V (R_assign rfl) (V (R_assign rfl) (LW_nil (sq_n (CW_seq (CW_seq (CW_region (V (R_move rfl) ?_))))))))))
  obtain ⟨bg, ao, hm⟩ := bind_some hm
  refine VE (E_gives (args := [x]) hST rfl Tryz.call21 (by exact args1 rfl) (Gives.weak (w_law05_Great x a1 _ _ (f2.mono (Pl.mono _) (b9.trans hST.sub_hp)) ao)) (fun ds hST => V (R_int rfl rfl rfl) (V (R_move rfl) ?_)))
  obtain ⟨cf, N, l3⟩ := bind_some hm
  refine LW_join (J := fun E W => ∃ (o8 : Bool) (z2 : List (Nat × Obj)), ST false NoF w W l9 ((b1, Obj.cells ((encFact D).toArray : Array Value) 38 (0, 0)) :: z2) ∧ E 0 = z ∧ E 1 = x ∧ E 5 = (.pointer (some ⟨b1, 0, none⟩)) ∧ E 7 = d9 ∧ E 8 = (.int .i64 r7.2) ∧ E 39 = (.bool o8) ∧ (((if o8 then some true else some ((r7.2 != 0))) : Option Bool).bind fun i1 => (((if i1 then some true else some ((decide (((IntKind.i64.wrap (((IntKind.i64.wrap (((D.Who.size : Int)) + ((D.Role.Owner.size : Int))))) + ((D.Role.Word.size : Int))))) > 200)))) : Option Bool).bind fun f5 => (if f5 then some true else m_law34_RevokeStops_L1 r7 a0 a1 D a1 0 ([]) ([])))) = some r) 4 ?_ (fun i0 => ?_)
  · rintro E W ⟨o8, z2, hST, z5, z6, z7, z8, av, aw, am⟩
    refine V (R_move aw) ?_
    obtain ⟨ce, a5, l2⟩ := bind_some am
    refine LW_join (J := fun E W => ∃ (i1 : Bool) (z3 : List (Nat × Obj)), ST false NoF w W l9 ((b1, Obj.cells ((encFact D).toArray : Array Value) 38 (0, 0)) :: z3) ∧ E 0 = z ∧ E 1 = x ∧ E 5 = (.pointer (some ⟨b1, 0, none⟩)) ∧ E 7 = d9 ∧ E 43 = (.bool i1) ∧ (((if i1 then some true else some ((decide (((IntKind.i64.wrap (((IntKind.i64.wrap (((D.Who.size : Int)) + ((D.Role.Owner.size : Int))))) + ((D.Role.Word.size : Int))))) > 200)))) : Option Bool).bind fun f5 => (if f5 then some true else m_law34_RevokeStops_L1 r7 a0 a1 D a1 0 ([]) ([]))) = some r) 3 ?_ (fun h9 => ?_)
    · rintro E W ⟨i1, z3, hST, z9, aa, k9, ab, ay, an⟩
      refine V (R_move ay) ?_
      obtain ⟨cd, a4, l1⟩ := bind_some an
      refine LW_join (J := fun E W => ∃ (f5 : Bool) (z4 : List (Nat × Obj)), ST false NoF w W l9 ((b1, Obj.cells ((encFact D).toArray : Array Value) 38 (0, 0)) :: z4) ∧ E 0 = z ∧ E 1 = x ∧ E 5 = (.pointer (some ⟨b1, 0, none⟩)) ∧ E 7 = d9 ∧ E 59 = (.bool f5) ∧ (if f5 then some true else m_law34_RevokeStops_L1 r7 a0 a1 D a1 0 ([]) ([])) = some r) 15 ?_ (fun h8 => ?_)
      · rintro E W ⟨f5, z4, hST, az, ac, ba, bb, bc, d7⟩
        refine LW_nil (sq_n (CW_if (b := f5) bc (fun m6 => ?_) (fun m6 => ?_)))
        · replace d7 := if_t m6 d7
          refine CW_seq (CW_region (V (R_assign rfl) (LW_nil (sq_n ?_))))
          replace hST := hST.sel (Db St)
          refine CW_ret (sq_r ?_)
          replace d7 := Option.some.inj d7; subst d7
          exact retQ_1 (v := (.bool true)) rfl rfl ⟨rfl, hST.ex⟩
        replace d7 := if_f m6 d7
        refine CW_skip (sq_n (CW_seq (CW_region (V (R_assign rfl) (V (R_assign rfl) (LW_nil (sq_n (CW_seq (CW_seq (CW_region (V (R_move ac) (V (R_len Tryz.underlying22 rfl f2) (V (R_move rfl) (LW_nil ?_))))))))))))))
        refine sq_n (CW_range (fun i E W => ∃ (c7 : Value) (d5 : List Signed) (d3 : List (Nat × Obj)) (a9 : Value) (Q : List Signed) (b6 : List (Nat × Obj)) (f4 : Mem) (m0 : List (Nat × Obj)), (E 62 = .int .i64 (i : Nat) ∧ E 61 = .int .i64 (a1.length : Nat)) ∧ Sub l9 f4 ∧ ST false NoF w W f4 ((b1, Obj.cells ((encFact D).toArray : Array Value) 38 (0, 0)) :: (d3 ++ (b6 ++ m0))) ∧ E 0 = z ∧ E 1 = x ∧ E 5 = (.pointer (some ⟨b1, 0, none⟩)) ∧ E 7 = d9 ∧ E 9 = c7 ∧ E 10 = a9 ∧ E 60 = x ∧ RowD 56 relSigned 10 f4 c7 d5 d3 ∧ RowD 56 relSigned 10 f4 a9 Q b6 ∧ m_law34_RevokeStops_L1 r7 a0 a1 D (a1.drop i) i d5 Q = some r) a1.length f2.len ⟨(.slice none 0 0), ([]), [], (.slice none 0 0), ([]), [], l9, _, ⟨rfl, rfl⟩, (Sub.refl _), (hST.sel St), az, ac, ba, bb, rfl, rfl, rfl, (RowD.nil _ _ _ _), (RowD.nil _ _ _ _), d7⟩ (by decide) (by decide) (by decide) (fun _ _ _ h => by obtain ⟨_, _, _, _, _, _, _, _, eIN, _⟩ := h; exact eIN) ?_ ?_)
        · rintro I E W x5 ⟨c7, d5, d3, a9, Q, b6, f4, m0, ⟨eI, eN⟩, H, hST, e3, g4, g5, g6, g7, f0, g8, g0, c6, j⟩
          obtain ⟨c8, e1, y6, y5, k3⟩ := drop_cons x5
          rw [y6] at j
          rw [m_law34_RevokeStops_L1] at j
          refine CW_block (CW_seq (CW_region (V (R_move eI) (VQ (R_indexP (enc := encCred) (i := (I : Int)) (x0 := c8) Tryz.underlying22 Tryz.sizeOf53 g8 eI (f2.mono (Pl.mono _) (b9.trans H)) (Int.natCast_nonneg _) y5) (fun dh x8 => V (R_load rfl (load_atA hST.has x8 Tryz.isAgg53 Tryz.sizeOf53)) (VE (E_alloc hST Tryz.zeroValue53 (fun cm de hST => V (R_assign rfl) (VO (F_store (.agg (encCred c8).toArray) ((encCred c8).toArray) hST rfl rfl Tryz.sizeOf53 (oneCred c8) (Nat.le_of_ble_eq_true rfl) rfl (fun cn hST => LW_nil (sq_n (CW_seq (CW_region (V (R_move g6) (V (R_load rfl (load_boxA hST.has Mh (encCred c8) rfl Tryz.isAgg53 Tryz.sizeOf53)) ?_))))))))))))))))
          obtain ⟨f, x9, j⟩ := bind_some j
          have hsz := hST.size
          refine VE (E_givesD (args := [d9, (.agg (encCred c8).toArray)]) (caps := #[]) [] _ hST (List.Perm.refl _) rfl Tryz.call50 (by exact args2 rfl rfl) (fun hH hN hsb hmm => GivesD.weak (w_keys_Registry_Sign d9 r7.1 c8 _ _ ⟨hH, hN, hsb⟩ (v3.mono dKeysRegistry H) x9)) (fun co dm ar ck hST K hl856 w9 => ?_))
          obtain ⟨dp, k1, rfl, g1⟩ := w9
          replace k1 := k1.symm; subst k1
          replace hST := hST.perm Tn
          refine V (R_move rfl) (V (R_extract rfl rfl) (V (R_extract rfl rfl) (VE (E_alloc hST Tryz.zeroValue56 (fun cp e8 hST => ?_)))))
          obtain ⟨b0, b2, rfl⟩ := g1.form
          refine VO (F_store (.agg #[(.int .i64 (((f.1).Cred).Kind)), (.string ((((f.1).Cred).Head).Owner)), (.string ((((f.1).Cred).Head).Word)), (.string (((f.1).Cred).Who)), (.string ((((f.1).Cred).B).Owner)), (.string ((((f.1).Cred).B).Word)), (.string ((((f.1).Cred).C).Owner)), (.string ((((f.1).Cred).C).Word)), (.string (((f.1).Cred).Word2)), (.slice b0 ((f.1).Tag).length b2)]) (#[(.int .i64 (((f.1).Cred).Kind)), (.string ((((f.1).Cred).Head).Owner)), (.string ((((f.1).Cred).Head).Word)), (.string (((f.1).Cred).Who)), (.string ((((f.1).Cred).B).Owner)), (.string ((((f.1).Cred).B).Word)), (.string ((((f.1).Cred).C).Owner)), (.string ((((f.1).Cred).C).Word)), (.string (((f.1).Cred).Word2)), (.slice b0 ((f.1).Tag).length b2)]) hST rfl rfl Tryz.sizeOf56 (by simp [Value.cells, Value.oneCell']) (Nat.le_of_ble_eq_true rfl) rfl (fun cq hST => V (R_assign rfl) (LW_nil (sq_n (CW_seq (CW_seq (CW_region (V (R_move rfl) (V (R_int rfl rfl rfl) (LW_nil (sq_n (CW_if (b := (f.2 != 0)) rfl (fun j7 => ?_) (fun j7 => ?_)))))))))))))
          · replace j := if_t j7 j
            refine CW_exit (sq_e (bq_e (sq_n ?_)))
            replace hST := hST.sel (Db (Db St))
            exact ⟨eI, c7, d5, d3, a9, Q, b6, ar, _, ⟨rfl, eN⟩, (H.trans K), (hST.sel St), e3, g4, g5, g6, g7, f0, g8, (g0.mono dSigned K), (c6.mono dSigned K), (by rw [k3]; exact j)⟩
          replace j := if_f j7 j
          refine CW_skip (sq_n (CW_seq (CW_region (V (R_move e3) (V (R_load rfl (load_boxA hST.has (Mt Mh) (encCred c8) rfl Tryz.isAgg53 Tryz.sizeOf53)) ?_)))))
          obtain ⟨c, y0, j⟩ := bind_some j
          have hsz := hST.size
          refine VE (E_givesD (args := [z, (.agg (encCred c8).toArray)]) (caps := #[]) [] _ hST (List.Perm.refl _) rfl Tryz.call36 (by exact args2 rfl rfl) (fun hH hN hsb hmm => GivesD.weak (w_revoke_Make z a0 c8 _ _ ⟨hH, hN, hsb⟩ (f1.mono dKey.mono ((b9.trans H).trans K)) y0)) (fun cr dn h6 cl hST Y hl874 x1 => ?_))
          obtain ⟨dq, k2, rfl, e6⟩ := x1
          replace k2 := k2.symm; subst k2
          replace hST := hST.perm Tn
          refine V (R_move rfl) (V (R_extract rfl rfl) (V (R_extract rfl rfl) (VE (E_alloc hST Tryz.zeroValue56 (fun ct e9 hST => ?_)))))
          obtain ⟨T, U, rfl⟩ := e6.form
          refine VO (F_store (.agg #[(.int .i64 (((c.1).Cred).Kind)), (.string ((((c.1).Cred).Head).Owner)), (.string ((((c.1).Cred).Head).Word)), (.string (((c.1).Cred).Who)), (.string ((((c.1).Cred).B).Owner)), (.string ((((c.1).Cred).B).Word)), (.string ((((c.1).Cred).C).Owner)), (.string ((((c.1).Cred).C).Word)), (.string (((c.1).Cred).Word2)), (.slice T ((c.1).Tag).length U)]) (#[(.int .i64 (((c.1).Cred).Kind)), (.string ((((c.1).Cred).Head).Owner)), (.string ((((c.1).Cred).Head).Word)), (.string (((c.1).Cred).Who)), (.string ((((c.1).Cred).B).Owner)), (.string ((((c.1).Cred).B).Word)), (.string ((((c.1).Cred).C).Owner)), (.string ((((c.1).Cred).C).Word)), (.string (((c.1).Cred).Word2)), (.slice T ((c.1).Tag).length U)]) hST rfl rfl Tryz.sizeOf56 (by simp [Value.cells, Value.oneCell']) (Nat.le_of_ble_eq_true rfl) rfl (fun cu hST => V (R_assign rfl) (LW_nil (sq_n ?_))))
          replace hST := hST.sel (Kb (Kb (Db St)))
          refine CW_seq (CW_seq (CW_region (V (R_field fa56_1 rfl) (V (R_load rfl (load_box1 hST.has Mh rfl Tryz.isAgg54)) (V (R_strOf Tryz.underlying54 Tryz.underlying5 Tryz.underlying9 rfl (e6.mono (Pl.mono _) hST.sub_hp)) (V (R_field fa56_1 rfl) (V (R_load rfl (load_box1 hST.has (Mt Mh) rfl Tryz.isAgg54)) (V (R_strOf Tryz.underlying54 Tryz.underlying5 Tryz.underlying9 rfl (g1.mono (Pl.mono _) (Y.trans hST.sub_hp))) (V (R_str rfl rfl rfl) (LW_nil (sq_n (CW_if (b := (beqS ((strI ((c.1).Tag))) ((strI ((f.1).Tag))))) rfl (fun j8 => ?_) (fun j8 => ?_)))))))))))))
          · replace j := if_t j8 j
            refine CW_seq (CW_region (V (R_assign rfl) (LW_nil (sq_n ?_))))
            replace hST := hST.sel (Db (Db (Db (Dr (Dr St)))))
            refine CW_ret (sq_r (bq_r (sq_r (bq_r (sq_r ?_)))))
            replace j := Option.some.inj j; subst j
            exact retQ_1 (v := (.bool true)) rfl rfl ⟨rfl, hST.ex⟩
          replace j := if_f j8 j
          refine CW_skip (sq_n (CW_seq (CW_seq (CW_region (V (R_move rfl) (V (R_int rfl rfl rfl) (V (R_move rfl) ?_)))))))
          obtain ⟨dl, a8, o4⟩ := bind_some j
          refine LW_join (J := fun E W => ∃ (k6 : Bool) (p2 : List (Nat × Obj)), ST false NoF w W h6 ((e9, Obj.cells (#[(.int .i64 (((c.1).Cred).Kind)), (.string ((((c.1).Cred).Head).Owner)), (.string ((((c.1).Cred).Head).Word)), (.string (((c.1).Cred).Who)), (.string ((((c.1).Cred).B).Owner)), (.string ((((c.1).Cred).B).Word)), (.string ((((c.1).Cred).C).Owner)), (.string ((((c.1).Cred).C).Word)), (.string (((c.1).Cred).Word2)), (.slice T ((c.1).Tag).length U)] : Array Value) 56 (0, 0)) :: ((e8, Obj.cells (#[(.int .i64 (((f.1).Cred).Kind)), (.string ((((f.1).Cred).Head).Owner)), (.string ((((f.1).Cred).Head).Word)), (.string (((f.1).Cred).Who)), (.string ((((f.1).Cred).B).Owner)), (.string ((((f.1).Cred).B).Word)), (.string ((((f.1).Cred).C).Owner)), (.string ((((f.1).Cred).C).Word)), (.string (((f.1).Cred).Word2)), (.slice b0 ((f.1).Tag).length b2)] : Array Value) 56 (0, 0)) :: ((b1, Obj.cells ((encFact D).toArray : Array Value) 38 (0, 0)) :: (d3 ++ (b6 ++ p2))))) ∧ E 0 = z ∧ E 1 = x ∧ E 5 = (.pointer (some ⟨b1, 0, none⟩)) ∧ E 7 = d9 ∧ E 9 = c7 ∧ E 10 = a9 ∧ E 11 = (.int .i64 ((I : Int))) ∧ E 13 = (.pointer (some ⟨e8, 0, none⟩)) ∧ E 15 = (.pointer (some ⟨e9, 0, none⟩)) ∧ E 60 = x ∧ E 61 = (.int .i64 ((a1.length : Int))) ∧ E 62 = (.int .i64 ((I : Int))) ∧ E 94 = (.bool k6) ∧ (((if k6 then some true else (((m_keys_Registry_Check r7.1 c.1)).bind fun m8 => some ((m8 == 0)))) : Option Bool).bind fun f3 => (((if f3 then some true else (((m_revoke_Good a0 c.1)).bind fun h4 => some ((!h4)))) : Option Bool).bind fun d8 => (if d8 then some false else (((appB 160 d5 ([f.1]))).bind fun c4 => (if (((Int.tmod ((I : Int)) 2)) == 0) then (((appB 160 Q ([c.1]))).bind fun e4 => (m_law34_RevokeStops_L1 r7 a0 a1 D e1 (I + 1) c4 e4)) else (m_law34_RevokeStops_L1 r7 a0 a1 D e1 (I + 1) c4 Q)))))) = some r) 4 ?_ (fun l8 => ?_)
          · rintro E W ⟨k6, p2, hST, p6, p7, p8, m2, p9, q0, q1, q2, m3, q3, q4, q5, ae, x6⟩
            refine V (R_move ae) ?_
            obtain ⟨dk, a7, o3⟩ := bind_some x6
            refine LW_join (J := fun E W => ∃ (f3 : Bool) (p3 : List (Nat × Obj)), ST false NoF w W h6 ((e9, Obj.cells (#[(.int .i64 (((c.1).Cred).Kind)), (.string ((((c.1).Cred).Head).Owner)), (.string ((((c.1).Cred).Head).Word)), (.string (((c.1).Cred).Who)), (.string ((((c.1).Cred).B).Owner)), (.string ((((c.1).Cred).B).Word)), (.string ((((c.1).Cred).C).Owner)), (.string ((((c.1).Cred).C).Word)), (.string (((c.1).Cred).Word2)), (.slice T ((c.1).Tag).length U)] : Array Value) 56 (0, 0)) :: ((e8, Obj.cells (#[(.int .i64 (((f.1).Cred).Kind)), (.string ((((f.1).Cred).Head).Owner)), (.string ((((f.1).Cred).Head).Word)), (.string (((f.1).Cred).Who)), (.string ((((f.1).Cred).B).Owner)), (.string ((((f.1).Cred).B).Word)), (.string ((((f.1).Cred).C).Owner)), (.string ((((f.1).Cred).C).Word)), (.string (((f.1).Cred).Word2)), (.slice b0 ((f.1).Tag).length b2)] : Array Value) 56 (0, 0)) :: ((b1, Obj.cells ((encFact D).toArray : Array Value) 38 (0, 0)) :: (d3 ++ (b6 ++ p3))))) ∧ E 0 = z ∧ E 1 = x ∧ E 5 = (.pointer (some ⟨b1, 0, none⟩)) ∧ E 7 = d9 ∧ E 9 = c7 ∧ E 10 = a9 ∧ E 11 = (.int .i64 ((I : Int))) ∧ E 13 = (.pointer (some ⟨e8, 0, none⟩)) ∧ E 15 = (.pointer (some ⟨e9, 0, none⟩)) ∧ E 60 = x ∧ E 61 = (.int .i64 ((a1.length : Int))) ∧ E 62 = (.int .i64 ((I : Int))) ∧ E 100 = (.bool f3) ∧ (((if f3 then some true else (((m_revoke_Good a0 c.1)).bind fun h4 => some ((!h4)))) : Option Bool).bind fun d8 => (if d8 then some false else (((appB 160 d5 ([f.1]))).bind fun c4 => (if (((Int.tmod ((I : Int)) 2)) == 0) then (((appB 160 Q ([c.1]))).bind fun e4 => (m_law34_RevokeStops_L1 r7 a0 a1 D e1 (I + 1) c4 e4)) else (m_law34_RevokeStops_L1 r7 a0 a1 D e1 (I + 1) c4 Q))))) = some r) 5 ?_ (fun l7 => ?_)
            · rintro E W ⟨f3, p3, hST, m4, q6, q7, q8, q9, r0, r1, r2, m5, r4, r5, r6, af, x7⟩
              refine V (R_move af) ?_
              obtain ⟨dj, a6, o2⟩ := bind_some x7
              refine LW_join (J := fun E W => ∃ (d8 : Bool) (p4 : List (Nat × Obj)), ST false NoF w W h6 ((e9, Obj.cells (#[(.int .i64 (((c.1).Cred).Kind)), (.string ((((c.1).Cred).Head).Owner)), (.string ((((c.1).Cred).Head).Word)), (.string (((c.1).Cred).Who)), (.string ((((c.1).Cred).B).Owner)), (.string ((((c.1).Cred).B).Word)), (.string ((((c.1).Cred).C).Owner)), (.string ((((c.1).Cred).C).Word)), (.string (((c.1).Cred).Word2)), (.slice T ((c.1).Tag).length U)] : Array Value) 56 (0, 0)) :: ((e8, Obj.cells (#[(.int .i64 (((f.1).Cred).Kind)), (.string ((((f.1).Cred).Head).Owner)), (.string ((((f.1).Cred).Head).Word)), (.string (((f.1).Cred).Who)), (.string ((((f.1).Cred).B).Owner)), (.string ((((f.1).Cred).B).Word)), (.string ((((f.1).Cred).C).Owner)), (.string ((((f.1).Cred).C).Word)), (.string (((f.1).Cred).Word2)), (.slice b0 ((f.1).Tag).length b2)] : Array Value) 56 (0, 0)) :: ((b1, Obj.cells ((encFact D).toArray : Array Value) 38 (0, 0)) :: (d3 ++ (b6 ++ p4))))) ∧ E 0 = z ∧ E 1 = x ∧ E 5 = (.pointer (some ⟨b1, 0, none⟩)) ∧ E 7 = d9 ∧ E 9 = c7 ∧ E 10 = a9 ∧ E 11 = (.int .i64 ((I : Int))) ∧ E 13 = (.pointer (some ⟨e8, 0, none⟩)) ∧ E 15 = (.pointer (some ⟨e9, 0, none⟩)) ∧ E 60 = x ∧ E 61 = (.int .i64 ((a1.length : Int))) ∧ E 62 = (.int .i64 ((I : Int))) ∧ E 106 = (.bool d8) ∧ (if d8 then some false else (((appB 160 d5 ([f.1]))).bind fun c4 => (if (((Int.tmod ((I : Int)) 2)) == 0) then (((appB 160 Q ([c.1]))).bind fun e4 => (m_law34_RevokeStops_L1 r7 a0 a1 D e1 (I + 1) c4 e4)) else (m_law34_RevokeStops_L1 r7 a0 a1 D e1 (I + 1) c4 Q)))) = some r) 5 ?_ (fun l6 => ?_)
              · rintro E W ⟨d8, p4, hST, r8, r9, s0, s1, ag, s2, ah, ai, aj, s3, s4, s5, ak, y⟩
                refine LW_nil (sq_n (CW_if (b := d8) ak (fun j9 => ?_) (fun j9 => ?_)))
                · replace y := if_t j9 y
                  refine CW_seq (CW_region (V (R_assign rfl) (LW_nil (sq_n ?_))))
                  replace hST := hST.sel (Db (Db (Db (Dr (Dr St)))))
                  refine CW_ret (sq_r (bq_r (sq_r (bq_r (sq_r ?_)))))
                  replace y := Option.some.inj y; subst y
                  exact retQ_1 (v := (.bool false)) rfl rfl ⟨rfl, hST.ex⟩
                replace y := if_f j9 y
                refine CW_skip (sq_n (CW_seq (CW_region (V (R_move ag) (V (R_load ai (load_boxA hST.has (Mt Mh) [(.int .i64 (((f.1).Cred).Kind)), (.string ((((f.1).Cred).Head).Owner)), (.string ((((f.1).Cred).Head).Word)), (.string (((f.1).Cred).Who)), (.string ((((f.1).Cred).B).Owner)), (.string ((((f.1).Cred).B).Word)), (.string ((((f.1).Cred).C).Owner)), (.string ((((f.1).Cred).C).Word)), (.string (((f.1).Cred).Word2)), (.slice b0 ((f.1).Tag).length b2)] rfl Tryz.isAgg56 Tryz.sizeOf56)) (VE (E_buildSlice (qs := #[(0, (.agg #[(.int .i64 (((f.1).Cred).Kind)), (.string ((((f.1).Cred).Head).Owner)), (.string ((((f.1).Cred).Head).Word)), (.string (((f.1).Cred).Who)), (.string ((((f.1).Cred).B).Owner)), (.string ((((f.1).Cred).B).Word)), (.string ((((f.1).Cred).C).Owner)), (.string ((((f.1).Cred).C).Word)), (.string (((f.1).Cred).Word2)), (.slice b0 ((f.1).Tag).length b2)]))]) (cs := #[(.int .i64 (((f.1).Cred).Kind)), (.string ((((f.1).Cred).Head).Owner)), (.string ((((f.1).Cred).Head).Word)), (.string (((f.1).Cred).Who)), (.string ((((f.1).Cred).B).Owner)), (.string ((((f.1).Cred).B).Word)), (.string ((((f.1).Cred).C).Owner)), (.string ((((f.1).Cred).C).Word)), (.string (((f.1).Cred).Word2)), (.slice b0 ((f.1).Tag).length b2)]) hST (parts1 rfl) (run_lit [(.agg #[(.int .i64 (((f.1).Cred).Kind)), (.string ((((f.1).Cred).Head).Owner)), (.string ((((f.1).Cred).Head).Word)), (.string (((f.1).Cred).Who)), (.string ((((f.1).Cred).B).Owner)), (.string ((((f.1).Cred).B).Word)), (.string ((((f.1).Cred).C).Owner)), (.string ((((f.1).Cred).C).Word)), (.string (((f.1).Cred).Word2)), (.slice b0 ((f.1).Tag).length b2)])] Tryz.underlying50 Tryz.sizeOf56 Tryz.zeroValue56 (by decide) rfl (by intro v hv; simp only [List.mem_cons, List.not_mem_nil, or_false] at hv; rcases hv with rfl <;> rfl) rfl rfl) (fun cv df hST => ?_))))))))
                replace hST := hST.perm (Nr (Qb (Qb (Qb (Qb Qz)))) Nz)
                obtain ⟨c4, x3, y⟩ := bind_some y
                refine VE (F_appendD (B := d3) dSigned hST (by decide) Tryz.underlying50 info56.1 info56.2.1 rfl info56.2.2.1 info56.2.2.2 rfl rfl (g0.mono dSigned (K.trans Y)) (SlW.lit dSigned (l := [f.1]) (.cons (ys := [(.int .i64 (((f.1).Cred).Kind)), (.string ((((f.1).Cred).Head).Owner)), (.string ((((f.1).Cred).Head).Word)), (.string (((f.1).Cred).Who)), (.string ((((f.1).Cred).B).Owner)), (.string ((((f.1).Cred).B).Word)), (.string ((((f.1).Cred).C).Owner)), (.string ((((f.1).Cred).C).Word)), (.string (((f.1).Cred).Word2)), (.slice b0 ((f.1).Tag).length b2)]) (relSigned.mk ⟨(.slice b0 ((f.1).Tag).length b2), rfl, (g1.mono (Pl.mono _) Y)⟩) .nil) rfl (Nat.le_of_ble_eq_true rfl) (hST.at_ (Ma Mh))) x3 (fun cw v4 p5 hST o1 => V (R_assign rfl) (LW_nil (sq_n ?_))))
                replace hST := hST.sel (Kr (Db (Kb (Db St))))
                refine CW_seq (CW_region (V (R_move ah) (V (R_div (k := .i64) (a := ((I : Int))) (b := 2) (v := (.int .i64 ((Int.tmod ((I : Int)) 2)))) rfl rfl (by decide) rfl) (V (R_int rfl rfl rfl) (LW_nil (sq_n (CW_if (b := (((Int.tmod ((I : Int)) 2)) == 0)) rfl (fun k0 => ?_) (fun k0 => ?_))))))))
                · replace y := if_t k0 y
                  refine CW_region (V (R_move s2) (V (R_load aj (load_boxA hST.has (Ma Mh) [(.int .i64 (((c.1).Cred).Kind)), (.string ((((c.1).Cred).Head).Owner)), (.string ((((c.1).Cred).Head).Word)), (.string (((c.1).Cred).Who)), (.string ((((c.1).Cred).B).Owner)), (.string ((((c.1).Cred).B).Word)), (.string ((((c.1).Cred).C).Owner)), (.string ((((c.1).Cred).C).Word)), (.string (((c.1).Cred).Word2)), (.slice T ((c.1).Tag).length U)] rfl Tryz.isAgg56 Tryz.sizeOf56)) (VE (E_buildSlice (qs := #[(0, (.agg #[(.int .i64 (((c.1).Cred).Kind)), (.string ((((c.1).Cred).Head).Owner)), (.string ((((c.1).Cred).Head).Word)), (.string (((c.1).Cred).Who)), (.string ((((c.1).Cred).B).Owner)), (.string ((((c.1).Cred).B).Word)), (.string ((((c.1).Cred).C).Owner)), (.string ((((c.1).Cred).C).Word)), (.string (((c.1).Cred).Word2)), (.slice T ((c.1).Tag).length U)]))]) (cs := #[(.int .i64 (((c.1).Cred).Kind)), (.string ((((c.1).Cred).Head).Owner)), (.string ((((c.1).Cred).Head).Word)), (.string (((c.1).Cred).Who)), (.string ((((c.1).Cred).B).Owner)), (.string ((((c.1).Cred).B).Word)), (.string ((((c.1).Cred).C).Owner)), (.string ((((c.1).Cred).C).Word)), (.string (((c.1).Cred).Word2)), (.slice T ((c.1).Tag).length U)]) hST (parts1 rfl) (run_lit [(.agg #[(.int .i64 (((c.1).Cred).Kind)), (.string ((((c.1).Cred).Head).Owner)), (.string ((((c.1).Cred).Head).Word)), (.string (((c.1).Cred).Who)), (.string ((((c.1).Cred).B).Owner)), (.string ((((c.1).Cred).B).Word)), (.string ((((c.1).Cred).C).Owner)), (.string ((((c.1).Cred).C).Word)), (.string (((c.1).Cred).Word2)), (.slice T ((c.1).Tag).length U)])] Tryz.underlying50 Tryz.sizeOf56 Tryz.zeroValue56 (by decide) rfl (by intro v hv; simp only [List.mem_cons, List.not_mem_nil, or_false] at hv; rcases hv with rfl <;> rfl) rfl rfl) (fun cx dg hST => ?_)))))
                  replace hST := hST.perm (Nr (Qb (Qr (Qb (Qb Qz)))) Nz)
                  obtain ⟨e4, x4, y⟩ := bind_some y
                  refine VE (F_appendD (B := b6) dSigned hST (by decide) Tryz.underlying50 info56.1 info56.2.1 rfl info56.2.2.1 info56.2.2.2 rfl rfl (c6.mono dSigned (K.trans Y)) (SlW.lit dSigned (l := [c.1]) (.cons (ys := [(.int .i64 (((c.1).Cred).Kind)), (.string ((((c.1).Cred).Head).Owner)), (.string ((((c.1).Cred).Head).Word)), (.string (((c.1).Cred).Who)), (.string ((((c.1).Cred).B).Owner)), (.string ((((c.1).Cred).B).Word)), (.string ((((c.1).Cred).C).Owner)), (.string ((((c.1).Cred).C).Word)), (.string (((c.1).Cred).Word2)), (.slice T ((c.1).Tag).length U)]) (relSigned.mk ⟨(.slice T ((c.1).Tag).length U), rfl, e6⟩) .nil) rfl (Nat.le_of_ble_eq_true rfl) (hST.at_ (Ma Mh))) x4 (fun cy aq ad hST x2 => V (R_assign rfl) (LW_nil (bq_n (sq_n ?_)))))
                  replace hST := hST.sel (Kr (Db (Kr (Db St))))
                  exact ⟨s5, v4, c4, p5, aq, e4, ad, h6, _, ⟨rfl, s4⟩, ((H.trans K).trans Y), (hST.sel (Sb (Pr (Pr Pz)) (Sr (Qr Qz) St))), r8, r9, s0, s1, rfl, rfl, s3, o1, x2, (by rw [k3]; exact y)⟩
                replace y := if_f k0 y
                refine CW_skip (bq_n (sq_n ?_))
                replace hST := hST.sel (Kr (Db St))
                exact ⟨s5, v4, c4, p5, a9, Q, b6, h6, _, ⟨rfl, s4⟩, ((H.trans K).trans Y), (hST.sel (Sb (Pr Pz) St)), r8, r9, s0, s1, rfl, s2, s3, o1, (c6.mono dSigned (K.trans Y)), (by rw [k3]; exact y)⟩
              rcases bool_cases f3 with a3 | a3
              · replace a6 := if_t a3 a6
                refine Vn rfl (congrArg Value.bool a3) (Vn rfl (congrArg Value.bool a3) (Vn rfl (congrArg Value.bool a3) (Vn rfl (congrArg Value.bool a3) (V (R_pickT (congrArg Value.bool a3) rfl) ?_))))
                replace a6 := Option.some.inj a6; subst a6
                exact l6 _ _ ⟨true, _, (hST.sel St), m4, q6, q7, q8, q9, r0, r1, r2, m5, r4, r5, r6, rfl, o2⟩
              replace a6 := if_f a3 a6
              refine Vg rfl (congrArg Value.bool a3) (R_move m4) (Vg rfl (congrArg Value.bool a3) (R_load m5 (load_boxA hST.has Mh [(.int .i64 (((c.1).Cred).Kind)), (.string ((((c.1).Cred).Head).Owner)), (.string ((((c.1).Cred).Head).Word)), (.string (((c.1).Cred).Who)), (.string ((((c.1).Cred).B).Owner)), (.string ((((c.1).Cred).B).Word)), (.string ((((c.1).Cred).C).Owner)), (.string ((((c.1).Cred).C).Word)), (.string (((c.1).Cred).Word2)), (.slice T ((c.1).Tag).length U)] rfl Tryz.isAgg56 Tryz.sizeOf56)) ?_)
              obtain ⟨h4, y1, a6⟩ := bind_some a6
              refine VgE rfl (congrArg Value.bool a3) (E_gives (args := [z, (.agg #[(.int .i64 (((c.1).Cred).Kind)), (.string ((((c.1).Cred).Head).Owner)), (.string ((((c.1).Cred).Head).Word)), (.string (((c.1).Cred).Who)), (.string ((((c.1).Cred).B).Owner)), (.string ((((c.1).Cred).B).Word)), (.string ((((c.1).Cred).C).Owner)), (.string ((((c.1).Cred).C).Word)), (.string (((c.1).Cred).Word2)), (.slice T ((c.1).Tag).length U)])]) hST rfl Tryz.call39 (by exact args2 rfl rfl) (Gives.weak (w_revoke_Good z a0 c.1 (.slice T ((c.1).Tag).length U) _ _ (f1.mono dKey.mono ((((b9.trans H).trans K).trans Y).trans hST.sub_hp)) (e6.mono (Pl.mono _) hST.sub_hp) y1)) (fun cz hST => Vg rfl (congrArg Value.bool a3) (R_not rfl) (V (R_pickF (congrArg Value.bool a3) rfl) ?_)))
              replace a6 := Option.some.inj a6; subst a6
              exact l6 _ _ ⟨((!h4)), _, (hST.sel St), m4, q6, q7, q8, q9, r0, r1, r2, m5, r4, r5, r6, rfl, o2⟩
            rcases bool_cases k6 with Z | Z
            · replace a7 := if_t Z a7
              refine Vn rfl (congrArg Value.bool Z) (Vn rfl (congrArg Value.bool Z) (Vn rfl (congrArg Value.bool Z) (Vn rfl (congrArg Value.bool Z) (V (R_pickT (congrArg Value.bool Z) rfl) ?_))))
              replace a7 := Option.some.inj a7; subst a7
              exact l7 _ _ ⟨true, _, (hST.sel St), p6, p7, p8, m2, p9, q0, q1, q2, m3, q3, q4, q5, rfl, o3⟩
            replace a7 := if_f Z a7
            refine Vg rfl (congrArg Value.bool Z) (R_move m2) (Vg rfl (congrArg Value.bool Z) (R_load m3 (load_boxA hST.has Mh [(.int .i64 (((c.1).Cred).Kind)), (.string ((((c.1).Cred).Head).Owner)), (.string ((((c.1).Cred).Head).Word)), (.string (((c.1).Cred).Who)), (.string ((((c.1).Cred).B).Owner)), (.string ((((c.1).Cred).B).Word)), (.string ((((c.1).Cred).C).Owner)), (.string ((((c.1).Cred).C).Word)), (.string (((c.1).Cred).Word2)), (.slice T ((c.1).Tag).length U)] rfl Tryz.isAgg56 Tryz.sizeOf56)) ?_)
            obtain ⟨m8, y2, a7⟩ := bind_some a7
            refine VgE rfl (congrArg Value.bool Z) (E_gives (args := [d9, (.agg #[(.int .i64 (((c.1).Cred).Kind)), (.string ((((c.1).Cred).Head).Owner)), (.string ((((c.1).Cred).Head).Word)), (.string (((c.1).Cred).Who)), (.string ((((c.1).Cred).B).Owner)), (.string ((((c.1).Cred).B).Word)), (.string ((((c.1).Cred).C).Owner)), (.string ((((c.1).Cred).C).Word)), (.string (((c.1).Cred).Word2)), (.slice T ((c.1).Tag).length U)])]) hST rfl Tryz.call51 (by exact args2 rfl rfl) (Gives.weak (w_keys_Registry_Check d9 r7.1 c.1 (.slice T ((c.1).Tag).length U) _ _ (v3.mono dKeysRegistry (((H.trans K).trans Y).trans hST.sub_hp)) (e6.mono (Pl.mono _) hST.sub_hp) y2)) (fun da hST => Vg rfl (congrArg Value.bool Z) (R_int rfl rfl rfl) (V (R_pickF (congrArg Value.bool Z) rfl) ?_)))
            replace a7 := Option.some.inj a7; subst a7
            exact l7 _ _ ⟨((m8 == 0)), _, (hST.sel St), p6, p7, p8, m2, p9, q0, q1, q2, m3, q3, q4, q5, rfl, o3⟩
          rcases bool_cases ((c.2 != 0)) with b3 | b3
          · replace a8 := if_t b3 a8
            refine Vn rfl (congrArg Value.bool b3) (Vn rfl (congrArg Value.bool b3) (Vn rfl (congrArg Value.bool b3) (V (R_pickT (congrArg Value.bool b3) rfl) ?_)))
            replace a8 := Option.some.inj a8; subst a8
            exact l8 _ _ ⟨true, _, (hST.sel St), e3, g4, g5, g6, g7, f0, rfl, rfl, rfl, g8, eN, eI, rfl, o4⟩
          replace a8 := if_f b3 a8
          refine Vg rfl (congrArg Value.bool b3) (R_move e3) (Vg rfl (congrArg Value.bool b3) (R_load rfl (load_boxA hST.has (Mt Mh) [(.int .i64 (((f.1).Cred).Kind)), (.string ((((f.1).Cred).Head).Owner)), (.string ((((f.1).Cred).Head).Word)), (.string (((f.1).Cred).Who)), (.string ((((f.1).Cred).B).Owner)), (.string ((((f.1).Cred).B).Word)), (.string ((((f.1).Cred).C).Owner)), (.string ((((f.1).Cred).C).Word)), (.string (((f.1).Cred).Word2)), (.slice b0 ((f.1).Tag).length b2)] rfl Tryz.isAgg56 Tryz.sizeOf56)) ?_)
          obtain ⟨ap, y3, a8⟩ := bind_some a8
          refine VgE rfl (congrArg Value.bool b3) (E_gives (args := [z, (.agg #[(.int .i64 (((f.1).Cred).Kind)), (.string ((((f.1).Cred).Head).Owner)), (.string ((((f.1).Cred).Head).Word)), (.string (((f.1).Cred).Who)), (.string ((((f.1).Cred).B).Owner)), (.string ((((f.1).Cred).B).Word)), (.string ((((f.1).Cred).C).Owner)), (.string ((((f.1).Cred).C).Word)), (.string (((f.1).Cred).Word2)), (.slice b0 ((f.1).Tag).length b2)])]) hST rfl Tryz.call39 (by exact args2 rfl rfl) (Gives.weak (w_revoke_Good z a0 f.1 (.slice b0 ((f.1).Tag).length b2) _ _ (f1.mono dKey.mono ((((b9.trans H).trans K).trans Y).trans hST.sub_hp)) (g1.mono (Pl.mono _) (Y.trans hST.sub_hp)) y3)) (fun db hST => V (R_pickF (congrArg Value.bool b3) rfl) ?_))
          replace a8 := Option.some.inj a8; subst a8
          exact l8 _ _ ⟨ap, _, (hST.sel St), e3, g4, g5, g6, g7, f0, rfl, rfl, rfl, g8, eN, eI, rfl, o4⟩
        rintro E W ⟨c7, d5, d3, a9, Q, b6, f4, m0, ⟨eI, eN⟩, H, hST, e3, g4, g5, g6, g7, f0, g8, g0, c6, j⟩
        rw [List.drop_length] at j
        rw [m_law34_RevokeStops_L1] at j
        refine sq_n (CW_seq (CW_seq (CW_region (V (R_move e3) (V (R_move g7) (V (R_move f0) ?_))))))
        obtain ⟨h5, y4, j⟩ := bind_some j
        refine VE (F_givesRow (args := [z, c7, a9]) _ hST rfl Tryz.call42 (by exact args3 rfl rfl rfl) ((w_revoke_Live z a0 c7 d5 a9 Q _ _ (f1.mono dKey.mono ((b9.trans H).trans hST.sub_hp)) (g0.sl dSigned hST.sub_hp (fun b o hq => hST.at_ (Mt (Ml hq)))) (c6.sl dSigned hST.sub_hp (fun b o hq => hST.at_ (Mt (Ma (Ml hq))))) y4)) (fun dc m9 k8 m1 hST h1 hl991 f9 => V (R_lenRow Tryz.underlying22 rfl f9) (V (R_move rfl) (LW_nil (sq_n ?_)))))
        replace hST := hST.sel (Kr (Kb (Dr St)))
        obtain ⟨k5, t3, d1⟩ := bind_some j
        refine CW_cut (fun E W => ∃  (n1 : List (Nat × Obj)), ST false NoF w W k8 ((b1, Obj.cells ((encFact D).toArray : Array Value) 38 (0, 0)) :: n1) ∧ E 1 = x ∧ E 5 = (.pointer (some ⟨b1, 0, none⟩)) ∧ (((m_chain_Find a1 D)).bind fun c0 => (((m_chain_Used c0.1)).bind fun e7 => (((m_revoke_Critical a1 D)).bind fun e0 => ((m_law34_RevokeStops_L2 c0 e7 e0 : Option ((Bool ⊕ Unit))).bind fun s => match s with | .inl y8 => some y8 | .inr _ => some true)))) = some r) ?_ ?_
        · refine CW_range (fun i E W => ∃  (i3 : List (Nat × Obj)), (E 124 = .int .i64 (i : Nat) ∧ E 123 = .int .i64 (h5.length : Nat)) ∧ ST false NoF w W k8 ((b1, Obj.cells ((encFact D).toArray : Array Value) 38 (0, 0)) :: (m1 ++ (b6 ++ i3))) ∧ E 1 = x ∧ E 5 = (.pointer (some ⟨b1, 0, none⟩)) ∧ E 10 = a9 ∧ E 122 = m9 ∧ m_law34_RevokeStops_L3 Q (h5.drop i) = some k5) h5.length f9.len ⟨_, ⟨rfl, rfl⟩, (hST.sel (Sb (Pr Pz) St)), g4, g5, f0, rfl, t3⟩ (by decide) (by decide) (by decide) (fun _ _ _ h => by obtain ⟨_, eIN, _⟩ := h; exact eIN) ?_ ?_
          · rintro k4 E W t0 ⟨i3, ⟨eI, eN⟩, hST, i5, i6, i7, i8, b5⟩
            obtain ⟨c1, v6, u7, l5, u8⟩ := drop_cons t0
            rw [u7] at b5
            rw [m_law34_RevokeStops_L3] at b5
            refine CW_block (CW_seq (CW_region (VQ (R_indexRow (i := (k4 : Int)) (x0 := c1) Tryz.underlying22 Tryz.sizeOf53 i8 eI f9 (Int.natCast_nonneg _) l5) (fun ca t7 => V (R_load rfl (load_ixA hST.has (fun p hq => (Mt (Ml hq))) f9 lenCred t7 l5 Tryz.isAgg53 Tryz.sizeOf53)) (VE (E_alloc hST Tryz.zeroValue53 (fun br n7 hST => VO (F_store (.agg (encCred c1).toArray) ((encCred c1).toArray) hST rfl rfl Tryz.sizeOf53 (oneCred c1) (Nat.le_of_ble_eq_true rfl) rfl (fun bs hST => LW_nil (sq_n (CW_seq (CW_region (V (R_move i7) (V (R_lenRowD Tryz.underlying50 rfl c6) (V (R_move rfl) (LW_nil ?_))))))))))))))))
            refine sq_n (CW_tail ?_)
            obtain ⟨z1, t5, d2⟩ := bind_some b5
            refine CW_cut (fun E W => ∃  (n4 : List (Nat × Obj)), ST false NoF w W k8 ((b1, Obj.cells ((encFact D).toArray : Array Value) 38 (0, 0)) :: (m1 ++ (b6 ++ n4))) ∧ E 1 = x ∧ E 5 = (.pointer (some ⟨b1, 0, none⟩)) ∧ E 10 = a9 ∧ E 122 = m9 ∧ E 123 = (.int .i64 ((h5.length : Int))) ∧ E 124 = (.int .i64 ((k4 : Int))) ∧ (m_law34_RevokeStops_L3 Q v6) = some k5) ?_ ?_
            · refine CW_range (fun i E W => ∃  (i4 : List (Nat × Obj)), (E 130 = .int .i64 (i : Nat) ∧ E 129 = .int .i64 (Q.length : Nat)) ∧ ST false NoF w W k8 ((n7, Obj.cells ((encCred c1).toArray : Array Value) 53 (0, 0)) :: ((b1, Obj.cells ((encFact D).toArray : Array Value) 38 (0, 0)) :: (m1 ++ (b6 ++ i4)))) ∧ E 1 = x ∧ E 5 = (.pointer (some ⟨b1, 0, none⟩)) ∧ E 10 = a9 ∧ E 17 = (.pointer (some ⟨n7, 0, none⟩)) ∧ E 122 = m9 ∧ E 123 = (.int .i64 ((h5.length : Int))) ∧ E 124 = (.int .i64 ((k4 : Int))) ∧ E 128 = a9 ∧ m_law34_RevokeStops_L4 c1 (Q.drop i) = some z1) Q.length c6.len ⟨_, ⟨rfl, rfl⟩, (hST.sel St), i5, i6, i7, rfl, i8, eN, eI, rfl, t5⟩ (by decide) (by decide) (by decide) (fun _ _ _ h => by obtain ⟨_, eIN, _⟩ := h; exact eIN) ?_ ?_
              · rintro y7 E W t1 ⟨i4, ⟨eI, eN⟩, hST, i9, j0, j1, j2, j3, j4, j5, j6, u⟩
                obtain ⟨t, bi, v0, u9, v1⟩ := drop_cons t1
                rw [v0] at u
                rw [m_law34_RevokeStops_L4] at u
                refine CW_block (CW_seq (CW_region (VQ (R_indexRowD (i := (y7 : Int)) relSigned.out Tryz.underlying50 Tryz.sizeOf56 j6 eI (c6.mono dSigned h1) (Int.natCast_nonneg _) u9) (fun cb ⟨_, ⟨ch, rfl, u4⟩, t8, bd⟩ => V (R_load rfl (load_atA (Has.hp _) (t8.mono (memL_held (fun b o hq => hST.has.2 b o (Mt (Mt (Ma (Ml hq))))))) Tryz.isAgg56 Tryz.sizeOf56)) (VE (E_alloc hST Tryz.zeroValue56 (fun bt bx hST => ?_)))))))
                obtain ⟨n0, n8, rfl⟩ := u4.form
                refine VO (F_store (.agg #[(.int .i64 t.Cred.Kind), (.string t.Cred.Head.Owner), (.string t.Cred.Head.Word), (.string t.Cred.Who), (.string t.Cred.B.Owner), (.string t.Cred.B.Word), (.string t.Cred.C.Owner), (.string t.Cred.C.Word), (.string t.Cred.Word2), (.slice n0 t.Tag.length n8)]) (#[(.int .i64 t.Cred.Kind), (.string t.Cred.Head.Owner), (.string t.Cred.Head.Word), (.string t.Cred.Who), (.string t.Cred.B.Owner), (.string t.Cred.B.Word), (.string t.Cred.C.Owner), (.string t.Cred.C.Word), (.string t.Cred.Word2), (.slice n0 t.Tag.length n8)]) hST rfl rfl Tryz.sizeOf56 (by simp [Value.cells, Value.oneCell']) (Nat.le_of_ble_eq_true rfl) rfl (fun bu hST => LW_nil (sq_n (CW_seq (CW_region (V (R_field fa56_0 rfl) (V (R_load rfl (load_boxA hST.has Mh (encCred t.Cred) rfl Tryz.isAgg53 Tryz.sizeOf53)) (V (R_load j2 (load_boxA hST.has (Mt Mh) (encCred c1) rfl Tryz.isAgg53 Tryz.sizeOf53)) (V (R_eql rfl rfl (guard_agg Tryz.eqGuardType53) (bin_eql (eqInCred _ t.Cred c1))) (LW_nil (sq_n ?_)))))))))))
                replace hST := hST.sel (Db St)
                refine CW_if (b := (beqCred t.Cred c1)) rfl (fun h0 => ?_) (fun h0 => ?_)
                · replace u := if_t h0 u
                  refine CW_seq (CW_region (V (R_assign rfl) (LW_nil (sq_n ?_))))
                  replace hST := hST.sel (Db (Db (Dr (Dr St))))
                  refine CW_ret (bq_r (sq_r (bq_r (sq_r (bq_r (sq_r (bq_r (sq_r ?_))))))))
                  replace u := Option.some.inj u; subst u
                  replace d2 : some (Sum.inl false) = some k5 := d2
                  replace d2 := Option.some.inj d2; subst d2
                  replace d1 : some false = some r := d1
                  replace d1 := Option.some.inj d1; subst d1
                  exact retQ_1 (v := (.bool false)) rfl rfl ⟨rfl, hST.ex⟩
                replace u := if_f h0 u
                exact CW_skip (bq_n (sq_n ⟨eI, _, ⟨rfl, eN⟩, (hST.sel St), i9, j0, j1, j2, j3, j4, j5, j6, (by rw [v1]; exact u)⟩))
              rintro E W ⟨i4, ⟨eI, eN⟩, hST, i9, j0, j1, j2, j3, j4, j5, j6, u⟩
              rw [List.drop_length] at u
              rw [m_law34_RevokeStops_L4] at u
              refine sq_n ?_
              replace u := Option.some.inj u; subst u
              exact ⟨_, (hST.sel (Db St)), i9, j0, j1, j3, j4, j5, d2⟩
            rintro E W ⟨n4, hST, w3, w4, w5, w6, w7, w8, t4⟩
            exact bq_n (sq_n ⟨w8, _, ⟨rfl, w7⟩, (hST.sel St), w3, w4, w5, w6, (by rw [u8]; exact t4)⟩)
          rintro E W ⟨i3, ⟨eI, eN⟩, hST, i5, i6, i7, i8, b5⟩
          rw [List.drop_length] at b5
          rw [m_law34_RevokeStops_L3] at b5
          refine sq_n ?_
          replace b5 := Option.some.inj b5; subst b5
          exact ⟨_, (hST.sel (Kb (Dr (Dr St)))), i5, i6, d1⟩
        rintro E W ⟨n1, hST, n9, o0, c3⟩
        refine CW_seq (CW_region (V (R_move n9) (V (R_load o0 (load_boxA hST.has Mh (encFact D) rfl Tryz.isAgg38 Tryz.sizeOf38)) ?_)))
        obtain ⟨c0, t9, c3⟩ := bind_some c3
        have hsz := hST.size
        refine VE (E_callM (args := [x, (.agg (encFact D).toArray)]) (caps := #[]) [] _ hST (List.Perm.refl _) rfl Tryz.call32 (by exact args2 rfl rfl) (fun _ _ _ _ => (w_chain_Find x a1 D _ _ (f2.mono (Pl.mono _) (((b9.trans H).trans h1).trans hST.sub_hp)) t9)) (fun bl cg ci bj hST p0 hl1441 hlift s6 => ?_))
        obtain ⟨o9, bk, h3, rfl, v2⟩ := s6
        replace h3 := h3.symm; subst h3
        replace hST := hST.perm (Tr Tn)
        refine V (R_move rfl) (V (R_extract rfl rfl) (V (R_extract rfl rfl) (V (R_assign rfl) (V (R_assign rfl) (LW_nil (sq_n (CW_seq (CW_region (V (R_move rfl) ?_)))))))))
        obtain ⟨e7, u0, c3⟩ := bind_some c3
        refine VE (F_givesRow (args := [o9]) _ hST rfl Tryz.call52 (by exact args1 rfl) ((w_chain_Used o9 c0.1 _ _ (v2.sl lenStep (fun b o hq => hST.at_ (Ml hq))) u0)) (fun bm g2 cj n5 hST p1 hl1454 s7 => V (R_assign rfl) (LW_nil (sq_n ?_))))
        replace hST := hST.sel (Kr (Dr St))
        refine CW_seq (CW_seq (CW_region (V (R_move n9) (V (R_load o0 (load_boxA hST.has (Ma Mh) (encFact D) rfl Tryz.isAgg38 Tryz.sizeOf38)) ?_))))
        obtain ⟨e0, u1, c3⟩ := bind_some c3
        refine VE (F_givesRow (args := [x, (.agg (encFact D).toArray)]) _ hST rfl Tryz.call47 (by exact args2 rfl rfl) ((w_revoke_Critical x a1 D _ _ (f2.mono (Pl.mono _) (((((b9.trans H).trans h1).trans p0).trans p1).trans hST.sub_hp)) u1)) (fun bn o7 k7 n6 hST au hl1463 e5 => V (R_lenRow Tryz.underlying22 rfl e5) (V (R_move rfl) (LW_nil (sq_n ?_)))))
        replace hST := hST.sel (Kr (Kr (Db St)))
        obtain ⟨o6, t2, d0⟩ := bind_some c3
        refine CW_cut (fun E W => ∃  (n2 : List (Nat × Obj)), ST false NoF w W k7 n2 ∧ some true = some r) ?_ ?_
        · refine CW_range (fun i E W => ∃  (i2 : List (Nat × Obj)), (E 152 = .int .i64 (i : Nat) ∧ E 151 = .int .i64 (e0.length : Nat)) ∧ ST false NoF w W k7 (n6 ++ (n5 ++ i2)) ∧ E 21 = (.bool c0.2) ∧ E 22 = g2 ∧ E 150 = o7 ∧ m_law34_RevokeStops_L2 c0 e7 (e0.drop i) = some o6) e0.length e5.len ⟨_, ⟨rfl, rfl⟩, (hST.sel St), rfl, rfl, rfl, t2⟩ (by decide) (by decide) (by decide) (fun _ _ _ h => by obtain ⟨_, eIN, _⟩ := h; exact eIN) ?_ ?_
          · rintro o5 E W s9 ⟨i2, ⟨eI, eN⟩, hST, f6, f7, f8, b4⟩
            obtain ⟨d6, v5, u5, l4, u6⟩ := drop_cons s9
            rw [u5] at b4
            rw [m_law34_RevokeStops_L2] at b4
            refine CW_block (CW_seq (CW_region (VQ (R_indexRow (i := (o5 : Int)) (x0 := d6) Tryz.underlying22 Tryz.sizeOf53 f8 eI e5 (Int.natCast_nonneg _) l4) (fun bz t6 => V (R_load rfl (load_ixA hST.has (fun p hq => (Ml hq)) e5 lenCred t6 l4 Tryz.isAgg53 Tryz.sizeOf53)) (VE (E_alloc hST Tryz.zeroValue53 (fun bo bw hST => VO (F_store (.agg (encCred d6).toArray) ((encCred d6).toArray) hST rfl rfl Tryz.sizeOf53 (oneCred d6) (Nat.le_of_ble_eq_true rfl) rfl (fun bp hST => LW_nil (sq_n (CW_seq (CW_region (V (R_move f6) (V (R_not rfl) (V (R_move rfl) ?_)))))))))))))))
            obtain ⟨cc, M, l0⟩ := bind_some b4
            refine LW_join (J := fun E W => ∃ (g3 : Bool) (n3 : List (Nat × Obj)), ST false NoF w W k7 (n6 ++ (n5 ++ n3)) ∧ E 21 = (.bool c0.2) ∧ E 22 = g2 ∧ E 150 = o7 ∧ E 151 = (.int .i64 ((e0.length : Int))) ∧ E 152 = (.int .i64 ((o5 : Int))) ∧ E 163 = (.bool g3) ∧ (if g3 then some (Sum.inl false) else (m_law34_RevokeStops_L2 c0 e7 v5)) = some o6) 5 ?_ (fun h7 => ?_)
            · rintro E W ⟨g3, n3, hST, v7, v8, v9, w0, w1, w2, b8⟩
              refine LW_nil (sq_n (CW_if (b := g3) w2 (fun g9 => ?_) (fun g9 => ?_)))
              · replace b8 := if_t g9 b8
                refine CW_seq (CW_region (V (R_assign rfl) (LW_nil (sq_n ?_))))
                replace hST := hST.sel (Dr (Dr St))
                refine CW_ret (bq_r (sq_r (bq_r (sq_r ?_))))
                replace b8 := Option.some.inj b8; subst b8
                replace d0 : some false = some r := d0
                replace d0 := Option.some.inj d0; subst d0
                exact retQ_1 (v := (.bool false)) rfl rfl ⟨rfl, hST.ex⟩
              replace b8 := if_f g9 b8
              exact CW_skip (bq_n (sq_n ⟨w1, _, ⟨rfl, w0⟩, (hST.sel St), v7, v8, v9, (by rw [u6]; exact b8)⟩))
            rcases bool_cases ((!c0.2)) with G | G
            · replace M := if_t G M
              refine Vn rfl (congrArg Value.bool G) (Vn rfl (congrArg Value.bool G) (Vn rfl (congrArg Value.bool G) (Vn rfl (congrArg Value.bool G) (V (R_pickT (congrArg Value.bool G) rfl) ?_))))
              replace M := Option.some.inj M; subst M
              exact h7 _ _ ⟨true, _, (hST.sel (Db St)), f6, f7, f8, eN, eI, rfl, l0⟩
            replace M := if_f G M
            refine Vg rfl (congrArg Value.bool G) (R_move f7) (Vg rfl (congrArg Value.bool G) (R_load rfl (load_boxA hST.has Mh (encCred d6) rfl Tryz.isAgg53 Tryz.sizeOf53)) ?_)
            obtain ⟨y9, u2, M⟩ := bind_some M
            refine VgE rfl (congrArg Value.bool G) (E_gives (args := [g2, (.agg (encCred d6).toArray)]) hST rfl Tryz.call53 (by exact args2 rfl rfl) (Gives.weak (w_ref05_Has g2 e7 d6 _ _ (s7.sl lenCred (fun b o hq => hST.at_ (Mt (Ma (Ml hq))))) u2)) (fun bq hST => Vg rfl (congrArg Value.bool G) (R_not rfl) (V (R_pickF (congrArg Value.bool G) rfl) ?_)))
            replace M := Option.some.inj M; subst M
            exact h7 _ _ ⟨((!y9)), _, (hST.sel (Db St)), f6, f7, f8, eN, eI, rfl, l0⟩
          rintro E W ⟨i2, ⟨eI, eN⟩, hST, f6, f7, f8, b4⟩
          rw [List.drop_length] at b4
          rw [m_law34_RevokeStops_L2] at b4
          refine sq_n ?_
          replace b4 := Option.some.inj b4; subst b4
          exact ⟨_, (hST.sel (Dr (Dr St))), d0⟩
        rintro E W ⟨n2, hST, h2⟩
        refine CW_seq (CW_region (V (R_assign rfl) (LW_nil (sq_n (CW_ret ?_)))))
        replace h2 := Option.some.inj h2; subst h2
        exact retQ_1 (v := (.bool true)) rfl rfl ⟨rfl, hST.ex⟩
      rcases bool_cases i1 with g | g
      · replace a4 := if_t g a4
        refine Vn rfl (congrArg Value.bool g) (Vn rfl (congrArg Value.bool g) (Vn rfl (congrArg Value.bool g) (Vn rfl (congrArg Value.bool g) (Vn rfl (congrArg Value.bool g) (Vn rfl (congrArg Value.bool g) (Vn rfl (congrArg Value.bool g) (Vn rfl (congrArg Value.bool g) (Vn rfl (congrArg Value.bool g) (Vn rfl (congrArg Value.bool g) (Vn rfl (congrArg Value.bool g) (Vn rfl (congrArg Value.bool g) (Vn rfl (congrArg Value.bool g) (Vn rfl (congrArg Value.bool g) (V (R_pickT (congrArg Value.bool g) rfl) ?_))))))))))))))
        replace a4 := Option.some.inj a4; subst a4
        exact h8 _ _ ⟨true, _, (hST.sel St), z9, aa, k9, ab, rfl, l1⟩
      replace a4 := if_f g a4
      refine Vg rfl (congrArg Value.bool g) (R_field fa38_1 k9) (Vg rfl (congrArg Value.bool g) (R_load rfl (load_box1 hST.has Mh rfl Tryz.isAgg9)) (Vg rfl (congrArg Value.bool g) (R_lenStr Tryz.underlying9 rfl) (Vg rfl (congrArg Value.bool g) (R_field fa38_0 k9) (Vg rfl (congrArg Value.bool g) (R_field fa28_0 rfl) (Vg rfl (congrArg Value.bool g) (R_load rfl (load_box1 hST.has Mh rfl Tryz.isAgg9)) (Vg rfl (congrArg Value.bool g) (R_lenStr Tryz.underlying9 rfl) (Vg rfl (congrArg Value.bool g) (R_int rfl rfl rfl) (Vg rfl (congrArg Value.bool g) (R_field fa38_0 k9) (Vg rfl (congrArg Value.bool g) (R_field fa28_1 rfl) (Vg rfl (congrArg Value.bool g) (R_load rfl (load_box1 hST.has Mh rfl Tryz.isAgg9)) (Vg rfl (congrArg Value.bool g) (R_lenStr Tryz.underlying9 rfl) (Vg rfl (congrArg Value.bool g) (R_int rfl rfl rfl) (Vg rfl (congrArg Value.bool g) (R_int rfl rfl rfl) (V (R_pickF (congrArg Value.bool g) rfl) ?_))))))))))))))
      replace a4 := Option.some.inj a4; subst a4
      exact h8 _ _ ⟨((decide (((IntKind.i64.wrap (((IntKind.i64.wrap (((D.Who.size : Int)) + ((D.Role.Owner.size : Int))))) + ((D.Role.Word.size : Int))))) > 200))), _, (hST.sel St), z9, aa, k9, ab, rfl, l1⟩
    rcases bool_cases o8 with d4 | d4
    · replace a5 := if_t d4 a5
      refine Vn rfl (congrArg Value.bool d4) (Vn rfl (congrArg Value.bool d4) (V (R_pickT (congrArg Value.bool d4) rfl) ?_))
      replace a5 := Option.some.inj a5; subst a5
      exact h9 _ _ ⟨true, _, (hST.sel St), z5, z6, z7, z8, rfl, l2⟩
    replace a5 := if_f d4 a5
    refine Vg rfl (congrArg Value.bool d4) (R_move av) (Vg rfl (congrArg Value.bool d4) (R_int rfl rfl rfl) (V (R_pickF (congrArg Value.bool d4) rfl) ?_))
    replace a5 := Option.some.inj a5; subst a5
    exact h9 _ _ ⟨((r7.2 != 0)), _, (hST.sel St), z5, z6, z7, z8, rfl, l2⟩
  rcases bool_cases ((decide (bg > 900))) with c2 | c2
  · replace N := if_t c2 N
    refine Vn rfl (congrArg Value.bool c2) (Vn rfl (congrArg Value.bool c2) (Vn rfl (congrArg Value.bool c2) (V (R_pickT (congrArg Value.bool c2) rfl) ?_)))
    replace N := Option.some.inj N; subst N
    exact i0 _ _ ⟨true, _, (hST.sel St), rfl, rfl, rfl, rfl, rfl, rfl, l3⟩
  replace N := if_f c2 N
  refine Vg rfl (congrArg Value.bool c2) (R_move rfl) ?_
  obtain ⟨z0, u3, N⟩ := bind_some N
  refine VgE rfl (congrArg Value.bool c2) (E_gives (args := [z, (.slice none 0 0)]) hST rfl Tryz.call35 (by exact args2 rfl rfl) (Gives.weak (w_law06_Great z a0 (.slice none 0 0) ([]) _ _ (f1.mono dKey.mono (b9.trans hST.sub_hp)) (Sl.nil _ _ _) u3)) (fun bv hST => Vg rfl (congrArg Value.bool c2) (R_int rfl rfl rfl) (V (R_pickF (congrArg Value.bool c2) rfl) ?_)))
  replace N := Option.some.inj N; subst N
  exact i0 _ _ ⟨((decide (z0 > 1500))), _, (hST.sel St), rfl, rfl, rfl, rfl, rfl, rfl, l3⟩
end Go.Proofs.YtmlncblocfcmiaaGreat
