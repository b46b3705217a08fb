/- a part of a proof of RevokeTells -/
import Derived.Test.YtmlncblocfcmiaaGreatRVW2t
set_option linter.all false
namespace Go.Proofs.YtmlncblocfcmiaaGreat
open Go.RowKit
set_option maxRecDepth 10000
theorem w_law34_RevokeTells (x : Value) (a0 : List Key) (U : Value) (a1 : List Signed) (Y : Value) (a2 : List Signed) (r : Bool) (w : World) (a3 : Sl relKey 2 (hp w) x a0) (c0 : Sl relSigned 10 (hp w) U a1) (c1 : Sl relSigned 10 (hp w) Y a2) (hm : m_law34_RevokeTells a0 a1 a2 = some r) :
    Gives false Tryz.prog 6 [x, U, Y] w (.bool r) := by
  have hST := ST.start (dd := false) w
  unfold m_law34_RevokeTells at hm
  refine calls_of_CW (n := 75) Tryz.func6 rfl rfl (Nat.le_of_ble_eq_true rfl) (CW_seq (CW_region (V (R_assign rfl) (LW_nil (sq_n (CW_seq (CW_seq (CW_region ?_))))))))
  obtain ⟨r1, j6, hm⟩ := bind_some hm
  refine VE (E_gives (args := []) hST rfl Tryz.call34 (by exact args0 ) ((w_law34_first  _ _  j6)) (fun W3 hST => V (R_not rfl) (LW_nil (sq_n (CW_if (b := (!r1)) rfl (fun f4 => ?_) (fun f4 => ?_))))))
  · replace hm := if_t f4 hm
    refine CW_seq (CW_region (V (R_assign rfl) (LW_nil (sq_n (CW_ret (sq_r ?_))))))
    replace hm := Option.some.inj hm; subst hm
    exact retQ_1 (v := (.bool false)) rfl rfl ⟨rfl, hST.ex⟩
  replace hm := if_f f4 hm
  refine CW_skip (sq_n (CW_seq (CW_seq (CW_region (V (R_move rfl) (VE (E_buildSlice (qs := #[]) (cs := #[]) hST parts0 (run_lit [] Tryz.underlying50 Tryz.sizeOf56 Tryz.zeroValue56 (by decide) rfl (by simp) rfl rfl) (fun W6 b5 hST => V (R_move rfl) ?_))))))))
  obtain ⟨l7, j4, hm⟩ := bind_some hm
  refine VE (F_appendD (B := [(b5, Obj.cells (#[] : Array Value) 56 (0, 0))]) dSigned hST (by decide) Tryz.underlying50 info56.1 info56.2.1 rfl info56.2.2.1 info56.2.2.2 rfl rfl (RowD.lit dSigned (l := []) .nil rfl (Nat.le_of_ble_eq_true rfl) rfl) (SlW.sl dSigned c0 hST.sub_hp) j4 (fun W9 n8 j1 hST i3 => V (R_move rfl) ?_))
  obtain ⟨j7, i6, hm⟩ := bind_some hm
  refine VE (F_appendD (B := j1) dSigned hST (by decide) Tryz.underlying50 info56.1 info56.2.1 rfl info56.2.2.1 info56.2.2.2 rfl rfl i3 (SlW.sl dSigned c1 hST.sub_hp) i6 (fun n2 i2 n1 hST i4 => ?_))
  obtain ⟨j8, i9, hm⟩ := bind_some hm
  refine VE (E_gives (args := [x, i2]) hST rfl Tryz.call35 (by exact args2 rfl rfl) (Gives.weak (w_law06_Great x a0 i2 j7 _ _ (a3.mono dKey.mono hST.sub_hp) (i4.sl dSigned hST.sub_hp (fun b o hq => hST.at_ (Ml hq))) i9)) (fun n3 hST => V (R_int rfl rfl rfl) (LW_nil (sq_n ?_))))
  replace hST := hST.sel (Dr St)
  refine CW_if (b := (decide (j8 > 4000))) rfl (fun d4 => ?_) (fun d4 => ?_)
  · replace hm := if_t d4 hm
    refine CW_seq (CW_region (V (R_assign rfl) (LW_nil (sq_n (CW_ret (sq_r ?_))))))
    replace hm := Option.some.inj hm; subst hm
    exact retQ_1 (v := (.bool true)) rfl rfl ⟨rfl, hST.ex⟩
  replace hm := if_f d4 hm
  refine CW_skip (sq_n (CW_seq (CW_seq (CW_region (VE (E_buildSlice (qs := #[]) (cs := #[]) hST parts0 (run_lit [] Tryz.underlying50 Tryz.sizeOf56 Tryz.zeroValue56 (by decide) rfl (by simp) rfl rfl) (fun n4 j3 hST => V (R_move rfl) ?_)))))))
  obtain ⟨n7, i7, hm⟩ := bind_some hm
  refine VE (F_appendD (B := [(j3, Obj.cells (#[] : Array Value) 56 (0, 0))]) dSigned hST (by decide) Tryz.underlying50 info56.1 info56.2.1 rfl info56.2.2.1 info56.2.2.2 rfl rfl (RowD.lit dSigned (l := []) .nil rfl (Nat.le_of_ble_eq_true rfl) rfl) (SlW.sl dSigned c1 hST.sub_hp) i7 (fun n5 n9 j2 hST i5 => V (R_move rfl) ?_))
  obtain ⟨d0, i8, hm⟩ := bind_some hm
  refine VE (F_appendD (B := j2) dSigned hST (by decide) Tryz.underlying50 info56.1 info56.2.1 rfl info56.2.2.1 info56.2.2.2 rfl rfl i5 (SlW.sl dSigned c0 hST.sub_hp) i8 (fun n6 g5 e9 hST d3 => V (R_lenRowD Tryz.underlying50 rfl d3) (V (R_move rfl) (LW_nil (sq_n (CW_range (fun i E W => ∃  (c5 : Mem) (b8 : List (Nat × Obj)), (E 29 = .int .i64 (i : Nat) ∧ E 28 = .int .i64 (d0.length : Nat)) ∧ Sub (hp w) c5 ∧ ST false NoF w W c5 (e9 ++ b8) ∧ E 0 = x ∧ E 1 = U ∧ E 2 = Y ∧ E 27 = g5 ∧ m_law34_RevokeTells_L1 a0 a1 a2 (d0.drop i) = some r) d0.length d3.len ⟨(hp w), _, ⟨rfl, rfl⟩, (Sub.refl _), (hST.sel St), rfl, rfl, rfl, rfl, hm⟩ (by decide) (by decide) (by decide) (fun _ _ _ h => by obtain ⟨_, _, eIN, _⟩ := h; exact eIN) ?_ ?_))))))
  · rintro d5 E W h4 ⟨c5, b8, ⟨eI, eN⟩, k, hST, T, a5, a6, a8, j⟩
    obtain ⟨a, e8, h6, h5, h7⟩ := drop_cons h4
    rw [h6] at j
    rw [m_law34_RevokeTells_L1] at j
    refine CW_block (CW_seq (CW_region (VQ (R_indexRowD (i := (d5 : Int)) relSigned.out Tryz.underlying50 Tryz.sizeOf56 a8 eI (d3.mono dSigned k) (Int.natCast_nonneg _) h5) (fun l8 ⟨_, ⟨m1, rfl, b2⟩, f6, j5⟩ => V (R_load rfl (load_atA (Has.hp _) (f6.mono (memL_held (fun b o hq => hST.has.2 b o (Ml hq)))) Tryz.isAgg56 Tryz.sizeOf56)) (VE (E_alloc hST Tryz.zeroValue56 (fun k3 b9 hST => ?_)))))))
    obtain ⟨z, D, rfl⟩ := b2.form
    refine VO (F_store (.agg #[(.int .i64 a.Cred.Kind), (.string a.Cred.Head.Owner), (.string a.Cred.Head.Word), (.string a.Cred.Who), (.string a.Cred.B.Owner), (.string a.Cred.B.Word), (.string a.Cred.C.Owner), (.string a.Cred.C.Word), (.string a.Cred.Word2), (.slice z a.Tag.length D)]) (#[(.int .i64 a.Cred.Kind), (.string a.Cred.Head.Owner), (.string a.Cred.Head.Word), (.string a.Cred.Who), (.string a.Cred.B.Owner), (.string a.Cred.B.Word), (.string a.Cred.C.Owner), (.string a.Cred.C.Word), (.string a.Cred.Word2), (.slice z a.Tag.length D)]) hST rfl rfl Tryz.sizeOf56 (by simp [Value.cells, Value.oneCell']) (Nat.le_of_ble_eq_true rfl) rfl (fun k4 hST => LW_nil (sq_n (CW_seq (CW_region (V (R_move T) (V (R_field fa56_0 rfl) (V (R_load rfl (load_boxA hST.has Mh (encCred a.Cred) rfl Tryz.isAgg53 Tryz.sizeOf53)) ?_))))))))
    obtain ⟨c, f7, j⟩ := bind_some j
    have hsz := hST.size
    refine VE (E_givesD (args := [x, (.agg (encCred a.Cred).toArray)]) (caps := #[]) [] _ hST (List.Perm.refl _) rfl Tryz.call36 (by exact args2 rfl rfl) (fun hH hN hsb hmm => GivesD.weak (w_revoke_Make x a0 a.Cred _ _ ⟨hH, hN, hsb⟩ (a3.mono dKey.mono k) f7)) (fun k5 m2 m6 j9 hST H hl1060 f0 => ?_))
    obtain ⟨m4, b3, rfl, c8⟩ := f0
    replace b3 := b3.symm; subst b3
    replace hST := hST.perm Tn
    refine V (R_move rfl) (V (R_extract rfl rfl) (V (R_extract rfl rfl) (VE (E_alloc hST Tryz.zeroValue56 (fun k6 d8 hST => ?_)))))
    obtain ⟨K, N, rfl⟩ := c8.form
    refine VO (F_store (.agg #[(.int .i64 (((c.1).Cred).Kind)), (.string ((((c.1).Cred).Head).Owner)), (.string ((((c.1).Cred).Head).Word)), (.string (((c.1).Cred).Who)), (.string ((((c.1).Cred).B).Owner)), (.string ((((c.1).Cred).B).Word)), (.string ((((c.1).Cred).C).Owner)), (.string ((((c.1).Cred).C).Word)), (.string (((c.1).Cred).Word2)), (.slice K ((c.1).Tag).length N)]) (#[(.int .i64 (((c.1).Cred).Kind)), (.string ((((c.1).Cred).Head).Owner)), (.string ((((c.1).Cred).Head).Word)), (.string (((c.1).Cred).Who)), (.string ((((c.1).Cred).B).Owner)), (.string ((((c.1).Cred).B).Word)), (.string ((((c.1).Cred).C).Owner)), (.string ((((c.1).Cred).C).Word)), (.string (((c.1).Cred).Word2)), (.slice K ((c.1).Tag).length N)]) hST rfl rfl Tryz.sizeOf56 (by simp [Value.cells, Value.oneCell']) (Nat.le_of_ble_eq_true rfl) rfl (fun k7 hST => V (R_assign rfl) (LW_nil (sq_n (CW_seq (CW_region (V (R_move T) (V (R_field fa56_0 rfl) (V (R_load rfl (load_boxA hST.has (Mt Mh) (encCred a.Cred) rfl Tryz.isAgg53 Tryz.sizeOf53)) ?_)))))))))
    obtain ⟨f, f8, j⟩ := bind_some j
    have hsz := hST.size
    refine VE (E_givesD (args := [x, (.agg (encCred a.Cred).toArray)]) (caps := #[]) [] _ hST (List.Perm.refl _) rfl Tryz.call37 (by exact args2 rfl rfl) (fun hH hN hsb hmm => GivesD.weak (w_ref34_Make x a0 a.Cred _ _ ⟨hH, hN, hsb⟩ (a3.mono dKey.mono (k.trans H)) f8)) (fun k8 m3 c4 k0 hST I hl1077 f1 => ?_))
    obtain ⟨m5, b4, rfl, c9⟩ := f1
    replace b4 := b4.symm; subst b4
    replace hST := hST.perm Tn
    refine V (R_move rfl) (V (R_extract rfl rfl) (V (R_extract rfl rfl) (VE (E_alloc hST Tryz.zeroValue56 (fun k9 d9 hST => ?_)))))
    obtain ⟨M, Q, rfl⟩ := c9.form
    refine VO (F_store (.agg #[(.int .i64 (((f.1).Cred).Kind)), (.string ((((f.1).Cred).Head).Owner)), (.string ((((f.1).Cred).Head).Word)), (.string (((f.1).Cred).Who)), (.string ((((f.1).Cred).B).Owner)), (.string ((((f.1).Cred).B).Word)), (.string ((((f.1).Cred).C).Owner)), (.string ((((f.1).Cred).C).Word)), (.string (((f.1).Cred).Word2)), (.slice M ((f.1).Tag).length Q)]) (#[(.int .i64 (((f.1).Cred).Kind)), (.string ((((f.1).Cred).Head).Owner)), (.string ((((f.1).Cred).Head).Word)), (.string (((f.1).Cred).Who)), (.string ((((f.1).Cred).B).Owner)), (.string ((((f.1).Cred).B).Word)), (.string ((((f.1).Cred).C).Owner)), (.string ((((f.1).Cred).C).Word)), (.string (((f.1).Cred).Word2)), (.slice M ((f.1).Tag).length Q)]) hST rfl rfl Tryz.sizeOf56 (by simp [Value.cells, Value.oneCell']) (Nat.le_of_ble_eq_true rfl) rfl (fun l0 hST => V (R_assign rfl) (LW_nil (sq_n (CW_seq ?_)))))
    replace hST := hST.drew
    have hS0 := hST.has.sel (Kb (Kb (Kb Sn)))
    refine PX_start1 hS0 Tryz_mixed (X 0 rfl hS0 (R_move rfl) (X 1 rfl hS0 (R_move rfl) (X 2 rfl hS0 (R_int rfl rfl rfl) (X 3 rfl hS0 (R_move rfl) ?_))))
    obtain ⟨m0, y, c7⟩ := bind_some j
    refine PX_join (J := fun E W => ∃ (b0 : Bool) (d6 : List (Nat × Obj)), ST false NoF w W c4 ((d9, Obj.cells (#[(.int .i64 (((f.1).Cred).Kind)), (.string ((((f.1).Cred).Head).Owner)), (.string ((((f.1).Cred).Head).Word)), (.string (((f.1).Cred).Who)), (.string ((((f.1).Cred).B).Owner)), (.string ((((f.1).Cred).B).Word)), (.string ((((f.1).Cred).C).Owner)), (.string ((((f.1).Cred).C).Word)), (.string (((f.1).Cred).Word2)), (.slice M ((f.1).Tag).length Q)] : Array Value) 56 (0, 0)) :: ((d8, Obj.cells (#[(.int .i64 (((c.1).Cred).Kind)), (.string ((((c.1).Cred).Head).Owner)), (.string ((((c.1).Cred).Head).Word)), (.string (((c.1).Cred).Who)), (.string ((((c.1).Cred).B).Owner)), (.string ((((c.1).Cred).B).Word)), (.string ((((c.1).Cred).C).Owner)), (.string ((((c.1).Cred).C).Word)), (.string (((c.1).Cred).Word2)), (.slice K ((c.1).Tag).length N)] : Array Value) 56 (0, 0)) :: ((b9, Obj.cells (#[(.int .i64 a.Cred.Kind), (.string a.Cred.Head.Owner), (.string a.Cred.Head.Word), (.string a.Cred.Who), (.string a.Cred.B.Owner), (.string a.Cred.B.Word), (.string a.Cred.C.Owner), (.string a.Cred.C.Word), (.string a.Cred.Word2), (.slice z a.Tag.length D)] : Array Value) 56 (0, 0)) :: (e9 ++ d6)))) ∧ E 0 = x ∧ E 1 = U ∧ E 2 = Y ∧ E 8 = (.pointer (some ⟨b9, 0, none⟩)) ∧ E 27 = g5 ∧ E 28 = (.int .i64 ((d0.length : Int))) ∧ E 29 = (.int .i64 ((d5 : Int))) ∧ E 55 = (.bool b0) ∧ (((if b0 then some true else (((m_revoke_Good a0 a)).bind fun c2 => (((m_ref34_Good a0 a)).bind fun c3 => some ((c2 != c3))))) : Option Bool).bind fun Z => (if Z then some false else (m_law34_RevokeTells_L1 a0 a1 a2 e8))) = some r) #[true, true, true, true, true, true, true, true, true, false, false, false, false, false, false, false, false, false] 9 ?_ (fun b7 => ?_)
    · rintro E W ⟨b0, d6, hST, a9, e0, e1, e2, e3, e4, e5, g6, f5⟩
      have hS0 := hST.has.sel (Kb (Kb (Kb Sn)))
      refine X 9 rfl hS0 (R_move g6) ?_
      obtain ⟨l9, t, c6⟩ := bind_some f5
      refine PX_join (J := fun E W => ∃ (Z : Bool) (d7 : List (Nat × Obj)), ST false NoF w W c4 ((d9, Obj.cells (#[(.int .i64 (((f.1).Cred).Kind)), (.string ((((f.1).Cred).Head).Owner)), (.string ((((f.1).Cred).Head).Word)), (.string (((f.1).Cred).Who)), (.string ((((f.1).Cred).B).Owner)), (.string ((((f.1).Cred).B).Word)), (.string ((((f.1).Cred).C).Owner)), (.string ((((f.1).Cred).C).Word)), (.string (((f.1).Cred).Word2)), (.slice M ((f.1).Tag).length Q)] : Array Value) 56 (0, 0)) :: ((d8, Obj.cells (#[(.int .i64 (((c.1).Cred).Kind)), (.string ((((c.1).Cred).Head).Owner)), (.string ((((c.1).Cred).Head).Word)), (.string (((c.1).Cred).Who)), (.string ((((c.1).Cred).B).Owner)), (.string ((((c.1).Cred).B).Word)), (.string ((((c.1).Cred).C).Owner)), (.string ((((c.1).Cred).C).Word)), (.string (((c.1).Cred).Word2)), (.slice K ((c.1).Tag).length N)] : Array Value) 56 (0, 0)) :: ((b9, Obj.cells (#[(.int .i64 a.Cred.Kind), (.string a.Cred.Head.Owner), (.string a.Cred.Head.Word), (.string a.Cred.Who), (.string a.Cred.B.Owner), (.string a.Cred.B.Word), (.string a.Cred.C.Owner), (.string a.Cred.C.Word), (.string a.Cred.Word2), (.slice z a.Tag.length D)] : Array Value) 56 (0, 0)) :: (e9 ++ d7)))) ∧ E 0 = x ∧ E 1 = U ∧ E 2 = Y ∧ E 27 = g5 ∧ E 28 = (.int .i64 ((d0.length : Int))) ∧ E 29 = (.int .i64 ((d5 : Int))) ∧ E 64 = (.bool Z) ∧ (if Z then some false else (m_law34_RevokeTells_L1 a0 a1 a2 e8)) = some r) #[true, true, true, true, true, true, true, true, true, true, true, true, true, true, true, true, true, true] 0 ?_ (fun b6 => ?_)
      · rintro E W ⟨Z, d7, hST, g7, g8, g9, h0, h1, h2, h3, G⟩
        have hS0 := hST.has.sel (Kb (Kb (Kb Sn)))
        refine PX_done (by kernel_rfl) (sq_n ?_)
        replace hST := hST.sel (Db (Db (Db St)))
        refine CW_if (b := Z) h3 (fun b1 => ?_) (fun b1 => ?_)
        · replace G := if_t b1 G
          refine CW_seq (CW_region (V (R_assign rfl) (LW_nil (sq_n ?_))))
          replace hST := hST.sel (Dr St)
          refine CW_ret (bq_r (sq_r (bq_r (sq_r ?_))))
          replace G := Option.some.inj G; subst G
          exact retQ_1 (v := (.bool false)) rfl rfl ⟨rfl, hST.ex⟩
        replace G := if_f b1 G
        exact CW_skip (bq_n (sq_n ⟨h2, c4, _, ⟨rfl, h1⟩, ((k.trans H).trans I), (hST.sel St), g7, g8, g9, h0, (by rw [h7]; exact G)⟩))
      rcases bool_cases b0 with g | g
      · replace t := if_t g t
        refine Xn 10 rfl rfl (congrArg Value.bool g) hS0 (Xn 11 rfl rfl (congrArg Value.bool g) hS0 (Xn 12 rfl rfl (congrArg Value.bool g) hS0 (Xn 13 rfl rfl (congrArg Value.bool g) hS0 (Xn 14 rfl rfl (congrArg Value.bool g) hS0 (Xn 15 rfl rfl (congrArg Value.bool g) hS0 (Xn 16 rfl rfl (congrArg Value.bool g) hS0 (X 17 rfl hS0 (R_pickT (congrArg Value.bool g) rfl) ?_)))))))
        replace t := Option.some.inj t; subst t
        refine PX_at (by kernel_rfl) (b6 _ _ ⟨true, _, (hST.sel St), a9, e0, e1, e3, e4, e5, rfl, c6⟩)
      replace t := if_f g t
      refine Xg 10 rfl rfl (congrArg Value.bool g) hS0 (R_move a9) (XgH 11 rfl rfl (congrArg Value.bool g) hS0 (fun _ hS => R_load e2 (load_boxA hS (Mt (Mt Mh)) [(.int .i64 a.Cred.Kind), (.string a.Cred.Head.Owner), (.string a.Cred.Head.Word), (.string a.Cred.Who), (.string a.Cred.B.Owner), (.string a.Cred.B.Word), (.string a.Cred.C.Owner), (.string a.Cred.C.Word), (.string a.Cred.Word2), (.slice z a.Tag.length D)] rfl Tryz.isAgg56 Tryz.sizeOf56)) (Xg 13 rfl rfl (congrArg Value.bool g) hS0 (R_move a9) (XgH 14 rfl rfl (congrArg Value.bool g) hS0 (fun _ hS => R_load e2 (load_boxA hS (Mt (Mt Mh)) [(.int .i64 a.Cred.Kind), (.string a.Cred.Head.Owner), (.string a.Cred.Head.Word), (.string a.Cred.Who), (.string a.Cred.B.Owner), (.string a.Cred.B.Word), (.string a.Cred.C.Owner), (.string a.Cred.C.Word), (.string a.Cred.Word2), (.slice z a.Tag.length D)] rfl Tryz.isAgg56 Tryz.sizeOf56)) ?_)))
      obtain ⟨c2, f9, t⟩ := bind_some t
      refine XgE 12 rfl rfl (congrArg Value.bool g) (E_gives (args := [x, (.agg #[(.int .i64 a.Cred.Kind), (.string a.Cred.Head.Owner), (.string a.Cred.Head.Word), (.string a.Cred.Who), (.string a.Cred.B.Owner), (.string a.Cred.B.Word), (.string a.Cred.C.Owner), (.string a.Cred.C.Word), (.string a.Cred.Word2), (.slice z a.Tag.length D)])]) hST rfl Tryz.call39 (by exact args2 rfl rfl) (Gives.weak (w_revoke_Good x a0 a (.slice z a.Tag.length D) _ _ (a3.mono dKey.mono (((k.trans H).trans I).trans hST.sub_hp)) (b2.mono (Pl.mono _) ((H.trans I).trans hST.sub_hp)) f9)) (fun l1 hST => ?_))
      have hS0 := hST.has.sel (Kb (Kb (Kb Sn)))
      refine ⟨hS0, ?_⟩
      obtain ⟨c3, g0, t⟩ := bind_some t
      refine XgE 15 rfl rfl (congrArg Value.bool g) (E_gives (args := [x, (.agg #[(.int .i64 a.Cred.Kind), (.string a.Cred.Head.Owner), (.string a.Cred.Head.Word), (.string a.Cred.Who), (.string a.Cred.B.Owner), (.string a.Cred.B.Word), (.string a.Cred.C.Owner), (.string a.Cred.C.Word), (.string a.Cred.Word2), (.slice z a.Tag.length D)])]) hST rfl Tryz.call40 (by exact args2 rfl rfl) (Gives.weak (w_ref34_Good x a0 a (.slice z a.Tag.length D) _ _ (a3.mono dKey.mono (((k.trans H).trans I).trans hST.sub_hp)) (b2.mono (Pl.mono _) ((H.trans I).trans hST.sub_hp)) g0)) (fun l2 hST => ?_))
      have hS0 := hST.has.sel (Kb (Kb (Kb Sn)))
      refine ⟨hS0, (Xg 16 rfl rfl (congrArg Value.bool g) hS0 (R_boolsN Tryz.underlying4 rfl rfl rfl) (X 17 rfl hS0 (R_pickF (congrArg Value.bool g) rfl) ?_))⟩
      replace t := Option.some.inj t; subst t
      refine PX_at (by kernel_rfl) (b6 _ _ ⟨((c2 != c3)), _, (hST.sel St), a9, e0, e1, e3, e4, e5, rfl, c6⟩)
    rcases bool_cases ((c.2 != f.2)) with u | u
    · replace y := if_t u y
      refine Xn 4 rfl rfl (congrArg Value.bool u) hS0 (Xn 5 rfl rfl (congrArg Value.bool u) hS0 (Xn 6 rfl rfl (congrArg Value.bool u) hS0 (Xn 7 rfl rfl (congrArg Value.bool u) hS0 (X 8 rfl hS0 (R_pickT (congrArg Value.bool u) rfl) ?_))))
      replace y := Option.some.inj y; subst y
      refine PX_at (by kernel_rfl) (b7 _ _ ⟨true, _, (hST.sel St), T, a5, a6, rfl, a8, eN, eI, rfl, c7⟩)
    replace y := if_f u y
    refine XgH 4 rfl rfl (congrArg Value.bool u) hS0 (fun _ hS => R_load rfl (load_boxA hS (Mt Mh) [(.int .i64 (((c.1).Cred).Kind)), (.string ((((c.1).Cred).Head).Owner)), (.string ((((c.1).Cred).Head).Word)), (.string (((c.1).Cred).Who)), (.string ((((c.1).Cred).B).Owner)), (.string ((((c.1).Cred).B).Word)), (.string ((((c.1).Cred).C).Owner)), (.string ((((c.1).Cred).C).Word)), (.string (((c.1).Cred).Word2)), (.slice K ((c.1).Tag).length N)] rfl Tryz.isAgg56 Tryz.sizeOf56)) (XgH 5 rfl rfl (congrArg Value.bool u) hS0 (fun _ hS => R_load rfl (load_boxA hS Mh [(.int .i64 (((f.1).Cred).Kind)), (.string ((((f.1).Cred).Head).Owner)), (.string ((((f.1).Cred).Head).Word)), (.string (((f.1).Cred).Who)), (.string ((((f.1).Cred).B).Owner)), (.string ((((f.1).Cred).B).Word)), (.string ((((f.1).Cred).C).Owner)), (.string ((((f.1).Cred).C).Word)), (.string (((f.1).Cred).Word2)), (.slice M ((f.1).Tag).length Q)] rfl Tryz.isAgg56 Tryz.sizeOf56)) ?_)
    obtain ⟨h8, g1, y⟩ := bind_some y
    refine XgE 6 rfl rfl (congrArg Value.bool u) (E_gives (args := [(.agg #[(.int .i64 (((c.1).Cred).Kind)), (.string ((((c.1).Cred).Head).Owner)), (.string ((((c.1).Cred).Head).Word)), (.string (((c.1).Cred).Who)), (.string ((((c.1).Cred).B).Owner)), (.string ((((c.1).Cred).B).Word)), (.string ((((c.1).Cred).C).Owner)), (.string ((((c.1).Cred).C).Word)), (.string (((c.1).Cred).Word2)), (.slice K ((c.1).Tag).length N)]), (.agg #[(.int .i64 (((f.1).Cred).Kind)), (.string ((((f.1).Cred).Head).Owner)), (.string ((((f.1).Cred).Head).Word)), (.string (((f.1).Cred).Who)), (.string ((((f.1).Cred).B).Owner)), (.string ((((f.1).Cred).B).Word)), (.string ((((f.1).Cred).C).Owner)), (.string ((((f.1).Cred).C).Word)), (.string (((f.1).Cred).Word2)), (.slice M ((f.1).Tag).length Q)])]) hST rfl Tryz.call38 (by exact args2 rfl rfl) (Gives.weak (w_ref06_Same c.1 (.slice K ((c.1).Tag).length N) f.1 (.slice M ((f.1).Tag).length Q) _ _ (c8.mono (Pl.mono _) (I.trans hST.sub_hp)) (c9.mono (Pl.mono _) hST.sub_hp) g1)) (fun l3 hST => ?_))
    have hS0 := hST.has.sel (Kb (Kb (Kb Sn)))
    refine ⟨hS0, (Xg 7 rfl rfl (congrArg Value.bool u) hS0 (R_not rfl) (X 8 rfl hS0 (R_pickF (congrArg Value.bool u) rfl) ?_))⟩
    replace y := Option.some.inj y; subst y
    refine PX_at (by kernel_rfl) (b7 _ _ ⟨((!h8)), _, (hST.sel St), T, a5, a6, rfl, a8, eN, eI, rfl, c7⟩)
  rintro E W ⟨c5, b8, ⟨eI, eN⟩, k, hST, T, a5, a6, a8, j⟩
  rw [List.drop_length] at j
  rw [m_law34_RevokeTells_L1] at j
  refine sq_n ?_
  replace hST := hST.sel (Dr St)
  refine CW_seq (CW_region (V (R_move T) (V (R_move a5) (V (R_move a6) ?_))))
  obtain ⟨h9, g2, j⟩ := bind_some j
  refine VE (F_givesRow (args := [x, U, Y]) _ hST rfl Tryz.call42 (by exact args3 rfl rfl rfl) ((w_revoke_Live x a0 U a1 Y a2 _ _ (a3.mono dKey.mono (k.trans hST.sub_hp)) (c0.mono dSigned.mono (k.trans hST.sub_hp)) (c1.mono dSigned.mono (k.trans hST.sub_hp)) g2)) (fun l4 e6 m7 k1 hST a7 hl1242 f2 => V (R_move T) (V (R_move a5) (V (R_move a6) ?_))))
  obtain ⟨i0, g3, j⟩ := bind_some j
  refine VE (F_givesRow (args := [x, U, Y]) _ hST rfl Tryz.call43 (by exact args3 rfl rfl rfl) (GivesRow.weak (w_ref34_Live x a0 U a1 Y a2 _ _ (a3.mono dKey.mono ((k.trans a7).trans hST.sub_hp)) (c0.mono dSigned.mono ((k.trans a7).trans hST.sub_hp)) (c1.mono dSigned.mono ((k.trans a7).trans hST.sub_hp)) g3)) (fun l5 e7 m8 k2 hST j0 hl1251 f3 => ?_))
  obtain ⟨i1, g4, j⟩ := bind_some j
  refine VE (E_gives (args := [e6, e7]) hST rfl Tryz.call41 (by exact args2 rfl rfl) (Gives.weak (w_ref05_Same e6 h9 e7 i0 _ _ (f2.sl lenCred (fun b o hq => hST.at_ (Ma (Ml hq)))) (f3.sl lenCred (fun b o hq => hST.at_ (Ml hq))) g4)) (fun l6 hST => V (R_assign rfl) (LW_nil (sq_n ?_))))
  replace hST := hST.sel (Dr (Dr St))
  refine CW_ret ?_
  replace j := Option.some.inj j; subst j
  exact retQ_1 (v := (.bool i1)) rfl rfl ⟨rfl, hST.ex⟩
end Go.Proofs.YtmlncblocfcmiaaGreat
