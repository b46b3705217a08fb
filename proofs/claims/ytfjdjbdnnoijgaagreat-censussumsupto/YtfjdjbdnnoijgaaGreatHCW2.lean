/- a part of a proof of CensusSums -/
import Derived.Test.YtfjdjbdnnoijgaaGreatHCW1
set_option linter.all false
namespace Go.Proofs.YtfjdjbdnnoijgaaGreat
open Go.RowKit
set_option maxRecDepth 10000
theorem w_census_Person (c : Value) (t : List Cred) (j : ByteArray) (r : (Person × Bool)) (w : World) (y : Sl (Pl encCred) 9 (hp w) c t) (hm : m_census_Person t j = some r) :
    Gives false Tryz.prog 66 [c, (.string j)] w (.tuple #[(.agg (encPerson r.1).toArray), (.bool r.2)]) := by
  have hST := ST.start (dd := false) w
  unfold m_census_Person at hm
  refine calls_of_CW (n := 22) Tryz.func66 rfl rfl (Nat.le_of_ble_eq_true rfl) (CW_seq (CW_region (VE (E_alloc hST Tryz.zeroValue104 (fun W2 b1 hST => V (R_assign rfl) (LW_nil (sq_n (CW_seq (CW_region (V (R_move rfl) ?_))))))))))
  obtain ⟨U, I, hm⟩ := bind_some hm
  refine VE (F_givesRow (args := [c]) _ hST rfl Tryz.call77 (by exact args1 rfl) (GivesRow.weak (w_cred_Set c t _ _ (y.mono (Pl.mono _) hST.sub_hp) I)) (fun W5 K μ6 R9 hST Q x => ?_))
  obtain ⟨J, D, hm⟩ := bind_some hm
  have hsz := hST.size
  refine VE (E_callM (args := [K]) (caps := #[]) [] _ hST (List.Perm.refl _) rfl Tryz.call118 (by exact args1 rfl) (fun _ _ _ _ => (w_census_counted K U _ _ (x.sl lenCred (fun b o hq => hST.at_ (Ml hq))) D)) (fun a4 a8 b0 a2 hST M hlift u => ?_))
  obtain ⟨a9, a3, g, rfl, H⟩ := u
  replace g := g.symm; subst g
  replace hST := hST.perm (Tr Tn)
  refine V (R_move rfl) ?_
  obtain ⟨T, i⟩ := H
  refine V (R_lookupOkDeep (k := j) (z := (.pointer none)) kl9 Tryz.underlying157 Tryz.zeroValue159 rfl rfl i (fun b o hq => hST.has.2 b o (Ml hq))) (V (R_move rfl) (V (R_extract rfl rfl) (V (R_extract rfl rfl) (V (R_assign rfl) (V (R_assign rfl) (LW_nil (sq_n ?_)))))))
  replace hST := hST.sel (Kr (Dr St))
  refine CW_seq (CW_seq (CW_region (V (R_move rfl) (V (R_not rfl) (LW_nil (sq_n (CW_if (b := (!((mget beqS J j).isSome))) rfl (fun f => ?_) (fun f => ?_))))))))
  · replace hm := if_t f hm
    refine CW_seq (CW_region (V (R_build (qs := #[]) (v := (.agg (encPerson ((⟨zS, 0, 0, 0, 0⟩ : Person))).toArray)) parts0 (run_build Tryz.zeroValue104 Tryz.underlying104 (pl104 _ Tryz.underlying104) (by kernel_rfl))) ?_))
    replace hST := hST.perm (Nb (Pr Pz) Nz)
    refine VO (F_store (.agg (encPerson ((⟨zS, 0, 0, 0, 0⟩ : Person))).toArray) ((encPerson ((⟨zS, 0, 0, 0, 0⟩ : Person))).toArray) hST rfl rfl Tryz.sizeOf104 (onePerson ((⟨zS, 0, 0, 0, 0⟩ : Person))) (Nat.le_of_ble_eq_true rfl) rfl (fun a5 hST => V (R_assign rfl) (LW_nil (sq_n ?_))))
    replace hST := hST.sel (Kb (Dr St))
    refine CW_ret (sq_r ?_)
    replace hm := Option.some.inj hm; subst hm
    exact retQ_ct (v0 := (.agg (encPerson ((⟨zS, 0, 0, 0, 0⟩ : Person))).toArray)) (v1 := (.bool false)) rfl rfl (load_boxA hST.has Mh (encPerson ((⟨zS, 0, 0, 0, 0⟩ : Person))) rfl Tryz.isAgg104 Tryz.sizeOf104) rfl ⟨rfl, hST.ex⟩
  replace hm := if_f f hm
  refine CW_skip (sq_n (CW_seq (CW_region (V (R_move rfl) ?_))))
  obtain ⟨a, G, hm⟩ := bind_some hm
  refine VQ (R_nilCheckDP beqS_iff.1 i G rfl) (fun | _, ⟨a7, rfl, N, B⟩ => V (R_load rfl (load_boxA hST.has (Ml B) (encPerson a) rfl Tryz.isAgg104 Tryz.sizeOf104)) ?_)
  replace hST := hST.perm (Nb (Pr Pz) Nz)
  refine VO (F_store (.agg (encPerson a).toArray) ((encPerson a).toArray) hST rfl rfl Tryz.sizeOf104 (onePerson a) (Nat.le_of_ble_eq_true rfl) rfl (fun a6 hST => V (R_assign rfl) (LW_nil (sq_n ?_))))
  replace hST := hST.sel (Kb (Dr St))
  refine CW_ret ?_
  replace hm := Option.some.inj hm; subst hm
  exact retQ_ct (v0 := (.agg (encPerson a).toArray)) (v1 := (.bool true)) rfl rfl (load_boxA hST.has Mh (encPerson a) rfl Tryz.isAgg104 Tryz.sizeOf104) rfl ⟨rfl, hST.ex⟩
theorem w_model_Model_Roles (K : Nat) (z : Value) (H : List (Role × (List (ByteArray × Bool)))) (c : Value) (u : List Cred) (j : Value) (G : List (Role × (List Cred))) (f : Value) (y : List (ByteArray × (List Cred))) (g : Value) (D : List Fact) (a3 : Int) (a1 : ByteArray) (r : List Role) (w : World) (a4 : DeepAt (fun (x : Role) => (.agg (encRole x).toArray)) (MapRow Value.string (fun (x : Bool) => (Value.bool x))) (hp w) z H) (T : Sl (Pl encCred) 9 (hp w) c u) (a0 : DeepAt (fun (x : Role) => (.agg (encRole x).toArray)) (Row 83 encCred 9) (hp w) j G) (U : DeepAt Value.string (Row 83 encCred 9) (hp w) f y) (Z : Sl (Pl encFact) 3 (hp w) g D) (a9 : At (hp w) (.pointer (some ⟨K, 0, none⟩)) [z, c, j, f, g, (.int .i64 a3)]) (hm : m_model_Model_Roles H u G y D a3 a1 = some r) :
    GivesRow true Tryz.prog 39 [(.pointer (some ⟨K, 0, none⟩)), (.string a1)] w 47 encRole 2 r := by
  have hST := ST.start (dd := true) w
  unfold m_model_Model_Roles at hm
  refine calls_of_CW (n := 26) Tryz.func39 rfl rfl (Nat.le_of_ble_eq_true rfl) (CW_seq (CW_region (V (R_assign rfl) (LW_nil (sq_n (CW_seq (CW_region (V (R_assign rfl) (LW_nil (sq_n (CW_seq (CW_seq (CW_region (V (R_move rfl) ?_))))))))))))))
  obtain ⟨r1, c0, hm⟩ := bind_some hm
  refine VE (F_givesRow (args := [(.pointer (some ⟨K, 0, none⟩))]) _ hST rfl Tryz.call34 (by exact args1 rfl) ((w_model_Model_Facts K z H c u j G f y g D a3 _ _ (a4.mono hST.sub_hp) (T.mono (Pl.mono _) hST.sub_hp) (a0.mono hST.sub_hp) (U.mono hST.sub_hp) (Z.mono (Pl.mono _) hST.sub_hp) (a9.mono hST.sub_hp) c0)) (fun W3 v6 μ4 R7 hST c8 a5 => V (R_lenRow Tryz.underlying53 rfl a5) (V (R_move rfl) (LW_nil (sq_n (CW_range (fun i E W => ∃ (J : Value) (I : List Role) (t : List (Nat × Obj)) (a2 : List (Nat × Obj)), (E 11 = .int .i64 (i : Nat) ∧ E 10 = .int .i64 (r1.length : Nat)) ∧ ST true NoF w W μ4 (t ++ (R7 ++ a2)) ∧ E 1 = (.string a1) ∧ E 5 = J ∧ E 9 = v6 ∧ Row 47 encRole 2 J I t ∧ m_model_Model_Roles_L1 a1 (r1.drop i) I = some r) r1.length a5.len ⟨(.slice none 0 0), ([]), [], _, ⟨rfl, rfl⟩, (hST.sel St), rfl, rfl, rfl, (Row.nil _ _ _), hm⟩ (by decide) (by decide) (by decide) (fun _ _ _ h => by obtain ⟨_, _, _, _, eIN, _⟩ := h; exact eIN) ?_ ?_))))))
  · rintro c1 E W b5 ⟨J, I, t, a2, ⟨eI, eN⟩, hST, M, N, Q, B, a⟩
    obtain ⟨k, d1, b6, a7, a8⟩ := drop_cons b5
    rw [b6] at a
    rw [m_model_Model_Roles_L1] at a
    refine CW_block (CW_seq (CW_region (VQ (R_indexRow (i := (c1 : Int)) (x0 := k) Tryz.underlying53 Tryz.sizeOf78 Q eI a5 (Int.natCast_nonneg _) a7) (fun c9 b2 => V (R_load rfl (load_ixA hST.has (fun p hq => (Ma (Ml hq))) a5 lenFact b2 a7 Tryz.isAgg78 Tryz.sizeOf78)) (VE (E_alloc hST Tryz.zeroValue78 (fun c3 c7 hST => VO (F_store (.agg (encFact k).toArray) ((encFact k).toArray) hST rfl rfl Tryz.sizeOf78 (oneFact k) (Nat.le_of_ble_eq_true rfl) rfl (fun c4 hST => LW_nil (sq_n (CW_seq (CW_region (V (R_field fa78_1 rfl) (V (R_load rfl (load_box1 hST.has Mh rfl Tryz.isAgg9)) (V (R_move M) (V (R_str rfl rfl rfl) ?_))))))))))))))))
    refine LW_nil (sq_n (CW_if (b := (beqS k.Who a1)) rfl (fun Y => ?_) (fun Y => ?_)))
    · replace a := if_t Y a
      refine CW_region (V (R_move N) (V (R_field fa78_0 rfl) (V (R_load rfl (load_boxA hST.has Mh (encRole k.Role) rfl Tryz.isAgg47 Tryz.sizeOf47)) (VE (E_buildSlice (qs := #[(0, (.agg (encRole k.Role).toArray))]) (cs := (encRole k.Role).toArray) hST (parts1 rfl) (run_lit [(.agg (encRole k.Role).toArray)] Tryz.underlying23 Tryz.sizeOf47 Tryz.zeroValue47 (by decide) rfl (by intro v hv; simp only [List.mem_cons, List.not_mem_nil, or_false] at hv; rcases hv with rfl <;> rfl) rfl rfl) (fun c5 b4 hST => ?_))))))
      replace hST := hST.perm (Nr (Qb (Qb Qz)) Nz)
      obtain ⟨b7, b1, a⟩ := bind_some a
      refine VE (F_append (enc := encRole) (v := J) (vs := (.slice (some ⟨b4, 0, none⟩) 1 1)) (R := t) hST lenRole (by decide) oneRole Tryz.underlying23 info47.1 info47.2.1 rfl info47.2.2.1 info47.2.2.2 rfl rfl B (Sl.lit (enc := encRole) (l := [k.Role]) lenRole rfl (Nat.le_of_ble_eq_true rfl) rfl (hST.at_ (Ma Mh))) b1 (fun c6 b9 b3 hST b0 => V (R_assign rfl) (LW_nil (bq_n (sq_n ?_)))))
      replace hST := hST.sel (Kr (Db (Db St)))
      exact ⟨eI, b9, b7, b3, _, ⟨rfl, eN⟩, (hST.sel St), M, rfl, Q, b0, (by rw [a8]; exact a)⟩
    replace a := if_f Y a
    refine CW_skip (bq_n (sq_n ?_))
    replace hST := hST.sel (Db St)
    exact ⟨eI, J, I, t, _, ⟨rfl, eN⟩, (hST.sel St), M, N, Q, B, (by rw [a8]; exact a)⟩
  rintro E W ⟨J, I, t, a2, ⟨eI, eN⟩, hST, M, N, Q, B, a⟩
  rw [List.drop_length] at a
  rw [m_model_Model_Roles_L1] at a
  refine sq_n ?_
  replace hST := hST.sel (Kr (Dr St))
  refine CW_seq (CW_region (V (R_move N) (V (R_assign rfl) (LW_nil (sq_n (CW_ret ?_))))))
  replace a := Option.some.inj a; subst a
  exact retQ_1 (v := J) rfl rfl ⟨_, t, rfl, hST.backRow (fun p hq => (Ml hq)) B.nd, B⟩
theorem w_census_Reach (u : Value) (a0 : List Cred) (J : ByteArray) (r : List ByteArray) (w : World) (a5 : Sl (Pl encCred) 9 (hp w) u a0) (hm : m_census_Reach a0 J = some r) :
    GivesRow false Tryz.prog 68 [u, (.string J)] w 9 encSk 1 r := by
  have hST := ST.start (dd := false) w
  unfold m_census_Reach at hm
  refine calls_of_CW (n := 25) Tryz.func68 rfl rfl (Nat.le_of_ble_eq_true rfl) (CW_seq (CW_region (V (R_assign rfl) (LW_nil (sq_n (CW_seq (CW_region (V (R_assign rfl) (LW_nil (sq_n (CW_seq (CW_seq (CW_region (V (R_move rfl) ?_))))))))))))))
  obtain ⟨H, c0, hm⟩ := bind_some hm
  have hsz := hST.size
  refine VE (E_callM (args := [u]) (caps := #[]) [] _ hST (List.Perm.refl _) rfl Tryz.call31 (by exact args1 rfl) (fun _ _ _ _ => (w_model_Of u a0 _ _ (a5.mono (Pl.mono _) hST.sub_hp) c0)) (fun W3 v6 μ4 L8 hST d6 hlift b7 => ?_))
  obtain ⟨b9, c3, e1, c4, e2, c5, e3, c6, e4, c7, e5, B, rfl, a7, a8, a9, b0, b1⟩ := b7
  replace B := B.symm; subst B
  replace hST := hST.perm (Tb (Tr (Tr (Tr (Tr (Tr Tn))))))
  refine V (R_move rfl) ?_
  obtain ⟨I, a6, hm⟩ := bind_some hm
  refine VE (F_givesRow (args := [(.pointer (some ⟨b9, 0, none⟩)), (.string J)]) _ hST rfl Tryz.call39 (by exact args2 rfl rfl) (GivesRow.weak (w_model_Model_Roles b9 c3 H.1 c4 H.2.1 c5 H.2.2.1 c6 H.2.2.2.1 c7 H.2.2.2.2.1 H.2.2.2.2.2 J _ _ (a7.at (fun b o hq => hST.at_ (Mt (Ml hq)))) (a8.sl lenCred (fun b o hq => hST.at_ (Mt (Ma (Ml hq))))) (a9.at (fun b o hq => hST.at_ (Mt (Ma (Ma (Ml hq)))))) (b0.at (fun b o hq => hST.at_ (Mt (Ma (Ma (Ma (Ml hq))))))) ((b1.slL lenFact).mono (Pl.mono _) (memL_held (fun b o hq => hST.at_ (Mt (Ma (Ma (Ma (Ma (Ml hq))))))))) (At.of (hST.at_ Mh) _ rfl) a6)) (fun e6 c2 c8 b5 hST c9 k => V (R_lenRow Tryz.underlying23 rfl k) (V (R_move rfl) (LW_nil (sq_n ?_)))))
  replace hST := hST.sel (Kr (Db (Dr (Dr (Dr (Dr (Dr St)))))))
  refine CW_range (fun i E W => ∃ (c : Value) (j : List ByteArray) (g : List (Nat × Obj)) (x : List (Nat × Obj)), (E 13 = .int .i64 (i : Nat) ∧ E 12 = .int .i64 (I.length : Nat)) ∧ ST false NoF w W c8 (g ++ (b5 ++ x)) ∧ E 5 = c ∧ E 11 = c2 ∧ Row 9 encSk 1 c j g ∧ m_census_Reach_L1 (I.drop i) j = some r) I.length k.len ⟨(.slice none 0 0), ([]), [], _, ⟨rfl, rfl⟩, (hST.sel St), rfl, rfl, (Row.nil _ _ _), hm⟩ (by decide) (by decide) (by decide) (fun _ _ _ h => by obtain ⟨_, _, _, _, eIN, _⟩ := h; exact eIN) ?_ ?_
  · rintro c1 E W N ⟨c, j, g, x, ⟨eI, eN⟩, hST, y, z, t, a⟩
    obtain ⟨f, d9, U, G, Y⟩ := drop_cons N
    rw [U] at a
    rw [m_census_Reach_L1] at a
    refine CW_block (CW_seq (CW_region (VQ (R_indexRow (i := (c1 : Int)) (x0 := f) Tryz.underlying23 Tryz.sizeOf47 z eI k (Int.natCast_nonneg _) G) (fun d7 Q => V (R_load rfl (load_ixA hST.has (fun p hq => (Ma (Ml hq))) k lenRole Q G Tryz.isAgg47 Tryz.sizeOf47)) (VE (E_alloc hST Tryz.zeroValue47 (fun d0 d5 hST => VO (F_store (.agg (encRole f).toArray) ((encRole f).toArray) hST rfl rfl Tryz.sizeOf47 (oneRole f) (Nat.le_of_ble_eq_true rfl) rfl (fun d1 hST => LW_nil (sq_n (CW_region (V (R_move y) (V (R_field fa47_0 rfl) (V (R_load rfl (load_box1 hST.has Mh rfl Tryz.isAgg9)) (VE (E_buildSlice (qs := #[(0, (.string f.Owner))]) (cs := [(.string f.Owner)].toArray) hST (parts1 rfl) (run_lit [(.string f.Owner)] Tryz.underlying27 Tryz.sizeOf9 Tryz.zeroValue9 (by decide) rfl (by intro v hv; simp only [List.mem_cons, List.not_mem_nil, or_false] at hv; rcases hv with rfl <;> rfl) rfl rfl) (fun d2 a4 hST => ?_)))))))))))))))))
    replace hST := hST.perm (Nr (Qb (Qb Qz)) Nz)
    obtain ⟨b2, M, a⟩ := bind_some a
    refine VE (F_append (enc := encSk) (v := c) (vs := (.slice (some ⟨a4, 0, none⟩) 1 1)) (R := g) hST (fun _ => rfl) (by decide) oneS Tryz.underlying27 info9.1 info9.2.1 rfl info9.2.2.1 info9.2.2.2 rfl rfl t (Sl.lit (enc := encSk) (l := [f.Owner]) (fun _ => rfl) rfl (Nat.le_of_ble_eq_true rfl) rfl (hST.at_ (Ma Mh))) M (fun d3 b3 Z hST K => V (R_assign rfl) (LW_nil (bq_n (sq_n ?_)))))
    replace hST := hST.sel (Kr (Db (Db St)))
    exact ⟨eI, b3, b2, Z, _, ⟨rfl, eN⟩, (hST.sel St), rfl, z, K, (by rw [Y]; exact a)⟩
  rintro E W ⟨c, j, g, x, ⟨eI, eN⟩, hST, y, z, t, a⟩
  rw [List.drop_length] at a
  rw [m_census_Reach_L1] at a
  refine sq_n ?_
  replace hST := hST.sel (Kr (Dr St))
  refine CW_seq (CW_region (V (R_move y) ?_))
  obtain ⟨d8, T, a⟩ := bind_some a
  refine VE (F_givesRow (args := [c]) _ hST rfl Tryz.call79 (by exact args1 rfl) (GivesRow.weak (w_name_Set c j _ _ (t.sl (fun _ => rfl) (fun b o hq => hST.at_ (Ml hq))) T)) (fun d4 b4 e0 a2 hST b8 D => V (R_assign rfl) (LW_nil (sq_n ?_))))
  replace hST := hST.sel (Kr (Dr St))
  refine CW_ret ?_
  replace a := Option.some.inj a; subst a
  exact retQ_1 (v := b4) rfl rfl ⟨_, a2, rfl, hST.backRow (fun p hq => (Ml hq)) D.nd, D⟩
theorem w_slices_Equal_Role (t : Value) (z : List Role) (u : Value) (H : List Role) (r : Bool) (w : World) (c : Sl (Pl encRole) 2 (hp w) t z) (B : Sl (Pl encRole) 2 (hp w) u H) (hm : m_slices_Equal_Role z H = some r) :
    Gives true Tryz.prog 122 [t, u] w (.bool r) := by
  have hST := ST.start (dd := true) w
  unfold m_slices_Equal_Role at hm
  refine calls_of_CW (n := 26) Tryz.func122 rfl rfl (Nat.le_of_ble_eq_true rfl) (CW_seq (CW_region (V (R_assign rfl) (LW_nil (sq_n (CW_seq (CW_seq (CW_region (V (R_move rfl) (V (R_len Tryz.underlying23 rfl c) (V (R_move rfl) (V (R_len Tryz.underlying23 rfl B) (V (R_int rfl rfl rfl) (LW_nil ?_))))))))))))))
  refine sq_n (CW_if (b := (((z.length : Int)) != ((H.length : Int)))) rfl (fun D => ?_) (fun D => ?_))
  · replace hm := if_t D hm
    refine CW_seq (CW_region (V (R_assign rfl) (LW_nil (sq_n (CW_ret (sq_r ?_))))))
    replace hm := Option.some.inj hm; subst hm
    exact retQ_1 (v := (.bool false)) rfl rfl ⟨rfl, hST.ex⟩
  replace hm := if_f D hm
  refine CW_skip (sq_n (CW_seq (CW_seq (CW_region (V (R_move rfl) (V (R_len Tryz.underlying23 rfl c) (V (R_move rfl) (LW_nil (sq_n (CW_range (fun i E W => ∃  (g : List (Nat × Obj)), (E 13 = .int .i64 (i : Nat) ∧ E 12 = .int .i64 (z.length : Nat)) ∧ ST true NoF w W (hp w) g ∧ E 0 = t ∧ E 1 = u ∧ m_slices_Equal_Role_L1 H (z.drop i) i = some r) z.length c.len ⟨_, ⟨rfl, rfl⟩, (hST.sel St), rfl, rfl, hm⟩ (by decide) (by decide) (by decide) (fun _ _ _ h => by obtain ⟨_, eIN, _⟩ := h; exact eIN) ?_ ?_))))))))))
  · rintro K E W M ⟨g, ⟨eI, eN⟩, hST, j, k, a⟩
    obtain ⟨G, a2, Q, N, T⟩ := drop_cons M
    rw [Q] at a
    rw [m_slices_Equal_Role_L1] at a
    refine CW_block (CW_seq (CW_region (V (R_move eI) (V (R_assign rfl) (LW_nil (sq_n (CW_seq ?_)))))))
    replace hST := hST.drew
    have hS0 := hST.has.sel Sn
    refine PX_start1 hS0 Tryz_mixed (X 0 rfl hS0 (R_move j) (X 1 rfl hS0 (R_move rfl) (XQ 2 rfl hS0 (R_indexP (enc := encRole) (i := (K : Int)) (x0 := G) Tryz.underlying23 Tryz.sizeOf47 rfl rfl c (Int.natCast_nonneg _) N) (fun U I => XH 3 rfl hS0 (fun _ hS => R_load rfl (load_atA hS I Tryz.isAgg47 Tryz.sizeOf47)) (X 4 rfl hS0 (R_move k) (X 5 rfl hS0 (R_move rfl) ?_))))))
    obtain ⟨x, y, a⟩ := bind_some a
    refine XQ 6 rfl hS0 (R_indexP (enc := encRole) (i := (K : Int)) (x0 := x) Tryz.underlying23 Tryz.sizeOf47 rfl rfl B (idx_nonneg y) (idx_get y)) (fun Y J => XH 7 rfl hS0 (fun _ hS => R_load rfl (load_atA hS J Tryz.isAgg47 Tryz.sizeOf47)) (X 8 rfl hS0 (R_neq rfl rfl (guard_agg Tryz.eqGuardType47) (bin_neq (eqInRole _ G x))) (PX_done (by kernel_rfl) (sq_n (CW_if (b := (!(beqRole G x))) rfl (fun f => ?_) (fun f => ?_))))))
    · replace a := if_t f a
      refine CW_seq (CW_region (V (R_assign rfl) (LW_nil (sq_n (CW_ret (bq_r (sq_r (bq_r (sq_r ?_)))))))))
      replace a := Option.some.inj a; subst a
      exact retQ_1 (v := (.bool false)) rfl rfl ⟨rfl, hST.ex⟩
    replace a := if_f f a
    exact CW_skip (bq_n (sq_n ⟨eI, _, ⟨rfl, eN⟩, (hST.sel St), j, k, (by rw [T]; exact a)⟩))
  rintro E W ⟨g, ⟨eI, eN⟩, hST, j, k, a⟩
  rw [List.drop_length] at a
  rw [m_slices_Equal_Role_L1] at a
  refine sq_n (CW_seq (CW_region (V (R_assign rfl) (LW_nil (sq_n (CW_ret ?_))))))
  replace a := Option.some.inj a; subst a
  exact retQ_1 (v := (.bool true)) rfl rfl ⟨rfl, hST.ex⟩
theorem w_census_Alike (c : Value) (K : List Cred) (u : ByteArray) (x : ByteArray) (r : Bool) (w : World) (Q : Sl (Pl encCred) 9 (hp w) c K) (hm : m_census_Alike K u x = some r) :
    Gives false Tryz.prog 70 [c, (.string u), (.string x)] w (.bool r) := by
  have hST := ST.start (dd := false) w
  unfold m_census_Alike at hm
  refine calls_of_CW (n := 17) Tryz.func70 rfl rfl (Nat.le_of_ble_eq_true rfl) (CW_seq (CW_region (V (R_assign rfl) (LW_nil (sq_n (CW_seq (CW_region (V (R_move rfl) ?_))))))))
  obtain ⟨a, a3, hm⟩ := bind_some hm
  have hsz := hST.size
  refine VE (E_callM (args := [c]) (caps := #[]) [] _ hST (List.Perm.refl _) rfl Tryz.call31 (by exact args1 rfl) (fun _ _ _ _ => (w_model_Of c K _ _ (Q.mono (Pl.mono _) hST.sub_hp) a3)) (fun W3 v6 μ4 L8 hST a9 hlift Z => ?_))
  obtain ⟨y, D, b2, G, b3, H, b4, I, b5, J, b6, f, rfl, g, i, j, k, t⟩ := Z
  replace f := f.symm; subst f
  replace hST := hST.perm (Tb (Tr (Tr (Tr (Tr (Tr Tn))))))
  refine V (R_assign rfl) (LW_nil (sq_n (CW_seq (CW_region (V (R_move rfl) (V (R_move rfl) ?_))))))
  obtain ⟨a4, T, hm⟩ := bind_some hm
  refine VE (F_givesRow (args := [(.pointer (some ⟨y, 0, none⟩)), (.string u)]) _ hST rfl Tryz.call39 (by exact args2 rfl rfl) (GivesRow.weak (w_model_Model_Roles y D a.1 G a.2.1 H a.2.2.1 I a.2.2.2.1 J a.2.2.2.2.1 a.2.2.2.2.2 u _ _ (g.at (fun b o hq => hST.at_ (Mt (Ml hq)))) (i.sl lenCred (fun b o hq => hST.at_ (Mt (Ma (Ml hq))))) (j.at (fun b o hq => hST.at_ (Mt (Ma (Ma (Ml hq)))))) (k.at (fun b o hq => hST.at_ (Mt (Ma (Ma (Ma (Ml hq))))))) ((t.slL lenFact).mono (Pl.mono _) (memL_held (fun b o hq => hST.at_ (Mt (Ma (Ma (Ma (Ma (Ml hq))))))))) (At.of (hST.at_ Mh) _ rfl) T)) (fun b7 z c1 b0 hST a7 M => V (R_move rfl) (V (R_move rfl) ?_)))
  obtain ⟨a5, U, hm⟩ := bind_some hm
  refine VE (F_givesRow (args := [(.pointer (some ⟨y, 0, none⟩)), (.string x)]) _ hST rfl Tryz.call39 (by exact args2 rfl rfl) (GivesRow.weak (w_model_Model_Roles y D a.1 G a.2.1 H a.2.2.1 I a.2.2.2.1 J a.2.2.2.2.1 a.2.2.2.2.2 x _ _ (g.at (fun b o hq => hST.at_ (Ma (Mt (Ml hq))))) (i.sl lenCred (fun b o hq => hST.at_ (Ma (Mt (Ma (Ml hq)))))) (j.at (fun b o hq => hST.at_ (Ma (Mt (Ma (Ma (Ml hq))))))) (k.at (fun b o hq => hST.at_ (Ma (Mt (Ma (Ma (Ma (Ml hq)))))))) ((t.slL lenFact).mono (Pl.mono _) (memL_held (fun b o hq => hST.at_ (Ma (Mt (Ma (Ma (Ma (Ma (Ml hq)))))))))) (At.of (hST.at_ (Ma Mh)) _ rfl) U)) (fun b8 B c2 b1 hST a8 N => ?_))
  obtain ⟨a6, Y, hm⟩ := bind_some hm
  refine VE (E_gives (args := [z, B]) hST rfl Tryz.call122 (by exact args2 rfl rfl) (Gives.weak (w_slices_Equal_Role z a4 B a5 _ _ (M.sl lenRole (fun b o hq => hST.at_ (Ma (Ml hq)))) (N.sl lenRole (fun b o hq => hST.at_ (Ml hq))) Y)) (fun c0 hST => V (R_assign rfl) (LW_nil (sq_n ?_))))
  replace hST := hST.sel (Dr (Dr (Db (Dr (Dr (Dr (Dr (Dr St))))))))
  refine CW_ret ?_
  replace hm := Option.some.inj hm; subst hm
  exact retQ_1 (v := (.bool a6)) rfl rfl ⟨rfl, hST.ex⟩
theorem w_law47_first  (r : Bool) (w : World)  (hm : m_law47_first  = some r) :
    Gives false Tryz.prog 63 [] w (.bool r) := by
  have hST := ST.start (dd := false) w
  unfold m_law47_first at hm
  refine calls_of_CW (n := 79) Tryz.func63 rfl rfl (Nat.le_of_ble_eq_true rfl) (CW_seq (CW_region (V (R_assign rfl) (LW_nil (sq_n (CW_seq (CW_region (V (R_build (qs := #[(0, (.string ((⟨#[97]⟩ : ByteArray)))), (1, (.string ((⟨#[114]⟩ : ByteArray))))]) (v := (.agg (encRole ((⟨(⟨#[97]⟩ : ByteArray), (⟨#[114]⟩ : ByteArray)⟩ : Role))).toArray)) (parts2 rfl rfl) (run_build Tryz.zeroValue47 Tryz.underlying47 (pl47 _ Tryz.underlying47) (by kernel_rfl))) (V (R_build (qs := #[(0, (.int .i64 1)), (1, (.agg (encRole ((⟨(⟨#[97]⟩ : ByteArray), (⟨#[114]⟩ : ByteArray)⟩ : Role))).toArray)), (2, (.string ((⟨#[100]⟩ : ByteArray))))]) (v := (.agg (encCred ((⟨1, (⟨(⟨#[97]⟩ : ByteArray), (⟨#[114]⟩ : ByteArray)⟩ : Role), (⟨#[100]⟩ : ByteArray), (⟨zS, zS⟩ : Role), (⟨zS, zS⟩ : Role), zS⟩ : Cred))).toArray)) (parts3 rfl rfl rfl) (run_build Tryz.zeroValue83 Tryz.underlying83 (pl83 _ Tryz.underlying83) (by kernel_rfl))) (VE (E_alloc hST Tryz.zeroValue83 (fun W2 b1 hST => VO (F_store (.agg (encCred ((⟨1, (⟨(⟨#[97]⟩ : ByteArray), (⟨#[114]⟩ : ByteArray)⟩ : Role), (⟨#[100]⟩ : ByteArray), (⟨zS, zS⟩ : Role), (⟨zS, zS⟩ : Role), zS⟩ : Cred))).toArray) ((encCred ((⟨1, (⟨(⟨#[97]⟩ : ByteArray), (⟨#[114]⟩ : ByteArray)⟩ : Role), (⟨#[100]⟩ : ByteArray), (⟨zS, zS⟩ : Role), (⟨zS, zS⟩ : Role), zS⟩ : Cred))).toArray) hST rfl rfl Tryz.sizeOf83 (oneCred ((⟨1, (⟨(⟨#[97]⟩ : ByteArray), (⟨#[114]⟩ : ByteArray)⟩ : Role), (⟨#[100]⟩ : ByteArray), (⟨zS, zS⟩ : Role), (⟨zS, zS⟩ : Role), zS⟩ : Cred))) (Nat.le_of_ble_eq_true rfl) rfl (fun W3 hST => LW_nil (sq_n (CW_seq ?_))))))))))))))))
  refine CW_region (V (R_load rfl (load_boxA hST.has Mh (encCred ((⟨1, (⟨(⟨#[97]⟩ : ByteArray), (⟨#[114]⟩ : ByteArray)⟩ : Role), (⟨#[100]⟩ : ByteArray), (⟨zS, zS⟩ : Role), (⟨zS, zS⟩ : Role), zS⟩ : Cred))) rfl Tryz.isAgg83 Tryz.sizeOf83)) (V (R_load rfl (load_boxA hST.has Mh (encCred ((⟨1, (⟨(⟨#[97]⟩ : ByteArray), (⟨#[114]⟩ : ByteArray)⟩ : Role), (⟨#[100]⟩ : ByteArray), (⟨zS, zS⟩ : Role), (⟨zS, zS⟩ : Role), zS⟩ : Cred))) rfl Tryz.isAgg83 Tryz.sizeOf83)) (VE (E_buildSlice (qs := #[(0, (.agg (encCred ((⟨1, (⟨(⟨#[97]⟩ : ByteArray), (⟨#[114]⟩ : ByteArray)⟩ : Role), (⟨#[100]⟩ : ByteArray), (⟨zS, zS⟩ : Role), (⟨zS, zS⟩ : Role), zS⟩ : Cred))).toArray)), (1, (.agg (encCred ((⟨1, (⟨(⟨#[97]⟩ : ByteArray), (⟨#[114]⟩ : ByteArray)⟩ : Role), (⟨#[100]⟩ : ByteArray), (⟨zS, zS⟩ : Role), (⟨zS, zS⟩ : Role), zS⟩ : Cred))).toArray))]) (cs := #[(.int .i64 1), (.string (((⟨(⟨#[97]⟩ : ByteArray), (⟨#[114]⟩ : ByteArray)⟩ : Role)).Owner)), (.string (((⟨(⟨#[97]⟩ : ByteArray), (⟨#[114]⟩ : ByteArray)⟩ : Role)).Word)), (.string ((⟨#[100]⟩ : ByteArray))), (.string (((⟨zS, zS⟩ : Role)).Owner)), (.string (((⟨zS, zS⟩ : Role)).Word)), (.string (((⟨zS, zS⟩ : Role)).Owner)), (.string (((⟨zS, zS⟩ : Role)).Word)), (.string zS), (.int .i64 1), (.string (((⟨(⟨#[97]⟩ : ByteArray), (⟨#[114]⟩ : ByteArray)⟩ : Role)).Owner)), (.string (((⟨(⟨#[97]⟩ : ByteArray), (⟨#[114]⟩ : ByteArray)⟩ : Role)).Word)), (.string ((⟨#[100]⟩ : ByteArray))), (.string (((⟨zS, zS⟩ : Role)).Owner)), (.string (((⟨zS, zS⟩ : Role)).Word)), (.string (((⟨zS, zS⟩ : Role)).Owner)), (.string (((⟨zS, zS⟩ : Role)).Word)), (.string zS)]) hST (parts2 rfl rfl) (run_lit [(.agg (encCred ((⟨1, (⟨(⟨#[97]⟩ : ByteArray), (⟨#[114]⟩ : ByteArray)⟩ : Role), (⟨#[100]⟩ : ByteArray), (⟨zS, zS⟩ : Role), (⟨zS, zS⟩ : Role), zS⟩ : Cred))).toArray), (.agg (encCred ((⟨1, (⟨(⟨#[97]⟩ : ByteArray), (⟨#[114]⟩ : ByteArray)⟩ : Role), (⟨#[100]⟩ : ByteArray), (⟨zS, zS⟩ : Role), (⟨zS, zS⟩ : Role), zS⟩ : Cred))).toArray)] Tryz.underlying22 Tryz.sizeOf83 Tryz.zeroValue83 (by decide) rfl (by intro v hv; simp only [List.mem_cons, List.not_mem_nil, or_false] at hv; rcases hv with rfl | rfl <;> rfl) rfl rfl) (fun W5 I hST => V (R_assign rfl) (LW_nil (sq_n ?_)))))))
  replace hST := hST.sel (Kb (Db St))
  refine CW_seq (CW_region (V (R_move rfl) ?_))
  obtain ⟨r6, l4, hm⟩ := bind_some hm
  refine VE (F_givesRow (args := [(.slice (some ⟨I, 0, none⟩) 2 2)]) _ hST rfl Tryz.call64 (by exact args1 rfl) ((w_census_People (.slice (some ⟨I, 0, none⟩) 2 2) ([(⟨1, (⟨(⟨#[97]⟩ : ByteArray), (⟨#[114]⟩ : ByteArray)⟩ : Role), (⟨#[100]⟩ : ByteArray), (⟨zS, zS⟩ : Role), (⟨zS, zS⟩ : Role), zS⟩ : Cred), (⟨1, (⟨(⟨#[97]⟩ : ByteArray), (⟨#[114]⟩ : ByteArray)⟩ : Role), (⟨#[100]⟩ : ByteArray), (⟨zS, zS⟩ : Role), (⟨zS, zS⟩ : Role), zS⟩ : Cred)]) _ _ (Sl.lit (enc := encCred) (l := [(⟨1, (⟨(⟨#[97]⟩ : ByteArray), (⟨#[114]⟩ : ByteArray)⟩ : Role), (⟨#[100]⟩ : ByteArray), (⟨zS, zS⟩ : Role), (⟨zS, zS⟩ : Role), zS⟩ : Cred), (⟨1, (⟨(⟨#[97]⟩ : ByteArray), (⟨#[114]⟩ : ByteArray)⟩ : Role), (⟨#[100]⟩ : ByteArray), (⟨zS, zS⟩ : Role), (⟨zS, zS⟩ : Role), zS⟩ : Cred)]) lenCred rfl (Nat.le_of_ble_eq_true rfl) rfl (hST.at_ Mh)) l4)) (fun W8 j2 μ9 b3 hST l5 b6 => V (R_assign rfl) (LW_nil (sq_n (CW_seq (CW_region (V (R_move rfl) ?_)))))))
  obtain ⟨H, k9, hm⟩ := bind_some hm
  refine VE (E_gives (args := [(.slice (some ⟨I, 0, none⟩) 2 2)]) hST rfl Tryz.call67 (by exact args1 rfl) ((w_census_Busiest (.slice (some ⟨I, 0, none⟩) 2 2) ([(⟨1, (⟨(⟨#[97]⟩ : ByteArray), (⟨#[114]⟩ : ByteArray)⟩ : Role), (⟨#[100]⟩ : ByteArray), (⟨zS, zS⟩ : Role), (⟨zS, zS⟩ : Role), zS⟩ : Cred), (⟨1, (⟨(⟨#[97]⟩ : ByteArray), (⟨#[114]⟩ : ByteArray)⟩ : Role), (⟨#[100]⟩ : ByteArray), (⟨zS, zS⟩ : Role), (⟨zS, zS⟩ : Role), zS⟩ : Cred)]) _ _ (Sl.lit (enc := encCred) (l := [(⟨1, (⟨(⟨#[97]⟩ : ByteArray), (⟨#[114]⟩ : ByteArray)⟩ : Role), (⟨#[100]⟩ : ByteArray), (⟨zS, zS⟩ : Role), (⟨zS, zS⟩ : Role), zS⟩ : Cred), (⟨1, (⟨(⟨#[97]⟩ : ByteArray), (⟨#[114]⟩ : ByteArray)⟩ : Role), (⟨#[100]⟩ : ByteArray), (⟨zS, zS⟩ : Role), (⟨zS, zS⟩ : Role), zS⟩ : Cred)]) lenCred rfl (Nat.le_of_ble_eq_true rfl) rfl (hST.at_ (Ma Mh))) k9)) (fun n4 hST => V (R_move rfl) (V (R_extract rfl rfl) (V (R_extract rfl rfl) (VE (E_alloc hST Tryz.zeroValue104 (fun n5 a8 hST => VO (F_store (.agg (encPerson H.1).toArray) ((encPerson H.1).toArray) hST rfl rfl Tryz.sizeOf104 (onePerson H.1) (Nat.le_of_ble_eq_true rfl) rfl (fun n6 hST => V (R_assign rfl) (LW_nil (sq_n (CW_seq (CW_region (V (R_move rfl) ?_))))))))))))))
  obtain ⟨a, l0, hm⟩ := bind_some hm
  refine VE (E_gives (args := [(.slice (some ⟨I, 0, none⟩) 2 2), (.string ((⟨#[100]⟩ : ByteArray)))]) hST rfl Tryz.call66 (by exact args2 rfl rfl) ((w_census_Person (.slice (some ⟨I, 0, none⟩) 2 2) ([(⟨1, (⟨(⟨#[97]⟩ : ByteArray), (⟨#[114]⟩ : ByteArray)⟩ : Role), (⟨#[100]⟩ : ByteArray), (⟨zS, zS⟩ : Role), (⟨zS, zS⟩ : Role), zS⟩ : Cred), (⟨1, (⟨(⟨#[97]⟩ : ByteArray), (⟨#[114]⟩ : ByteArray)⟩ : Role), (⟨#[100]⟩ : ByteArray), (⟨zS, zS⟩ : Role), (⟨zS, zS⟩ : Role), zS⟩ : Cred)]) ((⟨#[100]⟩ : ByteArray)) _ _ (Sl.lit (enc := encCred) (l := [(⟨1, (⟨(⟨#[97]⟩ : ByteArray), (⟨#[114]⟩ : ByteArray)⟩ : Role), (⟨#[100]⟩ : ByteArray), (⟨zS, zS⟩ : Role), (⟨zS, zS⟩ : Role), zS⟩ : Cred), (⟨1, (⟨(⟨#[97]⟩ : ByteArray), (⟨#[114]⟩ : ByteArray)⟩ : Role), (⟨#[100]⟩ : ByteArray), (⟨zS, zS⟩ : Role), (⟨zS, zS⟩ : Role), zS⟩ : Cred)]) lenCred rfl (Nat.le_of_ble_eq_true rfl) rfl (hST.at_ (Mt (Ma Mh)))) l0)) (fun n7 hST => V (R_move rfl) (V (R_extract rfl rfl) (V (R_extract rfl rfl) (VE (E_alloc hST Tryz.zeroValue104 (fun n8 a3 hST => VO (F_store (.agg (encPerson a.1).toArray) ((encPerson a.1).toArray) hST rfl rfl Tryz.sizeOf104 (onePerson a.1) (Nat.le_of_ble_eq_true rfl) rfl (fun n9 hST => V (R_assign rfl) (LW_nil (sq_n (CW_seq (CW_region (V (R_move rfl) ?_))))))))))))))
  obtain ⟨a7, l1, hm⟩ := bind_some hm
  refine VE (E_gives (args := [(.slice (some ⟨I, 0, none⟩) 2 2), (.string ((⟨#[101]⟩ : ByteArray)))]) hST rfl Tryz.call66 (by exact args2 rfl rfl) ((w_census_Person (.slice (some ⟨I, 0, none⟩) 2 2) ([(⟨1, (⟨(⟨#[97]⟩ : ByteArray), (⟨#[114]⟩ : ByteArray)⟩ : Role), (⟨#[100]⟩ : ByteArray), (⟨zS, zS⟩ : Role), (⟨zS, zS⟩ : Role), zS⟩ : Cred), (⟨1, (⟨(⟨#[97]⟩ : ByteArray), (⟨#[114]⟩ : ByteArray)⟩ : Role), (⟨#[100]⟩ : ByteArray), (⟨zS, zS⟩ : Role), (⟨zS, zS⟩ : Role), zS⟩ : Cred)]) ((⟨#[101]⟩ : ByteArray)) _ _ (Sl.lit (enc := encCred) (l := [(⟨1, (⟨(⟨#[97]⟩ : ByteArray), (⟨#[114]⟩ : ByteArray)⟩ : Role), (⟨#[100]⟩ : ByteArray), (⟨zS, zS⟩ : Role), (⟨zS, zS⟩ : Role), zS⟩ : Cred), (⟨1, (⟨(⟨#[97]⟩ : ByteArray), (⟨#[114]⟩ : ByteArray)⟩ : Role), (⟨#[100]⟩ : ByteArray), (⟨zS, zS⟩ : Role), (⟨zS, zS⟩ : Role), zS⟩ : Cred)]) lenCred rfl (Nat.le_of_ble_eq_true rfl) rfl (hST.at_ (Mt (Mt (Ma Mh))))) l1)) (fun o0 hST => V (R_move rfl) (V (R_extract rfl rfl) (V (R_extract rfl rfl) (VE (E_alloc hST Tryz.zeroValue104 (fun o1 o3 hST => VO (F_store (.agg (encPerson a7.1).toArray) ((encPerson a7.1).toArray) hST rfl rfl Tryz.sizeOf104 (onePerson a7.1) (Nat.le_of_ble_eq_true rfl) rfl (fun o2 hST => V (R_assign rfl) (LW_nil (sq_n ?_)))))))))))
  replace hST := hST.sel (Db St)
  refine CW_seq ?_
  replace hST := hST.drew
  have hS0 := hST.has.sel (Kb (Kb (Kr Sn)))
  refine PX_start1 hS0 Tryz_mixed (X 0 rfl hS0 (R_move rfl) (X 1 rfl hS0 (R_lenRow Tryz.underlying101 rfl b6) (X 2 rfl hS0 (R_int rfl rfl rfl) (X 3 rfl hS0 (R_move rfl) ?_))))
  obtain ⟨n1, D, e4⟩ := bind_some hm
  refine PX_join (J := fun E W => ∃ (c1 : Bool) (e5 : List (Nat × Obj)), ST false NoF w W μ9 ((a3, Obj.cells ((encPerson a.1).toArray : Array Value) 104 (0, 0)) :: ((a8, Obj.cells ((encPerson H.1).toArray : Array Value) 104 (0, 0)) :: ((I, Obj.cells (#[(.int .i64 1), (.string (((⟨(⟨#[97]⟩ : ByteArray), (⟨#[114]⟩ : ByteArray)⟩ : Role)).Owner)), (.string (((⟨(⟨#[97]⟩ : ByteArray), (⟨#[114]⟩ : ByteArray)⟩ : Role)).Word)), (.string ((⟨#[100]⟩ : ByteArray))), (.string (((⟨zS, zS⟩ : Role)).Owner)), (.string (((⟨zS, zS⟩ : Role)).Word)), (.string (((⟨zS, zS⟩ : Role)).Owner)), (.string (((⟨zS, zS⟩ : Role)).Word)), (.string zS), (.int .i64 1), (.string (((⟨(⟨#[97]⟩ : ByteArray), (⟨#[114]⟩ : ByteArray)⟩ : Role)).Owner)), (.string (((⟨(⟨#[97]⟩ : ByteArray), (⟨#[114]⟩ : ByteArray)⟩ : Role)).Word)), (.string ((⟨#[100]⟩ : ByteArray))), (.string (((⟨zS, zS⟩ : Role)).Owner)), (.string (((⟨zS, zS⟩ : Role)).Word)), (.string (((⟨zS, zS⟩ : Role)).Owner)), (.string (((⟨zS, zS⟩ : Role)).Word)), (.string zS)] : Array Value) 83 (0, 0)) :: (b3 ++ e5)))) ∧ E 0 = (.bool false) ∧ E 2 = (.slice (some ⟨I, 0, none⟩) 2 2) ∧ E 3 = j2 ∧ E 4 = (.pointer (some ⟨a8, 0, none⟩)) ∧ E 5 = (.bool H.2) ∧ E 6 = (.pointer (some ⟨a3, 0, none⟩)) ∧ E 7 = (.bool a.2) ∧ E 9 = (.bool a7.2) ∧ E 41 = (.bool c1) ∧ (((if c1 then some H.2 else some false) : Option Bool).bind fun b5 => (((if b5 then (((idx r6 0)).bind fun b2 => some ((beqPerson H.1 b2))) else some false) : Option Bool).bind fun b0 => (((if b0 then some a.2 else some false) : Option Bool).bind fun a4 => (((if a4 then some ((!a7.2)) else some false) : Option Bool).bind fun a0 => (((if a0 then some ((beqPerson a.1 ((⟨(⟨#[100]⟩ : ByteArray), 0, 1, 1, 0⟩ : Person)))) else some false) : Option Bool).bind fun N => (((if N then (((m_census_Reach ([(⟨1, (⟨(⟨#[97]⟩ : ByteArray), (⟨#[114]⟩ : ByteArray)⟩ : Role), (⟨#[100]⟩ : ByteArray), (⟨zS, zS⟩ : Role), (⟨zS, zS⟩ : Role), zS⟩ : Cred), (⟨1, (⟨(⟨#[97]⟩ : ByteArray), (⟨#[114]⟩ : ByteArray)⟩ : Role), (⟨#[100]⟩ : ByteArray), (⟨zS, zS⟩ : Role), (⟨zS, zS⟩ : Role), zS⟩ : Cred)]) ((⟨#[100]⟩ : ByteArray)))).bind fun Q => some ((((Q.length : Int)) == 1))) else some false) : Option Bool).bind fun u => (((if u then (((m_census_Alike ([(⟨1, (⟨(⟨#[97]⟩ : ByteArray), (⟨#[114]⟩ : ByteArray)⟩ : Role), (⟨#[100]⟩ : ByteArray), (⟨zS, zS⟩ : Role), (⟨zS, zS⟩ : Role), zS⟩ : Cred), (⟨1, (⟨(⟨#[97]⟩ : ByteArray), (⟨#[114]⟩ : ByteArray)⟩ : Role), (⟨#[100]⟩ : ByteArray), (⟨zS, zS⟩ : Role), (⟨zS, zS⟩ : Role), zS⟩ : Cred)]) ((⟨#[97]⟩ : ByteArray)) ((⟨#[101]⟩ : ByteArray)))).bind fun G => some G) else some false) : Option Bool).bind fun j => (((if j then (((m_census_Alike ([(⟨1, (⟨(⟨#[97]⟩ : ByteArray), (⟨#[114]⟩ : ByteArray)⟩ : Role), (⟨#[100]⟩ : ByteArray), (⟨zS, zS⟩ : Role), (⟨zS, zS⟩ : Role), zS⟩ : Cred), (⟨1, (⟨(⟨#[97]⟩ : ByteArray), (⟨#[114]⟩ : ByteArray)⟩ : Role), (⟨#[100]⟩ : ByteArray), (⟨zS, zS⟩ : Role), (⟨zS, zS⟩ : Role), zS⟩ : Cred)]) ((⟨#[97]⟩ : ByteArray)) ((⟨#[100]⟩ : ByteArray)))).bind fun k => some ((!k))) else some false) : Option Bool).bind fun c => some c)))))))) = some r) #[true, true, true, true, true, true, true, true, true, true, false, false, false, false, false, false, false, false, false, false, false, false, false, false, false, false, false, false, false, false, false, false, false, false, false, false, false, false, false, false, false, false, false, false, false, false, false, false] 38 ?_ (fun d1 => ?_)
  · rintro E W ⟨c1, e5, hST, f4, f5, f6, f7, j3, f8, f9, g0, j4, h9⟩
    have hS0 := hST.has.sel (Kb (Kb (Db (Kr Sn))))
    refine X 10 rfl hS0 (R_move j4) ?_
    obtain ⟨n0, Z, e3⟩ := bind_some h9
    refine PX_join (J := fun E W => ∃ (b5 : Bool) (e6 : List (Nat × Obj)), ST false NoF w W μ9 ((a3, Obj.cells ((encPerson a.1).toArray : Array Value) 104 (0, 0)) :: ((a8, Obj.cells ((encPerson H.1).toArray : Array Value) 104 (0, 0)) :: ((I, Obj.cells (#[(.int .i64 1), (.string (((⟨(⟨#[97]⟩ : ByteArray), (⟨#[114]⟩ : ByteArray)⟩ : Role)).Owner)), (.string (((⟨(⟨#[97]⟩ : ByteArray), (⟨#[114]⟩ : ByteArray)⟩ : Role)).Word)), (.string ((⟨#[100]⟩ : ByteArray))), (.string (((⟨zS, zS⟩ : Role)).Owner)), (.string (((⟨zS, zS⟩ : Role)).Word)), (.string (((⟨zS, zS⟩ : Role)).Owner)), (.string (((⟨zS, zS⟩ : Role)).Word)), (.string zS), (.int .i64 1), (.string (((⟨(⟨#[97]⟩ : ByteArray), (⟨#[114]⟩ : ByteArray)⟩ : Role)).Owner)), (.string (((⟨(⟨#[97]⟩ : ByteArray), (⟨#[114]⟩ : ByteArray)⟩ : Role)).Word)), (.string ((⟨#[100]⟩ : ByteArray))), (.string (((⟨zS, zS⟩ : Role)).Owner)), (.string (((⟨zS, zS⟩ : Role)).Word)), (.string (((⟨zS, zS⟩ : Role)).Owner)), (.string (((⟨zS, zS⟩ : Role)).Word)), (.string zS)] : Array Value) 83 (0, 0)) :: (b3 ++ e6)))) ∧ E 0 = (.bool false) ∧ E 2 = (.slice (some ⟨I, 0, none⟩) 2 2) ∧ E 3 = j2 ∧ E 4 = (.pointer (some ⟨a8, 0, none⟩)) ∧ E 6 = (.pointer (some ⟨a3, 0, none⟩)) ∧ E 7 = (.bool a.2) ∧ E 9 = (.bool a7.2) ∧ E 44 = (.bool b5) ∧ (((if b5 then (((idx r6 0)).bind fun b2 => some ((beqPerson H.1 b2))) else some false) : Option Bool).bind fun b0 => (((if b0 then some a.2 else some false) : Option Bool).bind fun a4 => (((if a4 then some ((!a7.2)) else some false) : Option Bool).bind fun a0 => (((if a0 then some ((beqPerson a.1 ((⟨(⟨#[100]⟩ : ByteArray), 0, 1, 1, 0⟩ : Person)))) else some false) : Option Bool).bind fun N => (((if N then (((m_census_Reach ([(⟨1, (⟨(⟨#[97]⟩ : ByteArray), (⟨#[114]⟩ : ByteArray)⟩ : Role), (⟨#[100]⟩ : ByteArray), (⟨zS, zS⟩ : Role), (⟨zS, zS⟩ : Role), zS⟩ : Cred), (⟨1, (⟨(⟨#[97]⟩ : ByteArray), (⟨#[114]⟩ : ByteArray)⟩ : Role), (⟨#[100]⟩ : ByteArray), (⟨zS, zS⟩ : Role), (⟨zS, zS⟩ : Role), zS⟩ : Cred)]) ((⟨#[100]⟩ : ByteArray)))).bind fun Q => some ((((Q.length : Int)) == 1))) else some false) : Option Bool).bind fun u => (((if u then (((m_census_Alike ([(⟨1, (⟨(⟨#[97]⟩ : ByteArray), (⟨#[114]⟩ : ByteArray)⟩ : Role), (⟨#[100]⟩ : ByteArray), (⟨zS, zS⟩ : Role), (⟨zS, zS⟩ : Role), zS⟩ : Cred), (⟨1, (⟨(⟨#[97]⟩ : ByteArray), (⟨#[114]⟩ : ByteArray)⟩ : Role), (⟨#[100]⟩ : ByteArray), (⟨zS, zS⟩ : Role), (⟨zS, zS⟩ : Role), zS⟩ : Cred)]) ((⟨#[97]⟩ : ByteArray)) ((⟨#[101]⟩ : ByteArray)))).bind fun G => some G) else some false) : Option Bool).bind fun j => (((if j then (((m_census_Alike ([(⟨1, (⟨(⟨#[97]⟩ : ByteArray), (⟨#[114]⟩ : ByteArray)⟩ : Role), (⟨#[100]⟩ : ByteArray), (⟨zS, zS⟩ : Role), (⟨zS, zS⟩ : Role), zS⟩ : Cred), (⟨1, (⟨(⟨#[97]⟩ : ByteArray), (⟨#[114]⟩ : ByteArray)⟩ : Role), (⟨#[100]⟩ : ByteArray), (⟨zS, zS⟩ : Role), (⟨zS, zS⟩ : Role), zS⟩ : Cred)]) ((⟨#[97]⟩ : ByteArray)) ((⟨#[100]⟩ : ByteArray)))).bind fun k => some ((!k))) else some false) : Option Bool).bind fun c => some c))))))) = some r) #[true, true, true, true, true, true, true, true, true, true, true, true, true, false, false, false, false, false, false, false, false, false, false, false, false, false, false, false, false, false, false, false, false, false, false, false, false, false, false, false, false, false, false, false, false, false, false, false] 35 ?_ (fun d0 => ?_)
    · rintro E W ⟨b5, e6, hST, g1, g2, j5, j6, g3, g4, g5, j7, i0⟩
      have hS0 := hST.has.sel (Kb (Kb (Db (Kr Sn))))
      refine X 13 rfl hS0 (R_move j7) ?_
      obtain ⟨m9, B, e2⟩ := bind_some i0
      refine PX_join (J := fun E W => ∃ (b0 : Bool) (e7 : List (Nat × Obj)), ST false NoF w W μ9 ((a3, Obj.cells ((encPerson a.1).toArray : Array Value) 104 (0, 0)) :: ((a8, Obj.cells ((encPerson H.1).toArray : Array Value) 104 (0, 0)) :: ((I, Obj.cells (#[(.int .i64 1), (.string (((⟨(⟨#[97]⟩ : ByteArray), (⟨#[114]⟩ : ByteArray)⟩ : Role)).Owner)), (.string (((⟨(⟨#[97]⟩ : ByteArray), (⟨#[114]⟩ : ByteArray)⟩ : Role)).Word)), (.string ((⟨#[100]⟩ : ByteArray))), (.string (((⟨zS, zS⟩ : Role)).Owner)), (.string (((⟨zS, zS⟩ : Role)).Word)), (.string (((⟨zS, zS⟩ : Role)).Owner)), (.string (((⟨zS, zS⟩ : Role)).Word)), (.string zS), (.int .i64 1), (.string (((⟨(⟨#[97]⟩ : ByteArray), (⟨#[114]⟩ : ByteArray)⟩ : Role)).Owner)), (.string (((⟨(⟨#[97]⟩ : ByteArray), (⟨#[114]⟩ : ByteArray)⟩ : Role)).Word)), (.string ((⟨#[100]⟩ : ByteArray))), (.string (((⟨zS, zS⟩ : Role)).Owner)), (.string (((⟨zS, zS⟩ : Role)).Word)), (.string (((⟨zS, zS⟩ : Role)).Owner)), (.string (((⟨zS, zS⟩ : Role)).Word)), (.string zS)] : Array Value) 83 (0, 0)) :: (b3 ++ e7)))) ∧ E 0 = (.bool false) ∧ E 2 = (.slice (some ⟨I, 0, none⟩) 2 2) ∧ E 6 = (.pointer (some ⟨a3, 0, none⟩)) ∧ E 7 = (.bool a.2) ∧ E 9 = (.bool a7.2) ∧ E 51 = (.bool b0) ∧ (((if b0 then some a.2 else some false) : Option Bool).bind fun a4 => (((if a4 then some ((!a7.2)) else some false) : Option Bool).bind fun a0 => (((if a0 then some ((beqPerson a.1 ((⟨(⟨#[100]⟩ : ByteArray), 0, 1, 1, 0⟩ : Person)))) else some false) : Option Bool).bind fun N => (((if N then (((m_census_Reach ([(⟨1, (⟨(⟨#[97]⟩ : ByteArray), (⟨#[114]⟩ : ByteArray)⟩ : Role), (⟨#[100]⟩ : ByteArray), (⟨zS, zS⟩ : Role), (⟨zS, zS⟩ : Role), zS⟩ : Cred), (⟨1, (⟨(⟨#[97]⟩ : ByteArray), (⟨#[114]⟩ : ByteArray)⟩ : Role), (⟨#[100]⟩ : ByteArray), (⟨zS, zS⟩ : Role), (⟨zS, zS⟩ : Role), zS⟩ : Cred)]) ((⟨#[100]⟩ : ByteArray)))).bind fun Q => some ((((Q.length : Int)) == 1))) else some false) : Option Bool).bind fun u => (((if u then (((m_census_Alike ([(⟨1, (⟨(⟨#[97]⟩ : ByteArray), (⟨#[114]⟩ : ByteArray)⟩ : Role), (⟨#[100]⟩ : ByteArray), (⟨zS, zS⟩ : Role), (⟨zS, zS⟩ : Role), zS⟩ : Cred), (⟨1, (⟨(⟨#[97]⟩ : ByteArray), (⟨#[114]⟩ : ByteArray)⟩ : Role), (⟨#[100]⟩ : ByteArray), (⟨zS, zS⟩ : Role), (⟨zS, zS⟩ : Role), zS⟩ : Cred)]) ((⟨#[97]⟩ : ByteArray)) ((⟨#[101]⟩ : ByteArray)))).bind fun G => some G) else some false) : Option Bool).bind fun j => (((if j then (((m_census_Alike ([(⟨1, (⟨(⟨#[97]⟩ : ByteArray), (⟨#[114]⟩ : ByteArray)⟩ : Role), (⟨#[100]⟩ : ByteArray), (⟨zS, zS⟩ : Role), (⟨zS, zS⟩ : Role), zS⟩ : Cred), (⟨1, (⟨(⟨#[97]⟩ : ByteArray), (⟨#[114]⟩ : ByteArray)⟩ : Role), (⟨#[100]⟩ : ByteArray), (⟨zS, zS⟩ : Role), (⟨zS, zS⟩ : Role), zS⟩ : Cred)]) ((⟨#[97]⟩ : ByteArray)) ((⟨#[100]⟩ : ByteArray)))).bind fun k => some ((!k))) else some false) : Option Bool).bind fun c => some c)))))) = some r) #[true, true, true, true, true, true, true, true, true, true, true, true, true, true, true, true, true, true, true, true, false, false, false, false, false, false, false, false, false, false, false, false, false, false, false, false, false, false, false, false, false, false, false, false, false, false, false, false] 28 ?_ (fun c9 => ?_)
      · rintro E W ⟨b0, e7, hST, g6, g7, g8, j8, g9, j9, i1⟩
        have hS0 := hST.has.sel (Kb (Kb (Db (Kr Sn))))
        refine X 20 rfl hS0 (R_move j9) ?_
        obtain ⟨m8, Y, e1⟩ := bind_some i1
        refine PX_join (J := fun E W => ∃ (a4 : Bool) (e8 : List (Nat × Obj)), ST false NoF w W μ9 ((a3, Obj.cells ((encPerson a.1).toArray : Array Value) 104 (0, 0)) :: ((a8, Obj.cells ((encPerson H.1).toArray : Array Value) 104 (0, 0)) :: ((I, Obj.cells (#[(.int .i64 1), (.string (((⟨(⟨#[97]⟩ : ByteArray), (⟨#[114]⟩ : ByteArray)⟩ : Role)).Owner)), (.string (((⟨(⟨#[97]⟩ : ByteArray), (⟨#[114]⟩ : ByteArray)⟩ : Role)).Word)), (.string ((⟨#[100]⟩ : ByteArray))), (.string (((⟨zS, zS⟩ : Role)).Owner)), (.string (((⟨zS, zS⟩ : Role)).Word)), (.string (((⟨zS, zS⟩ : Role)).Owner)), (.string (((⟨zS, zS⟩ : Role)).Word)), (.string zS), (.int .i64 1), (.string (((⟨(⟨#[97]⟩ : ByteArray), (⟨#[114]⟩ : ByteArray)⟩ : Role)).Owner)), (.string (((⟨(⟨#[97]⟩ : ByteArray), (⟨#[114]⟩ : ByteArray)⟩ : Role)).Word)), (.string ((⟨#[100]⟩ : ByteArray))), (.string (((⟨zS, zS⟩ : Role)).Owner)), (.string (((⟨zS, zS⟩ : Role)).Word)), (.string (((⟨zS, zS⟩ : Role)).Owner)), (.string (((⟨zS, zS⟩ : Role)).Word)), (.string zS)] : Array Value) 83 (0, 0)) :: (b3 ++ e8)))) ∧ E 0 = (.bool false) ∧ E 2 = (.slice (some ⟨I, 0, none⟩) 2 2) ∧ E 6 = (.pointer (some ⟨a3, 0, none⟩)) ∧ E 9 = (.bool a7.2) ∧ E 54 = (.bool a4) ∧ (((if a4 then some ((!a7.2)) else some false) : Option Bool).bind fun a0 => (((if a0 then some ((beqPerson a.1 ((⟨(⟨#[100]⟩ : ByteArray), 0, 1, 1, 0⟩ : Person)))) else some false) : Option Bool).bind fun N => (((if N then (((m_census_Reach ([(⟨1, (⟨(⟨#[97]⟩ : ByteArray), (⟨#[114]⟩ : ByteArray)⟩ : Role), (⟨#[100]⟩ : ByteArray), (⟨zS, zS⟩ : Role), (⟨zS, zS⟩ : Role), zS⟩ : Cred), (⟨1, (⟨(⟨#[97]⟩ : ByteArray), (⟨#[114]⟩ : ByteArray)⟩ : Role), (⟨#[100]⟩ : ByteArray), (⟨zS, zS⟩ : Role), (⟨zS, zS⟩ : Role), zS⟩ : Cred)]) ((⟨#[100]⟩ : ByteArray)))).bind fun Q => some ((((Q.length : Int)) == 1))) else some false) : Option Bool).bind fun u => (((if u then (((m_census_Alike ([(⟨1, (⟨(⟨#[97]⟩ : ByteArray), (⟨#[114]⟩ : ByteArray)⟩ : Role), (⟨#[100]⟩ : ByteArray), (⟨zS, zS⟩ : Role), (⟨zS, zS⟩ : Role), zS⟩ : Cred), (⟨1, (⟨(⟨#[97]⟩ : ByteArray), (⟨#[114]⟩ : ByteArray)⟩ : Role), (⟨#[100]⟩ : ByteArray), (⟨zS, zS⟩ : Role), (⟨zS, zS⟩ : Role), zS⟩ : Cred)]) ((⟨#[97]⟩ : ByteArray)) ((⟨#[101]⟩ : ByteArray)))).bind fun G => some G) else some false) : Option Bool).bind fun j => (((if j then (((m_census_Alike ([(⟨1, (⟨(⟨#[97]⟩ : ByteArray), (⟨#[114]⟩ : ByteArray)⟩ : Role), (⟨#[100]⟩ : ByteArray), (⟨zS, zS⟩ : Role), (⟨zS, zS⟩ : Role), zS⟩ : Cred), (⟨1, (⟨(⟨#[97]⟩ : ByteArray), (⟨#[114]⟩ : ByteArray)⟩ : Role), (⟨#[100]⟩ : ByteArray), (⟨zS, zS⟩ : Role), (⟨zS, zS⟩ : Role), zS⟩ : Cred)]) ((⟨#[97]⟩ : ByteArray)) ((⟨#[100]⟩ : ByteArray)))).bind fun k => some ((!k))) else some false) : Option Bool).bind fun c => some c))))) = some r) #[true, true, true, true, true, true, true, true, true, true, true, true, true, true, true, true, true, true, true, true, true, true, true, false, false, false, false, false, false, false, false, false, false, false, false, false, false, false, false, false, false, false, false, false, false, false, false, false] 25 ?_ (fun c8 => ?_)
        · rintro E W ⟨a4, e8, hST, h0, h1, h2, k0, k1, i2⟩
          have hS0 := hST.has.sel (Kb (Kb (Db (Kr Sn))))
          refine X 23 rfl hS0 (R_move k1) ?_
          obtain ⟨m7, U, e0⟩ := bind_some i2
          refine PX_join (J := fun E W => ∃ (a0 : Bool) (e9 : List (Nat × Obj)), ST false NoF w W μ9 ((a3, Obj.cells ((encPerson a.1).toArray : Array Value) 104 (0, 0)) :: ((a8, Obj.cells ((encPerson H.1).toArray : Array Value) 104 (0, 0)) :: ((I, Obj.cells (#[(.int .i64 1), (.string (((⟨(⟨#[97]⟩ : ByteArray), (⟨#[114]⟩ : ByteArray)⟩ : Role)).Owner)), (.string (((⟨(⟨#[97]⟩ : ByteArray), (⟨#[114]⟩ : ByteArray)⟩ : Role)).Word)), (.string ((⟨#[100]⟩ : ByteArray))), (.string (((⟨zS, zS⟩ : Role)).Owner)), (.string (((⟨zS, zS⟩ : Role)).Word)), (.string (((⟨zS, zS⟩ : Role)).Owner)), (.string (((⟨zS, zS⟩ : Role)).Word)), (.string zS), (.int .i64 1), (.string (((⟨(⟨#[97]⟩ : ByteArray), (⟨#[114]⟩ : ByteArray)⟩ : Role)).Owner)), (.string (((⟨(⟨#[97]⟩ : ByteArray), (⟨#[114]⟩ : ByteArray)⟩ : Role)).Word)), (.string ((⟨#[100]⟩ : ByteArray))), (.string (((⟨zS, zS⟩ : Role)).Owner)), (.string (((⟨zS, zS⟩ : Role)).Word)), (.string (((⟨zS, zS⟩ : Role)).Owner)), (.string (((⟨zS, zS⟩ : Role)).Word)), (.string zS)] : Array Value) 83 (0, 0)) :: (b3 ++ e9)))) ∧ E 0 = (.bool false) ∧ E 2 = (.slice (some ⟨I, 0, none⟩) 2 2) ∧ E 6 = (.pointer (some ⟨a3, 0, none⟩)) ∧ E 58 = (.bool a0) ∧ (((if a0 then some ((beqPerson a.1 ((⟨(⟨#[100]⟩ : ByteArray), 0, 1, 1, 0⟩ : Person)))) else some false) : Option Bool).bind fun N => (((if N then (((m_census_Reach ([(⟨1, (⟨(⟨#[97]⟩ : ByteArray), (⟨#[114]⟩ : ByteArray)⟩ : Role), (⟨#[100]⟩ : ByteArray), (⟨zS, zS⟩ : Role), (⟨zS, zS⟩ : Role), zS⟩ : Cred), (⟨1, (⟨(⟨#[97]⟩ : ByteArray), (⟨#[114]⟩ : ByteArray)⟩ : Role), (⟨#[100]⟩ : ByteArray), (⟨zS, zS⟩ : Role), (⟨zS, zS⟩ : Role), zS⟩ : Cred)]) ((⟨#[100]⟩ : ByteArray)))).bind fun Q => some ((((Q.length : Int)) == 1))) else some false) : Option Bool).bind fun u => (((if u then (((m_census_Alike ([(⟨1, (⟨(⟨#[97]⟩ : ByteArray), (⟨#[114]⟩ : ByteArray)⟩ : Role), (⟨#[100]⟩ : ByteArray), (⟨zS, zS⟩ : Role), (⟨zS, zS⟩ : Role), zS⟩ : Cred), (⟨1, (⟨(⟨#[97]⟩ : ByteArray), (⟨#[114]⟩ : ByteArray)⟩ : Role), (⟨#[100]⟩ : ByteArray), (⟨zS, zS⟩ : Role), (⟨zS, zS⟩ : Role), zS⟩ : Cred)]) ((⟨#[97]⟩ : ByteArray)) ((⟨#[101]⟩ : ByteArray)))).bind fun G => some G) else some false) : Option Bool).bind fun j => (((if j then (((m_census_Alike ([(⟨1, (⟨(⟨#[97]⟩ : ByteArray), (⟨#[114]⟩ : ByteArray)⟩ : Role), (⟨#[100]⟩ : ByteArray), (⟨zS, zS⟩ : Role), (⟨zS, zS⟩ : Role), zS⟩ : Cred), (⟨1, (⟨(⟨#[97]⟩ : ByteArray), (⟨#[114]⟩ : ByteArray)⟩ : Role), (⟨#[100]⟩ : ByteArray), (⟨zS, zS⟩ : Role), (⟨zS, zS⟩ : Role), zS⟩ : Cred)]) ((⟨#[97]⟩ : ByteArray)) ((⟨#[100]⟩ : ByteArray)))).bind fun k => some ((!k))) else some false) : Option Bool).bind fun c => some c)))) = some r) #[true, true, true, true, true, true, true, true, true, true, true, true, true, true, true, true, true, true, true, true, true, true, true, true, true, true, true, false, false, false, false, false, false, false, false, false, false, false, false, false, false, false, false, false, false, false, false, false] 21 ?_ (fun c7 => ?_)
          · rintro E W ⟨a0, e9, hST, h3, h4, k2, k3, i3⟩
            have hS0 := hST.has.sel (Kb (Kb (Db (Kr Sn))))
            refine X 27 rfl hS0 (R_move k3) ?_
            obtain ⟨m6, T, d9⟩ := bind_some i3
            refine PX_join (J := fun E W => ∃ (N : Bool) (f0 : List (Nat × Obj)), ST false NoF w W μ9 ((a3, Obj.cells ((encPerson a.1).toArray : Array Value) 104 (0, 0)) :: ((a8, Obj.cells ((encPerson H.1).toArray : Array Value) 104 (0, 0)) :: ((I, Obj.cells (#[(.int .i64 1), (.string (((⟨(⟨#[97]⟩ : ByteArray), (⟨#[114]⟩ : ByteArray)⟩ : Role)).Owner)), (.string (((⟨(⟨#[97]⟩ : ByteArray), (⟨#[114]⟩ : ByteArray)⟩ : Role)).Word)), (.string ((⟨#[100]⟩ : ByteArray))), (.string (((⟨zS, zS⟩ : Role)).Owner)), (.string (((⟨zS, zS⟩ : Role)).Word)), (.string (((⟨zS, zS⟩ : Role)).Owner)), (.string (((⟨zS, zS⟩ : Role)).Word)), (.string zS), (.int .i64 1), (.string (((⟨(⟨#[97]⟩ : ByteArray), (⟨#[114]⟩ : ByteArray)⟩ : Role)).Owner)), (.string (((⟨(⟨#[97]⟩ : ByteArray), (⟨#[114]⟩ : ByteArray)⟩ : Role)).Word)), (.string ((⟨#[100]⟩ : ByteArray))), (.string (((⟨zS, zS⟩ : Role)).Owner)), (.string (((⟨zS, zS⟩ : Role)).Word)), (.string (((⟨zS, zS⟩ : Role)).Owner)), (.string (((⟨zS, zS⟩ : Role)).Word)), (.string zS)] : Array Value) 83 (0, 0)) :: (b3 ++ f0)))) ∧ E 0 = (.bool false) ∧ E 2 = (.slice (some ⟨I, 0, none⟩) 2 2) ∧ E 63 = (.bool N) ∧ (((if N then (((m_census_Reach ([(⟨1, (⟨(⟨#[97]⟩ : ByteArray), (⟨#[114]⟩ : ByteArray)⟩ : Role), (⟨#[100]⟩ : ByteArray), (⟨zS, zS⟩ : Role), (⟨zS, zS⟩ : Role), zS⟩ : Cred), (⟨1, (⟨(⟨#[97]⟩ : ByteArray), (⟨#[114]⟩ : ByteArray)⟩ : Role), (⟨#[100]⟩ : ByteArray), (⟨zS, zS⟩ : Role), (⟨zS, zS⟩ : Role), zS⟩ : Cred)]) ((⟨#[100]⟩ : ByteArray)))).bind fun Q => some ((((Q.length : Int)) == 1))) else some false) : Option Bool).bind fun u => (((if u then (((m_census_Alike ([(⟨1, (⟨(⟨#[97]⟩ : ByteArray), (⟨#[114]⟩ : ByteArray)⟩ : Role), (⟨#[100]⟩ : ByteArray), (⟨zS, zS⟩ : Role), (⟨zS, zS⟩ : Role), zS⟩ : Cred), (⟨1, (⟨(⟨#[97]⟩ : ByteArray), (⟨#[114]⟩ : ByteArray)⟩ : Role), (⟨#[100]⟩ : ByteArray), (⟨zS, zS⟩ : Role), (⟨zS, zS⟩ : Role), zS⟩ : Cred)]) ((⟨#[97]⟩ : ByteArray)) ((⟨#[101]⟩ : ByteArray)))).bind fun G => some G) else some false) : Option Bool).bind fun j => (((if j then (((m_census_Alike ([(⟨1, (⟨(⟨#[97]⟩ : ByteArray), (⟨#[114]⟩ : ByteArray)⟩ : Role), (⟨#[100]⟩ : ByteArray), (⟨zS, zS⟩ : Role), (⟨zS, zS⟩ : Role), zS⟩ : Cred), (⟨1, (⟨(⟨#[97]⟩ : ByteArray), (⟨#[114]⟩ : ByteArray)⟩ : Role), (⟨#[100]⟩ : ByteArray), (⟨zS, zS⟩ : Role), (⟨zS, zS⟩ : Role), zS⟩ : Cred)]) ((⟨#[97]⟩ : ByteArray)) ((⟨#[100]⟩ : ByteArray)))).bind fun k => some ((!k))) else some false) : Option Bool).bind fun c => some c))) = some r) #[true, true, true, true, true, true, true, true, true, true, true, true, true, true, true, true, true, true, true, true, true, true, true, true, true, true, true, true, true, true, true, true, false, false, false, false, false, false, false, false, false, false, false, false, false, false, false, false] 16 ?_ (fun c6 => ?_)
            · rintro E W ⟨N, f0, hST, h5, d3, k4, i4⟩
              have hS0 := hST.has.sel (Kb (Kb (Db (Kr Sn))))
              refine X 32 rfl hS0 (R_move k4) ?_
              obtain ⟨m5, z, d8⟩ := bind_some i4
              refine PX_join (J := fun E W => ∃ (u : Bool) (b7 : Mem) (f1 : List (Nat × Obj)), Sub μ9 b7 ∧ ST false NoF w W b7 ((a3, Obj.cells ((encPerson a.1).toArray : Array Value) 104 (0, 0)) :: ((a8, Obj.cells ((encPerson H.1).toArray : Array Value) 104 (0, 0)) :: ((I, Obj.cells (#[(.int .i64 1), (.string (((⟨(⟨#[97]⟩ : ByteArray), (⟨#[114]⟩ : ByteArray)⟩ : Role)).Owner)), (.string (((⟨(⟨#[97]⟩ : ByteArray), (⟨#[114]⟩ : ByteArray)⟩ : Role)).Word)), (.string ((⟨#[100]⟩ : ByteArray))), (.string (((⟨zS, zS⟩ : Role)).Owner)), (.string (((⟨zS, zS⟩ : Role)).Word)), (.string (((⟨zS, zS⟩ : Role)).Owner)), (.string (((⟨zS, zS⟩ : Role)).Word)), (.string zS), (.int .i64 1), (.string (((⟨(⟨#[97]⟩ : ByteArray), (⟨#[114]⟩ : ByteArray)⟩ : Role)).Owner)), (.string (((⟨(⟨#[97]⟩ : ByteArray), (⟨#[114]⟩ : ByteArray)⟩ : Role)).Word)), (.string ((⟨#[100]⟩ : ByteArray))), (.string (((⟨zS, zS⟩ : Role)).Owner)), (.string (((⟨zS, zS⟩ : Role)).Word)), (.string (((⟨zS, zS⟩ : Role)).Owner)), (.string (((⟨zS, zS⟩ : Role)).Word)), (.string zS)] : Array Value) 83 (0, 0)) :: (b3 ++ f1)))) ∧ E 0 = (.bool false) ∧ E 2 = (.slice (some ⟨I, 0, none⟩) 2 2) ∧ E 69 = (.bool u) ∧ (((if u then (((m_census_Alike ([(⟨1, (⟨(⟨#[97]⟩ : ByteArray), (⟨#[114]⟩ : ByteArray)⟩ : Role), (⟨#[100]⟩ : ByteArray), (⟨zS, zS⟩ : Role), (⟨zS, zS⟩ : Role), zS⟩ : Cred), (⟨1, (⟨(⟨#[97]⟩ : ByteArray), (⟨#[114]⟩ : ByteArray)⟩ : Role), (⟨#[100]⟩ : ByteArray), (⟨zS, zS⟩ : Role), (⟨zS, zS⟩ : Role), zS⟩ : Cred)]) ((⟨#[97]⟩ : ByteArray)) ((⟨#[101]⟩ : ByteArray)))).bind fun G => some G) else some false) : Option Bool).bind fun j => (((if j then (((m_census_Alike ([(⟨1, (⟨(⟨#[97]⟩ : ByteArray), (⟨#[114]⟩ : ByteArray)⟩ : Role), (⟨#[100]⟩ : ByteArray), (⟨zS, zS⟩ : Role), (⟨zS, zS⟩ : Role), zS⟩ : Cred), (⟨1, (⟨(⟨#[97]⟩ : ByteArray), (⟨#[114]⟩ : ByteArray)⟩ : Role), (⟨#[100]⟩ : ByteArray), (⟨zS, zS⟩ : Role), (⟨zS, zS⟩ : Role), zS⟩ : Cred)]) ((⟨#[97]⟩ : ByteArray)) ((⟨#[100]⟩ : ByteArray)))).bind fun k => some ((!k))) else some false) : Option Bool).bind fun c => some c)) = some r) #[true, true, true, true, true, true, true, true, true, true, true, true, true, true, true, true, true, true, true, true, true, true, true, true, true, true, true, true, true, true, true, true, true, true, true, true, true, true, false, false, false, false, false, false, false, false, false, false] 10 ?_ (fun c5 => ?_)
              · rintro E W ⟨u, b7, f1, a9, hST, h6, d4, k5, i5⟩
                have hS0 := hST.has.selS a9 (Kb (Kb (Db (Kr Sn))))
                refine X 38 rfl hS0 (R_move k5) ?_
                obtain ⟨m4, y, d7⟩ := bind_some i5
                refine PX_join (J := fun E W => ∃ (j : Bool) (f2 : List (Nat × Obj)), ST false NoF w W b7 ((a3, Obj.cells ((encPerson a.1).toArray : Array Value) 104 (0, 0)) :: ((a8, Obj.cells ((encPerson H.1).toArray : Array Value) 104 (0, 0)) :: ((I, Obj.cells (#[(.int .i64 1), (.string (((⟨(⟨#[97]⟩ : ByteArray), (⟨#[114]⟩ : ByteArray)⟩ : Role)).Owner)), (.string (((⟨(⟨#[97]⟩ : ByteArray), (⟨#[114]⟩ : ByteArray)⟩ : Role)).Word)), (.string ((⟨#[100]⟩ : ByteArray))), (.string (((⟨zS, zS⟩ : Role)).Owner)), (.string (((⟨zS, zS⟩ : Role)).Word)), (.string (((⟨zS, zS⟩ : Role)).Owner)), (.string (((⟨zS, zS⟩ : Role)).Word)), (.string zS), (.int .i64 1), (.string (((⟨(⟨#[97]⟩ : ByteArray), (⟨#[114]⟩ : ByteArray)⟩ : Role)).Owner)), (.string (((⟨(⟨#[97]⟩ : ByteArray), (⟨#[114]⟩ : ByteArray)⟩ : Role)).Word)), (.string ((⟨#[100]⟩ : ByteArray))), (.string (((⟨zS, zS⟩ : Role)).Owner)), (.string (((⟨zS, zS⟩ : Role)).Word)), (.string (((⟨zS, zS⟩ : Role)).Owner)), (.string (((⟨zS, zS⟩ : Role)).Word)), (.string zS)] : Array Value) 83 (0, 0)) :: (b3 ++ f2)))) ∧ E 0 = (.bool false) ∧ E 2 = (.slice (some ⟨I, 0, none⟩) 2 2) ∧ E 73 = (.bool j) ∧ (((if j then (((m_census_Alike ([(⟨1, (⟨(⟨#[97]⟩ : ByteArray), (⟨#[114]⟩ : ByteArray)⟩ : Role), (⟨#[100]⟩ : ByteArray), (⟨zS, zS⟩ : Role), (⟨zS, zS⟩ : Role), zS⟩ : Cred), (⟨1, (⟨(⟨#[97]⟩ : ByteArray), (⟨#[114]⟩ : ByteArray)⟩ : Role), (⟨#[100]⟩ : ByteArray), (⟨zS, zS⟩ : Role), (⟨zS, zS⟩ : Role), zS⟩ : Cred)]) ((⟨#[97]⟩ : ByteArray)) ((⟨#[100]⟩ : ByteArray)))).bind fun k => some ((!k))) else some false) : Option Bool).bind fun c => some c) = some r) #[true, true, true, true, true, true, true, true, true, true, true, true, true, true, true, true, true, true, true, true, true, true, true, true, true, true, true, true, true, true, true, true, true, true, true, true, true, true, true, true, true, true, false, false, false, false, false, false] 6 ?_ (fun c4 => ?_)
                · rintro E W ⟨j, f2, hST, h7, k6, k7, i6⟩
                  have hS0 := hST.has.selS a9 (Kb (Kb (Db (Kr Sn))))
                  refine X 42 rfl hS0 (R_move k7) ?_
                  obtain ⟨m3, x, d6⟩ := bind_some i6
                  refine PX_join (J := fun E W => ∃ (c : Bool) (f3 : List (Nat × Obj)), ST false NoF w W b7 ((a3, Obj.cells ((encPerson a.1).toArray : Array Value) 104 (0, 0)) :: ((a8, Obj.cells ((encPerson H.1).toArray : Array Value) 104 (0, 0)) :: (b3 ++ f3))) ∧ E 0 = (.bool false) ∧ E 78 = (.bool c) ∧ some c = some r) #[true, true, true, true, true, true, true, true, true, true, true, true, true, true, true, true, true, true, true, true, true, true, true, true, true, true, true, true, true, true, true, true, true, true, true, true, true, true, true, true, true, true, true, true, true, true, true, false] 1 ?_ (fun c3 => ?_)
                  · rintro E W ⟨c, f3, hST, m0, k8, b8⟩
                    have hS0 := hST.has.selS a9 (Kb (Kb (Kr Sn)))
                    refine X 47 rfl hS0 (R_assign k8) (PX_done (by kernel_rfl) (sq_n ?_))
                    replace hST := hST.sel (Db (Db (Dr St)))
                    refine CW_ret ?_
                    replace b8 := Option.some.inj b8; subst b8
                    exact retQ_1 (v := (.bool c)) rfl rfl ⟨rfl, hST.ex⟩
                  rcases bool_cases j with M | M
                  · replace x := if_t M x
                    refine Xg 43 rfl rfl (congrArg Value.bool M) hS0 (R_move k6) ?_
                    obtain ⟨k, i9, x⟩ := bind_some x
                    refine XgE 44 rfl rfl (congrArg Value.bool M) (E_gives (args := [(.slice (some ⟨I, 0, none⟩) 2 2), (.string ((⟨#[97]⟩ : ByteArray))), (.string ((⟨#[100]⟩ : ByteArray)))]) hST rfl Tryz.call70 (by exact args3 rfl rfl rfl) ((w_census_Alike (.slice (some ⟨I, 0, none⟩) 2 2) ([(⟨1, (⟨(⟨#[97]⟩ : ByteArray), (⟨#[114]⟩ : ByteArray)⟩ : Role), (⟨#[100]⟩ : ByteArray), (⟨zS, zS⟩ : Role), (⟨zS, zS⟩ : Role), zS⟩ : Cred), (⟨1, (⟨(⟨#[97]⟩ : ByteArray), (⟨#[114]⟩ : ByteArray)⟩ : Role), (⟨#[100]⟩ : ByteArray), (⟨zS, zS⟩ : Role), (⟨zS, zS⟩ : Role), zS⟩ : Cred)]) ((⟨#[97]⟩ : ByteArray)) ((⟨#[100]⟩ : ByteArray)) _ _ (Sl.lit (enc := encCred) (l := [(⟨1, (⟨(⟨#[97]⟩ : ByteArray), (⟨#[114]⟩ : ByteArray)⟩ : Role), (⟨#[100]⟩ : ByteArray), (⟨zS, zS⟩ : Role), (⟨zS, zS⟩ : Role), zS⟩ : Cred), (⟨1, (⟨(⟨#[97]⟩ : ByteArray), (⟨#[114]⟩ : ByteArray)⟩ : Role), (⟨#[100]⟩ : ByteArray), (⟨zS, zS⟩ : Role), (⟨zS, zS⟩ : Role), zS⟩ : Cred)]) lenCred rfl (Nat.le_of_ble_eq_true rfl) rfl (hST.at_ (Mt (Mt Mh)))) i9)) (fun l7 hST => ?_))
                    have hS0 := hST.has.selS a9 (Kb (Kb (Db (Kr Sn))))
                    refine ⟨hS0, (Xg 45 rfl rfl (congrArg Value.bool M) hS0 (R_not rfl) (X 46 rfl hS0 (R_pickT (congrArg Value.bool M) rfl) ?_))⟩
                    replace x := Option.some.inj x; subst x
                    refine PX_at (by kernel_rfl) (c3 _ _ ⟨((!k)), _, (hST.sel (Kb (Kb (Db St)))), h7, rfl, d6⟩)
                  replace x := if_f M x
                  refine Xn 43 rfl rfl (congrArg Value.bool M) hS0 (Xn 44 rfl rfl (congrArg Value.bool M) hS0 (Xn 45 rfl rfl (congrArg Value.bool M) hS0 (X 46 rfl hS0 (R_pickF (congrArg Value.bool M) rfl) ?_)))
                  replace x := Option.some.inj x; subst x
                  refine PX_at (by kernel_rfl) (c3 _ _ ⟨false, _, (hST.sel (Kb (Kb (Db St)))), h7, rfl, d6⟩)
                rcases bool_cases u with a2 | a2
                · replace y := if_t a2 y
                  refine Xg 39 rfl rfl (congrArg Value.bool a2) hS0 (R_move d4) ?_
                  obtain ⟨G, j0, y⟩ := bind_some y
                  refine XgE 40 rfl rfl (congrArg Value.bool a2) (E_gives (args := [(.slice (some ⟨I, 0, none⟩) 2 2), (.string ((⟨#[97]⟩ : ByteArray))), (.string ((⟨#[101]⟩ : ByteArray)))]) hST rfl Tryz.call70 (by exact args3 rfl rfl rfl) ((w_census_Alike (.slice (some ⟨I, 0, none⟩) 2 2) ([(⟨1, (⟨(⟨#[97]⟩ : ByteArray), (⟨#[114]⟩ : ByteArray)⟩ : Role), (⟨#[100]⟩ : ByteArray), (⟨zS, zS⟩ : Role), (⟨zS, zS⟩ : Role), zS⟩ : Cred), (⟨1, (⟨(⟨#[97]⟩ : ByteArray), (⟨#[114]⟩ : ByteArray)⟩ : Role), (⟨#[100]⟩ : ByteArray), (⟨zS, zS⟩ : Role), (⟨zS, zS⟩ : Role), zS⟩ : Cred)]) ((⟨#[97]⟩ : ByteArray)) ((⟨#[101]⟩ : ByteArray)) _ _ (Sl.lit (enc := encCred) (l := [(⟨1, (⟨(⟨#[97]⟩ : ByteArray), (⟨#[114]⟩ : ByteArray)⟩ : Role), (⟨#[100]⟩ : ByteArray), (⟨zS, zS⟩ : Role), (⟨zS, zS⟩ : Role), zS⟩ : Cred), (⟨1, (⟨(⟨#[97]⟩ : ByteArray), (⟨#[114]⟩ : ByteArray)⟩ : Role), (⟨#[100]⟩ : ByteArray), (⟨zS, zS⟩ : Role), (⟨zS, zS⟩ : Role), zS⟩ : Cred)]) lenCred rfl (Nat.le_of_ble_eq_true rfl) rfl (hST.at_ (Mt (Mt Mh)))) j0)) (fun l8 hST => ?_))
                  have hS0 := hST.has.selS a9 (Kb (Kb (Db (Kr Sn))))
                  refine ⟨hS0, (X 41 rfl hS0 (R_pickT (congrArg Value.bool a2) rfl) ?_)⟩
                  replace y := Option.some.inj y; subst y
                  refine PX_at (by kernel_rfl) (c4 _ _ ⟨G, _, (hST.sel St), h6, d4, rfl, d7⟩)
                replace y := if_f a2 y
                refine Xn 39 rfl rfl (congrArg Value.bool a2) hS0 (Xn 40 rfl rfl (congrArg Value.bool a2) hS0 (X 41 rfl hS0 (R_pickF (congrArg Value.bool a2) rfl) ?_))
                replace y := Option.some.inj y; subst y
                refine PX_at (by kernel_rfl) (c4 _ _ ⟨false, _, (hST.sel St), h6, d4, rfl, d7⟩)
              rcases bool_cases N with t | t
              · replace z := if_t t z
                refine Xg 33 rfl rfl (congrArg Value.bool t) hS0 (R_move d3) ?_
                obtain ⟨Q, j1, z⟩ := bind_some z
                refine XgE 34 rfl rfl (congrArg Value.bool t) (F_givesRow (args := [(.slice (some ⟨I, 0, none⟩) 2 2), (.string ((⟨#[100]⟩ : ByteArray)))]) _ hST rfl Tryz.call68 (by exact args2 rfl rfl) ((w_census_Reach (.slice (some ⟨I, 0, none⟩) 2 2) ([(⟨1, (⟨(⟨#[97]⟩ : ByteArray), (⟨#[114]⟩ : ByteArray)⟩ : Role), (⟨#[100]⟩ : ByteArray), (⟨zS, zS⟩ : Role), (⟨zS, zS⟩ : Role), zS⟩ : Cred), (⟨1, (⟨(⟨#[97]⟩ : ByteArray), (⟨#[114]⟩ : ByteArray)⟩ : Role), (⟨#[100]⟩ : ByteArray), (⟨zS, zS⟩ : Role), (⟨zS, zS⟩ : Role), zS⟩ : Cred)]) ((⟨#[100]⟩ : ByteArray)) _ _ (Sl.lit (enc := encCred) (l := [(⟨1, (⟨(⟨#[97]⟩ : ByteArray), (⟨#[114]⟩ : ByteArray)⟩ : Role), (⟨#[100]⟩ : ByteArray), (⟨zS, zS⟩ : Role), (⟨zS, zS⟩ : Role), zS⟩ : Cred), (⟨1, (⟨(⟨#[97]⟩ : ByteArray), (⟨#[114]⟩ : ByteArray)⟩ : Role), (⟨#[100]⟩ : ByteArray), (⟨zS, zS⟩ : Role), (⟨zS, zS⟩ : Role), zS⟩ : Cred)]) lenCred rfl (Nat.le_of_ble_eq_true rfl) rfl (hST.at_ (Mt (Mt Mh)))) j1)) (fun l9 n2 l3 l6 hST c2 h8 => ?_))
                have hS0 := hST.has.selS c2 (Dr (Kb (Kb (Db (Kr Sn)))))
                refine ⟨hS0, (Xg 35 rfl rfl (congrArg Value.bool t) hS0 (R_lenRow Tryz.underlying27 rfl h8) (Xg 36 rfl rfl (congrArg Value.bool t) hS0 (R_int rfl rfl rfl) (X 37 rfl hS0 (R_pickT (congrArg Value.bool t) rfl) ?_)))⟩
                replace z := Option.some.inj z; subst z
                refine PX_at (by kernel_rfl) (c5 _ _ ⟨((((Q.length : Int)) == 1)), l3, _, c2, (hST.sel (Dr St)), h5, d3, rfl, d8⟩)
              replace z := if_f t z
              refine Xn 33 rfl rfl (congrArg Value.bool t) hS0 (Xn 34 rfl rfl (congrArg Value.bool t) hS0 (Xn 35 rfl rfl (congrArg Value.bool t) hS0 (Xn 36 rfl rfl (congrArg Value.bool t) hS0 (X 37 rfl hS0 (R_pickF (congrArg Value.bool t) rfl) ?_))))
              replace z := Option.some.inj z; subst z
              refine PX_at (by kernel_rfl) (c5 _ _ ⟨false, μ9, _, (Sub.refl _), (hST.sel St), h5, d3, rfl, d8⟩)
            rcases bool_cases a0 with K | K
            · replace T := if_t K T
              refine XgH 28 rfl rfl (congrArg Value.bool K) hS0 (fun _ hS => R_load k2 (load_boxA hS Mh (encPerson a.1) rfl Tryz.isAgg104 Tryz.sizeOf104)) (Xg 29 rfl rfl (congrArg Value.bool K) hS0 (R_build (qs := #[(0, (.string ((⟨#[100]⟩ : ByteArray)))), (2, (.int .i64 1)), (3, (.int .i64 1))]) (v := (.agg (encPerson ((⟨(⟨#[100]⟩ : ByteArray), 0, 1, 1, 0⟩ : Person))).toArray)) (parts3 rfl rfl rfl) (run_build Tryz.zeroValue104 Tryz.underlying104 (pl104 _ Tryz.underlying104) (by kernel_rfl))) (Xg 30 rfl rfl (congrArg Value.bool K) hS0 (R_eql rfl rfl (guard_agg Tryz.eqGuardType104) (bin_eql (eqInPerson _ a.1 ((⟨(⟨#[100]⟩ : ByteArray), 0, 1, 1, 0⟩ : Person))))) (X 31 rfl hS0 (R_pickT (congrArg Value.bool K) rfl) ?_)))
              replace T := Option.some.inj T; subst T
              refine PX_at (by kernel_rfl) (c6 _ _ ⟨((beqPerson a.1 ((⟨(⟨#[100]⟩ : ByteArray), 0, 1, 1, 0⟩ : Person)))), _, (hST.sel St), h3, h4, rfl, d9⟩)
            replace T := if_f K T
            refine Xn 28 rfl rfl (congrArg Value.bool K) hS0 (Xn 29 rfl rfl (congrArg Value.bool K) hS0 (Xn 30 rfl rfl (congrArg Value.bool K) hS0 (X 31 rfl hS0 (R_pickF (congrArg Value.bool K) rfl) ?_)))
            replace T := Option.some.inj T; subst T
            refine PX_at (by kernel_rfl) (c6 _ _ ⟨false, _, (hST.sel St), h3, h4, rfl, d9⟩)
          rcases bool_cases a4 with a1 | a1
          · replace U := if_t a1 U
            refine Xg 24 rfl rfl (congrArg Value.bool a1) hS0 (R_move k0) (Xg 25 rfl rfl (congrArg Value.bool a1) hS0 (R_not rfl) (X 26 rfl hS0 (R_pickT (congrArg Value.bool a1) rfl) ?_))
            replace U := Option.some.inj U; subst U
            refine PX_at (by kernel_rfl) (c7 _ _ ⟨((!a7.2)), _, (hST.sel St), h0, h1, h2, rfl, e0⟩)
          replace U := if_f a1 U
          refine Xn 24 rfl rfl (congrArg Value.bool a1) hS0 (Xn 25 rfl rfl (congrArg Value.bool a1) hS0 (X 26 rfl hS0 (R_pickF (congrArg Value.bool a1) rfl) ?_))
          replace U := Option.some.inj U; subst U
          refine PX_at (by kernel_rfl) (c7 _ _ ⟨false, _, (hST.sel St), h0, h1, h2, rfl, e0⟩)
        rcases bool_cases b0 with a6 | a6
        · replace Y := if_t a6 Y
          refine Xg 21 rfl rfl (congrArg Value.bool a6) hS0 (R_move j8) (X 22 rfl hS0 (R_pickT (congrArg Value.bool a6) rfl) ?_)
          replace Y := Option.some.inj Y; subst Y
          refine PX_at (by kernel_rfl) (c8 _ _ ⟨a.2, _, (hST.sel St), g6, g7, g8, g9, rfl, e1⟩)
        replace Y := if_f a6 Y
        refine Xn 21 rfl rfl (congrArg Value.bool a6) hS0 (X 22 rfl hS0 (R_pickF (congrArg Value.bool a6) rfl) ?_)
        replace Y := Option.some.inj Y; subst Y
        refine PX_at (by kernel_rfl) (c8 _ _ ⟨false, _, (hST.sel St), g6, g7, g8, g9, rfl, e1⟩)
      rcases bool_cases b5 with g | g
      · replace B := if_t g B
        refine XgH 14 rfl rfl (congrArg Value.bool g) hS0 (fun _ hS => R_load j6 (load_boxA hS (Mt Mh) (encPerson H.1) rfl Tryz.isAgg104 Tryz.sizeOf104)) (Xg 15 rfl rfl (congrArg Value.bool g) hS0 (R_move j5) ?_)
        obtain ⟨b2, b9, B⟩ := bind_some B
        refine PX_q 16 rfl (by kernel_rfl) (.inr ⟨13, true, 45, rfl, rfl, by decide, (congrArg Value.bool g)⟩) rfl (by decide) (fun _ _ h => h) hS0 (R_indexRow (i := 0) (x0 := b2) Tryz.underlying101 Tryz.sizeOf104 rfl rfl b6 (idx_nonneg b9) (idx_get b9)) (fun m1 i7 => XgH 17 rfl rfl (congrArg Value.bool g) hS0 (fun _ hS => R_load rfl (load_ixA hS (fun p hq => (Mt (Mt (Ml hq)))) b6 lenPerson i7 (idx_get b9) Tryz.isAgg104 Tryz.sizeOf104)) (Xg 18 rfl rfl (congrArg Value.bool g) hS0 (R_eql rfl rfl (guard_agg Tryz.eqGuardType104) (bin_eql (eqInPerson _ H.1 b2))) (X 19 rfl hS0 (R_pickT (congrArg Value.bool g) rfl) ?_)))
        replace B := Option.some.inj B; subst B
        refine PX_at (by kernel_rfl) (c9 _ _ ⟨((beqPerson H.1 b2)), _, (hST.sel St), g1, g2, g3, g4, g5, rfl, e2⟩)
      replace B := if_f g B
      refine Xn 14 rfl rfl (congrArg Value.bool g) hS0 (Xn 15 rfl rfl (congrArg Value.bool g) hS0 (Xn 16 rfl rfl (congrArg Value.bool g) hS0 (Xn 17 rfl rfl (congrArg Value.bool g) hS0 (Xn 18 rfl rfl (congrArg Value.bool g) hS0 (X 19 rfl hS0 (R_pickF (congrArg Value.bool g) rfl) ?_)))))
      replace B := Option.some.inj B; subst B
      refine PX_at (by kernel_rfl) (c9 _ _ ⟨false, _, (hST.sel St), g1, g2, g3, g4, g5, rfl, e2⟩)
    rcases bool_cases c1 with a5 | a5
    · replace Z := if_t a5 Z
      refine Xg 11 rfl rfl (congrArg Value.bool a5) hS0 (R_move j3) (X 12 rfl hS0 (R_pickT (congrArg Value.bool a5) rfl) ?_)
      replace Z := Option.some.inj Z; subst Z
      refine PX_at (by kernel_rfl) (d0 _ _ ⟨H.2, _, (hST.sel St), f4, f5, f6, f7, f8, f9, g0, rfl, e3⟩)
    replace Z := if_f a5 Z
    refine Xn 11 rfl rfl (congrArg Value.bool a5) hS0 (X 12 rfl hS0 (R_pickF (congrArg Value.bool a5) rfl) ?_)
    replace Z := Option.some.inj Z; subst Z
    refine PX_at (by kernel_rfl) (d0 _ _ ⟨false, _, (hST.sel St), f4, f5, f6, f7, f8, f9, g0, rfl, e3⟩)
  rcases bool_cases ((((r6.length : Int)) == 2)) with f | f
  · replace D := if_t f D
    refine Xg 4 rfl rfl (congrArg Value.bool f) hS0 (R_move rfl) ?_
    obtain ⟨d5, c0, D⟩ := bind_some D
    refine PX_q 5 rfl (by kernel_rfl) (.inr ⟨3, true, 35, rfl, rfl, by decide, (congrArg Value.bool f)⟩) rfl (by decide) (fun _ _ h => h) hS0 (R_indexRow (i := 0) (x0 := d5) Tryz.underlying101 Tryz.sizeOf104 rfl rfl b6 (idx_nonneg c0) (idx_get c0)) (fun m2 i8 => XgH 6 rfl rfl (congrArg Value.bool f) hS0 (fun _ hS => R_load rfl (load_ixA hS (fun p hq => (Mt (Mt (Ml hq)))) b6 lenPerson i8 (idx_get c0) Tryz.isAgg104 Tryz.sizeOf104)) (Xg 7 rfl rfl (congrArg Value.bool f) hS0 (R_build (qs := #[(0, (.string ((⟨#[97]⟩ : ByteArray)))), (1, (.int .i64 1)), (4, (.int .i64 1))]) (v := (.agg (encPerson ((⟨(⟨#[97]⟩ : ByteArray), 1, 0, 0, 1⟩ : Person))).toArray)) (parts3 rfl rfl rfl) (run_build Tryz.zeroValue104 Tryz.underlying104 (pl104 _ Tryz.underlying104) (by kernel_rfl))) (Xg 8 rfl rfl (congrArg Value.bool f) hS0 (R_eql rfl rfl (guard_agg Tryz.eqGuardType104) (bin_eql (eqInPerson _ d5 ((⟨(⟨#[97]⟩ : ByteArray), 1, 0, 0, 1⟩ : Person))))) (X 9 rfl hS0 (R_pickT (congrArg Value.bool f) rfl) ?_))))
    replace D := Option.some.inj D; subst D
    refine PX_at (by kernel_rfl) (d1 _ _ ⟨((beqPerson d5 ((⟨(⟨#[97]⟩ : ByteArray), 1, 0, 0, 1⟩ : Person)))), _, (hST.sel (Kb (Kb (Sb (Pr Pz) St)))), rfl, rfl, rfl, rfl, rfl, rfl, rfl, rfl, rfl, e4⟩)
  replace D := if_f f D
  refine Xn 4 rfl rfl (congrArg Value.bool f) hS0 (Xn 5 rfl rfl (congrArg Value.bool f) hS0 (Xn 6 rfl rfl (congrArg Value.bool f) hS0 (Xn 7 rfl rfl (congrArg Value.bool f) hS0 (Xn 8 rfl rfl (congrArg Value.bool f) hS0 (X 9 rfl hS0 (R_pickF (congrArg Value.bool f) rfl) ?_)))))
  replace D := Option.some.inj D; subst D
  refine PX_at (by kernel_rfl) (d1 _ _ ⟨false, _, (hST.sel (Kb (Kb (Sb (Pr Pz) St)))), rfl, rfl, rfl, rfl, rfl, rfl, rfl, rfl, rfl, e4⟩)
theorem w_law05_Great (j : Value) (t : List Cred) (r : Int) (w : World) (g : Sl (Pl encCred) 9 (hp w) j t) (hm : m_law05_Great t = some r) :
    Gives true Tryz.prog 16 [j] w (.int .i64 r) := by
  have hST := ST.start (dd := true) w
  unfold m_law05_Great at hm
  refine calls_of_CW (n := 54) Tryz.func16 rfl rfl (Nat.le_of_ble_eq_true rfl) (CW_seq (CW_region (V (R_assign rfl) (LW_nil (sq_n (CW_seq (CW_region (V (R_assign rfl) (LW_nil (sq_n (CW_seq (CW_seq (CW_region (V (R_move rfl) ?_))))))))))))))
  refine V (R_len Tryz.underlying22 rfl g) (V (R_move rfl) (LW_nil (sq_n (CW_range (fun i E W => ∃ (f : Int) (k : List (Nat × Obj)), (E 8 = .int .i64 (i : Nat) ∧ E 7 = .int .i64 (t.length : Nat)) ∧ ST true NoF w W (hp w) k ∧ E 3 = (.int .i64 f) ∧ E 6 = j ∧ m_law05_Great_L1 (t.drop i) f = some r) t.length g.len ⟨0, _, ⟨rfl, rfl⟩, (hST.sel St), rfl, rfl, hm⟩ (by decide) (by decide) (by decide) (fun _ _ _ h => by obtain ⟨_, _, eIN, _⟩ := h; exact eIN) ?_ ?_))))
  · rintro H E W y ⟨f, k, ⟨eI, eN⟩, hST, u, x, a⟩
    obtain ⟨c, I, D, B, G⟩ := drop_cons y
    rw [D] at a
    rw [m_law05_Great_L1] at a
    refine CW_block (CW_seq (CW_region (VQ (R_indexP (enc := encCred) (i := (H : Int)) (x0 := c) Tryz.underlying22 Tryz.sizeOf83 x eI g (Int.natCast_nonneg _) B) (fun N z => V (R_load rfl (load_atA hST.has z Tryz.isAgg83 Tryz.sizeOf83)) (VE (E_alloc hST Tryz.zeroValue83 (fun J M hST => VO (F_store (.agg (encCred c).toArray) ((encCred c).toArray) hST rfl rfl Tryz.sizeOf83 (oneCred c) (Nat.le_of_ble_eq_true rfl) rfl (fun K hST => LW_nil (sq_n (CW_region (V (R_move u) (V (R_field fa83_1 rfl) (V (R_field fa47_0 rfl) (V (R_load rfl (load_box1 hST.has Mh rfl Tryz.isAgg9)) (V (R_lenStr Tryz.underlying9 rfl) ?_))))))))))))))))
    refine V (R_int rfl rfl rfl) (V (R_field fa83_1 rfl) (V (R_field fa47_1 rfl) (V (R_load rfl (load_box1 hST.has Mh rfl Tryz.isAgg9)) (V (R_lenStr Tryz.underlying9 rfl) (V (R_int rfl rfl rfl) (V (R_field fa83_2 rfl) (V (R_load rfl (load_box1 hST.has Mh rfl Tryz.isAgg9)) (V (R_lenStr Tryz.underlying9 rfl) (V (R_int rfl rfl rfl) (V (R_field fa83_3 rfl) (V (R_field fa47_0 rfl) (V (R_load rfl (load_box1 hST.has Mh rfl Tryz.isAgg9)) (V (R_lenStr Tryz.underlying9 rfl) (V (R_int rfl rfl rfl) ?_))))))))))))))
    refine V (R_field fa83_3 rfl) (V (R_field fa47_1 rfl) (V (R_load rfl (load_box1 hST.has Mh rfl Tryz.isAgg9)) (V (R_lenStr Tryz.underlying9 rfl) (V (R_int rfl rfl rfl) (V (R_field fa83_4 rfl) (V (R_field fa47_0 rfl) (V (R_load rfl (load_box1 hST.has Mh rfl Tryz.isAgg9)) (V (R_lenStr Tryz.underlying9 rfl) (V (R_int rfl rfl rfl) (V (R_field fa83_4 rfl) (V (R_field fa47_1 rfl) (V (R_load rfl (load_box1 hST.has Mh rfl Tryz.isAgg9)) (V (R_lenStr Tryz.underlying9 rfl) (V (R_int rfl rfl rfl) ?_))))))))))))))
    refine V (R_field fa83_5 rfl) (V (R_load rfl (load_box1 hST.has Mh rfl Tryz.isAgg9)) (V (R_lenStr Tryz.underlying9 rfl) (V (R_int rfl rfl rfl) (V (R_int rfl rfl rfl) (V (R_assign rfl) (LW_nil (bq_n (sq_n ?_))))))))
    replace hST := hST.sel (Db St)
    exact ⟨eI, ((IntKind.i64.wrap (f + ((IntKind.i64.wrap (((IntKind.i64.wrap (((IntKind.i64.wrap (((IntKind.i64.wrap (((IntKind.i64.wrap (((IntKind.i64.wrap (((IntKind.i64.wrap (((IntKind.i64.wrap (20 + ((c.Head.Owner.size : Int))))) + ((c.Head.Word.size : Int))))) + ((c.Who.size : Int))))) + ((c.B.Owner.size : Int))))) + ((c.B.Word.size : Int))))) + ((c.C.Owner.size : Int))))) + ((c.C.Word.size : Int))))) + ((c.Word2.size : Int)))))))), _, ⟨rfl, eN⟩, (hST.sel St), rfl, x, (by rw [G]; exact a)⟩
  rintro E W ⟨f, k, ⟨eI, eN⟩, hST, u, x, a⟩
  rw [List.drop_length] at a
  rw [m_law05_Great_L1] at a
  refine sq_n (CW_seq (CW_region (V (R_move u) (V (R_assign rfl) (LW_nil (sq_n (CW_ret ?_)))))))
  replace a := Option.some.inj a; subst a
  exact retQ_1 (v := (.int .i64 f)) rfl rfl ⟨rfl, hST.ex⟩
theorem w_ref03_Right (G : ByteArray) (r : Bool) (w : World)  (hm : m_ref03_Right G = some r) :
    Gives true Tryz.prog 108 [(.string G)] w (.bool r) := by
  have hST := ST.start (dd := true) w
  unfold m_ref03_Right at hm
  refine calls_of_CW (n := 49) Tryz.func108 rfl rfl (Nat.le_of_ble_eq_true rfl) (CW_seq (CW_region (V (R_assign rfl) (LW_nil (sq_n (CW_seq (CW_seq (CW_region (V (R_move rfl) (V (R_str rfl rfl rfl) (V (R_move rfl) ?_)))))))))))
  obtain ⟨h2, x, c8⟩ := bind_some hm
  refine LW_join (J := fun E W => ∃ (x2 : Bool) (L3 : List (Nat × Obj)), ST true NoF w W (hp w) L3 ∧ E 0 = (.string G) ∧ E 11 = (.bool x2) ∧ (((if x2 then some true else (((idxS G 0)).bind fun b8 => some ((decide (((b8.toNat : Int)) < 97))))) : Option Bool).bind fun a4 => (((if a4 then some true else (((idxS G 0)).bind fun a1 => some ((decide (((a1.toNat : Int)) > 122))))) : Option Bool).bind fun Z => (if Z then some false else m_ref03_Right_L1 G FUEL 0))) = some r) 4 ?_ (fun b7 => ?_)
  · rintro E W ⟨x2, L3, hST, e5, e6, g5⟩
    refine V (R_move e6) ?_
    obtain ⟨h1, g, c7⟩ := bind_some g5
    refine LW_join (J := fun E W => ∃ (a4 : Bool) (e3 : List (Nat × Obj)), ST true NoF w W (hp w) e3 ∧ E 0 = (.string G) ∧ E 16 = (.bool a4) ∧ (((if a4 then some true else (((idxS G 0)).bind fun a1 => some ((decide (((a1.toNat : Int)) > 122))))) : Option Bool).bind fun Z => (if Z then some false else m_ref03_Right_L1 G FUEL 0)) = some r) 4 ?_ (fun b6 => ?_)
    · rintro E W ⟨a4, e3, hST, d7, g2, f9⟩
      refine V (R_move g2) ?_
      obtain ⟨h0, f, c6⟩ := bind_some f9
      refine LW_join (J := fun E W => ∃ (Z : Bool) (e4 : List (Nat × Obj)), ST true NoF w W (hp w) e4 ∧ E 0 = (.string G) ∧ E 21 = (.bool Z) ∧ (if Z then some false else m_ref03_Right_L1 G FUEL 0) = some r) 4 ?_ (fun b5 => ?_)
      · rintro E W ⟨Z, e4, hST, g3, g4, Q⟩
        refine LW_nil (sq_n (CW_if (b := Z) g4 (fun c1 => ?_) (fun c1 => ?_)))
        · replace Q := if_t c1 Q
          refine CW_seq (CW_region (V (R_assign rfl) (LW_nil (sq_n (CW_ret (sq_r ?_))))))
          replace Q := Option.some.inj Q; subst Q
          exact retQ_1 (v := (.bool false)) rfl rfl ⟨rfl, hST.ex⟩
        replace Q := if_f c1 Q
        refine CW_skip (sq_n (CW_seq (CW_seq (CW_region (V (R_assign rfl) (LW_nil (sq_n (CW_block (CW_loop (fun m E W => ∃ (j : Int) (d2 : List (Nat × Obj)), ST true NoF w W (hp w) d2 ∧ E 0 = (.string G) ∧ E 3 = (.int .i64 j) ∧ m_ref03_Right_L1 G m j = some r) FUEL ⟨0, _, (hST.sel St), g3, rfl, Q⟩ ?_)))))))))
        rintro m E W ⟨j, d2, hST, a5, a6, c⟩
        cases m with
        | zero => rw [m_ref03_Right_L1] at c; cases c
        | succ b0 =>
          rw [m_ref03_Right_L1] at c
          refine CW_seq (CW_seq (CW_region (V (R_move a6) (V (R_move a5) (V (R_lenStr Tryz.underlying9 rfl) (V (R_int rfl rfl rfl) (LW_nil (sq_n (CW_if (b := (decide (j < ((G.size : Int))))) rfl (fun a7 => ?_) (fun a7 => ?_))))))))))
          · replace c := if_t a7 c
            refine CW_skip (sq_n (CW_seq (CW_block (CW_seq (CW_region (V (R_move a5) (V (R_move a6) ?_)))))))
            obtain ⟨y, c9, c⟩ := bind_some c
            refine V (R_indexStr (i := j) Tryz.underlying9 rfl rfl (idxS_nonneg c9) (idxS_get c9)) (V (R_assign rfl) (LW_nil (sq_n (CW_seq (CW_region (V (R_move rfl) (V (R_int rfl rfl rfl) (V (R_move rfl) ?_))))))))
            obtain ⟨g9, u, c5⟩ := bind_some c
            refine LW_join (J := fun E W => ∃ (a3 : Bool) (d3 : List (Nat × Obj)), ST true NoF w W (hp w) d3 ∧ E 0 = (.string G) ∧ E 3 = (.int .i64 j) ∧ E 4 = (.int .u8 ((y.toNat : Int))) ∧ E 36 = (.bool a3) ∧ (((if a3 then (((if (decide (((y.toNat : Int)) < 48)) then some true else some ((decide (((y.toNat : Int)) > 57)))) : Option Bool).bind fun Y => some Y) else some false) : Option Bool).bind fun U => (((if U then some ((((y.toNat : Int)) != 45)) else some false) : Option Bool).bind fun T => (if T then some false else (m_ref03_Right_L1 G b0 ((IntKind.i64.wrap (j + 1))))))) = some r) 3 ?_ (fun b4 => ?_)
            · rintro E W ⟨a3, d3, hST, b9, c0, a2, e7, e0⟩
              refine V (R_move e7) ?_
              obtain ⟨g0, K, c3⟩ := bind_some e0
              refine LW_join (J := fun E W => ∃ (U : Bool) (d4 : List (Nat × Obj)), ST true NoF w W (hp w) d4 ∧ E 0 = (.string G) ∧ E 3 = (.int .i64 j) ∧ E 4 = (.int .u8 ((y.toNat : Int))) ∧ E 44 = (.bool U) ∧ (((if U then some ((((y.toNat : Int)) != 45)) else some false) : Option Bool).bind fun T => (if T then some false else (m_ref03_Right_L1 G b0 ((IntKind.i64.wrap (j + 1)))))) = some r) 7 ?_ (fun b2 => ?_)
              · rintro E W ⟨U, d4, hST, d8, d9, e8, e9, e1⟩
                refine V (R_move e9) ?_
                obtain ⟨g7, k, c2⟩ := bind_some e1
                refine LW_join (J := fun E W => ∃ (T : Bool) (d5 : List (Nat × Obj)), ST true NoF w W (hp w) d5 ∧ E 0 = (.string G) ∧ E 3 = (.int .i64 j) ∧ E 48 = (.bool T) ∧ (if T then some false else (m_ref03_Right_L1 G b0 ((IntKind.i64.wrap (j + 1))))) = some r) 3 ?_ (fun b1 => ?_)
                · rintro E W ⟨T, d5, hST, f0, f1, f2, I⟩
                  refine LW_nil (sq_n (CW_if (b := T) f2 (fun a8 => ?_) (fun a8 => ?_)))
                  · replace I := if_t a8 I
                    refine CW_seq (CW_region (V (R_assign rfl) (LW_nil (sq_n (CW_ret (bq_r (sq_r (sq_r (bq_r (sq_r ?_))))))))))
                    replace I := Option.some.inj I; subst I
                    exact retQ_1 (v := (.bool false)) rfl rfl ⟨rfl, hST.ex⟩
                  replace I := if_f a8 I
                  exact CW_skip (bq_n (sq_n (CW_region (V (R_move f1) (V (R_int rfl rfl rfl) (V (R_assign rfl) (LW_nil (sq_n ⟨b0, Nat.lt_succ_self _, ((IntKind.i64.wrap (j + 1))), _, (hST.sel St), f0, rfl, I⟩))))))))
                rcases bool_cases U with B | B
                · replace k := if_t B k
                  refine Vg rfl (congrArg Value.bool B) (R_move e8) (Vg rfl (congrArg Value.bool B) (R_int rfl rfl rfl) (V (R_pickT (congrArg Value.bool B) rfl) ?_))
                  replace k := Option.some.inj k; subst k
                  exact b1 _ _ ⟨((((y.toNat : Int)) != 45)), _, (hST.sel St), d8, d9, rfl, c2⟩
                replace k := if_f B k
                refine Vn rfl (congrArg Value.bool B) (Vn rfl (congrArg Value.bool B) (V (R_pickF (congrArg Value.bool B) rfl) ?_))
                replace k := Option.some.inj k; subst k
                exact b1 _ _ ⟨false, _, (hST.sel St), d8, d9, rfl, c2⟩
              rcases bool_cases a3 with a | a
              · replace K := if_t a K
                refine Vg rfl (congrArg Value.bool a) (R_move a2) (Vg rfl (congrArg Value.bool a) (R_int rfl rfl rfl) (Vg rfl (congrArg Value.bool a) (R_move rfl) ?_))
                obtain ⟨g8, t, c4⟩ := bind_some K
                refine LW_join (J := fun E W => ∃ (Y : Bool) (d6 : List (Nat × Obj)), ST true NoF w W (hp w) d6 ∧ E 0 = (.string G) ∧ E 3 = (.int .i64 j) ∧ E 4 = (.int .u8 ((y.toNat : Int))) ∧ E 37 = (.bool a3) ∧ E 43 = (.bool Y) ∧ some Y = some g0) 3 ?_ (fun b3 => ?_)
                · rintro E W ⟨Y, d6, hST, f3, f4, f5, f6, f7, a9⟩
                  refine V (R_pickT (f6.trans (congrArg Value.bool a)) f7) ?_
                  replace a9 := Option.some.inj a9; subst a9
                  exact b2 _ _ ⟨Y, _, (hST.sel St), f3, f4, f5, rfl, c3⟩
                rcases bool_cases ((decide (((y.toNat : Int)) < 48))) with D | D
                · replace t := if_t D t
                  refine Vn rfl (congrArg Value.bool D) (Vn rfl (congrArg Value.bool D) (Vg rfl (congrArg Value.bool a) (R_pickT (congrArg Value.bool D) rfl) ?_))
                  replace t := Option.some.inj t; subst t
                  exact b3 _ _ ⟨true, _, (hST.sel St), b9, c0, a2, rfl, rfl, c4⟩
                replace t := if_f D t
                refine Vg rfl (congrArg Value.bool D) (R_move a2) (Vg rfl (congrArg Value.bool D) (R_int rfl rfl rfl) (Vg rfl (congrArg Value.bool a) (R_pickF (congrArg Value.bool D) rfl) ?_))
                replace t := Option.some.inj t; subst t
                exact b3 _ _ ⟨((decide (((y.toNat : Int)) > 57))), _, (hST.sel St), b9, c0, a2, rfl, rfl, c4⟩
              replace K := if_f a K
              refine Vn rfl (congrArg Value.bool a) (Vn rfl (congrArg Value.bool a) (Vn rfl (congrArg Value.bool a) (Vu rfl rfl (Vu rfl rfl (Vn rfl (congrArg Value.bool a) (V (R_pickF (congrArg Value.bool a) rfl) ?_))))))
              replace K := Option.some.inj K; subst K
              exact b2 _ _ ⟨false, _, (hST.sel St), b9, c0, a2, rfl, c3⟩
            rcases bool_cases ((decide (((y.toNat : Int)) < 97))) with z | z
            · replace u := if_t z u
              refine Vn rfl (congrArg Value.bool z) (Vn rfl (congrArg Value.bool z) (V (R_pickT (congrArg Value.bool z) rfl) ?_))
              replace u := Option.some.inj u; subst u
              exact b4 _ _ ⟨true, _, (hST.sel St), a5, a6, rfl, rfl, c5⟩
            replace u := if_f z u
            refine Vg rfl (congrArg Value.bool z) (R_move rfl) (Vg rfl (congrArg Value.bool z) (R_int rfl rfl rfl) (V (R_pickF (congrArg Value.bool z) rfl) ?_))
            replace u := Option.some.inj u; subst u
            exact b4 _ _ ⟨((decide (((y.toNat : Int)) > 122))), _, (hST.sel St), a5, a6, rfl, rfl, c5⟩
          replace c := if_f a7 c
          refine CW_exit (sq_e (sq_e (bq_e (sq_n (CW_seq (CW_region (V (R_assign rfl) (LW_nil (sq_n (CW_ret ?_))))))))))
          replace c := Option.some.inj c; subst c
          exact retQ_1 (v := (.bool true)) rfl rfl ⟨rfl, hST.ex⟩
      rcases bool_cases a4 with H | H
      · replace f := if_t H f
        refine Vn rfl (congrArg Value.bool H) (Vn rfl (congrArg Value.bool H) (Vn rfl (congrArg Value.bool H) (V (R_pickT (congrArg Value.bool H) rfl) ?_)))
        replace f := Option.some.inj f; subst f
        exact b5 _ _ ⟨true, _, (hST.sel St), d7, rfl, c6⟩
      replace f := if_f H f
      refine Vg rfl (congrArg Value.bool H) (R_move d7) ?_
      obtain ⟨a1, d0, f⟩ := bind_some f
      refine Vg rfl (congrArg Value.bool H) (R_indexStr (i := 0) Tryz.underlying9 rfl rfl (idxS_nonneg d0) (idxS_get d0)) (Vg rfl (congrArg Value.bool H) (R_int rfl rfl rfl) (V (R_pickF (congrArg Value.bool H) rfl) ?_))
      replace f := Option.some.inj f; subst f
      exact b5 _ _ ⟨((decide (((a1.toNat : Int)) > 122))), _, (hST.sel St), d7, rfl, c6⟩
    rcases bool_cases x2 with N | N
    · replace g := if_t N g
      refine Vn rfl (congrArg Value.bool N) (Vn rfl (congrArg Value.bool N) (Vn rfl (congrArg Value.bool N) (V (R_pickT (congrArg Value.bool N) rfl) ?_)))
      replace g := Option.some.inj g; subst g
      exact b6 _ _ ⟨true, _, (hST.sel St), e5, rfl, c7⟩
    replace g := if_f N g
    refine Vg rfl (congrArg Value.bool N) (R_move e5) ?_
    obtain ⟨b8, d1, g⟩ := bind_some g
    refine Vg rfl (congrArg Value.bool N) (R_indexStr (i := 0) Tryz.underlying9 rfl rfl (idxS_nonneg d1) (idxS_get d1)) (Vg rfl (congrArg Value.bool N) (R_int rfl rfl rfl) (V (R_pickF (congrArg Value.bool N) rfl) ?_))
    replace g := Option.some.inj g; subst g
    exact b6 _ _ ⟨((decide (((b8.toNat : Int)) < 97))), _, (hST.sel St), e5, rfl, c7⟩
  rcases bool_cases ((beqS G zS)) with M | M
  · replace x := if_t M x
    refine Vn rfl (congrArg Value.bool M) (Vn rfl (congrArg Value.bool M) (Vn rfl (congrArg Value.bool M) (V (R_pickT (congrArg Value.bool M) rfl) ?_)))
    replace x := Option.some.inj x; subst x
    exact b7 _ _ ⟨true, _, (hST.sel St), rfl, rfl, c8⟩
  replace x := if_f M x
  refine Vg rfl (congrArg Value.bool M) (R_move rfl) (Vg rfl (congrArg Value.bool M) (R_lenStr Tryz.underlying9 rfl) (Vg rfl (congrArg Value.bool M) (R_int rfl rfl rfl) (V (R_pickF (congrArg Value.bool M) rfl) ?_)))
  replace x := Option.some.inj x; subst x
  exact b7 _ _ ⟨((decide (((G.size : Int)) > 16))), _, (hST.sel St), rfl, rfl, c8⟩
theorem w_ref04_Right (f : Role) (r : Bool) (w : World)  (hm : m_ref04_Right f = some r) :
    Gives true Tryz.prog 51 [(.agg (encRole f).toArray)] w (.bool r) := by
  have hST := ST.start (dd := true) w
  unfold m_ref04_Right at hm
  refine calls_of_CW (n := 11) Tryz.func51 rfl rfl (Nat.le_of_ble_eq_true rfl) (CW_seq (CW_region (VE (E_box (v := (.agg (encRole f).toArray)) hST rfl (fun I M hST => V (R_assign rfl) (LW_nil (sq_n (CW_seq (CW_region (V (R_field fa47_0 rfl) (V (R_load rfl (load_box1 hST.has Mh rfl Tryz.isAgg9)) ?_)))))))))))
  obtain ⟨B, y, hm⟩ := bind_some hm
  refine VE (E_gives (args := [(.string f.Owner)]) hST rfl Tryz.call108 (by exact args1 rfl) ((w_ref03_Right f.Owner _ _  y)) (fun K hST => V (R_move rfl) ?_))
  obtain ⟨H, a, k⟩ := bind_some hm
  refine LW_join (J := fun E W => ∃ (j : Bool) (t : List (Nat × Obj)), ST true NoF w W (hp w) t ∧ E 2 = (.bool false) ∧ E 10 = (.bool j) ∧ some j = some r) 4 ?_ (fun i => ?_)
  · rintro E W ⟨j, t, hST, G, x, g⟩
    refine V (R_assign x) (LW_nil (sq_n (CW_ret ?_)))
    replace g := Option.some.inj g; subst g
    exact retQ_1 (v := (.bool j)) rfl rfl ⟨rfl, hST.ex⟩
  rcases bool_cases B with c | c
  · replace a := if_t c a
    refine Vg rfl (congrArg Value.bool c) (R_field fa47_1 rfl) (Vg rfl (congrArg Value.bool c) (R_load rfl (load_box1 hST.has Mh rfl Tryz.isAgg9)) ?_)
    obtain ⟨z, u, a⟩ := bind_some a
    refine VgE rfl (congrArg Value.bool c) (E_gives (args := [(.string f.Word)]) hST rfl Tryz.call108 (by exact args1 rfl) ((w_ref03_Right f.Word _ _  u)) (fun D hST => V (R_pickT (congrArg Value.bool c) rfl) ?_))
    replace a := Option.some.inj a; subst a
    exact i _ _ ⟨z, _, (hST.sel (Db St)), rfl, rfl, k⟩
  replace a := if_f c a
  refine Vn rfl (congrArg Value.bool c) (Vn rfl (congrArg Value.bool c) (Vn rfl (congrArg Value.bool c) (V (R_pickF (congrArg Value.bool c) rfl) ?_)))
  replace a := Option.some.inj a; subst a
  exact i _ _ ⟨false, _, (hST.sel (Db St)), rfl, rfl, k⟩
theorem w_ref04_Less (i : Role) (j : Role) (r : Bool) (w : World)  (hm : m_ref04_Less i j = some r) :
    Gives true Tryz.prog 123 [(.agg (encRole i).toArray), (.agg (encRole j).toArray)] w (.bool r) := by
  have hST := ST.start (dd := true) w
  unfold m_ref04_Less at hm
  refine calls_of_CW (n := 24) Tryz.func123 rfl rfl (Nat.le_of_ble_eq_true rfl) (CW_seq (CW_region (VE (E_box (v := (.agg (encRole i).toArray)) hST rfl (fun Y b1 hST => VE (E_box (v := (.agg (encRole j).toArray)) hST rfl (fun Z b3 hST => V (R_assign rfl) (LW_nil (sq_n (CW_seq (CW_region (V (R_field fa47_0 rfl) (V (R_load rfl (load_box1 hST.has (Mt Mh) rfl Tryz.isAgg9)) (V (R_field fa47_0 rfl) (V (R_load rfl (load_box1 hST.has Mh rfl Tryz.isAgg9)) (V (R_str rfl rfl rfl) ?_))))))))))))))))
  refine V (R_move rfl) ?_
  obtain ⟨Q, g, B⟩ := bind_some hm
  refine LW_join (J := fun E W => ∃ (y : Bool) (G : List (Nat × Obj)), ST true NoF w W (hp w) G ∧ E 4 = (.bool false) ∧ E 23 = (.bool y) ∧ some y = some r) 13 ?_ (fun u => ?_)
  · rintro E W ⟨y, G, hST, T, I, k⟩
    refine V (R_assign I) (LW_nil (sq_n (CW_ret ?_)))
    replace k := Option.some.inj k; subst k
    exact retQ_1 (v := (.bool y)) rfl rfl ⟨rfl, hST.ex⟩
  rcases bool_cases ((ltS i.Owner j.Owner)) with c | c
  · replace g := if_t c g
    refine Vn rfl (congrArg Value.bool c) (Vn rfl (congrArg Value.bool c) (Vn rfl (congrArg Value.bool c) (Vn rfl (congrArg Value.bool c) (Vn rfl (congrArg Value.bool c) (Vn rfl (congrArg Value.bool c) (Vu rfl rfl (Vu rfl rfl (Vu rfl rfl (Vu rfl rfl (Vu rfl rfl (Vn rfl (congrArg Value.bool c) (V (R_pickT (congrArg Value.bool c) rfl) ?_))))))))))))
    replace g := Option.some.inj g; subst g
    exact u _ _ ⟨true, _, (hST.sel (Db (Db St))), rfl, rfl, B⟩
  replace g := if_f c g
  refine Vg rfl (congrArg Value.bool c) (R_field fa47_0 rfl) (Vg rfl (congrArg Value.bool c) (R_load rfl (load_box1 hST.has (Mt Mh) rfl Tryz.isAgg9)) (Vg rfl (congrArg Value.bool c) (R_field fa47_0 rfl) (Vg rfl (congrArg Value.bool c) (R_load rfl (load_box1 hST.has Mh rfl Tryz.isAgg9)) (Vg rfl (congrArg Value.bool c) (R_str rfl rfl rfl) (Vg rfl (congrArg Value.bool c) (R_move rfl) ?_)))))
  obtain ⟨U, f, D⟩ := bind_some g
  refine LW_join (J := fun E W => ∃ (z : Bool) (H : List (Nat × Obj)), ST true NoF w W (hp w) H ∧ E 4 = (.bool false) ∧ E 10 = (.bool ((ltS i.Owner j.Owner))) ∧ E 22 = (.bool z) ∧ some z = some Q) 6 ?_ (fun x => ?_)
  · rintro E W ⟨z, H, hST, K, M, N, t⟩
    refine V (R_pickF (M.trans (congrArg Value.bool c)) N) ?_
    replace t := Option.some.inj t; subst t
    exact u _ _ ⟨z, _, (hST.sel St), K, rfl, B⟩
  rcases bool_cases ((beqS i.Owner j.Owner)) with a | a
  · replace f := if_t a f
    refine Vg rfl (congrArg Value.bool a) (R_field fa47_1 rfl) (Vg rfl (congrArg Value.bool a) (R_load rfl (load_box1 hST.has (Mt Mh) rfl Tryz.isAgg9)) (Vg rfl (congrArg Value.bool a) (R_field fa47_1 rfl) (Vg rfl (congrArg Value.bool a) (R_load rfl (load_box1 hST.has Mh rfl Tryz.isAgg9)) (Vg rfl (congrArg Value.bool a) (R_str rfl rfl rfl) (Vg rfl (congrArg Value.bool c) (R_pickT (congrArg Value.bool a) rfl) ?_)))))
    replace f := Option.some.inj f; subst f
    exact x _ _ ⟨((ltS i.Word j.Word)), _, (hST.sel (Db (Db St))), rfl, rfl, rfl, D⟩
  replace f := if_f a f
  refine Vn rfl (congrArg Value.bool a) (Vn rfl (congrArg Value.bool a) (Vn rfl (congrArg Value.bool a) (Vn rfl (congrArg Value.bool a) (Vn rfl (congrArg Value.bool a) (Vg rfl (congrArg Value.bool c) (R_pickF (congrArg Value.bool a) rfl) ?_)))))
  replace f := Option.some.inj f; subst f
  exact x _ _ ⟨false, _, (hST.sel (Db (Db St))), rfl, rfl, rfl, D⟩
theorem w_ref05_Right (a : Cred) (r : Bool) (w : World)  (hm : m_ref05_Right a = some r) :
    Gives true Tryz.prog 106 [(.agg (encCred a).toArray)] w (.bool r) := by
  have hST := ST.start (dd := true) w
  unfold m_ref05_Right at hm
  refine calls_of_CW (n := 93) Tryz.func106 rfl rfl (Nat.le_of_ble_eq_true rfl) (CW_seq (CW_region (VE (E_box (v := (.agg (encCred a).toArray)) hST rfl (fun W2 b1 hST => V (R_assign rfl) (LW_nil (sq_n (CW_seq (CW_region (VE (E_alloc hST Tryz.zeroValue47 (fun W4 b3 hST => LW_nil (sq_n (CW_seq (CW_seq (CW_region ?_))))))))))))))))
  refine V (R_field fa83_1 rfl) (V (R_load rfl (load_boxA hST.has (Mt Mh) (encRole a.Head) rfl Tryz.isAgg47 Tryz.sizeOf47)) ?_)
  obtain ⟨r5, i5, hm⟩ := bind_some hm
  refine VE (E_gives (args := [(.agg (encRole a.Head).toArray)]) hST rfl Tryz.call51 (by exact args1 rfl) ((w_ref04_Right a.Head _ _  i5)) (fun W7 hST => V (R_not rfl) (LW_nil (sq_n (CW_if (b := (!r5)) rfl (fun e1 => ?_) (fun e1 => ?_))))))
  · replace hm := if_t e1 hm
    refine CW_seq (CW_region (V (R_assign rfl) (LW_nil (sq_n ?_))))
    replace hST := hST.sel (Db (Db St))
    refine CW_ret (sq_r ?_)
    replace hm := Option.some.inj hm; subst hm
    exact retQ_1 (v := (.bool false)) rfl rfl ⟨rfl, hST.ex⟩
  replace hm := if_f e1 hm
  refine CW_skip (sq_n (CW_seq (CW_seq (CW_region (V (R_field fa83_0 rfl) (V (R_load rfl (load_box1 hST.has (Mt Mh) rfl Tryz.isAgg3)) (V (R_int rfl rfl rfl) (LW_nil (sq_n (CW_if (b := (a.Kind == 1)) rfl (fun e2 => ?_) (fun e2 => ?_)))))))))))
  · replace hm := if_t e2 hm
    refine CW_seq (CW_region (V (R_field fa83_2 rfl) (V (R_load rfl (load_box1 hST.has (Mt Mh) rfl Tryz.isAgg9)) ?_)))
    obtain ⟨i6, h1, hm⟩ := bind_some hm
    refine VE (E_gives (args := [(.string a.Who)]) hST rfl Tryz.call108 (by exact args1 rfl) ((w_ref03_Right a.Who _ _  h1)) (fun j5 hST => V (R_move rfl) ?_))
    obtain ⟨k0, N, e5⟩ := bind_some hm
    refine LW_join (J := fun E W => ∃ (d4 : Bool) (f4 : List (Nat × Obj)), ST true NoF w W (hp w) ((b3, Obj.cells ((encRole ((⟨zS, zS⟩ : Role))).toArray : Array Value) 47 (0, 0)) :: ((b1, Obj.cells ((encCred a).toArray : Array Value) 83 (0, 0)) :: f4)) ∧ E 1 = (.pointer (some ⟨b1, 0, none⟩)) ∧ E 2 = (.bool false) ∧ E 3 = (.pointer (some ⟨b3, 0, none⟩)) ∧ E 19 = (.bool d4) ∧ (((if d4 then some ((beqRole a.C ((⟨zS, zS⟩ : Role)))) else some false) : Option Bool).bind fun a6 => (((if a6 then some ((beqS a.Word2 zS)) else some false) : Option Bool).bind fun a2 => some a2)) = some r) 5 ?_ (fun d0 => ?_)
    · rintro E W ⟨d4, f4, hST, d9, g2, h4, h5, g7⟩
      refine V (R_move h5) ?_
      obtain ⟨j9, M, e4⟩ := bind_some g7
      refine LW_join (J := fun E W => ∃ (a6 : Bool) (f5 : List (Nat × Obj)), ST true NoF w W (hp w) ((b1, Obj.cells ((encCred a).toArray : Array Value) 83 (0, 0)) :: f5) ∧ E 1 = (.pointer (some ⟨b1, 0, none⟩)) ∧ E 2 = (.bool false) ∧ E 25 = (.bool a6) ∧ (((if a6 then some ((beqS a.Word2 zS)) else some false) : Option Bool).bind fun a2 => some a2) = some r) 5 ?_ (fun c9 => ?_)
      · rintro E W ⟨a6, f5, hST, h6, g3, h7, g8⟩
        refine V (R_move h7) ?_
        obtain ⟨j8, K, e3⟩ := bind_some g8
        refine LW_join (J := fun E W => ∃ (a2 : Bool) (f6 : List (Nat × Obj)), ST true NoF w W (hp w) f6 ∧ E 2 = (.bool false) ∧ E 30 = (.bool a2) ∧ some a2 = some r) 4 ?_ (fun c8 => ?_)
        · rintro E W ⟨a2, f6, hST, j7, h8, c1⟩
          refine V (R_assign h8) (LW_nil (sq_n (CW_ret (sq_r ?_))))
          replace c1 := Option.some.inj c1; subst c1
          exact retQ_1 (v := (.bool a2)) rfl rfl ⟨rfl, hST.ex⟩
        rcases bool_cases a6 with B | B
        · replace K := if_t B K
          refine Vg rfl (congrArg Value.bool B) (R_field fa83_5 h6) (Vg rfl (congrArg Value.bool B) (R_load rfl (load_box1 hST.has Mh rfl Tryz.isAgg9)) (Vg rfl (congrArg Value.bool B) (R_str rfl rfl rfl) (V (R_pickT (congrArg Value.bool B) rfl) ?_)))
          replace K := Option.some.inj K; subst K
          exact c8 _ _ ⟨((beqS a.Word2 zS)), _, (hST.sel (Db St)), g3, rfl, e3⟩
        replace K := if_f B K
        refine Vn rfl (congrArg Value.bool B) (Vn rfl (congrArg Value.bool B) (Vn rfl (congrArg Value.bool B) (V (R_pickF (congrArg Value.bool B) rfl) ?_)))
        replace K := Option.some.inj K; subst K
        exact c8 _ _ ⟨false, _, (hST.sel (Db St)), g3, rfl, e3⟩
      rcases bool_cases d4 with u | u
      · replace M := if_t u M
        refine Vg rfl (congrArg Value.bool u) (R_field fa83_4 d9) (Vg rfl (congrArg Value.bool u) (R_load rfl (load_boxA hST.has (Mt Mh) (encRole a.C) rfl Tryz.isAgg47 Tryz.sizeOf47)) (Vg rfl (congrArg Value.bool u) (R_load h4 (load_boxA hST.has Mh (encRole ((⟨zS, zS⟩ : Role))) rfl Tryz.isAgg47 Tryz.sizeOf47)) (Vg rfl (congrArg Value.bool u) (R_eql rfl rfl (guard_agg Tryz.eqGuardType47) (bin_eql (eqInRole _ a.C ((⟨zS, zS⟩ : Role))))) (V (R_pickT (congrArg Value.bool u) rfl) ?_))))
        replace M := Option.some.inj M; subst M
        exact c9 _ _ ⟨((beqRole a.C ((⟨zS, zS⟩ : Role)))), _, (hST.sel (Db St)), d9, g2, rfl, e4⟩
      replace M := if_f u M
      refine Vn rfl (congrArg Value.bool u) (Vn rfl (congrArg Value.bool u) (Vn rfl (congrArg Value.bool u) (Vn rfl (congrArg Value.bool u) (V (R_pickF (congrArg Value.bool u) rfl) ?_))))
      replace M := Option.some.inj M; subst M
      exact c9 _ _ ⟨false, _, (hST.sel (Db St)), d9, g2, rfl, e4⟩
    rcases bool_cases i6 with t | t
    · replace N := if_t t N
      refine Vg rfl (congrArg Value.bool t) (R_field fa83_3 rfl) (Vg rfl (congrArg Value.bool t) (R_load rfl (load_boxA hST.has (Mt Mh) (encRole a.B) rfl Tryz.isAgg47 Tryz.sizeOf47)) (Vg rfl (congrArg Value.bool t) (R_load rfl (load_boxA hST.has Mh (encRole ((⟨zS, zS⟩ : Role))) rfl Tryz.isAgg47 Tryz.sizeOf47)) (Vg rfl (congrArg Value.bool t) (R_eql rfl rfl (guard_agg Tryz.eqGuardType47) (bin_eql (eqInRole _ a.B ((⟨zS, zS⟩ : Role))))) (V (R_pickT (congrArg Value.bool t) rfl) ?_))))
      replace N := Option.some.inj N; subst N
      exact d0 _ _ ⟨((beqRole a.B ((⟨zS, zS⟩ : Role)))), _, (hST.sel St), rfl, rfl, rfl, rfl, e5⟩
    replace N := if_f t N
    refine Vn rfl (congrArg Value.bool t) (Vn rfl (congrArg Value.bool t) (Vn rfl (congrArg Value.bool t) (Vn rfl (congrArg Value.bool t) (V (R_pickF (congrArg Value.bool t) rfl) ?_))))
    replace N := Option.some.inj N; subst N
    exact d0 _ _ ⟨false, _, (hST.sel St), rfl, rfl, rfl, rfl, e5⟩
  replace hm := if_f e2 hm
  refine CW_skip (sq_n (CW_seq (CW_seq (CW_region (V (R_field fa83_2 rfl) (V (R_load rfl (load_box1 hST.has (Mt Mh) rfl Tryz.isAgg9)) (V (R_str rfl rfl rfl) (V (R_move rfl) ?_))))))))
  obtain ⟨j4, k, c7⟩ := bind_some hm
  refine LW_join (J := fun E W => ∃ (d5 : Bool) (f7 : List (Nat × Obj)), ST true NoF w W (hp w) ((b3, Obj.cells ((encRole ((⟨zS, zS⟩ : Role))).toArray : Array Value) 47 (0, 0)) :: ((b1, Obj.cells ((encCred a).toArray : Array Value) 83 (0, 0)) :: f7)) ∧ E 1 = (.pointer (some ⟨b1, 0, none⟩)) ∧ E 3 = (.pointer (some ⟨b3, 0, none⟩)) ∧ E 39 = (.bool d5) ∧ (if d5 then some false else (if (a.Kind == 2) then (((if (beqRole a.C ((⟨zS, zS⟩ : Role))) then some ((beqS a.Word2 zS)) else some false) : Option Bool).bind fun a7 => some a7) else (if (a.Kind == 3) then (((if (beqRole a.C ((⟨zS, zS⟩ : Role))) then some ((beqS a.B.Owner a.Head.Owner)) else some false) : Option Bool).bind fun a8 => (((if a8 then (((m_ref03_Right a.Word2)).bind fun b7 => some b7) else some false) : Option Bool).bind fun a3 => some a3)) else (((if (a.Kind == 4) then some ((beqS a.Word2 zS)) else some false) : Option Bool).bind fun a9 => (((if a9 then (((m_ref04_Right a.C)).bind fun a5 => some a5) else some false) : Option Bool).bind fun Z => (((if Z then (((m_ref04_Less a.B a.C)).bind fun a1 => some a1) else some false) : Option Bool).bind fun U => some U)))))) = some r) 5 ?_ (fun b6 => ?_)
  · rintro E W ⟨d5, f7, hST, Y, g4, h9, g⟩
    refine LW_nil (sq_n (CW_if (b := d5) h9 (fun b8 => ?_) (fun b8 => ?_)))
    · replace g := if_t b8 g
      refine CW_seq (CW_region (V (R_assign rfl) (LW_nil (sq_n ?_))))
      replace hST := hST.sel (Db (Db St))
      refine CW_ret (sq_r ?_)
      replace g := Option.some.inj g; subst g
      exact retQ_1 (v := (.bool false)) rfl rfl ⟨rfl, hST.ex⟩
    replace g := if_f b8 g
    refine CW_skip (sq_n (CW_seq (CW_seq (CW_region (V (R_field fa83_0 Y) (V (R_load rfl (load_box1 hST.has (Mt Mh) rfl Tryz.isAgg3)) (V (R_int rfl rfl rfl) (LW_nil (sq_n (CW_if (b := (a.Kind == 2)) rfl (fun b9 => ?_) (fun b9 => ?_)))))))))))
    · replace g := if_t b9 g
      refine CW_seq (CW_region (V (R_field fa83_4 Y) (V (R_load rfl (load_boxA hST.has (Mt Mh) (encRole a.C) rfl Tryz.isAgg47 Tryz.sizeOf47)) (V (R_load g4 (load_boxA hST.has Mh (encRole ((⟨zS, zS⟩ : Role))) rfl Tryz.isAgg47 Tryz.sizeOf47)) (V (R_eql rfl rfl (guard_agg Tryz.eqGuardType47) (bin_eql (eqInRole _ a.C ((⟨zS, zS⟩ : Role))))) (V (R_move rfl) ?_))))))
      obtain ⟨k1, Q, e6⟩ := bind_some g
      refine LW_join (J := fun E W => ∃ (a7 : Bool) (f8 : List (Nat × Obj)), ST true NoF w W (hp w) f8 ∧ E 51 = (.bool a7) ∧ some a7 = some r) 4 ?_ (fun d1 => ?_)
      · rintro E W ⟨a7, f8, hST, i0, c2⟩
        refine V (R_assign i0) (LW_nil (sq_n (CW_ret (sq_r ?_))))
        replace c2 := Option.some.inj c2; subst c2
        exact retQ_1 (v := (.bool a7)) rfl rfl ⟨rfl, hST.ex⟩
      rcases bool_cases ((beqRole a.C ((⟨zS, zS⟩ : Role)))) with D | D
      · replace Q := if_t D Q
        refine Vg rfl (congrArg Value.bool D) (R_field fa83_5 Y) (Vg rfl (congrArg Value.bool D) (R_load rfl (load_box1 hST.has (Mt Mh) rfl Tryz.isAgg9)) (Vg rfl (congrArg Value.bool D) (R_str rfl rfl rfl) (V (R_pickT (congrArg Value.bool D) rfl) ?_)))
        replace Q := Option.some.inj Q; subst Q
        exact d1 _ _ ⟨((beqS a.Word2 zS)), _, (hST.sel (Db (Db St))), rfl, e6⟩
      replace Q := if_f D Q
      refine Vn rfl (congrArg Value.bool D) (Vn rfl (congrArg Value.bool D) (Vn rfl (congrArg Value.bool D) (V (R_pickF (congrArg Value.bool D) rfl) ?_)))
      replace Q := Option.some.inj Q; subst Q
      exact d1 _ _ ⟨false, _, (hST.sel (Db (Db St))), rfl, e6⟩
    replace g := if_f b9 g
    refine CW_skip (sq_n (CW_seq (CW_seq (CW_region (V (R_field fa83_0 Y) (V (R_load rfl (load_box1 hST.has (Mt Mh) rfl Tryz.isAgg3)) (V (R_int rfl rfl rfl) (LW_nil (sq_n (CW_if (b := (a.Kind == 3)) rfl (fun c0 => ?_) (fun c0 => ?_)))))))))))
    · replace g := if_t c0 g
      refine CW_seq (CW_region (V (R_field fa83_4 Y) (V (R_load rfl (load_boxA hST.has (Mt Mh) (encRole a.C) rfl Tryz.isAgg47 Tryz.sizeOf47)) (V (R_load g4 (load_boxA hST.has Mh (encRole ((⟨zS, zS⟩ : Role))) rfl Tryz.isAgg47 Tryz.sizeOf47)) (V (R_eql rfl rfl (guard_agg Tryz.eqGuardType47) (bin_eql (eqInRole _ a.C ((⟨zS, zS⟩ : Role))))) (V (R_move rfl) ?_))))))
      obtain ⟨k3, T, e8⟩ := bind_some g
      refine LW_join (J := fun E W => ∃ (a8 : Bool) (f9 : List (Nat × Obj)), ST true NoF w W (hp w) ((b1, Obj.cells ((encCred a).toArray : Array Value) 83 (0, 0)) :: f9) ∧ E 1 = (.pointer (some ⟨b1, 0, none⟩)) ∧ E 67 = (.bool a8) ∧ (((if a8 then (((m_ref03_Right a.Word2)).bind fun b7 => some b7) else some false) : Option Bool).bind fun a3 => some a3) = some r) 8 ?_ (fun d3 => ?_)
      · rintro E W ⟨a8, f9, hST, i1, i2, g9⟩
        refine V (R_move i2) ?_
        obtain ⟨k2, z, e7⟩ := bind_some g9
        refine LW_join (J := fun E W => ∃ (a3 : Bool) (g0 : List (Nat × Obj)), ST true NoF w W (hp w) g0 ∧ E 72 = (.bool a3) ∧ some a3 = some r) 4 ?_ (fun d2 => ?_)
        · rintro E W ⟨a3, g0, hST, i3, c3⟩
          refine V (R_assign i3) (LW_nil (sq_n (CW_ret (sq_r ?_))))
          replace c3 := Option.some.inj c3; subst c3
          exact retQ_1 (v := (.bool a3)) rfl rfl ⟨rfl, hST.ex⟩
        rcases bool_cases a8 with G | G
        · replace z := if_t G z
          refine Vg rfl (congrArg Value.bool G) (R_field fa83_5 i1) (Vg rfl (congrArg Value.bool G) (R_load rfl (load_box1 hST.has Mh rfl Tryz.isAgg9)) ?_)
          obtain ⟨b7, h2, z⟩ := bind_some z
          refine VgE rfl (congrArg Value.bool G) (E_gives (args := [(.string a.Word2)]) hST rfl Tryz.call108 (by exact args1 rfl) ((w_ref03_Right a.Word2 _ _  h2)) (fun j6 hST => V (R_pickT (congrArg Value.bool G) rfl) ?_))
          replace z := Option.some.inj z; subst z
          exact d2 _ _ ⟨b7, _, (hST.sel (Db St)), rfl, e7⟩
        replace z := if_f G z
        refine Vn rfl (congrArg Value.bool G) (Vn rfl (congrArg Value.bool G) (Vn rfl (congrArg Value.bool G) (V (R_pickF (congrArg Value.bool G) rfl) ?_)))
        replace z := Option.some.inj z; subst z
        exact d2 _ _ ⟨false, _, (hST.sel (Db St)), rfl, e7⟩
      rcases bool_cases ((beqRole a.C ((⟨zS, zS⟩ : Role)))) with f | f
      · replace T := if_t f T
        refine Vg rfl (congrArg Value.bool f) (R_field fa83_3 Y) (Vg rfl (congrArg Value.bool f) (R_field fa47_0 rfl) (Vg rfl (congrArg Value.bool f) (R_load rfl (load_box1 hST.has (Mt Mh) rfl Tryz.isAgg9)) (Vg rfl (congrArg Value.bool f) (R_field fa83_1 Y) (Vg rfl (congrArg Value.bool f) (R_field fa47_0 rfl) (Vg rfl (congrArg Value.bool f) (R_load rfl (load_box1 hST.has (Mt Mh) rfl Tryz.isAgg9)) (Vg rfl (congrArg Value.bool f) (R_str rfl rfl rfl) (V (R_pickT (congrArg Value.bool f) rfl) ?_)))))))
        replace T := Option.some.inj T; subst T
        exact d3 _ _ ⟨((beqS a.B.Owner a.Head.Owner)), _, (hST.sel (Db St)), Y, rfl, e8⟩
      replace T := if_f f T
      refine Vn rfl (congrArg Value.bool f) (Vn rfl (congrArg Value.bool f) (Vn rfl (congrArg Value.bool f) (Vn rfl (congrArg Value.bool f) (Vn rfl (congrArg Value.bool f) (Vn rfl (congrArg Value.bool f) (Vn rfl (congrArg Value.bool f) (V (R_pickF (congrArg Value.bool f) rfl) ?_)))))))
      replace T := Option.some.inj T; subst T
      exact d3 _ _ ⟨false, _, (hST.sel (Db St)), Y, rfl, e8⟩
    replace g := if_f c0 g
    refine CW_skip (sq_n ?_)
    replace hST := hST.sel (Db St)
    refine CW_seq (CW_region (V (R_field fa83_0 Y) (V (R_load rfl (load_box1 hST.has Mh rfl Tryz.isAgg3)) (V (R_int rfl rfl rfl) (V (R_move rfl) ?_)))))
    obtain ⟨j3, y, c6⟩ := bind_some g
    refine LW_join (J := fun E W => ∃ (a9 : Bool) (g1 : List (Nat × Obj)), ST true NoF w W (hp w) ((b1, Obj.cells ((encCred a).toArray : Array Value) 83 (0, 0)) :: g1) ∧ E 1 = (.pointer (some ⟨b1, 0, none⟩)) ∧ E 80 = (.bool a9) ∧ (((if a9 then (((m_ref04_Right a.C)).bind fun a5 => some a5) else some false) : Option Bool).bind fun Z => (((if Z then (((m_ref04_Less a.B a.C)).bind fun a1 => some a1) else some false) : Option Bool).bind fun U => some U)) = some r) 4 ?_ (fun b5 => ?_)
    · rintro E W ⟨a9, g1, hST, e0, i4, h0⟩
      refine V (R_move i4) ?_
      obtain ⟨j2, j, c5⟩ := bind_some h0
      refine LW_join (J := fun E W => ∃ (Z : Bool) (d6 : List (Nat × Obj)), ST true NoF w W (hp w) ((b1, Obj.cells ((encCred a).toArray : Array Value) 83 (0, 0)) :: d6) ∧ E 1 = (.pointer (some ⟨b1, 0, none⟩)) ∧ E 85 = (.bool Z) ∧ (((if Z then (((m_ref04_Less a.B a.C)).bind fun a1 => some a1) else some false) : Option Bool).bind fun U => some U) = some r) 4 ?_ (fun b4 => ?_)
      · rintro E W ⟨Z, d6, hST, d8, g5, f0⟩
        refine V (R_move g5) ?_
        obtain ⟨j1, i, c4⟩ := bind_some f0
        refine LW_join (J := fun E W => ∃ (U : Bool) (d7 : List (Nat × Obj)), ST true NoF w W (hp w) d7 ∧ E 92 = (.bool U) ∧ some U = some r) 6 ?_ (fun b2 => ?_)
        · rintro E W ⟨U, d7, hST, g6, b0⟩
          refine V (R_assign g6) (LW_nil (sq_n (CW_ret ?_)))
          replace b0 := Option.some.inj b0; subst b0
          exact retQ_1 (v := (.bool U)) rfl rfl ⟨rfl, hST.ex⟩
        rcases bool_cases Z with c | c
        · replace i := if_t c i
          refine Vg rfl (congrArg Value.bool c) (R_field fa83_3 d8) (Vg rfl (congrArg Value.bool c) (R_load rfl (load_boxA hST.has Mh (encRole a.B) rfl Tryz.isAgg47 Tryz.sizeOf47)) (Vg rfl (congrArg Value.bool c) (R_field fa83_4 d8) (Vg rfl (congrArg Value.bool c) (R_load rfl (load_boxA hST.has Mh (encRole a.C) rfl Tryz.isAgg47 Tryz.sizeOf47)) ?_)))
          obtain ⟨a1, f1, i⟩ := bind_some i
          refine VgE rfl (congrArg Value.bool c) (E_gives (args := [(.agg (encRole a.B).toArray), (.agg (encRole a.C).toArray)]) hST rfl Tryz.call123 (by exact args2 rfl rfl) ((w_ref04_Less a.B a.C _ _  f1)) (fun i7 hST => V (R_pickT (congrArg Value.bool c) rfl) ?_))
          replace i := Option.some.inj i; subst i
          exact b2 _ _ ⟨a1, _, (hST.sel (Db St)), rfl, c4⟩
        replace i := if_f c i
        refine Vn rfl (congrArg Value.bool c) (Vn rfl (congrArg Value.bool c) (Vn rfl (congrArg Value.bool c) (Vn rfl (congrArg Value.bool c) (Vn rfl (congrArg Value.bool c) (V (R_pickF (congrArg Value.bool c) rfl) ?_)))))
        replace i := Option.some.inj i; subst i
        exact b2 _ _ ⟨false, _, (hST.sel (Db St)), rfl, c4⟩
      rcases bool_cases a9 with I | I
      · replace j := if_t I j
        refine Vg rfl (congrArg Value.bool I) (R_field fa83_4 e0) (Vg rfl (congrArg Value.bool I) (R_load rfl (load_boxA hST.has Mh (encRole a.C) rfl Tryz.isAgg47 Tryz.sizeOf47)) ?_)
        obtain ⟨a5, f2, j⟩ := bind_some j
        refine VgE rfl (congrArg Value.bool I) (E_gives (args := [(.agg (encRole a.C).toArray)]) hST rfl Tryz.call51 (by exact args1 rfl) ((w_ref04_Right a.C _ _  f2)) (fun i8 hST => V (R_pickT (congrArg Value.bool I) rfl) ?_))
        replace j := Option.some.inj j; subst j
        exact b4 _ _ ⟨a5, _, (hST.sel St), e0, rfl, c5⟩
      replace j := if_f I j
      refine Vn rfl (congrArg Value.bool I) (Vn rfl (congrArg Value.bool I) (Vn rfl (congrArg Value.bool I) (V (R_pickF (congrArg Value.bool I) rfl) ?_)))
      replace j := Option.some.inj j; subst j
      exact b4 _ _ ⟨false, _, (hST.sel St), e0, rfl, c5⟩
    rcases bool_cases ((a.Kind == 4)) with H | H
    · replace y := if_t H y
      refine Vg rfl (congrArg Value.bool H) (R_field fa83_5 Y) (Vg rfl (congrArg Value.bool H) (R_load rfl (load_box1 hST.has Mh rfl Tryz.isAgg9)) (Vg rfl (congrArg Value.bool H) (R_str rfl rfl rfl) (V (R_pickT (congrArg Value.bool H) rfl) ?_)))
      replace y := Option.some.inj y; subst y
      exact b5 _ _ ⟨((beqS a.Word2 zS)), _, (hST.sel St), Y, rfl, c6⟩
    replace y := if_f H y
    refine Vn rfl (congrArg Value.bool H) (Vn rfl (congrArg Value.bool H) (Vn rfl (congrArg Value.bool H) (V (R_pickF (congrArg Value.bool H) rfl) ?_)))
    replace y := Option.some.inj y; subst y
    exact b5 _ _ ⟨false, _, (hST.sel St), Y, rfl, c6⟩
  rcases bool_cases ((!(beqS a.Who zS))) with x | x
  · replace k := if_t x k
    refine Vn rfl (congrArg Value.bool x) (Vn rfl (congrArg Value.bool x) (Vn rfl (congrArg Value.bool x) (Vn rfl (congrArg Value.bool x) (V (R_pickT (congrArg Value.bool x) rfl) ?_))))
    replace k := Option.some.inj k; subst k
    exact b6 _ _ ⟨true, _, (hST.sel St), rfl, rfl, rfl, c7⟩
  replace k := if_f x k
  refine Vg rfl (congrArg Value.bool x) (R_field fa83_3 rfl) (Vg rfl (congrArg Value.bool x) (R_load rfl (load_boxA hST.has (Mt Mh) (encRole a.B) rfl Tryz.isAgg47 Tryz.sizeOf47)) ?_)
  obtain ⟨h3, f3, k⟩ := bind_some k
  refine VgE rfl (congrArg Value.bool x) (E_gives (args := [(.agg (encRole a.B).toArray)]) hST rfl Tryz.call51 (by exact args1 rfl) ((w_ref04_Right a.B _ _  f3)) (fun i9 hST => Vg rfl (congrArg Value.bool x) (R_not rfl) (V (R_pickF (congrArg Value.bool x) rfl) ?_)))
  replace k := Option.some.inj k; subst k
  exact b6 _ _ ⟨((!h3)), _, (hST.sel St), rfl, rfl, rfl, c7⟩
theorem w_ref01_Number (x : Int) (r : ByteArray) (w : World)  (hm : m_ref01_Number x = some r) :
    Gives true Tryz.prog 231 [(.int .i64 x)] w (.string r) := by
  have hST := ST.start (dd := true) w
  unfold m_ref01_Number at hm
  refine calls_of_CW (n := 22) Tryz.func231 rfl rfl (Nat.le_of_ble_eq_true rfl) (CW_seq (CW_region (V (R_assign rfl) (LW_nil (sq_n (CW_seq (CW_region (V (R_assign rfl) (LW_nil (sq_n (CW_seq (CW_block (CW_loop (fun m E W => ∃ (f : Int) (j : ByteArray) (t : List (Nat × Obj)), ST true NoF w W (hp w) t ∧ E 0 = (.int .i64 f) ∧ E 3 = (.string j) ∧ m_ref01_Number_L1 m f j = some r) FUEL ⟨x, zS, _, (hST.sel St), rfl, rfl, hm⟩ ?_)))))))))))))
  rintro m E W ⟨f, j, t, hST, i, u, c⟩
  cases m with
  | zero => rw [m_ref01_Number_L1] at c; cases c
  | succ B =>
    rw [m_ref01_Number_L1] at c
    refine CW_seq (CW_seq (CW_region (V (R_move i) (V (R_int rfl rfl rfl) (LW_nil (sq_n (CW_if (b := (decide (f ≥ 128))) rfl (fun g => ?_) (fun g => ?_))))))))
    · replace c := if_t g c
      refine CW_skip (sq_n (CW_block (CW_seq (CW_region (V (R_move u) (V (R_move i) (V (R_div (k := .i64) (a := f) (b := 128) (v := (.int .i64 ((Int.tmod f 128)))) rfl rfl (by decide) rfl) (V (R_int rfl rfl rfl) (V (R_convInt (k' := .i64) (a := (IntKind.i64.wrap (128 + ((Int.tmod f 128))))) Tryz.underlying3 Tryz.underlying5 rfl) (VE (E_buildSlice (qs := #[(0, (.int .u8 ((IntKind.u8.wrap ((IntKind.i64.wrap (128 + ((Int.tmod f 128)))))))))]) (cs := [(.int .u8 ((IntKind.u8.wrap ((IntKind.i64.wrap (128 + ((Int.tmod f 128))))))))].toArray) hST (parts1 rfl) (run_lit [(.int .u8 ((IntKind.u8.wrap ((IntKind.i64.wrap (128 + ((Int.tmod f 128))))))))] Tryz.underlying189 Tryz.sizeOf5 Tryz.zeroValue5 (by decide) rfl (by intro v hv; simp only [List.mem_cons, List.not_mem_nil, or_false] at hv; rcases hv with rfl <;> rfl) rfl rfl) (fun H J hST => V (R_strOf Tryz.underlying189 Tryz.underlying5 Tryz.underlying9 rfl (Sl.lit (enc := (encIk .u8)) (l := [(IntKind.u8.wrap ((IntKind.i64.wrap (128 + ((Int.tmod f 128))))))]) (fun _ => rfl) rfl (Nat.le_of_ble_eq_true rfl) rfl (hST.at_ Mh))) ?_))))))))))))
      obtain ⟨D, y, c⟩ := bind_some c
      refine V (R_cat rfl rfl y) (V (R_assign rfl) (LW_nil (sq_n ?_)))
      replace hST := hST.sel (Db St)
      exact CW_region (V (R_move i) (V (R_div (k := .i64) (a := f) (b := 128) (v := (.int .i64 ((IntKind.i64.wrap (Int.tdiv f 128))))) rfl rfl (by decide) rfl) (V (R_assign rfl) (LW_nil (bq_n (sq_n ⟨B, Nat.lt_succ_self _, ((IntKind.i64.wrap (Int.tdiv f 128))), D, _, (hST.sel St), rfl, rfl, c⟩))))))
    replace c := if_f g c
    refine CW_exit (sq_e (sq_e (bq_e (sq_n (CW_seq (CW_region (V (R_move u) (V (R_move i) (V (R_convInt (k' := .i64) (a := f) Tryz.underlying3 Tryz.underlying5 rfl) (VE (E_buildSlice (qs := #[(0, (.int .u8 ((IntKind.u8.wrap f))))]) (cs := [(.int .u8 ((IntKind.u8.wrap f)))].toArray) hST (parts1 rfl) (run_lit [(.int .u8 ((IntKind.u8.wrap f)))] Tryz.underlying189 Tryz.sizeOf5 Tryz.zeroValue5 (by decide) rfl (by intro v hv; simp only [List.mem_cons, List.not_mem_nil, or_false] at hv; rcases hv with rfl <;> rfl) rfl rfl) (fun I K hST => V (R_strOf Tryz.underlying189 Tryz.underlying5 Tryz.underlying9 rfl (Sl.lit (enc := (encIk .u8)) (l := [(IntKind.u8.wrap f)]) (fun _ => rfl) rfl (Nat.le_of_ble_eq_true rfl) rfl (hST.at_ Mh))) ?_))))))))))))
    obtain ⟨G, z, c⟩ := bind_some c
    refine V (R_cat rfl rfl z) (V (R_assign rfl) (LW_nil (sq_n ?_)))
    replace hST := hST.sel (Db St)
    refine CW_ret ?_
    replace c := Option.some.inj c; subst c
    exact retQ_1 (v := (.string G)) rfl rfl ⟨rfl, hST.ex⟩
theorem w_ref01_Text (a : ByteArray) (r : ByteArray) (w : World)  (hm : m_ref01_Text a = some r) :
    Gives true Tryz.prog 233 [(.string a)] w (.string r) := by
  have hST := ST.start (dd := true) w
  unfold m_ref01_Text at hm
  refine calls_of_CW (n := 8) Tryz.func233 rfl rfl (Nat.le_of_ble_eq_true rfl) (CW_seq (CW_region (V (R_assign rfl) (LW_nil (sq_n (CW_seq (CW_region (V (R_move rfl) (V (R_lenStr Tryz.underlying9 rfl) ?_)))))))))
  obtain ⟨j, c, hm⟩ := bind_some hm
  refine VE (E_gives (args := [(.int .i64 ((a.size : Int)))]) hST rfl Tryz.call231 (by exact args1 rfl) ((w_ref01_Number ((a.size : Int)) _ _  c)) (fun i hST => V (R_move rfl) ?_))
  obtain ⟨g, f, hm⟩ := bind_some hm
  refine V (R_cat rfl rfl f) (V (R_assign rfl) (LW_nil (sq_n (CW_ret ?_))))
  replace hm := Option.some.inj hm; subst hm
  exact retQ_1 (v := (.string g)) rfl rfl ⟨rfl, hST.ex⟩
theorem w_ref04_Bytes (a : Role) (r : ByteArray) (w : World)  (hm : m_ref04_Bytes a = some r) :
    Gives true Tryz.prog 232 [(.agg (encRole a).toArray)] w (.string r) := by
  have hST := ST.start (dd := true) w
  unfold m_ref04_Bytes at hm
  refine calls_of_CW (n := 10) Tryz.func232 rfl rfl (Nat.le_of_ble_eq_true rfl) (CW_seq (CW_region (VE (E_box (v := (.agg (encRole a).toArray)) hST rfl (fun x y hST => V (R_assign rfl) (LW_nil (sq_n (CW_seq ?_))))))))
  replace hST := hST.drew
  have hS0 := hST.has.sel (Kb Sn)
  refine PX_start1 hS0 Tryz_mixed (X 0 rfl hS0 (R_field fa47_0 rfl) (XH 1 rfl hS0 (fun _ hS => R_load rfl (load_box1 hS Mh rfl Tryz.isAgg9)) (X 3 rfl hS0 (R_field fa47_1 rfl) (XH 4 rfl hS0 (fun _ hS => R_load rfl (load_box1 hS Mh rfl Tryz.isAgg9)) ?_))))
  obtain ⟨t, c, hm⟩ := bind_some hm
  refine XE 2 rfl (E_gives (args := [(.string a.Owner)]) hST rfl Tryz.call233 (by exact args1 rfl) ((w_ref01_Text a.Owner _ _  c)) (fun j hST => ?_))
  have hS0 := hST.has.sel (Kb Sn)
  refine ⟨hS0, ?_⟩
  obtain ⟨u, f, hm⟩ := bind_some hm
  refine XE 5 rfl (E_gives (args := [(.string a.Word)]) hST rfl Tryz.call233 (by exact args1 rfl) ((w_ref01_Text a.Word _ _  f)) (fun k hST => ?_))
  have hS0 := hST.has.sel (Kb Sn)
  refine ⟨hS0, ?_⟩
  obtain ⟨i, g, hm⟩ := bind_some hm
  refine X 6 rfl hS0 (R_cat rfl rfl g) (X 7 rfl hS0 (R_assign rfl) (PX_done (by kernel_rfl) (sq_n ?_)))
  replace hST := hST.sel (Db St)
  refine CW_ret ?_
  replace hm := Option.some.inj hm; subst hm
  exact retQ_1 (v := (.string i)) rfl rfl ⟨rfl, hST.ex⟩
theorem w_ref05_Bytes (f : Cred) (r : ByteArray) (w : World)  (hm : m_ref05_Bytes f = some r) :
    Gives true Tryz.prog 189 [(.agg (encCred f).toArray)] w (.string r) := by
  have hST := ST.start (dd := true) w
  unfold m_ref05_Bytes at hm
  refine calls_of_CW (n := 41) Tryz.func189 rfl rfl (Nat.le_of_ble_eq_true rfl) (CW_seq (CW_region (VE (E_box (v := (.agg (encCred f).toArray)) hST rfl (fun W2 b1 hST => V (R_assign rfl) (LW_nil (sq_n (CW_seq ?_))))))))
  replace hST := hST.drew
  have hS0 := hST.has.sel (Kb Sn)
  refine PX_start1 hS0 Tryz_mixed (X 0 rfl hS0 (R_field fa83_0 rfl) (XH 1 rfl hS0 (fun _ hS => R_load rfl (load_box1 hS Mh rfl Tryz.isAgg3)) (X 3 rfl hS0 (R_field fa83_1 rfl) (XH 4 rfl hS0 (fun _ hS => R_load rfl (load_boxA hS Mh (encRole f.Head) rfl Tryz.isAgg47 Tryz.sizeOf47)) ?_))))
  obtain ⟨b6, K, hm⟩ := bind_some hm
  refine XE 2 rfl (E_gives (args := [(.int .i64 f.Kind)]) hST rfl Tryz.call231 (by exact args1 rfl) ((w_ref01_Number f.Kind _ _  K)) (fun a9 hST => ?_))
  have hS0 := hST.has.sel (Kb Sn)
  refine ⟨hS0, ?_⟩
  obtain ⟨b7, M, hm⟩ := bind_some hm
  refine XE 5 rfl (E_gives (args := [(.agg (encRole f.Head).toArray)]) hST rfl Tryz.call232 (by exact args1 rfl) ((w_ref04_Bytes f.Head _ _  M)) (fun b0 hST => ?_))
  have hS0 := hST.has.sel (Kb Sn)
  refine ⟨hS0, ?_⟩
  obtain ⟨c1, Y, hm⟩ := bind_some hm
  refine X 6 rfl hS0 (R_cat rfl rfl Y) (X 7 rfl hS0 (R_assign rfl) (PX_done (by kernel_rfl) (sq_n (CW_seq (CW_seq (CW_region (V (R_field fa83_0 rfl) (V (R_load rfl (load_box1 hST.has Mh rfl Tryz.isAgg3)) (V (R_int rfl rfl rfl) (LW_nil (sq_n (CW_if (b := (f.Kind == 1)) rfl (fun j => ?_) (fun j => ?_)))))))))))))
  · replace hm := if_t j hm
    refine CW_seq (CW_region (V (R_move rfl) (V (R_field fa83_2 rfl) (V (R_load rfl (load_box1 hST.has Mh rfl Tryz.isAgg9)) ?_))))
    obtain ⟨b8, N, hm⟩ := bind_some hm
    refine VE (E_gives (args := [(.string f.Who)]) hST rfl Tryz.call233 (by exact args1 rfl) ((w_ref01_Text f.Who _ _  N)) (fun b2 hST => ?_))
    obtain ⟨a6, Z, hm⟩ := bind_some hm
    refine V (R_cat rfl rfl Z) (V (R_assign rfl) (LW_nil (sq_n ?_)))
    replace hST := hST.sel (Db St)
    refine CW_ret (sq_r ?_)
    replace hm := Option.some.inj hm; subst hm
    exact retQ_1 (v := (.string a6)) rfl rfl ⟨rfl, hST.ex⟩
  replace hm := if_f j hm
  refine CW_skip (sq_n (CW_seq (CW_region (V (R_move rfl) (V (R_field fa83_3 rfl) (V (R_load rfl (load_boxA hST.has Mh (encRole f.B) rfl Tryz.isAgg47 Tryz.sizeOf47)) ?_))))))
  obtain ⟨b9, Q, hm⟩ := bind_some hm
  refine VE (E_gives (args := [(.agg (encRole f.B).toArray)]) hST rfl Tryz.call232 (by exact args1 rfl) ((w_ref04_Bytes f.B _ _  Q)) (fun b3 hST => ?_))
  obtain ⟨a7, a1, hm⟩ := bind_some hm
  refine V (R_cat rfl rfl a1) (V (R_assign rfl) (LW_nil (sq_n (CW_seq ?_))))
  obtain ⟨c3, c, y⟩ := bind_some hm
  refine CW_cut (fun E W => ∃ (i : ByteArray) (B : List (Nat × Obj)), ST true NoF w W (hp w) ((b1, Obj.cells ((encCred f).toArray : Array Value) 83 (0, 0)) :: B) ∧ E 1 = (.pointer (some ⟨b1, 0, none⟩)) ∧ E 3 = (.string i) ∧ (((if (f.Kind == 4) then (((m_ref04_Bytes f.C)).bind fun I => (((catS i I)).bind fun z => some z)) else some i) : Option ByteArray).bind fun g => some g) = some r) ?_ ?_
  · refine CW_seq (CW_region (V (R_field fa83_0 rfl) (V (R_load rfl (load_box1 hST.has Mh rfl Tryz.isAgg3)) (V (R_int rfl rfl rfl) (LW_nil (sq_n (CW_if (b := (f.Kind == 3)) rfl (fun t => ?_) (fun t => ?_))))))))
    · replace c := if_t t c
      refine CW_region (V (R_move rfl) (V (R_field fa83_5 rfl) (V (R_load rfl (load_box1 hST.has Mh rfl Tryz.isAgg9)) ?_)))
      obtain ⟨c0, U, c⟩ := bind_some c
      refine VE (E_gives (args := [(.string f.Word2)]) hST rfl Tryz.call233 (by exact args1 rfl) ((w_ref01_Text f.Word2 _ _  U)) (fun b5 hST => ?_))
      obtain ⟨a8, a3, c⟩ := bind_some c
      refine V (R_cat rfl rfl a3) (V (R_assign rfl) (LW_nil (sq_n ?_)))
      replace c := Option.some.inj c; subst c
      exact ⟨a8, _, (hST.sel St), rfl, rfl, y⟩
    replace c := if_f t c
    refine CW_skip (sq_n ?_)
    replace c := Option.some.inj c; subst c
    exact ⟨a7, _, (hST.sel St), rfl, rfl, y⟩
  rintro E W ⟨i, B, hST, G, H, J⟩
  refine CW_seq ?_
  obtain ⟨c2, a, x⟩ := bind_some J
  refine CW_cut (fun E W => ∃ (g : ByteArray) (D : List (Nat × Obj)), ST true NoF w W (hp w) D ∧ E 3 = (.string g) ∧ some g = some r) ?_ ?_
  · refine CW_seq (CW_region (V (R_field fa83_0 G) (V (R_load rfl (load_box1 hST.has Mh rfl Tryz.isAgg3)) (V (R_int rfl rfl rfl) (LW_nil (sq_n (CW_if (b := (f.Kind == 4)) rfl (fun k => ?_) (fun k => ?_))))))))
    · replace a := if_t k a
      refine CW_region (V (R_move H) (V (R_field fa83_4 G) (V (R_load rfl (load_boxA hST.has Mh (encRole f.C) rfl Tryz.isAgg47 Tryz.sizeOf47)) ?_)))
      obtain ⟨I, T, a⟩ := bind_some a
      refine VE (E_gives (args := [(.agg (encRole f.C).toArray)]) hST rfl Tryz.call232 (by exact args1 rfl) ((w_ref04_Bytes f.C _ _  T)) (fun b4 hST => ?_))
      obtain ⟨z, a2, a⟩ := bind_some a
      refine V (R_cat rfl rfl a2) (V (R_assign rfl) (LW_nil (sq_n ?_)))
      replace a := Option.some.inj a; subst a
      exact ⟨z, _, (hST.sel (Db St)), rfl, x⟩
    replace a := if_f k a
    refine CW_skip (sq_n ?_)
    replace a := Option.some.inj a; subst a
    exact ⟨i, _, (hST.sel (Db St)), H, x⟩
  rintro E W ⟨g, D, hST, a5, u⟩
  refine CW_seq (CW_region (V (R_move a5) (V (R_assign rfl) (LW_nil (sq_n (CW_ret ?_))))))
  replace u := Option.some.inj u; subst u
  exact retQ_1 (v := (.string g)) rfl rfl ⟨rfl, hST.ex⟩
theorem w_ref05_bytes (a : Cred) (r : ByteArray) (w : World)  (hm : m_ref05_bytes a = some r) :
    Gives true Tryz.prog 152 [(.agg (encCred a).toArray)] w (.string r) := by
  have hST := ST.start (dd := true) w
  unfold m_ref05_bytes at hm
  refine calls_of_CW (n := 8) Tryz.func152 rfl rfl (Nat.le_of_ble_eq_true rfl) (CW_seq (CW_region (VE (E_box (v := (.agg (encCred a).toArray)) hST rfl (fun k x hST => V (R_assign rfl) (LW_nil (sq_n (CW_seq (CW_seq (CW_region (V (R_load rfl (load_boxA hST.has Mh (encCred a) rfl Tryz.isAgg83 Tryz.sizeOf83)) ?_)))))))))))
  obtain ⟨i, f, hm⟩ := bind_some hm
  refine VE (E_gives (args := [(.agg (encCred a).toArray)]) hST rfl Tryz.call106 (by exact args1 rfl) ((w_ref05_Right a _ _  f)) (fun t hST => V (R_not rfl) (LW_nil (sq_n (CW_if (b := (!i)) rfl (fun c => ?_) (fun c => ?_))))))
  · replace hm := if_t c hm
    refine CW_seq (CW_region (V (R_assign rfl) (LW_nil (sq_n ?_))))
    replace hST := hST.sel (Db St)
    refine CW_ret (sq_r ?_)
    replace hm := Option.some.inj hm; subst hm
    exact retQ_1 (v := (.string zS)) rfl rfl ⟨rfl, hST.ex⟩
  replace hm := if_f c hm
  refine CW_skip (sq_n (CW_seq (CW_region (V (R_load rfl (load_boxA hST.has Mh (encCred a) rfl Tryz.isAgg83 Tryz.sizeOf83)) ?_))))
  obtain ⟨j, g, hm⟩ := bind_some hm
  refine VE (E_gives (args := [(.agg (encCred a).toArray)]) hST rfl Tryz.call189 (by exact args1 rfl) ((w_ref05_Bytes a _ _  g)) (fun u hST => V (R_assign rfl) (LW_nil (sq_n ?_))))
  replace hST := hST.sel (Db St)
  refine CW_ret ?_
  replace hm := Option.some.inj hm; subst hm
  exact retQ_1 (v := (.string j)) rfl rfl ⟨rfl, hST.ex⟩
theorem w_ref05_Compare (f : Cred) (g : Cred) (r : Int) (w : World)  (hm : m_ref05_Compare f g = some r) :
    Gives true Tryz.prog 107 [(.agg (encCred f).toArray), (.agg (encCred g).toArray)] w (.int .i64 r) := by
  have hST := ST.start (dd := true) w
  unfold m_ref05_Compare at hm
  refine calls_of_CW (n := 17) Tryz.func107 rfl rfl (Nat.le_of_ble_eq_true rfl) (CW_seq (CW_region (VE (E_box (v := (.agg (encCred f).toArray)) hST rfl (fun x B hST => VE (E_box (v := (.agg (encCred g).toArray)) hST rfl (fun y D hST => V (R_assign rfl) (LW_nil (sq_n (CW_seq (CW_region (V (R_load rfl (load_boxA hST.has (Mt Mh) (encCred f) rfl Tryz.isAgg83 Tryz.sizeOf83)) ?_))))))))))))
  obtain ⟨i, k, hm⟩ := bind_some hm
  refine VE (E_gives (args := [(.agg (encCred f).toArray)]) hST rfl Tryz.call152 (by exact args1 rfl) ((w_ref05_bytes f _ _  k)) (fun z hST => V (R_assign rfl) (LW_nil (sq_n ?_))))
  replace hST := hST.sel (Kb (Db St))
  refine CW_seq (CW_region (V (R_load rfl (load_boxA hST.has Mh (encCred g) rfl Tryz.isAgg83 Tryz.sizeOf83)) ?_))
  obtain ⟨j, t, hm⟩ := bind_some hm
  refine VE (E_gives (args := [(.agg (encCred g).toArray)]) hST rfl Tryz.call152 (by exact args1 rfl) ((w_ref05_bytes g _ _  t)) (fun u hST => V (R_assign rfl) (LW_nil (sq_n ?_))))
  replace hST := hST.sel (Db St)
  refine CW_seq (CW_seq (CW_region (V (R_move rfl) (V (R_move rfl) (V (R_str rfl rfl rfl) (LW_nil (sq_n (CW_if (b := (ltS i j)) rfl (fun a => ?_) (fun a => ?_)))))))))
  · replace hm := if_t a hm
    refine CW_seq (CW_region (V (R_assign rfl) (LW_nil (sq_n (CW_ret (sq_r ?_))))))
    replace hm := Option.some.inj hm; subst hm
    exact retQ_1 (v := (.int .i64 ((-1)))) rfl rfl ⟨rfl, hST.ex⟩
  replace hm := if_f a hm
  refine CW_skip (sq_n (CW_seq (CW_seq (CW_region (V (R_move rfl) (V (R_move rfl) (V (R_str rfl rfl rfl) (LW_nil (sq_n (CW_if (b := (!(ltS i j || beqS i j))) rfl (fun c => ?_) (fun c => ?_)))))))))))
  · replace hm := if_t c hm
    refine CW_seq (CW_region (V (R_assign rfl) (LW_nil (sq_n (CW_ret (sq_r ?_))))))
    replace hm := Option.some.inj hm; subst hm
    exact retQ_1 (v := (.int .i64 1)) rfl rfl ⟨rfl, hST.ex⟩
  replace hm := if_f c hm
  refine CW_skip (sq_n (CW_seq (CW_region (V (R_assign rfl) (LW_nil (sq_n (CW_ret ?_)))))))
  replace hm := Option.some.inj hm; subst hm
  exact retQ_1 (v := (.int .i64 0)) rfl rfl ⟨rfl, hST.ex⟩
theorem w_ref05_Set (M : Value) (a0 : List Cred) (r : List Cred) (w : World) (f6 : Sl (Pl encCred) 9 (hp w) M a0) (hm : m_ref05_Set a0 = some r) :
    GivesRow true Tryz.prog 49 [M] w 83 encCred 9 r := by
  have hST := ST.start (dd := true) w
  unfold m_ref05_Set at hm
  refine calls_of_CW (n := 51) Tryz.func49 rfl rfl (Nat.le_of_ble_eq_true rfl) (CW_seq (CW_region (V (R_assign rfl) (LW_nil (sq_n (CW_seq (CW_region (V (R_assign rfl) (LW_nil (sq_n (CW_tail (CW_block (CW_loop (fun m E W => ∃ (H : Value) (B : List Cred) (G : List (Nat × Obj)) (e1 : List (Nat × Obj)), ST true NoF w W (hp w) (G ++ e1) ∧ E 0 = M ∧ E 3 = H ∧ Row 83 encCred 9 H B G ∧ m_ref05_Set_L1 a0 m B = some r) FUEL ⟨(.slice none 0 0), ([]), [], _, (hST.sel St), rfl, rfl, (Row.nil _ _ _), hm⟩ ?_)))))))))))))
  rintro m E W ⟨H, B, G, e1, hST, e7, h2, N, a8⟩
  cases m with
  | zero => rw [m_ref05_Set_L1] at a8; cases a8
  | succ f4 =>
    rw [m_ref05_Set_L1] at a8
    refine CW_block (CW_seq (CW_region (VE (E_alloc hST Tryz.zeroValue83 (fun k4 z hST => LW_nil (sq_n (CW_seq (CW_region (V (R_assign rfl) (LW_nil (sq_n (CW_seq (CW_seq (CW_region (V (R_move e7) ?_)))))))))))))))
    refine V (R_len Tryz.underlying22 rfl f6) (V (R_move rfl) (LW_nil (sq_n ?_)))
    obtain ⟨d4, g0, g1⟩ := bind_some a8
    refine CW_cut (fun E W => ∃ (b3 : Bool) (U : Cred) (e2 : List (Nat × Obj)), ST true NoF w W (hp w) ((z, Obj.cells ((encCred U).toArray : Array Value) 83 (0, 0)) :: (G ++ e2)) ∧ E 0 = M ∧ E 3 = H ∧ E 4 = (.pointer (some ⟨z, 0, none⟩)) ∧ E 5 = (.bool b3) ∧ (if (!b3) then some B else (((appB 136 B ([U]))).bind fun d2 => (m_ref05_Set_L1 a0 f4 d2))) = some r) ?_ ?_
    · refine CW_range (fun i E W => ∃ (x : Bool) (k : Cred) (c0 : List (Nat × Obj)), (E 10 = .int .i64 (i : Nat) ∧ E 9 = .int .i64 (a0.length : Nat)) ∧ ST true NoF w W (hp w) ((z, Obj.cells ((encCred k).toArray : Array Value) 83 (0, 0)) :: (G ++ c0)) ∧ E 0 = M ∧ E 3 = H ∧ E 4 = (.pointer (some ⟨z, 0, none⟩)) ∧ E 5 = (.bool x) ∧ E 8 = M ∧ m_ref05_Set_L2 B (a0.drop i) x k = some d4) a0.length f6.len ⟨false, ((⟨0, (⟨zS, zS⟩ : Role), zS, (⟨zS, zS⟩ : Role), (⟨zS, zS⟩ : Role), zS⟩ : Cred)), _, ⟨rfl, rfl⟩, (hST.sel St), e7, h2, rfl, rfl, rfl, g0⟩ (by decide) (by decide) (by decide) (fun _ _ _ h => by obtain ⟨_, _, _, eIN, _⟩ := h; exact eIN) ?_ ?_
      · rintro a6 E W f9 ⟨x, k, c0, ⟨eI, eN⟩, hST, a2, T, a3, a4, a5, y⟩
        obtain ⟨c, a9, g9, g8, e0⟩ := drop_cons f9
        rw [g9] at y
        rw [m_ref05_Set_L2] at y
        refine CW_block (CW_seq (CW_region (VQ (R_indexP (enc := encCred) (i := (a6 : Int)) (x0 := c) Tryz.underlying22 Tryz.sizeOf83 a5 eI f6 (Int.natCast_nonneg _) g8) (fun l3 g3 => V (R_load rfl (load_atA hST.has g3 Tryz.isAgg83 Tryz.sizeOf83)) (VE (E_alloc hST Tryz.zeroValue83 (fun k7 Q hST => VO (F_store (.agg (encCred c).toArray) ((encCred c).toArray) hST rfl rfl Tryz.sizeOf83 (oneCred c) (Nat.le_of_ble_eq_true rfl) rfl (fun k8 hST => LW_nil (sq_n (CW_seq ?_)))))))))))
        replace hST := hST.drew
        have hS0 := hST.has.sel (Kb (Kb (Kr Sn)))
        refine PX_start1 hS0 Tryz_mixed (XH 0 rfl hS0 (fun _ hS => R_load rfl (load_boxA hS Mh (encCred c) rfl Tryz.isAgg83 Tryz.sizeOf83)) ?_)
        obtain ⟨f5, g5, y⟩ := bind_some y
        refine XE 1 rfl (E_gives (args := [(.agg (encCred c).toArray)]) hST rfl Tryz.call106 (by exact args1 rfl) ((w_ref05_Right c _ _  g5)) (fun k9 hST => ?_))
        have hS0 := hST.has.sel (Kb (Kb (Kr Sn)))
        refine ⟨hS0, (X 2 rfl hS0 (R_move rfl) ?_)⟩
        obtain ⟨k2, K, d8⟩ := bind_some y
        refine PX_join (J := fun E W => ∃ (a7 : Bool) (e3 : List (Nat × Obj)), ST true NoF w W (hp w) ((Q, Obj.cells ((encCred c).toArray : Array Value) 83 (0, 0)) :: ((z, Obj.cells ((encCred k).toArray : Array Value) 83 (0, 0)) :: (G ++ e3))) ∧ E 0 = M ∧ E 3 = H ∧ E 4 = (.pointer (some ⟨z, 0, none⟩)) ∧ E 5 = (.bool x) ∧ E 7 = (.pointer (some ⟨Q, 0, none⟩)) ∧ E 8 = M ∧ E 9 = (.int .i64 ((a0.length : Int))) ∧ E 10 = (.int .i64 ((a6 : Int))) ∧ E 31 = (.bool a7) ∧ (((if a7 then (((if (!x) then some true else (((m_ref05_Compare c k)).bind fun d3 => some ((decide (d3 < 0))))) : Option Bool).bind fun a1 => some a1) else some false) : Option Bool).bind fun Z => (if Z then (m_ref05_Set_L2 B a9 true c) else (m_ref05_Set_L2 B a9 x k))) = some d4) #[true, true, true, true, true, true, true, true, true, true, true, true, true, true, true, true, true, true, false, false, false, false, false, false, false, false, false, false] 10 ?_ (fun d0 => ?_)
        · rintro E W ⟨a7, e3, hST, c2, c3, b0, b1, b2, c4, c5, c6, h6, g2⟩
          have hS0 := hST.has.sel (Kb (Kb (Kr Sn)))
          refine X 18 rfl hS0 (R_move h6) ?_
          obtain ⟨k1, I, d6⟩ := bind_some g2
          refine PX_join (J := fun E W => ∃ (Z : Bool) (e4 : List (Nat × Obj)), ST true NoF w W (hp w) ((Q, Obj.cells ((encCred c).toArray : Array Value) 83 (0, 0)) :: ((z, Obj.cells ((encCred k).toArray : Array Value) 83 (0, 0)) :: (G ++ e4))) ∧ E 0 = M ∧ E 3 = H ∧ E 4 = (.pointer (some ⟨z, 0, none⟩)) ∧ E 5 = (.bool x) ∧ E 7 = (.pointer (some ⟨Q, 0, none⟩)) ∧ E 8 = M ∧ E 9 = (.int .i64 ((a0.length : Int))) ∧ E 10 = (.int .i64 ((a6 : Int))) ∧ E 41 = (.bool Z) ∧ (if Z then (m_ref05_Set_L2 B a9 true c) else (m_ref05_Set_L2 B a9 x k)) = some d4) #[true, true, true, true, true, true, true, true, true, true, true, true, true, true, true, true, true, true, true, true, true, true, true, true, true, true, true, true] 0 ?_ (fun c8 => ?_)
          · rintro E W ⟨Z, e4, hST, e9, f0, c7, h7, h8, f1, f2, f3, h9, Y⟩
            have hS0 := hST.has.sel (Kb (Kb (Kr Sn)))
            refine PX_done (by kernel_rfl) (sq_n (CW_if (b := Z) h9 (fun b6 => ?_) (fun b6 => ?_)))
            · replace Y := if_t b6 Y
              refine CW_seq (CW_region (V (R_load h8 (load_boxA hST.has Mh (encCred c) rfl Tryz.isAgg83 Tryz.sizeOf83)) ?_))
              replace hST := hST.perm (Nb (Pb Pz) Nz)
              refine VO (F_store (.agg (encCred c).toArray) ((encCred c).toArray) hST c7 rfl Tryz.sizeOf83 (oneCred c) (Nat.le_of_ble_eq_true rfl) rfl (fun l0 hST => LW_nil (sq_n ?_)))
              replace hST := hST.sel (Kb (Db St))
              exact CW_region (V (R_assign rfl) (LW_nil (bq_n (sq_n ⟨f3, true, c, _, ⟨rfl, f2⟩, (hST.sel St), e9, f0, c7, rfl, f1, (by rw [e0]; exact Y)⟩))))
            replace Y := if_f b6 Y
            refine CW_skip (bq_n (sq_n ?_))
            replace hST := hST.sel (Db St)
            exact ⟨f3, x, k, _, ⟨rfl, f2⟩, (hST.sel St), e9, f0, c7, h7, f1, (by rw [e0]; exact Y)⟩
          rcases bool_cases a7 with g | g
          · replace I := if_t g I
            refine Xg 19 rfl rfl (congrArg Value.bool g) hS0 (R_move b1) (Xg 20 rfl rfl (congrArg Value.bool g) hS0 (R_not rfl) (Xg 21 rfl rfl (congrArg Value.bool g) hS0 (R_move rfl) ?_))
            obtain ⟨l5, u, d7⟩ := bind_some I
            refine PX_join (J := fun E W => ∃ (a1 : Bool) (e5 : List (Nat × Obj)), ST true NoF w W (hp w) ((Q, Obj.cells ((encCred c).toArray : Array Value) 83 (0, 0)) :: ((z, Obj.cells ((encCred k).toArray : Array Value) 83 (0, 0)) :: (G ++ e5))) ∧ E 0 = M ∧ E 3 = H ∧ E 4 = (.pointer (some ⟨z, 0, none⟩)) ∧ E 5 = (.bool x) ∧ E 7 = (.pointer (some ⟨Q, 0, none⟩)) ∧ E 8 = M ∧ E 9 = (.int .i64 ((a0.length : Int))) ∧ E 10 = (.int .i64 ((a6 : Int))) ∧ E 32 = (.bool a7) ∧ E 40 = (.bool a1) ∧ some a1 = some k1) #[true, true, true, true, true, true, true, true, true, true, true, true, true, true, true, true, true, true, true, true, true, true, true, true, true, true, true, false] 1 ?_ (fun c9 => ?_)
            · rintro E W ⟨a1, e5, hST, i0, i1, i2, i3, i4, i5, i6, i7, i8, i9, b7⟩
              have hS0 := hST.has.sel (Kb (Kb (Kr Sn)))
              refine X 27 rfl hS0 (R_pickT (i8.trans (congrArg Value.bool g)) i9) ?_
              replace b7 := Option.some.inj b7; subst b7
              refine PX_at (by kernel_rfl) (c8 _ _ ⟨a1, _, (hST.sel St), i0, i1, i2, i3, i4, i5, i6, i7, rfl, d6⟩)
            rcases bool_cases ((!x)) with t | t
            · replace u := if_t t u
              refine Xn 22 rfl rfl (congrArg Value.bool t) hS0 (Xn 23 rfl rfl (congrArg Value.bool t) hS0 (Xn 24 rfl rfl (congrArg Value.bool t) hS0 (Xn 25 rfl rfl (congrArg Value.bool t) hS0 (Xg 26 rfl rfl (congrArg Value.bool g) hS0 (R_pickT (congrArg Value.bool t) rfl) ?_))))
              replace u := Option.some.inj u; subst u
              refine PX_at (by kernel_rfl) (c9 _ _ ⟨true, _, (hST.sel St), c2, c3, b0, b1, b2, c4, c5, c6, rfl, rfl, d7⟩)
            replace u := if_f t u
            refine XgH 22 rfl rfl (congrArg Value.bool t) hS0 (fun _ hS => R_load b2 (load_boxA hS Mh (encCred c) rfl Tryz.isAgg83 Tryz.sizeOf83)) (XgH 23 rfl rfl (congrArg Value.bool t) hS0 (fun _ hS => R_load b0 (load_boxA hS (Mt Mh) (encCred k) rfl Tryz.isAgg83 Tryz.sizeOf83)) ?_)
            obtain ⟨d3, g6, u⟩ := bind_some u
            refine XgE 24 rfl rfl (congrArg Value.bool t) (E_gives (args := [(.agg (encCred c).toArray), (.agg (encCred k).toArray)]) hST rfl Tryz.call107 (by exact args2 rfl rfl) ((w_ref05_Compare c k _ _  g6)) (fun l1 hST => ?_))
            have hS0 := hST.has.sel (Kb (Kb (Kr Sn)))
            refine ⟨hS0, (Xg 25 rfl rfl (congrArg Value.bool t) hS0 (R_int rfl rfl rfl) (Xg 26 rfl rfl (congrArg Value.bool g) hS0 (R_pickF (congrArg Value.bool t) rfl) ?_))⟩
            replace u := Option.some.inj u; subst u
            refine PX_at (by kernel_rfl) (c9 _ _ ⟨((decide (d3 < 0))), _, (hST.sel St), c2, c3, b0, b1, b2, c4, c5, c6, rfl, rfl, d7⟩)
          replace I := if_f g I
          refine Xn 19 rfl rfl (congrArg Value.bool g) hS0 (Xn 20 rfl rfl (congrArg Value.bool g) hS0 (Xn 21 rfl rfl (congrArg Value.bool g) hS0 (Xu 22 rfl rfl rfl hS0 (Xu 23 rfl rfl rfl hS0 (Xu 24 rfl rfl rfl hS0 (Xu 25 rfl rfl rfl hS0 (Xn 26 rfl rfl (congrArg Value.bool g) hS0 (X 27 rfl hS0 (R_pickF (congrArg Value.bool g) rfl) ?_))))))))
          replace I := Option.some.inj I; subst I
          refine PX_at (by kernel_rfl) (c8 _ _ ⟨false, _, (hST.sel St), c2, c3, b0, b1, b2, c4, c5, c6, rfl, d6⟩)
        rcases bool_cases f5 with f | f
        · replace K := if_t f K
          refine Xg 3 rfl rfl (congrArg Value.bool f) hS0 (R_move T) (Xg 4 rfl rfl (congrArg Value.bool f) hS0 (R_lenRow Tryz.underlying22 rfl N) (Xg 5 rfl rfl (congrArg Value.bool f) hS0 (R_int rfl rfl rfl) (Xg 6 rfl rfl (congrArg Value.bool f) hS0 (R_move rfl) ?_)))
          obtain ⟨l6, j, d9⟩ := bind_some K
          refine PX_join (J := fun E W => ∃ (b4 : Bool) (e6 : List (Nat × Obj)), ST true NoF w W (hp w) ((Q, Obj.cells ((encCred c).toArray : Array Value) 83 (0, 0)) :: ((z, Obj.cells ((encCred k).toArray : Array Value) 83 (0, 0)) :: (G ++ e6))) ∧ E 0 = M ∧ E 3 = H ∧ E 4 = (.pointer (some ⟨z, 0, none⟩)) ∧ E 5 = (.bool x) ∧ E 7 = (.pointer (some ⟨Q, 0, none⟩)) ∧ E 8 = M ∧ E 9 = (.int .i64 ((a0.length : Int))) ∧ E 10 = (.int .i64 ((a6 : Int))) ∧ E 16 = (.bool f5) ∧ E 30 = (.bool b4) ∧ some b4 = some k2) #[true, true, true, true, true, true, true, true, true, true, true, true, true, true, true, true, true, false, false, false, false, false, false, false, false, false, false, false] 11 ?_ (fun d1 => ?_)
          · rintro E W ⟨b4, e6, hST, j0, j1, j2, j3, j4, j5, j6, j7, j8, j9, b8⟩
            have hS0 := hST.has.sel (Kb (Kb (Kr Sn)))
            refine X 17 rfl hS0 (R_pickT (j8.trans (congrArg Value.bool f)) j9) ?_
            replace b8 := Option.some.inj b8; subst b8
            refine PX_at (by kernel_rfl) (d0 _ _ ⟨b4, _, (hST.sel St), j0, j1, j2, j3, j4, j5, j6, j7, rfl, d8⟩)
          rcases bool_cases ((((B.length : Int)) == 0)) with a | a
          · replace j := if_t a j
            refine Xn 7 rfl rfl (congrArg Value.bool a) hS0 (Xn 8 rfl rfl (congrArg Value.bool a) hS0 (Xn 9 rfl rfl (congrArg Value.bool a) hS0 (Xn 10 rfl rfl (congrArg Value.bool a) hS0 (Xn 11 rfl rfl (congrArg Value.bool a) hS0 (Xn 12 rfl rfl (congrArg Value.bool a) hS0 (Xn 13 rfl rfl (congrArg Value.bool a) hS0 (Xn 14 rfl rfl (congrArg Value.bool a) hS0 (Xn 15 rfl rfl (congrArg Value.bool a) hS0 (Xg 16 rfl rfl (congrArg Value.bool f) hS0 (R_pickT (congrArg Value.bool a) rfl) ?_)))))))))
            replace j := Option.some.inj j; subst j
            refine PX_at (by kernel_rfl) (d1 _ _ ⟨true, _, (hST.sel St), a2, T, a3, a4, rfl, a5, eN, eI, rfl, rfl, d9⟩)
          replace j := if_f a j
          refine Xg 7 rfl rfl (congrArg Value.bool a) hS0 (R_move T) (Xg 8 rfl rfl (congrArg Value.bool a) hS0 (R_move T) (Xg 9 rfl rfl (congrArg Value.bool a) hS0 (R_lenRow Tryz.underlying22 rfl N) (Xg 10 rfl rfl (congrArg Value.bool a) hS0 (R_int rfl rfl rfl) ?_)))
          obtain ⟨d5, b9, j⟩ := bind_some j
          refine PX_q 11 rfl (by kernel_rfl) (.inr ⟨6, false, 20, rfl, rfl, by decide, (congrArg Value.bool a)⟩) rfl (by decide) (fun _ _ h => h) hS0 (R_indexRow (i := (IntKind.i64.wrap (((B.length : Int)) - 1))) (x0 := d5) Tryz.underlying22 Tryz.sizeOf83 rfl rfl N (idx_nonneg b9) (idx_get b9)) (fun l4 g4 => XgH 12 rfl rfl (congrArg Value.bool a) hS0 (fun _ hS => R_load rfl (load_ixA hS (fun p hq => (Mt (Mt (Ml hq)))) N lenCred g4 (idx_get b9) Tryz.isAgg83 Tryz.sizeOf83)) (XgH 13 rfl rfl (congrArg Value.bool a) hS0 (fun _ hS => R_load rfl (load_boxA hS Mh (encCred c) rfl Tryz.isAgg83 Tryz.sizeOf83)) ?_))
          obtain ⟨k0, g7, j⟩ := bind_some j
          refine XgE 14 rfl rfl (congrArg Value.bool a) (E_gives (args := [(.agg (encCred d5).toArray), (.agg (encCred c).toArray)]) hST rfl Tryz.call107 (by exact args2 rfl rfl) ((w_ref05_Compare d5 c _ _  g7)) (fun l2 hST => ?_))
          have hS0 := hST.has.sel (Kb (Kb (Kr Sn)))
          refine ⟨hS0, (Xg 15 rfl rfl (congrArg Value.bool a) hS0 (R_int rfl rfl rfl) (Xg 16 rfl rfl (congrArg Value.bool f) hS0 (R_pickF (congrArg Value.bool a) rfl) ?_))⟩
          replace j := Option.some.inj j; subst j
          refine PX_at (by kernel_rfl) (d1 _ _ ⟨((decide (k0 < 0))), _, (hST.sel St), a2, T, a3, a4, rfl, a5, eN, eI, rfl, rfl, d9⟩)
        replace K := if_f f K
        refine Xn 3 rfl rfl (congrArg Value.bool f) hS0 (Xn 4 rfl rfl (congrArg Value.bool f) hS0 (Xn 5 rfl rfl (congrArg Value.bool f) hS0 (Xn 6 rfl rfl (congrArg Value.bool f) hS0 (Xu 7 rfl rfl rfl hS0 (Xu 8 rfl rfl rfl hS0 (Xu 9 rfl rfl rfl hS0 (Xu 10 rfl rfl rfl hS0 (Xu 11 rfl rfl rfl hS0 (Xu 12 rfl rfl rfl hS0 (Xu 13 rfl rfl rfl hS0 (Xu 14 rfl rfl rfl hS0 (Xu 15 rfl rfl rfl hS0 (Xn 16 rfl rfl (congrArg Value.bool f) hS0 (X 17 rfl hS0 (R_pickF (congrArg Value.bool f) rfl) ?_))))))))))))))
        replace K := Option.some.inj K; subst K
        refine PX_at (by kernel_rfl) (d0 _ _ ⟨false, _, (hST.sel St), a2, T, a3, a4, rfl, a5, eN, eI, rfl, d8⟩)
      rintro E W ⟨x, k, c0, ⟨eI, eN⟩, hST, a2, T, a3, a4, a5, y⟩
      rw [List.drop_length] at y
      rw [m_ref05_Set_L2] at y
      refine sq_n ?_
      replace y := Option.some.inj y; subst y
      exact ⟨x, k, _, (hST.sel St), a2, T, a3, a4, g1⟩
    rintro E W ⟨b3, U, e2, hST, h3, e8, h4, h5, D⟩
    refine CW_seq (CW_seq (CW_region (V (R_move h5) (V (R_not rfl) (LW_nil (sq_n (CW_if (b := (!b3)) rfl (fun b5 => ?_) (fun b5 => ?_))))))))
    · replace D := if_t b5 D
      refine CW_seq (CW_region (V (R_move e8) (V (R_assign rfl) (LW_nil (sq_n ?_)))))
      replace hST := hST.sel (Db St)
      refine CW_ret (sq_r (bq_r (sq_r (bq_r (sq_r ?_)))))
      replace D := Option.some.inj D; subst D
      exact retQ_1 (v := H) rfl rfl ⟨_, G, rfl, hST.backRow (fun p hq => (Ml hq)) N.nd, N⟩
    replace D := if_f b5 D
    refine CW_skip (sq_n (CW_region (V (R_move e8) (V (R_load h4 (load_boxA hST.has Mh (encCred U) rfl Tryz.isAgg83 Tryz.sizeOf83)) (VE (E_buildSlice (qs := #[(0, (.agg (encCred U).toArray))]) (cs := (encCred U).toArray) hST (parts1 rfl) (run_lit [(.agg (encCred U).toArray)] Tryz.underlying22 Tryz.sizeOf83 Tryz.zeroValue83 (by decide) rfl (by intro v hv; simp only [List.mem_cons, List.not_mem_nil, or_false] at hv; rcases hv with rfl <;> rfl) rfl rfl) (fun k5 h1 hST => ?_)))))))
    replace hST := hST.perm (Nr (Qb (Qb Qz)) Nz)
    obtain ⟨d2, f8, D⟩ := bind_some D
    refine VE (F_append (enc := encCred) (v := H) (vs := (.slice (some ⟨h1, 0, none⟩) 1 1)) (R := G) hST lenCred (by decide) oneCred Tryz.underlying22 info83.1 info83.2.1 rfl info83.2.2.1 info83.2.2.2 rfl rfl N (Sl.lit (enc := encCred) (l := [U]) lenCred rfl (Nat.le_of_ble_eq_true rfl) rfl (hST.at_ (Ma Mh))) f8 (fun k6 k3 h0 hST f7 => V (R_assign rfl) (LW_nil (bq_n (sq_n ?_)))))
    replace hST := hST.sel (Kr (Db (Db St)))
    exact ⟨f4, Nat.lt_succ_self _, k3, d2, h0, _, (hST.sel St), h3, rfl, f7, D⟩
theorem w_law47_CensusSums (z : Value) (a0 : List Cred) (r : Bool) (w : World) (M : Sl (Pl encCred) 9 (hp w) z a0) (hm : m_law47_CensusSums a0 = some r) :
    Gives false Tryz.prog 14 [z] w (.bool r) := by
  have hST := ST.start (dd := false) w
  unfold m_law47_CensusSums at hm
  refine calls_of_CW (n := 74) Tryz.func14 rfl rfl (Nat.le_of_ble_eq_true rfl) (CW_seq (CW_region (V (R_assign rfl) (LW_nil (sq_n (CW_seq (CW_seq (CW_region ?_))))))))
  obtain ⟨r1, f5, hm⟩ := bind_some hm
  refine VE (E_gives (args := []) hST rfl Tryz.call63 (by exact args0 ) ((w_law47_first  _ _  f5)) (fun W3 hST => V (R_not rfl) (LW_nil (sq_n (CW_if (b := (!r1)) rfl (fun b8 => ?_) (fun b8 => ?_))))))
  · replace hm := if_t b8 hm
    refine CW_seq (CW_region (V (R_assign rfl) (LW_nil (sq_n (CW_ret (sq_r ?_))))))
    replace hm := Option.some.inj hm; subst hm
    exact retQ_1 (v := (.bool false)) rfl rfl ⟨rfl, hST.ex⟩
  replace hm := if_f b8 hm
  refine CW_skip (sq_n (CW_seq (CW_seq (CW_region (V (R_move rfl) ?_)))))
  obtain ⟨r5, f6, hm⟩ := bind_some hm
  refine VE (E_gives (args := [z]) hST rfl Tryz.call16 (by exact args1 rfl) (Gives.weak (w_law05_Great z a0 _ _ (M.mono (Pl.mono _) hST.sub_hp) f6)) (fun W7 hST => V (R_int rfl rfl rfl) (LW_nil (sq_n (CW_if (b := (decide (r5 > 1500))) rfl (fun c0 => ?_) (fun c0 => ?_))))))
  · replace hm := if_t c0 hm
    refine CW_seq (CW_region (V (R_assign rfl) (LW_nil (sq_n (CW_ret (sq_r ?_))))))
    replace hm := Option.some.inj hm; subst hm
    exact retQ_1 (v := (.bool true)) rfl rfl ⟨rfl, hST.ex⟩
  replace hm := if_f c0 hm
  refine CW_skip (sq_n (CW_seq (CW_region (VE (E_alloc hST Tryz.zeroValue104 (fun i8 b9 hST => LW_nil (sq_n (CW_seq (CW_seq (CW_region (V (R_move rfl) ?_)))))))))))
  obtain ⟨c4, e4, hm⟩ := bind_some hm
  refine VE (F_givesRow (args := [z]) _ hST rfl Tryz.call64 (by exact args1 rfl) ((w_census_People z a0 _ _ (M.mono (Pl.mono _) hST.sub_hp) e4)) (fun i9 f8 f9 f4 hST a8 K => V (R_lenRow Tryz.underlying101 rfl K) (V (R_move rfl) (LW_nil (sq_n (CW_range (fun i E W => ∃ (a : Person) (b5 : List (Nat × Obj)), (E 15 = .int .i64 (i : Nat) ∧ E 14 = .int .i64 (c4.length : Nat)) ∧ ST false NoF w W f9 ((b9, Obj.cells ((encPerson a).toArray : Array Value) 104 (0, 0)) :: (f4 ++ b5)) ∧ E 0 = z ∧ E 3 = (.pointer (some ⟨b9, 0, none⟩)) ∧ E 13 = f8 ∧ m_law47_CensusSums_L1 a0 (c4.drop i) a = some r) c4.length K.len ⟨((⟨zS, 0, 0, 0, 0⟩ : Person)), _, ⟨rfl, rfl⟩, (hST.sel (Sb (Pr Pz) St)), rfl, rfl, rfl, hm⟩ (by decide) (by decide) (by decide) (fun _ _ _ h => by obtain ⟨_, _, eIN, _⟩ := h; exact eIN) ?_ ?_))))))
  · rintro f7 E W e3 ⟨a, b5, ⟨eI, eN⟩, hST, I, k, a3, t⟩
    obtain ⟨c, i5, e5, c3, e6⟩ := drop_cons e3
    rw [e5] at t
    rw [m_law47_CensusSums_L1] at t
    refine CW_block (CW_seq (CW_region (VQ (R_indexRow (i := (f7 : Int)) (x0 := c) Tryz.underlying101 Tryz.sizeOf104 a3 eI K (Int.natCast_nonneg _) c3) (fun h7 c9 => V (R_load rfl (load_ixA hST.has (fun p hq => (Mt (Ml hq))) K lenPerson c9 c3 Tryz.isAgg104 Tryz.sizeOf104)) (VE (E_alloc hST Tryz.zeroValue104 (fun g7 h6 hST => VO (F_store (.agg (encPerson c).toArray) ((encPerson c).toArray) hST rfl rfl Tryz.sizeOf104 (onePerson c) (Nat.le_of_ble_eq_true rfl) rfl (fun g8 hST => LW_nil (sq_n (CW_seq (CW_region (V (R_field fa104_1 k) (V (R_load rfl (load_box1 hST.has (Mt Mh) rfl Tryz.isAgg3)) (V (R_field fa104_1 rfl) (V (R_load rfl (load_box1 hST.has Mh rfl Tryz.isAgg3)) ?_))))))))))))))))
    refine V (R_int rfl rfl rfl) (V (R_field fa104_1 k) ?_)
    replace hST := hST.perm (Nb (Pb Pz) Nz)
    refine VO (F_store (.int .i64 ((IntKind.i64.wrap (a.Issued + c.Issued)))) ((encPerson ((⟨a.Name, (IntKind.i64.wrap (a.Issued + c.Issued)), a.Member, a.Roles, a.Peopled⟩ : Person))).toArray) hST rfl rfl Tryz.sizeOf3 (oneI _ ((IntKind.i64.wrap (a.Issued + c.Issued)))) (Nat.le_of_ble_eq_true rfl) rfl (fun g9 hST => LW_nil (sq_n (CW_seq (CW_region (V (R_field fa104_2 k) (V (R_load rfl (load_box1 hST.has Mh rfl Tryz.isAgg3)) (V (R_field fa104_2 rfl) (V (R_load rfl (load_box1 hST.has (Mt Mh) rfl Tryz.isAgg3)) (V (R_int rfl rfl rfl) (V (R_field fa104_2 k) (VO (F_store (.int .i64 ((IntKind.i64.wrap (a.Member + c.Member)))) ((encPerson ((⟨a.Name, (IntKind.i64.wrap (a.Issued + c.Issued)), (IntKind.i64.wrap (a.Member + c.Member)), a.Roles, a.Peopled⟩ : Person))).toArray) hST rfl rfl Tryz.sizeOf3 (oneI _ ((IntKind.i64.wrap (a.Member + c.Member)))) (Nat.le_of_ble_eq_true rfl) rfl (fun h0 hST => LW_nil (sq_n (CW_seq ?_))))))))))))))))
    refine CW_region (V (R_field fa104_3 k) (V (R_load rfl (load_box1 hST.has Mh rfl Tryz.isAgg3)) (V (R_field fa104_3 rfl) (V (R_load rfl (load_box1 hST.has (Mt Mh) rfl Tryz.isAgg3)) (V (R_int rfl rfl rfl) (V (R_field fa104_3 k) (VO (F_store (.int .i64 ((IntKind.i64.wrap (a.Roles + c.Roles)))) ((encPerson ((⟨a.Name, (IntKind.i64.wrap (a.Issued + c.Issued)), (IntKind.i64.wrap (a.Member + c.Member)), (IntKind.i64.wrap (a.Roles + c.Roles)), a.Peopled⟩ : Person))).toArray) hST rfl rfl Tryz.sizeOf3 (oneI _ ((IntKind.i64.wrap (a.Roles + c.Roles)))) (Nat.le_of_ble_eq_true rfl) rfl (fun h1 hST => LW_nil (sq_n (CW_region (V (R_field fa104_4 k) (V (R_load rfl (load_box1 hST.has Mh rfl Tryz.isAgg3)) (V (R_field fa104_4 rfl) (V (R_load rfl (load_box1 hST.has (Mt Mh) rfl Tryz.isAgg3)) ?_)))))))))))))))
    refine V (R_int rfl rfl rfl) (V (R_field fa104_4 k) (VO (F_store (.int .i64 ((IntKind.i64.wrap (a.Peopled + c.Peopled)))) ((encPerson ((⟨a.Name, (IntKind.i64.wrap (a.Issued + c.Issued)), (IntKind.i64.wrap (a.Member + c.Member)), (IntKind.i64.wrap (a.Roles + c.Roles)), (IntKind.i64.wrap (a.Peopled + c.Peopled))⟩ : Person))).toArray) hST rfl rfl Tryz.sizeOf3 (oneI _ ((IntKind.i64.wrap (a.Peopled + c.Peopled)))) (Nat.le_of_ble_eq_true rfl) rfl (fun h2 hST => LW_nil (bq_n (sq_n ?_))))))
    replace hST := hST.sel (Kb (Db St))
    exact ⟨eI, ((⟨a.Name, (IntKind.i64.wrap (a.Issued + c.Issued)), (IntKind.i64.wrap (a.Member + c.Member)), (IntKind.i64.wrap (a.Roles + c.Roles)), (IntKind.i64.wrap (a.Peopled + c.Peopled))⟩ : Person)), _, ⟨rfl, eN⟩, (hST.sel St), I, k, a3, (by rw [e6]; exact t)⟩
  rintro E W ⟨a, b5, ⟨eI, eN⟩, hST, I, k, a3, t⟩
  rw [List.drop_length] at t
  rw [m_law47_CensusSums_L1] at t
  refine sq_n ?_
  replace hST := hST.sel (Kb (Dr St))
  refine CW_seq (CW_region (V (R_move I) ?_))
  obtain ⟨G, d0, t⟩ := bind_some t
  have hsz := hST.size
  refine VE (E_callM (args := [z]) (caps := #[]) [] _ hST (List.Perm.refl _) rfl Tryz.call31 (by exact args1 rfl) (fun _ _ _ _ => (w_model_Of z a0 _ _ (M.mono (Pl.mono _) (a8.trans hST.sub_hp)) d0)) (fun h3 i3 i6 g0 hST c1 hlift c5 => ?_))
  obtain ⟨b6, e9, g2, f0, g3, f1, g4, f2, g5, f3, g6, Q, rfl, d3, d4, d5, d6, d7⟩ := c5
  replace Q := Q.symm; subst Q
  replace hST := hST.perm (Tb (Tr (Tr (Tr (Tr (Tr Tn))))))
  obtain ⟨a5, d1, t⟩ := bind_some t
  refine VE (F_givesRow (args := [(.pointer (some ⟨b6, 0, none⟩))]) _ hST rfl Tryz.call34 (by exact args1 rfl) (GivesRow.weak (w_model_Model_Facts b6 e9 G.1 f0 G.2.1 f1 G.2.2.1 f2 G.2.2.2.1 f3 G.2.2.2.2.1 G.2.2.2.2.2 _ _ (d3.at (fun b o hq => hST.at_ (Mt (Ml hq)))) (d4.sl lenCred (fun b o hq => hST.at_ (Mt (Ma (Ml hq))))) (d5.at (fun b o hq => hST.at_ (Mt (Ma (Ma (Ml hq)))))) (d6.at (fun b o hq => hST.at_ (Mt (Ma (Ma (Ma (Ml hq))))))) ((d7.slL lenFact).mono (Pl.mono _) (memL_held (fun b o hq => hST.at_ (Mt (Ma (Ma (Ma (Ma (Ml hq))))))))) (At.of (hST.at_ Mh) _ rfl) d1)) (fun h4 e8 i7 d8 hST c2 a7 => V (R_assign rfl) (LW_nil (sq_n ?_))))
  replace hST := hST.sel (Kr (Db (Dr (Dr (Dr (Dr (Dr St)))))))
  refine CW_seq ?_
  replace hST := hST.drew
  have hS0 := hST.has.sel (Dr (Kb Sn))
  refine PX_start1 hS0 Tryz_mixed (X 0 rfl hS0 (R_field fa104_1 k) (XH 1 rfl hS0 (fun _ hS => R_load rfl (load_box1 hS Mh rfl Tryz.isAgg3)) (X 2 rfl hS0 (R_move I) ?_)))
  obtain ⟨e7, d2, t⟩ := bind_some t
  refine XE 3 rfl (F_givesRow (args := [z]) _ hST rfl Tryz.call49 (by exact args1 rfl) (GivesRow.weak (w_ref05_Set z a0 _ _ (M.mono (Pl.mono _) (((a8.trans c1).trans c2).trans hST.sub_hp)) d2)) (fun h5 i4 a6 g1 hST D c6 => ?_))
  have hS0 := hST.has.selS D (Dr (Dr (Kb Sn)))
  refine ⟨hS0, (X 4 rfl hS0 (R_lenRow Tryz.underlying22 rfl c6) (X 5 rfl hS0 (R_int rfl rfl rfl) (X 6 rfl hS0 (R_move rfl) ?_)))⟩
  obtain ⟨i2, y, b1⟩ := bind_some t
  refine PX_join (J := fun E W => ∃ (T : Bool) (b2 : List (Nat × Obj)), ST false NoF w W a6 ((b9, Obj.cells ((encPerson a).toArray : Array Value) 104 (0, 0)) :: (d8 ++ b2)) ∧ E 3 = (.pointer (some ⟨b9, 0, none⟩)) ∧ E 6 = e8 ∧ E 59 = (.bool T) ∧ (((if T then some ((decide (a.Peopled ≤ ((a5.length : Int))))) else some false) : Option Bool).bind fun H => (((if H then some ((decide (a.Member ≤ a.Issued))) else some false) : Option Bool).bind fun B => some B)) = some r) #[true, true, true, true, true, true, true, true, true, true, true, true, true, false, false, false, false, false, false, false, false, false, false, false, false, false, false, false] 15 ?_ (fun Z => ?_)
  · rintro E W ⟨T, b2, hST, a4, d9, e0, c7⟩
    have hS0 := hST.has.selS D (Kb Sn)
    refine X 13 rfl hS0 (R_move e0) ?_
    obtain ⟨i1, x, b0⟩ := bind_some c7
    refine PX_join (J := fun E W => ∃ (H : Bool) (b3 : List (Nat × Obj)), ST false NoF w W a6 ((b9, Obj.cells ((encPerson a).toArray : Array Value) 104 (0, 0)) :: b3) ∧ E 3 = (.pointer (some ⟨b9, 0, none⟩)) ∧ E 66 = (.bool H) ∧ (((if H then some ((decide (a.Member ≤ a.Issued))) else some false) : Option Bool).bind fun B => some B) = some r) #[true, true, true, true, true, true, true, true, true, true, true, true, true, true, true, true, true, true, true, true, false, false, false, false, false, false, false, false] 8 ?_ (fun Y => ?_)
    · rintro E W ⟨H, b3, hST, b7, e1, c8⟩
      have hS0 := hST.has.selS D (Kb Sn)
      refine X 20 rfl hS0 (R_move e1) ?_
      obtain ⟨i0, u, a9⟩ := bind_some c8
      refine PX_join (J := fun E W => ∃ (B : Bool) (b4 : List (Nat × Obj)), ST false NoF w W a6 ((b9, Obj.cells ((encPerson a).toArray : Array Value) 104 (0, 0)) :: b4) ∧ E 73 = (.bool B) ∧ some B = some r) #[true, true, true, true, true, true, true, true, true, true, true, true, true, true, true, true, true, true, true, true, true, true, true, true, true, true, true, false] 1 ?_ (fun U => ?_)
      · rintro E W ⟨B, b4, hST, e2, N⟩
        have hS0 := hST.has.selS D (Kb Sn)
        refine X 27 rfl hS0 (R_assign e2) (PX_done (by kernel_rfl) (sq_n ?_))
        replace hST := hST.sel (Db St)
        refine CW_ret ?_
        replace N := Option.some.inj N; subst N
        exact retQ_1 (v := (.bool B)) rfl rfl ⟨rfl, hST.ex⟩
      rcases bool_cases H with j | j
      · replace u := if_t j u
        refine Xg 21 rfl rfl (congrArg Value.bool j) hS0 (R_field fa104_2 b7) (XgH 22 rfl rfl (congrArg Value.bool j) hS0 (fun _ hS => R_load rfl (load_box1 hS Mh rfl Tryz.isAgg3)) (Xg 23 rfl rfl (congrArg Value.bool j) hS0 (R_field fa104_1 b7) (XgH 24 rfl rfl (congrArg Value.bool j) hS0 (fun _ hS => R_load rfl (load_box1 hS Mh rfl Tryz.isAgg3)) (Xg 25 rfl rfl (congrArg Value.bool j) hS0 (R_int rfl rfl rfl) (X 26 rfl hS0 (R_pickT (congrArg Value.bool j) rfl) ?_)))))
        replace u := Option.some.inj u; subst u
        refine PX_at (by kernel_rfl) (U _ _ ⟨((decide (a.Member ≤ a.Issued))), _, (hST.sel St), rfl, a9⟩)
      replace u := if_f j u
      refine Xn 21 rfl rfl (congrArg Value.bool j) hS0 (Xn 22 rfl rfl (congrArg Value.bool j) hS0 (Xn 23 rfl rfl (congrArg Value.bool j) hS0 (Xn 24 rfl rfl (congrArg Value.bool j) hS0 (Xn 25 rfl rfl (congrArg Value.bool j) hS0 (X 26 rfl hS0 (R_pickF (congrArg Value.bool j) rfl) ?_)))))
      replace u := Option.some.inj u; subst u
      refine PX_at (by kernel_rfl) (U _ _ ⟨false, _, (hST.sel St), rfl, a9⟩)
    rcases bool_cases T with g | g
    · replace x := if_t g x
      refine Xg 14 rfl rfl (congrArg Value.bool g) hS0 (R_field fa104_4 a4) (XgH 15 rfl rfl (congrArg Value.bool g) hS0 (fun _ hS => R_load rfl (load_box1 hS Mh rfl Tryz.isAgg3)) (Xg 16 rfl rfl (congrArg Value.bool g) hS0 (R_move d9) (Xg 17 rfl rfl (congrArg Value.bool g) hS0 (R_lenRow Tryz.underlying53 rfl a7) (Xg 18 rfl rfl (congrArg Value.bool g) hS0 (R_int rfl rfl rfl) (X 19 rfl hS0 (R_pickT (congrArg Value.bool g) rfl) ?_)))))
      replace x := Option.some.inj x; subst x
      refine PX_at (by kernel_rfl) (Y _ _ ⟨((decide (a.Peopled ≤ ((a5.length : Int))))), _, (hST.sel (Kb (Dr St))), a4, rfl, b0⟩)
    replace x := if_f g x
    refine Xn 14 rfl rfl (congrArg Value.bool g) hS0 (Xn 15 rfl rfl (congrArg Value.bool g) hS0 (Xn 16 rfl rfl (congrArg Value.bool g) hS0 (Xn 17 rfl rfl (congrArg Value.bool g) hS0 (Xn 18 rfl rfl (congrArg Value.bool g) hS0 (X 19 rfl hS0 (R_pickF (congrArg Value.bool g) rfl) ?_)))))
    replace x := Option.some.inj x; subst x
    refine PX_at (by kernel_rfl) (Y _ _ ⟨false, _, (hST.sel (Kb (Dr St))), a4, rfl, b0⟩)
  rcases bool_cases ((a.Issued == ((e7.length : Int)))) with f | f
  · replace y := if_t f y
    refine Xg 7 rfl rfl (congrArg Value.bool f) hS0 (R_field fa104_3 k) (XgH 8 rfl rfl (congrArg Value.bool f) hS0 (fun _ hS => R_load rfl (load_box1 hS Mh rfl Tryz.isAgg3)) (Xg 9 rfl rfl (congrArg Value.bool f) hS0 (R_move rfl) (Xg 10 rfl rfl (congrArg Value.bool f) hS0 (R_lenRow Tryz.underlying53 rfl a7) (Xg 11 rfl rfl (congrArg Value.bool f) hS0 (R_int rfl rfl rfl) (X 12 rfl hS0 (R_pickT (congrArg Value.bool f) rfl) ?_)))))
    replace y := Option.some.inj y; subst y
    refine PX_at (by kernel_rfl) (Z _ _ ⟨((a.Roles == ((a5.length : Int)))), _, (hST.sel (Dr (Sb (Pr Pz) St))), k, rfl, rfl, b1⟩)
  replace y := if_f f y
  refine Xn 7 rfl rfl (congrArg Value.bool f) hS0 (Xn 8 rfl rfl (congrArg Value.bool f) hS0 (Xn 9 rfl rfl (congrArg Value.bool f) hS0 (Xn 10 rfl rfl (congrArg Value.bool f) hS0 (Xn 11 rfl rfl (congrArg Value.bool f) hS0 (X 12 rfl hS0 (R_pickF (congrArg Value.bool f) rfl) ?_)))))
  replace y := Option.some.inj y; subst y
  refine PX_at (by kernel_rfl) (Z _ _ ⟨false, _, (hST.sel (Dr (Sb (Pr Pz) St))), k, rfl, rfl, b1⟩)
end Go.Proofs.YtfjdjbdnnoijgaaGreat
