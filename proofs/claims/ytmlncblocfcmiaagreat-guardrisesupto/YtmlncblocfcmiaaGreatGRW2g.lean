/- a part of a proof of GuardRises -/
import Derived.Test.YtmlncblocfcmiaaGreatGRW1g
set_option linter.all false
namespace Go.Proofs.YtmlncblocfcmiaaGreat
open Go.RowKit
set_option maxRecDepth 10000
theorem Ey (d1 : Value) (a0 : List aB) (r : (aB × Int)) (w : World) {μ0 : bD} (h0 : jU μ0 [] w) (c7 : Sl aK 5 μ0 d1 a0) (hm : qE a0 = some r) :
    eS false Tryz.prog 213 [d1] w μ0 [] (fun v L1 μ1 => ∃ (y1 : Value), v = (.tuple #[(.agg #[(.int .i64 ((r.1).Op)), (.int .i64 ((r.1).K)), (.string (((r.1).Role).Owner)), (.string (((r.1).Role).Word)), y1]), (.int .i64 (r.2))]) ∧ L1 = [] ∧ Sl aK 5 μ1 y1 ((r.1).Kids)) := by
  have hST := ST.startE (dd := false) h0
  unfold qE at hm
  refine cF 36 Tryz.func213 rfl (aD (aA (VE (bL hST Tryz.zeroValue113 (fun W2 b1 hST => V (aG rfl) (aF (aH (aD (aA (V (aC rfl) (bS hm fun x6 e3 hm => VQ (eV (i := 0) (x0 := x6) aK.out Tryz.underlying111 Tryz.sizeOf113 rfl rfl c7 (bY e3) (bT e3)) (fun p3 ⟨_, ⟨v8, rfl, f2⟩, f1⟩ => V (aJ rfl (bN hST.has f1 Tryz.isAgg113 Tryz.sizeOf113)) (bS hm fun j e6 hm => ?_)))))))))))))
  have hsz := hST.size
  refine VE (lT hST (List.Perm.refl _) Tryz.call306 (fun hH hN hsb hmm => (Ao x6 v8 _ _ ⟨hH, hN, hsb⟩ (f2.mono aV.mono (bE.refl _)) e6)) (fun h9 i2 a9 h8 hST a4 hl15 e5 => ?_) (L0 := []))
  obtain ⟨i3, b6, rfl, d0⟩ := e5
  replace b6 := b6.symm; subst b6
  replace hST := hST.perm Tn
  refine V (aC rfl) (V (dU rfl rfl) (V (dU rfl rfl) (VE (bL hST Tryz.zeroValue113 (fun i0 b7 hST => ?_)))))
  obtain ⟨c2, c5, rfl⟩ := d0.form
  refine VO (bH (.agg #[(.int .i64 ((j.1).Op)), (.int .i64 ((j.1).K)), (.string (((j.1).Role).Owner)), (.string (((j.1).Role).Word)), (.slice c2 ((j.1).Kids).length c5)]) (#[(.int .i64 ((j.1).Op)), (.int .i64 ((j.1).K)), (.string (((j.1).Role).Owner)), (.string (((j.1).Role).Word)), (.slice c2 ((j.1).Kids).length c5)]) hST rfl rfl Tryz.sizeOf113 (by simp [Value.cells, Value.oneCell']) nb rfl (fun i1 hST => V (aG rfl) (aF (aH (aD (aD (aA (V (aC rfl) (bS hm fun _ c8 hm => VQ (Ai (i := 1) Tryz.underlying111 Tryz.sizeOf113 rfl rfl (c7.mono aV.mono a4) (rZ c8) (rX c8)) (fun f3 b5 => V (dO Tryz.underlying111 rfl b5.1) (V (aC rfl) (aF (aH (CJ hm (fun u E W => ∃ (a6 : Value) (U : bD) (c3 : List (Nat × Obj)), bE a9 U ∧ Lo (keys []) w a9 U ∧ ST false (keys []) w W U ((b7, Obj.cells (#[(.int .i64 u.2.1), (.int .i64 u.2.2.1), (.string u.2.2.2.1.Owner), (.string u.2.2.2.1.Word), a6] : Array Value) 113 (0, 0)) :: ((b1, Obj.cells (qG.toArray : Array Value) 113 (0, 0)) :: c3)) ∧ E 2 = (.pointer (some ⟨b1, 0, none⟩)) ∧ E 4 = (.pointer (some ⟨b7, 0, none⟩)) ∧ E 5 = (.int .i64 u.1) ∧ Sl aK 5 U a6 u.2.2.2.2) (fun u d7 => ?_) ?_))))))))))))))
  · refine dA (fun i E W => ∃ (a7 : Int) (G : Int) (H : Int) (y : Role) (x : Value) (N : List aB) (z : bD) (b2 : List (Nat × Obj)), (E 18 = .int .i64 (i : Nat) ∧ E 17 = .int .i64 (((a0.drop (Int.toNat 1))).length : Nat)) ∧ bE a9 z ∧ Lo (keys []) w a9 z ∧ ST false (keys []) w W z ((b7, Obj.cells (#[(.int .i64 G), (.int .i64 H), (.string y.Owner), (.string y.Word), x] : Array Value) 113 (0, 0)) :: ((b1, Obj.cells (qG.toArray : Array Value) 113 (0, 0)) :: b2)) ∧ E 2 = (.pointer (some ⟨b1, 0, none⟩)) ∧ E 4 = (.pointer (some ⟨b7, 0, none⟩)) ∧ E 5 = (.int .i64 a7) ∧ E 16 = f3 ∧ Sl aK 5 z x N ∧ lO (((a0.drop (Int.toNat 1))).drop i) a7 G H y N = some u) ((a0.drop (Int.toNat 1))).length b5.1.len ⟨j.2, ((j.1).Op), ((j.1).K), ((j.1).Role), (.slice c2 ((j.1).Kids).length c5), ((j.1).Kids), a9, _, ⟨rfl, rfl⟩, (bE.refl _), Lo.refl, (hST.sel St), rfl, rfl, rfl, rfl, d0, d7⟩ (by decide) (by decide) (by decide) (fun _ _ _ h => by obtain ⟨_, _, _, _, _, _, _, _, eIN, _⟩ := h; exact eIN) ?_ ?_
    · rintro e7 E W d6 ⟨a7, G, H, y, x, N, z, b2, ⟨eI, eN⟩, t, hl254, hST, a2, D, a3, b4, I, c⟩
      obtain ⟨a, f6, e1, e0, e2⟩ := cR d6
      rw [e1] at c
      rw [lO] at c
      refine aY (aD (aA (VQ (eV (i := (e7 : Int)) (x0 := a) aK.out Tryz.underlying111 Tryz.sizeOf113 b4 eI (b5.1.mono aV.mono t) (Int.natCast_nonneg _) e0) (fun g8 ⟨_, ⟨h2, rfl, c0⟩, d8⟩ => V (aJ rfl (bN hST.has d8 Tryz.isAgg113 Tryz.sizeOf113)) (VE (bL hST Tryz.zeroValue113 (fun g2 g6 hST => ?_)))))))
      obtain ⟨Y, Z, rfl⟩ := c0.form
      refine VO (bH (.agg (C3 a.Op a.K a.Role.Owner a.Role.Word Y a.Kids.length Z).toArray) ((C3 a.Op a.K a.Role.Owner a.Role.Word Y a.Kids.length Z).toArray) hST rfl rfl Tryz.sizeOf113 (by simp [Value.cells, Value.oneCell']) nb rfl (fun g3 hST => aF (aH (aD (aD (aA (V (aC a3) (V (aQ rfl rfl rfl) (aF (aH (CI c rfl (fun d5 c => ?_) (fun d5 c => ?_))))))))))))
      · refine iD (gI (JO (by simp) (gI (pC (aH ?_)))))
        cases c
        exact ⟨x, z, _, t, hl254, (hST.sel (Db St)), a2, D, a3, I⟩
      refine aX (aH (aA (V (aJ D (aM hST.has (Mt Mh) [(.int .i64 G), (.int .i64 H), (.string y.Owner), (.string y.Word), x] rfl Tryz.isAgg113 Tryz.sizeOf113)) (V (aJ rfl (aM hST.has Mh (C3 a.Op a.K a.Role.Owner a.Role.Word Y a.Kids.length Z) rfl Tryz.isAgg113 Tryz.sizeOf113)) (bS c fun g d9 c => ?_)))))
      have hsz := hST.size
      refine VE (lT hST (List.Perm.refl _) Tryz.call307 (fun hH hN hsb hmm => (Dd ((⟨G, H, y, N⟩ : aB)) x a (.slice Y a.Kids.length Z) _ _ ⟨hH, hN, hsb⟩ (I.mono aV.mono (bE.refl _)) (c0.mono aV.mono (bE.refl _)) d9)) (fun g4 h3 f0 f9 hST c9 hl275 d3 => ?_) (L0 := []))
      obtain ⟨h6, a5, rfl, c1⟩ := d3
      replace a5 := a5.symm; subst a5
      replace hST := hST.perm Tn
      refine V (aC rfl) (V (dU rfl rfl) (V (dU rfl rfl) ?_))
      obtain ⟨b0, b3, rfl⟩ := c1.form
      replace hST := hST.perm (Nb (Pb Pz) Nz)
      refine VO (bH (.agg #[(.int .i64 ((g.1).Op)), (.int .i64 ((g.1).K)), (.string (((g.1).Role).Owner)), (.string (((g.1).Role).Word)), (.slice b0 ((g.1).Kids).length b3)]) (#[(.int .i64 ((g.1).Op)), (.int .i64 ((g.1).K)), (.string (((g.1).Role).Owner)), (.string (((g.1).Role).Word)), (.slice b0 ((g.1).Kids).length b3)]) hST D rfl Tryz.sizeOf113 (by simp [Value.cells, Value.oneCell']) nb rfl (fun g5 hST => V (aG rfl) (aF (cL (aH ?_)))))
      replace hST := hST.sel (Kb (Db St))
      exact ⟨eI, g.2, ((g.1).Op), ((g.1).K), ((g.1).Role), (.slice b0 ((g.1).Kids).length b3), ((g.1).Kids), f0, _, ⟨rfl, eN⟩, (t.trans c9), (hl254.trans hl275), (hST.sel St), a2, D, rfl, b4, c1, (by rw [e2]; exact c)⟩
    rintro E W ⟨a7, G, H, y, x, N, z, b2, ⟨eI, eN⟩, t, hl254, hST, a2, D, a3, b4, I, c⟩
    rw [List.drop_length] at c
    rw [lO] at c
    refine aH ?_
    cases c
    exact ⟨x, z, _, t, hl254, (hST.sel St), a2, D, a3, I⟩
  rintro ⟨e8, Q, T, k, M⟩ E W ⟨a6, U, c3, a8, hl156, hST, a1, e4, c6, b9⟩ B
  refine aD (aD (aA (V (aC c6) (V (aQ rfl rfl rfl) (aF (aH (CI B rfl (fun d4 B => ?_) (fun d4 B => ?_))))))))
  · refine aD (aA (V (bJ (qs := #[]) (v := (.agg qG.toArray)) nZ (aW Tryz.zeroValue113 Tryz.underlying113 (tu _ Tryz.underlying113) (by kernel_rfl))) (V (aC c6) ?_)))
    replace hST := hST.perm (Nb (Pb Pz) Nz)
    refine VO (bH (.agg qG.toArray) (qG.toArray) hST a1 rfl Tryz.sizeOf113 (by simp [Value.cells, Value.oneCell']) nb rfl (fun g0 hST => V (aG rfl) (aF (aH ?_))))
    replace hST := hST.sel (Kb (Db St))
    refine aU (cU ?_)
    have hx := sj B; subst hx
    exact rK (v0 := (.agg qG.toArray)) (v1 := (.int .i64 e8)) rfl a1 (aM hST.has Mh qG rfl Tryz.isAgg113 Tryz.sizeOf113) rfl ⟨_, _, _, rfl, (hST.bkM Sn), (a4.trans a8), (hl15.trans hl156), (ST.sub_hpx hST (fF.mem Sn)), (.slice none 0 0), rfl, rfl, (Sl.nil _ _ _)⟩
  refine aX (aH (aD (aA (V (aJ e4 (aM hST.has Mh [(.int .i64 Q), (.int .i64 T), (.string k.Owner), (.string k.Word), a6] rfl Tryz.isAgg113 Tryz.sizeOf113)) ?_))))
  obtain ⟨J, K, rfl⟩ := b9.form
  replace hST := hST.perm (Nb (Pb Pz) Nz)
  refine VO (bH (.agg (C3 Q T k.Owner k.Word J M.length K).toArray) ((C3 Q T k.Owner k.Word J M.length K).toArray) hST a1 rfl Tryz.sizeOf113 (by simp [Value.cells, Value.oneCell']) nb rfl (fun g1 hST => V (aG rfl) (aF (aH ?_))))
  replace hST := hST.sel (Kb (Db St))
  refine aU ?_
  have hx := sj B; subst hx
  exact rK (v0 := (.agg (C3 Q T k.Owner k.Word J M.length K).toArray)) (v1 := (.int .i64 0)) rfl a1 (aM hST.has Mh (C3 Q T k.Owner k.Word J M.length K) rfl Tryz.isAgg113 Tryz.sizeOf113) rfl ⟨_, _, _, rfl, (hST.bkM Sn), (a4.trans a8), (hl15.trans hl156), (ST.sub_hpx hST (fF.mem Sn)), (.slice J M.length K), rfl, rfl, b9⟩
theorem uk (k : cG) (G : Value) (H : Value) (a1 : Cred) (r : (aB × Int)) (w : World) {μ0 : bD} (h0 : jU μ0 [] w) (t : Sl bF 15 μ0 G k.Creds) (y : Sl cD 8 μ0 H k.Acks) (hm : oJ k a1 = some r) :
    eS false Tryz.prog 106 [(.agg #[(.string k.Name), G, H]), (.agg (aI a1).toArray)] w μ0 [] (fun v L1 μ1 => ∃ (y1 : Value), v = (.tuple #[(.agg #[(.int .i64 ((r.1).Op)), (.int .i64 ((r.1).K)), (.string (((r.1).Role).Owner)), (.string (((r.1).Role).Word)), y1]), (.int .i64 (r.2))]) ∧ L1 = [] ∧ Sl aK 5 μ1 y1 ((r.1).Kids)) := by
  have hST := ST.startE (dd := false) h0
  unfold oJ at hm
  refine cF 41 Tryz.func106 rfl (aD (aA ?_))
  obtain ⟨A1, c2, rfl⟩ := t.form
  obtain ⟨A3, c4, rfl⟩ := y.form
  refine VE (cO (v := (.agg (C5 k.Name A1 k.Creds.length c2 A3 k.Acks.length c4).toArray)) hST rfl (fun W6 b5 hST => VE (cO (v := (.agg (aI a1).toArray)) hST rfl (fun W8 b7 hST => VE (bL hST Tryz.zeroValue113 (fun i2 b9 hST => V (aG rfl) (aF (aH (aD (aA (V (aJ rfl (aM hST.has (Mt (Mt Mh)) (C5 k.Name A1 k.Creds.length c2 A3 k.Acks.length c4) rfl Tryz.isAgg110 Tryz.sizeOf110)) (V (aJ rfl (aM hST.has (Mt Mh) (aI a1) rfl Tryz.isAgg53 Tryz.sizeOf53)) (bS hm fun a e7 hm => ?_)))))))))))))
  have hsz := hST.size
  refine VE (lT hST (List.Perm.refl _) Tryz.call212 (fun hH hN hsb hmm => (Ec k (.slice A1 k.Creds.length c2) (.slice A3 k.Acks.length c4) a1 _ _ ⟨hH, hN, hsb⟩ (t.mono bR.mono (bE.refl _)) (y.mono dR.mono (bE.refl _)) e7)) (fun i3 j0 j6 i0 hST I hl16 e4 => ?_) (L0 := []))
  obtain ⟨j4, j5, a5, rfl, e9, c5⟩ := e4
  replace a5 := a5.symm; subst a5
  replace hST := hST.perm Tn
  refine V (aC rfl) (V (dU rfl rfl) (V (dU rfl rfl) (VE (bL hST Tryz.zeroValue138 (fun i4 i9 hST => ?_)))))
  obtain ⟨d9, e1, rfl⟩ := e9.form
  obtain ⟨z, D, rfl⟩ := c5.form
  refine VO (bH (.agg #[(.int .i64 ((((a.1).Signed).Cred).Kind)), (.string (((((a.1).Signed).Cred).Head).Owner)), (.string (((((a.1).Signed).Cred).Head).Word)), (.string ((((a.1).Signed).Cred).Who)), (.string (((((a.1).Signed).Cred).B).Owner)), (.string (((((a.1).Signed).Cred).B).Word)), (.string (((((a.1).Signed).Cred).C).Owner)), (.string (((((a.1).Signed).Cred).C).Word)), (.string ((((a.1).Signed).Cred).Word2)), (.slice d9 (((a.1).Signed).Tag).length e1), (.int .i64 (((a.1).Release).Op)), (.int .i64 (((a.1).Release).K)), (.string ((((a.1).Release).Role).Owner)), (.string ((((a.1).Release).Role).Word)), (.slice z (((a.1).Release).Kids).length D)]) (#[(.int .i64 ((((a.1).Signed).Cred).Kind)), (.string (((((a.1).Signed).Cred).Head).Owner)), (.string (((((a.1).Signed).Cred).Head).Word)), (.string ((((a.1).Signed).Cred).Who)), (.string (((((a.1).Signed).Cred).B).Owner)), (.string (((((a.1).Signed).Cred).B).Word)), (.string (((((a.1).Signed).Cred).C).Owner)), (.string (((((a.1).Signed).Cred).C).Word)), (.string ((((a.1).Signed).Cred).Word2)), (.slice d9 (((a.1).Signed).Tag).length e1), (.int .i64 (((a.1).Release).Op)), (.int .i64 (((a.1).Release).K)), (.string ((((a.1).Release).Role).Owner)), (.string ((((a.1).Release).Role).Word)), (.slice z (((a.1).Release).Kids).length D)]) hST rfl rfl Tryz.sizeOf138 (by simp [Value.cells, Value.oneCell']) nb rfl (fun i5 hST => V (aG rfl) (aF (aH (aD (aD (aA (V (aC rfl) (V (fV rfl) (aF (aH (CI hm rfl (fun e6 hm => ?_) (fun e6 hm => ?_)))))))))))))
  · refine aD (aA (V (bJ (qs := #[]) (v := (.agg qG.toArray)) nZ (aW Tryz.zeroValue113 Tryz.underlying113 (tu _ Tryz.underlying113) (by kernel_rfl))) ?_))
    replace hST := hST.perm (Nb (Pb Pz) Nz)
    refine VO (bH (.agg qG.toArray) (qG.toArray) hST rfl rfl Tryz.sizeOf113 (by simp [Value.cells, Value.oneCell']) nb rfl (fun i6 hST => V (aG rfl) (aF (aH ?_))))
    replace hST := hST.sel (Kb (Db (Db (Db St))))
    refine aU (cU ?_)
    have hx := sj hm; subst hx
    exact rK (v0 := (.agg qG.toArray)) (v1 := (.int .i64 42)) rfl rfl (aM hST.has Mh qG rfl Tryz.isAgg113 Tryz.sizeOf113) rfl ⟨_, _, _, rfl, (hST.bkM Sn), I, hl16, (ST.sub_hpx hST (fF.mem Sn)), (.slice none 0 0), rfl, rfl, (Sl.nil _ _ _)⟩
  refine aX (aH (aD (aA (V (aN Ce rfl) (V (aJ rfl (aM hST.has Mh [(.int .i64 (((a.1).Release).Op)), (.int .i64 (((a.1).Release).K)), (.string ((((a.1).Release).Role).Owner)), (.string ((((a.1).Release).Role).Word)), (.slice z (((a.1).Release).Kids).length D)] rfl Tryz.isAgg113 Tryz.sizeOf113)) (VE (aR (qs := #[(0, (.agg #[(.int .i64 (((a.1).Release).Op)), (.int .i64 (((a.1).Release).K)), (.string ((((a.1).Release).Role).Owner)), (.string ((((a.1).Release).Role).Word)), (.slice z (((a.1).Release).Kids).length D)]))]) (cs := #[(.int .i64 (((a.1).Release).Op)), (.int .i64 (((a.1).Release).K)), (.string ((((a.1).Release).Role).Owner)), (.string ((((a.1).Release).Role).Word)), (.slice z (((a.1).Release).Kids).length D)]) hST (bM rfl) (bB [(.agg #[(.int .i64 (((a.1).Release).Op)), (.int .i64 (((a.1).Release).K)), (.string ((((a.1).Release).Role).Owner)), (.string ((((a.1).Release).Role).Word)), (.slice z (((a.1).Release).Kids).length D)])] Tryz.underlying111 Tryz.sizeOf113 Tryz.zeroValue113 (by decide) rfl (by intro v hv; simp only [List.mem_cons, List.not_mem_nil, or_false] at hv; rcases hv with rfl <;> rfl) rfl rfl) (fun i7 e0 hST => V (aG rfl) (aF (aH ?_))))))))))
  replace hST := hST.sel (Kb (Db St))
  refine aD (aD (aA (V (aJ rfl (aM hST.has (Mt (Mt (Mt Mh))) (C5 k.Name A1 k.Creds.length c2 A3 k.Acks.length c4) rfl Tryz.isAgg110 Tryz.sizeOf110)) (V (aJ rfl (aM hST.has (Mt (Mt Mh)) (aI a1) rfl Tryz.isAgg53 Tryz.sizeOf53)) (bS hm fun c6 e8 hm => ?_)))))
  have hsz := hST.size
  refine VE (lT hST (List.Perm.refl _) Tryz.call209 (fun hH hN hsb hmm => (yE k (.slice A1 k.Creds.length c2) (.slice A3 k.Acks.length c4) a1 _ _ ⟨hH, hN, hsb⟩ (t.mono bR.mono I) (y.mono dR.mono I) e8)) (fun i8 j3 e2 i1 hST a8 hl42 e5 => ?_) (L0 := []))
  obtain ⟨f6, a6, rfl, a7⟩ := e5
  replace a6 := a6.symm; subst a6
  replace hST := hST.perm Tn
  refine V (dO Tryz.underlying108 rfl a7) (V (aC rfl) (aF (aH ?_)))
  replace hST := hST.sel (Kb (Kb (Db (Db St))))
  replace hST := hST.row1
  refine dA (fun i E W => ∃ (Q : Value) (N : List aB) (K : List (Nat × Obj)) (Z : List (Nat × Obj)), (E 27 = .int .i64 (i : Nat) ∧ E 26 = .int .i64 (c6.length : Nat)) ∧ ST false (keys []) w W e2 ((b9, Obj.cells (qG.toArray : Array Value) 113 (0, 0)) :: (K ++ Z)) ∧ E 4 = (.pointer (some ⟨b9, 0, none⟩)) ∧ E 8 = Q ∧ E 25 = f6 ∧ bG 113 aK 5 e2 Q N K ∧ mK (c6.drop i) N = some r) c6.length a7.len ⟨(.slice (some ⟨e0, 0, none⟩) 1 1), ([(a.1).Release]), [(e0, Obj.cells (#[(.int .i64 (((a.1).Release).Op)), (.int .i64 (((a.1).Release).K)), (.string ((((a.1).Release).Role).Owner)), (.string ((((a.1).Release).Role).Word)), (.slice z (((a.1).Release).Kids).length D)] : Array Value) 113 (0, 0))], _, ⟨rfl, rfl⟩, (hST.sel (Sb (Pr Pz) St)), rfl, rfl, rfl, (bG.lit aV (l := [(a.1).Release]) (.cons (ys := [(.int .i64 (((a.1).Release).Op)), (.int .i64 (((a.1).Release).K)), (.string ((((a.1).Release).Role).Owner)), (.string ((((a.1).Release).Role).Word)), (.slice z (((a.1).Release).Kids).length D)]) (aK.mk ⟨(.slice z (((a.1).Release).Kids).length D), rfl, (c5.mono aV.mono a8)⟩) .nil) rfl nb rfl), hm⟩ (by decide) (by decide) (by decide) (fun _ _ _ h => by obtain ⟨_, _, _, _, eIN, _⟩ := h; exact eIN) ?_ ?_
  · rintro f0 E W d0 ⟨Q, N, K, Z, ⟨eI, eN⟩, hST, T, a3, a4, U, j⟩
    obtain ⟨c, f7, d6, d5, d7⟩ := cR d0
    rw [d6] at j
    rw [mK] at j
    refine aY (aD (aA (VQ (eV (i := (f0 : Int)) (x0 := c) cD.out Tryz.underlying108 Tryz.sizeOf263 a4 eI a7 (Int.natCast_nonneg _) d5) (fun g9 ⟨_, ⟨h3, h4, rfl, a9, d3⟩, d1⟩ => V (aJ rfl (bN hST.has d1 Tryz.isAgg263 Tryz.sizeOf263)) (VE (bL hST Tryz.zeroValue263 (fun g0 g6 hST => ?_)))))))
    obtain ⟨u, x, rfl⟩ := a9.form
    obtain ⟨b2, b6, rfl⟩ := d3.form
    refine VO (bH (.agg (C7 c.Role.Owner c.Role.Word c.Release.Op c.Release.K c.Release.Role.Owner c.Release.Role.Word u c.Release.Kids.length x b2 c.Closure.length b6).toArray) ((C7 c.Role.Owner c.Role.Word c.Release.Op c.Release.K c.Release.Role.Owner c.Release.Role.Word u c.Release.Kids.length x b2 c.Closure.length b6).toArray) hST rfl rfl Tryz.sizeOf263 (by simp [Value.cells, Value.oneCell']) nb rfl (fun g1 hST => aF (aH (aA (V (aC a3) (V (aN zV rfl) (V (aJ rfl (aM hST.has Mh (C3 c.Release.Op c.Release.K c.Release.Role.Owner c.Release.Role.Word u c.Release.Kids.length x) rfl Tryz.isAgg113 Tryz.sizeOf113)) (VE (aR (qs := #[(0, (.agg (C3 c.Release.Op c.Release.K c.Release.Role.Owner c.Release.Role.Word u c.Release.Kids.length x).toArray))]) (cs := (C3 c.Release.Op c.Release.K c.Release.Role.Owner c.Release.Role.Word u c.Release.Kids.length x).toArray) hST (bM rfl) (bB [(.agg (C3 c.Release.Op c.Release.K c.Release.Role.Owner c.Release.Role.Word u c.Release.Kids.length x).toArray)] Tryz.underlying111 Tryz.sizeOf113 Tryz.zeroValue113 (by decide) rfl (by intro v hv; simp only [List.mem_cons, List.not_mem_nil, or_false] at hv; rcases hv with rfl <;> rfl) rfl rfl) (fun g2 g7 hST => ?_))))))))))
    replace hST := hST.perm (Nr (Qb (Qb (Qb Qz))) Nz)
    refine bS j fun f1 c9 j => VE (sw (B := K) aV hST (by decide) Tryz.underlying111 gV.1 gV.2.1 rfl gV.2.2.1 gV.2.2.2 rfl rfl U (yD.lit aV (l := [c.Release]) (.cons (ys := C3 c.Release.Op c.Release.K c.Release.Role.Owner c.Release.Role.Word u c.Release.Kids.length x) (aK.mk ⟨(.slice u c.Release.Kids.length x), rfl, a9⟩) .nil) rfl nb (hST.at_ (Ma Mh))) c9 (fun g3 f2 e3 hST c8 => V (aG rfl) (aF (cL (aH ?_)))))
    replace hST := hST.sel (Kr (Db (Db St)))
    exact ⟨eI, f2, f1, e3, _, ⟨rfl, eN⟩, (hST.sel (Sb (Pr Pz) St)), T, rfl, a4, c8, (by rw [d7]; exact j)⟩
  rintro E W ⟨Q, N, K, Z, ⟨eI, eN⟩, hST, T, a3, a4, U, j⟩
  rw [List.drop_length] at j
  rw [mK] at j
  refine aH (aD (aA (V (aC a3) ?_)))
  replace hST := hST.perm (Nr (Qb Qz) Nz)
  obtain ⟨h8, hST, c1, hl229, d4⟩ := ST.pubD aV hST U
  refine bS j fun g d2 j => ?_
  have hsz := hST.size
  refine VE (lT hST (List.Perm.refl _) Tryz.call213 (fun hH hN hsb hmm => (Ey Q N _ _ ⟨hH, hN, hsb⟩ (d4.mono aV.mono (bE.refl _)) d2)) (fun g4 h5 h9 f9 hST c3 hl236 c7 => ?_) (L0 := []))
  obtain ⟨h6, Y, rfl, b0⟩ := c7
  replace Y := Y.symm; subst Y
  replace hST := hST.perm Tn
  refine V (dU rfl rfl) (V (dU rfl rfl) ?_)
  obtain ⟨J, M, rfl⟩ := b0.form
  refine VO (bH (.agg #[(.int .i64 ((g.1).Op)), (.int .i64 ((g.1).K)), (.string (((g.1).Role).Owner)), (.string (((g.1).Role).Word)), (.slice J ((g.1).Kids).length M)]) (#[(.int .i64 ((g.1).Op)), (.int .i64 ((g.1).K)), (.string (((g.1).Role).Owner)), (.string (((g.1).Role).Word)), (.slice J ((g.1).Kids).length M)]) hST T rfl Tryz.sizeOf113 (by simp [Value.cells, Value.oneCell']) nb rfl (fun g5 hST => V (aG rfl) (aF (aH (aU ?_)))))
  have hx := sj j; subst hx
  exact rK (v0 := (.agg #[(.int .i64 ((g.1).Op)), (.int .i64 ((g.1).K)), (.string (((g.1).Role).Owner)), (.string (((g.1).Role).Word)), (.slice J ((g.1).Kids).length M)])) (v1 := (.int .i64 g.2)) rfl T (aM hST.has Mh [(.int .i64 ((g.1).Op)), (.int .i64 ((g.1).K)), (.string (((g.1).Role).Owner)), (.string (((g.1).Role).Word)), (.slice J ((g.1).Kids).length M)] rfl Tryz.isAgg113 Tryz.sizeOf113) rfl ⟨_, _, _, rfl, (hST.bkM Sn), (((I.trans a8).trans c1).trans c3), (((hl16.trans hl42).trans hl229).trans hl236), (ST.sub_hpx hST (fF.mem Sn)), (.slice J ((g.1).Kids).length M), rfl, rfl, b0⟩
theorem vY (a : Role) (r : Cred) (w : World)  (hm : pF a = some r) :
    bO true Tryz.prog 203 [(.agg (aO a).toArray)] w (.agg (aI r).toArray) := by
  have hST := ST.start (dd := true) w
  unfold pF at hm
  refine cF 5 Tryz.func203 rfl (aD (aA (VE (cO (v := (.agg (aO a).toArray)) hST rfl (fun c j hST => VE (bL hST Tryz.zeroValue53 (fun g k hST => aF (aH (aD (aA (V (aJ rfl (aM hST.has (Mt Mh) (aO a) rfl Tryz.isAgg28 Tryz.sizeOf28)) (V (bJ (qs := #[(0, (.int .i64 1)), (1, (.agg (aO a).toArray)), (2, (.string K9))]) (v := (.agg (aI ((⟨1, a, K9, K0, K0, zS⟩ : Cred))).toArray)) (eH rfl rfl rfl) (aW Tryz.zeroValue53 Tryz.underlying53 (Fp _ Tryz.underlying53) (by kernel_rfl))) (VO (bH (.agg (aI ((⟨1, a, K9, K0, K0, zS⟩ : Cred))).toArray) ((aI ((⟨1, a, K9, K0, K0, zS⟩ : Cred))).toArray) hST rfl rfl Tryz.sizeOf53 (gY ((⟨1, a, K9, K0, K0, zS⟩ : Cred))) nb rfl (fun i hST => aF (aH ?_))))))))))))))))
  replace hST := hST.sel (Kb (Db St))
  refine aU ?_
  have hx := sj hm; subst hx
  exact kM (v := (.agg (aI ((⟨1, a, K9, K0, K0, zS⟩ : Cred))).toArray)) rfl rfl (aM hST.has Mh (aI ((⟨1, a, K9, K0, K0, zS⟩ : Cred))) rfl Tryz.isAgg53 Tryz.sizeOf53) ⟨rfl, hST.ex⟩
theorem rS (a : Value) (g : List eO) (c : Value) (i : eO → Option Bool) (r : Bool) (w : World) (j : Sl cD 8 (hp w) a g) (k : sf Tryz.prog c (hp w) (uG cD) (fun (r : Bool) => (.bool r)) i) (hm : gW g i = some r) :
    bO false Tryz.prog 210 [a, c] w (.bool r) := by
  have hST := ST.start (dd := false) w
  unfold gW at hm
  refine cF 9 Tryz.func210 rfl (aD (aA (V (aG rfl) (aF (aH (aD (aA (V (aC rfl) (V (aC rfl) (bS hm fun x t hm => VE (Eg hST Tryz.call304 ((tf a g c i _ _ (j.mono dR.mono hST.sub_hp) (k.mono hST.sub_hp) t)) (fun u hST => V (aQ rfl rfl rfl) (V (aG rfl) (aF ?_))))))))))))))
  refine aH (aU ?_)
  have hx := sj hm; subst hx
  exact rP hST
theorem BM (c : eO) (a : Value) (i : Value) (r : Bool) (w : World) (j : Sl aK 5 (hp w) a c.Release.Kids) (g : Sl (Pl aI) 9 (hp w) i c.Closure) (hm : qa c = some r) :
    bO true Tryz.prog 297 [(.agg #[(.string c.Role.Owner), (.string c.Role.Word), (.int .i64 c.Release.Op), (.int .i64 c.Release.K), (.string c.Release.Role.Owner), (.string c.Release.Role.Word), a, i])] w (.bool r) := by
  have hST := ST.start (dd := true) w
  unfold qa at hm
  refine cF 7 Tryz.func297 rfl (aD (aA ?_))
  obtain ⟨k, u, rfl⟩ := j.form
  obtain ⟨t, x, rfl⟩ := g.form
  refine VE (cO (v := (.agg (C7 c.Role.Owner c.Role.Word c.Release.Op c.Release.K c.Release.Role.Owner c.Release.Role.Word k c.Release.Kids.length u t c.Closure.length x).toArray)) hST rfl (fun y z hST => V (aG rfl) (aF (aH (aD (aA (V (aN zW rfl) (V (aJ rfl (aP hST.has Mh rfl Tryz.isAgg22)) (V (dO Tryz.underlying22 rfl g) (V (aQ rfl rfl rfl) (V (aG rfl) (aF (aH ?_)))))))))))))
  replace hST := hST.sel (Db St)
  refine aU ?_
  have hx := sj hm; subst hx
  exact rP hST
theorem DX (u : cG) (k : Value) (t : Value) (r : Bool) (w : World) (j : Sl bF 15 (hp w) k u.Creds) (c : Sl cD 8 (hp w) t u.Acks) (hm : sn u = some r) :
    bO false Tryz.prog 205 [(.agg #[(.string u.Name), k, t])] w (.bool r) := by
  have hST := ST.start (dd := false) w
  unfold sn at hm
  refine cF 18 Tryz.func205 rfl (aD (aA ?_))
  obtain ⟨T, Z, rfl⟩ := j.form
  obtain ⟨J, K, rfl⟩ := c.form
  refine VE (cO (v := (.agg (C5 u.Name T u.Creds.length Z J u.Acks.length K).toArray)) hST rfl (fun W6 Y hST => V (aG rfl) (aF (aH (aD (aA (V (aN sE rfl) (V (aJ rfl (aP hST.has Mh rfl Tryz.isAgg107)) (V (dO Tryz.underlying107 rfl j) (V (aQ rfl rfl rfl) (V (aC rfl) (LJ hm (fun I E W => ∃  (U : List (Nat × Obj)), ST false dC w W (hp w) ((Y, Obj.cells ((C5 u.Name T u.Creds.length Z J u.Acks.length K).toArray : Array Value) 110 (0, 0)) :: U) ∧ E 1 = (.pointer (some ⟨Y, 0, none⟩)) ∧ E 2 = (.bool false) ∧ E 12 = (.bool I)) 5 ?_ (fun I y B => ?_)))))))))))))
  · rintro x8 E W ⟨U, hST, a1, G, a2⟩ M
    refine V (aC a2) (LJ M (fun H E W => ∃  (D : List (Nat × Obj)), ST false dC w W (hp w) D ∧ E 2 = (.bool false) ∧ E 17 = (.bool H)) 4 ?_ (fun H i z => ?_))
    · rintro b0 E W ⟨D, hST, a8, a3⟩ N
      refine V (aG a3) (aF (aH (aU ?_)))
      have hx := sj N; subst hx
      exact rP hST
    refine bC i (fun a i => ?_) (fun a i => ?_)
    · refine Vn rfl (cB a) (Vn rfl (cB a) (Vn rfl (cB a) (V (bU (cB a) rfl) ?_)))
      cases i
      exact z _ _ ⟨_, (hST.sel (Db St)), G, rfl⟩
    refine Vg rfl (cB a) (aN vP a1) (Vg rfl (cB a) (aJ rfl (aP hST.has Mh rfl Tryz.isAgg108)) (bS i fun a9 Q i => oO rfl (cB a) (Eg hST Tryz.call210 ((rS (.slice J u.Acks.length K) u.Acks (.func (.func 297) #[] #[]) (fun (x : eO) => qa x) _ _ (c.mono dR.mono hST.sub_hp) ⟨297, #[], #[], rfl, Tryz.call297, fun W x vs r hs hR hm => by obtain ⟨_, rfl, a4⟩ := hR; obtain ⟨u0, u1, rfl, k0, k1⟩ := a4.out; exact (BM x u0 u1 r W k0 k1 hm).weak⟩ Q)) (fun a7 hST => V (bX (cB a) rfl) ?_))))
    cases i
    exact z _ _ ⟨_, (hST.sel (Db St)), G, rfl⟩
  refine bC y (fun g y => ?_) (fun g y => ?_)
  · refine Vn rfl (cB g) (Vn rfl (cB g) (Vn rfl (cB g) (Vn rfl (cB g) (V (bU (cB g) rfl) ?_))))
    cases y
    exact B _ _ ⟨_, (hST.sel St), rfl, rfl, rfl⟩
  refine Vg rfl (cB g) (aN vP rfl) (Vg rfl (cB g) (aJ rfl (aP hST.has Mh rfl Tryz.isAgg108)) (Vg rfl (cB g) (dO Tryz.underlying108 rfl c) (Vg rfl (cB g) (aQ rfl rfl rfl) (V (bX (cB g) rfl) ?_))))
  cases y
  exact B _ _ ⟨_, (hST.sel St), rfl, rfl, rfl⟩
theorem yK (g : Value) (i : List Cred) (r : List Cred) (w : World) (a : Sl (Pl aI) 9 (hp w) g i) (hm : mW i = some r) :
    gQ true Tryz.prog 228 [g] w 53 aI 9 r := by
  have hST := ST.start (dd := true) w
  unfold mW at hm
  refine cF 8 Tryz.func228 rfl (aD (aA (V (aG rfl) (aF (aH (aD (aD (aA (V (aC rfl) ?_)))))))))
  obtain ⟨y, B, rfl⟩ := a.form
  refine V (wU Tryz.underlying22 rfl rfl) (aF (aH ?_))
  rcases y with _ | z
  · have u := a.isNil
    replace hm : some [] = some r := by rw [u] at hm; simpa [fK, maxLen] using hm
    refine uo (rfl) (aD (aA (V (aG rfl) (aF (aH (aU (cU ?_)))))))
    have hx := sj hm; subst hx
    exact eA (v := (.slice none 0 0)) rfl rfl ⟨_, [], rfl, hST.backRow (fun p hq => by cases hq) (by simp), bI.nil _ _ _⟩
  · refine oL (rfl) (aX (aH (aD (aA (VE (aR (qs := #[]) (cs := #[]) hST nZ (bB [] Tryz.underlying22 Tryz.sizeOf53 Tryz.zeroValue53 (by decide) rfl (by simp) rfl rfl) (fun G k hST => V (aC rfl) (bS hm fun H t hm => VE (kG (enc := aI) (v := (.slice (some ⟨k, 0, none⟩) 0 0)) (vs := (.slice (some z) i.length B)) (R := [(k, Obj.cells (#[] : Array Value) 53 (0, 0))]) hST bQ (by decide) gY Tryz.underlying22 fT.1 fT.2.1 rfl fT.2.2.1 fT.2.2.2 rfl rfl (bI.lit (l := []) (enc := aI) rfl (by decide) rfl rfl) (a.mono (Pl.mono _) hST.sub_hp) t (fun D x j hST c => V (aG rfl) (aF (aH (aU ?_)))))))))))))
    have hx := sj hm; subst hx
    exact eA (v := x) rfl rfl ⟨_, j, rfl, hST.backRow (fun p hq => (Ml hq)) c.nd, c⟩
theorem wz (g : Value) (t : List Cred) (j : Value) (B : Cred → Option Bool) (r : Int) (w : World) (c : Sl (Pl aI) 9 (hp w) g t) (D : uE Tryz.prog j (hp w) (fun (x : Cred) => [(.agg (aI x).toArray)]) (fun (r : Bool) => (.bool r)) B) (hm : mR t B = some r) :
    bO false Tryz.prog 260 [g, j] w (.int .i64 r) := by
  have hST := ST.start (dd := false) w
  unfold mR at hm
  refine cF 19 Tryz.func260 rfl (aD (aA (V (aG rfl) (aF (aH (aD (aD (aA (V (aC rfl) (V (dO Tryz.underlying22 rfl c) (V (aC rfl) (aF (aH (dA (fun i E W => ∃  (k : List (Nat × Obj)), (E 8 = .int .i64 (i : Nat) ∧ E 7 = .int .i64 (t.length : Nat)) ∧ ST false dC w W (hp w) k ∧ E 0 = g ∧ E 1 = j ∧ fJ B (t.drop i) i = some r) t.length c.len ⟨_, ⟨rfl, rfl⟩, (hST.sel St), rfl, rfl, hm⟩ (by decide) (by decide) (by decide) (fun _ _ _ h => by obtain ⟨_, eIN, _⟩ := h; exact eIN) ?_ ?_))))))))))))))
  · rintro Q E W H ⟨k, ⟨eI, eN⟩, hST, u, y, a⟩
    obtain ⟨z, T, M, K, N⟩ := cR H
    rw [M] at a
    rw [fJ] at a
    refine aY (aD (aA (V (aC eI) (V (aG rfl) (aF (aH (aD (aA (V (aC y) (V (aC u) (V (aC rfl) (VQ (lZ (enc := aI) (i := (Q : Int)) (x0 := z) Tryz.underlying22 Tryz.sizeOf53 rfl rfl c (Int.natCast_nonneg _) K) (fun Y I => V (aJ rfl (bN hST.has I Tryz.isAgg53 Tryz.sizeOf53)) (bS a fun Z J a => ?_))))))))))))))
    refine VE (Hn z hST D (bE.refl _) rfl (tG rfl) J (fun U hST => aF (aH (CI a rfl (fun G a => ?_) (fun G a => ?_)))))
    · refine aD (aA (V (aC rfl) (V (aG rfl) (aF (aH (aU (fE (cU (fE (cU ?_))))))))))
      have hx := sj a; subst hx
      exact rP hST
    exact aX (cL (aH ⟨eI, _, ⟨rfl, eN⟩, (hST.sel St), u, y, (by rw [N]; exact a)⟩))
  rintro E W ⟨k, ⟨eI, eN⟩, hST, u, y, a⟩
  rw [List.drop_length] at a
  rw [fJ] at a
  refine aH (aD (aA (V (aG rfl) (aF (aH (aU ?_))))))
  have hx := sj a; subst hx
  exact rP hST
theorem vT (j : Value) (a0 : List Cred) (t : List (Nat × Obj)) (H : Value) (f1 : Cred → Option Bool) (r : List Cred) (w : World) {μ0 : bD} (h0 : jU μ0 (t ++ []) w) (T : bI 53 aI 9 j a0 t) (a4 : uE Tryz.prog H μ0 (fun (x : Cred) => [(.agg (aI x).toArray)]) (fun (r : Bool) => (.bool r)) f1) (hm : jW a0 f1 = some r) :
    eB false Tryz.prog 143 [j, H] w (t ++ []) (fun v L1 W' => ∃ (y1 : Value) (S2 : List (Nat × Obj)), v = y1 ∧ L1 = (S2 ++ []) ∧ bI 53 aI 9 y1 r S2) := by
  have hST := ST.startE (dd := false) h0
  unfold jW at hm
  refine cF 42 Tryz.func143 rfl (aD (aA (V (aG rfl) (aF (aH (aD (aA (V (aC rfl) (V (aC rfl) (bS hm fun r1 d3 hm => VE (Eg hST Tryz.call260 ((wz j a0 H f1 _ _ (T.sl bQ (fun b o hq => hST.at_ (Ml hq))) (a4.mono hST.sub_hp) d3)) (fun W3 hST => V (aG rfl) (aF (aH ?_))))))))))))))
  refine aD (aD (aA (V (aC rfl) (V (aQ rfl rfl rfl) (aF (aH (CI hm rfl (fun d2 hm => ?_) (fun d2 hm => ?_))))))))
  · refine aD (aA (V (aC rfl) (V (aG rfl) (aF (aH (aU (cU ?_)))))))
    have hx := sj hm; subst hx
    exact eA (v := j) rfl rfl ⟨_, _, rfl, (hST.bkM (Kr Sn)), j, t, rfl, rfl, T⟩
  refine aX (aH (aD (aD (aA (V (aC rfl) (V (aQ rfl rfl rfl) (V (aG rfl) (aF (aH (aY (iV (fun m E W => ∃ (U : List Cred) (I : List (Nat × Obj)) (B : Int) (D : Int) (a2 : List (Nat × Obj)), ST false (keys (t ++ [])) w W μ0 (I ++ a2) ∧ E 0 = j ∧ E 1 = H ∧ E 5 = (.int .i64 B) ∧ E 6 = (.int .i64 D) ∧ bI 53 aI 9 j U I ∧ fD f1 m U B D = some r) cE ⟨a0, t, r1, ((IntKind.i64.wrap (r1 + 1))), _, (hST.sel St), rfl, rfl, rfl, rfl, T, hm⟩ ?_)))))))))))
  rintro m E W ⟨U, I, B, D, a2, hST, y, Q, G, K, g, a⟩
  cases m with
  | zero => rw [fD] at a; cases a
  | succ c8 =>
    rw [fD] at a
    refine aD (aD (aA (V (aC K) (V (aC y) (V (nV Tryz.underlying22 rfl g) (V (aQ rfl rfl rfl) (aF (aH (CI a rfl (fun b0 a => ?_) (fun b0 a => ?_))))))))))
    · refine aX (aH (aD (CJ a (fun Y E W => ∃ (J : List (Nat × Obj)) (a3 : List (Nat × Obj)), ST false (keys (t ++ [])) w W μ0 (J ++ a3) ∧ E 0 = j ∧ E 1 = H ∧ E 5 = (.int .i64 Y.2) ∧ E 6 = (.int .i64 D) ∧ bI 53 aI 9 j Y.1 J) (fun Y c => ?_) ?_)))
      · refine aY (aD (aA (V (aC y) (V (aC K) (bS c fun k M c => VQ (lA (i := D) (x0 := k) Tryz.underlying22 Tryz.sizeOf53 rfl rfl g (bY M) (bT M)) (fun e4 b3 => V (aJ rfl (rh hST.has (fun p hq => (Ml hq)) g bQ b3 (bT M) Tryz.isAgg53 Tryz.sizeOf53)) (VE (bL hST Tryz.zeroValue53 (fun d7 e2 hST => VO (bH (.agg (aI k).toArray) ((aI k).toArray) hST rfl rfl Tryz.sizeOf53 (gY k) nb rfl (fun d8 hST => aF (aH (aD (aA (V (aC Q) ?_)))))))))))))))
        refine V (aJ rfl (aM hST.has Mh (aI k) rfl Tryz.isAgg53 Tryz.sizeOf53)) (bS c fun e6 b5 c => VE (Hn k hST a4 (bE.refl _) rfl (tG rfl) b5 (fun d9 hST => V (fV rfl) (aF (aH (CI c rfl (fun b1 c => ?_) (fun b1 c => ?_)))))))
        · refine aD (aA (V (aC y) (V (aC G) (V (aJ rfl (aM hST.has Mh (aI k) rfl Tryz.isAgg53 Tryz.sizeOf53)) (bS c fun d0 N c => VQ (lA (i := B) (x0 := d0) Tryz.underlying22 Tryz.sizeOf53 rfl rfl g (bY N) (bT N)) (fun e5 b4 => ?_))))))
          replace hST := hST.perm (Nr (Qb Qz) Nz)
          refine VO (vH (u := (.agg (aI k).toArray)) (x1 := k)  hST g bQ gY rfl rfl rfl b4 (bT N) Tryz.sizeOf53 (fun e0 c1 hST a8 => aF (aH ?_)))
          replace hST := hST.sel (Kr (Db St))
          refine aA (V (aC G) (V (aQ rfl rfl rfl) (V (aG rfl) (aF (cL (aH ?_))))))
          cases c
          exact ⟨c1, _, (hST.sel St), y, Q, rfl, K, a8⟩
        refine aX (cL (aH ?_))
        cases c
        exact ⟨I, _, (hST.sel (Db St)), y, Q, G, K, g⟩
      rintro ⟨c7, c9⟩ E W ⟨J, a3, hST, c3, c4, c5, c6, b6⟩ b2
      exact aA (V (aC c6) (V (aQ rfl rfl rfl) (V (aG rfl) (aF (aH ⟨c8, Nat.lt_succ_self _, c7, J, c9, ((IntKind.i64.wrap (D + 1))), _, (hST.sel St), c3, c4, c5, rfl, b6, b2⟩)))))
    refine iD (gI (gI (pC (aH (aD (aA (V (aC y) (V (aC G) (bS a fun _ Z a => VQ (uT (i := B) Tryz.underlying22 Tryz.sizeOf53 rfl rfl g (rZ Z) (rX Z)) (fun e7 b7 => VO (xj (z := Im)  hST g bQ gY Tryz.underlying22 Tryz.zeroValue53 b7 rfl rfl (fun e1 c2 hST a9 => aF (aH (aD (aA (V (aC y) ?_))))))))))))))))
    refine V (aC G) (bS a fun _ a1 a => VQ (yO (i := B) Tryz.underlying22 Tryz.sizeOf53 rfl rfl a9 bQ (rZ a1) (rX a1)) (fun a5 b9 => V (aG rfl) (aF (aH (aU ?_)))))
    have hx := sj a; subst hx
    exact eA (v := a5) rfl rfl ⟨_, _, rfl, (hST.bkM (Kr Sn)), a5, c2, rfl, rfl, b9⟩
theorem Jk (w : World) (a b : ByteArray) : (callFunc 380 [Value.string a, .string b].toArray).run Tryz.prog w = .ok (.value (.int .i64 (jT a b))) w := Hw Tryz.func380 (by kernel_rfl) (by kernel_rfl) (by kernel_rfl) (by kernel_rfl) a b w
theorem tQ (a : ByteArray) (c : ByteArray) (r : Int) (w : World)  (hm : fA a c = some r) :
    bO true Tryz.prog 330 [(.string a), (.string c)] w (.int .i64 r) := by
  have hST := ST.start (dd := true) w
  unfold fA at hm
  refine cF 8 Tryz.func330 rfl (aD (aA (V (aG rfl) (aF (aH (aD (aA (V (aC rfl) (V (aC rfl) (VE (FC (args := [(.string a), (.string c)]) (v := .int .i64 (jT a c)) rfl (by exact sJ rfl rfl) (Jk _ a c) (V (aG rfl) (aF (aH (aU ?_)))))))))))))))
  have hx := sj hm; subst hx
  exact rP hST
theorem vz (a : ByteArray) (c : ByteArray) (r : Int) (w : World)  (hm : jB a c = some r) :
    bO true Tryz.prog 239 [(.string a), (.string c)] w (.int .i64 r) := by
  have hST := ST.start (dd := true) w
  unfold jB at hm
  refine cF 8 Tryz.func239 rfl (aD (aA (V (aG rfl) (aF (aH (aD (aA (V (aC rfl) (V (aC rfl) (bS hm fun j g hm => VE (Eg hST Tryz.call330 ((tQ a c _ _  g)) (fun i hST => V (aG rfl) (aF (aH ?_))))))))))))))
  refine aU ?_
  have hx := sj hm; subst hx
  exact rP hST
theorem D4 (g : Value) (t : List Int) (r : Int) (w : World) (c : Sl (Pl (bV .i64)) 1 (hp w) g t) (hm : pD t = some r) :
    bO true Tryz.prog 238 [g] w (.int .i64 r) := by
  have hST := ST.start (dd := true) w
  unfold pD at hm
  refine cF 18 Tryz.func238 rfl (aD (aA (V (aG rfl) (aF (aH (aD (aA (V (aG rfl) (aF (aH (aD (aD (aA (V (aC rfl) ?_))))))))))))))
  refine V (dO Tryz.underlying256 rfl c) (V (aC rfl) (aF (aH (dA (fun i E W => ∃  (k : List (Nat × Obj)), (E 8 = .int .i64 (i : Nat) ∧ E 7 = .int .i64 (t.length : Nat)) ∧ ST true dC w W (hp w) k ∧ E 3 = (.int .i64 0) ∧ E 6 = g ∧ kJ (t.drop i) = some r) t.length c.len ⟨_, ⟨rfl, rfl⟩, (hST.sel St), rfl, rfl, hm⟩ (by decide) (by decide) (by decide) (fun _ _ _ h => by obtain ⟨_, eIN, _⟩ := h; exact eIN) ?_ ?_))))
  · rintro J E W B ⟨k, ⟨eI, eN⟩, hST, j, u, a⟩
    obtain ⟨x, K, H, G, I⟩ := cR B
    rw [H] at a
    rw [kJ] at a
    refine aY (aD (aA (VQ (lZ (enc := (bV .i64)) (i := (J : Int)) (x0 := x) Tryz.underlying256 Tryz.sizeOf3 u eI c (Int.natCast_nonneg _) G) (fun M D => V (aJ rfl (nU hST.has (y := (.int .i64 x)) D Tryz.isAgg3)) (V (aG rfl) (aF (aH (aD (aA (V (aC rfl) (V (aC j) (V (aQ rfl rfl rfl) (aF (aH ?_))))))))))))))
    refine CI a rfl (fun z a => ?_) (fun z a => ?_)
    · refine aD (aA (V (aC rfl) (V (aG rfl) (aF (aH (aU (fE (cU (fE (cU ?_))))))))))
      have hx := sj a; subst hx
      exact rP hST
    exact aX (cL (aH ⟨eI, _, ⟨rfl, eN⟩, (hST.sel St), j, u, (by rw [I]; exact a)⟩))
  rintro E W ⟨k, ⟨eI, eN⟩, hST, j, u, a⟩
  rw [List.drop_length] at a
  rw [kJ] at a
  refine aH (aD (aA (V (aC j) (V (aG rfl) (aF (aH (aU ?_)))))))
  have hx := sj a; subst hx
  exact rP hST
theorem xz (g : Role) (i : Role) (r : Int) (w : World)  (hm : iY g i = some r) :
    bO true Tryz.prog 123 [(.agg (aO g).toArray), (.agg (aO i).toArray)] w (.int .i64 r) := by
  have hST := ST.start (dd := true) w
  unfold iY at hm
  refine cF 17 Tryz.func123 rfl (aD (aA (VE (cO (v := (.agg (aO g).toArray)) hST rfl (fun G I hST => VE (cO (v := (.agg (aO i).toArray)) hST rfl (fun H J hST => V (aG rfl) (aF (aH (aD ?_))))))))))
  replace hST := hST.drew
  have hS0 := hST.has.sel (Kb (Kb Sn))
  refine cX hS0 cC (X 0 rfl hS0 (aN qM rfl) (XH 1 rfl hS0 (fun _ hS => aJ rfl (aP hS (Mt Mh) rfl Tryz.isAgg9)) (X 2 rfl hS0 (aN qM rfl) (XH 3 rfl hS0 (fun _ hS => aJ rfl (aP hS Mh rfl Tryz.isAgg9)) (X 5 rfl hS0 (aN te rfl) (XH 6 rfl hS0 (fun _ hS => aJ rfl (aP hS (Mt Mh) rfl Tryz.isAgg9)) (X 7 rfl hS0 (aN te rfl) (XH 8 rfl hS0 (fun _ hS => aJ rfl (aP hS Mh rfl Tryz.isAgg9)) (bS hm fun a j hm => XE 4 rfl (Eg hST Tryz.call239 ((vz g.Owner i.Owner _ _  j)) (fun x hST => ?_)))))))))))
  have hS0 := hST.has.sel (Kb (Kb Sn))
  refine ⟨hS0, (bS hm fun c k hm => XE 9 rfl (Eg hST Tryz.call239 ((vz g.Word i.Word _ _  k)) (fun y hST => ?_)))⟩
  have hS0 := hST.has.sel (Kb (Kb Sn))
  refine ⟨hS0, (XE 10 rfl (aR (qs := #[(0, (.int .i64 a)), (1, (.int .i64 c))]) (cs := #[(.int .i64 a), (.int .i64 c)]) hST (fR rfl rfl) (bB [(.int .i64 a), (.int .i64 c)] Tryz.underlying256 Tryz.sizeOf3 Tryz.zeroValue3 (by decide) rfl (by intro v hv; simp only [List.mem_cons, List.not_mem_nil, or_false] at hv; rcases hv with rfl | rfl <;> rfl) rfl rfl) (fun z u hST => ?_)))⟩
  have hS0 := hST.has.sel (Db (Kb (Kb Sn)))
  refine ⟨hS0, (bS hm fun D t hm => XE 11 rfl (Eg hST Tryz.call238 ((D4 (.slice (some ⟨u, 0, none⟩) 2 2) ([a, c]) _ _ (Sl.lit (enc := (bV .i64)) (l := [a, c]) (fun _ => rfl) rfl nb rfl (hST.at_ Mh)) t)) (fun B hST => ?_)))⟩
  have hS0 := hST.has.sel (Db (Kb (Kb Sn)))
  refine ⟨hS0, (X 12 rfl hS0 (aG rfl) (dB (by kernel_rfl) (aH ?_)))⟩
  replace hST := hST.sel (Db (Db (Db St)))
  refine aU ?_
  have hx := sj hm; subst hx
  exact rP hST
theorem su (a : Cred) (r : Bool) (w : World)  (hm : mC a = some r) :
    bO true Tryz.prog 137 [(.agg (aI a).toArray)] w (.bool r) := by
  have hST := ST.start (dd := true) w
  unfold mC at hm
  refine cF 98 Tryz.func137 rfl (aD (aA (VE (cO (v := (.agg (aI a).toArray)) hST rfl (fun W2 N hST => V (aG rfl) (aF (aH (aD (aA (V (aN uq rfl) (V (aJ rfl (aP hST.has Mh rfl Tryz.isAgg3)) (V (aN oA rfl) (V (aJ rfl (aM hST.has Mh (aO a.Head) rfl Tryz.isAgg28 Tryz.sizeOf28)) (V (bJ (qs := #[(0, (.int .i64 a.Kind)), (1, (.agg (aO a.Head).toArray))]) (v := (.agg (aI ((⟨a.Kind, a.Head, zS, K0, K0, zS⟩ : Cred))).toArray)) (fR rfl rfl) (aW Tryz.zeroValue53 Tryz.underlying53 (Fp _ Tryz.underlying53) (by kernel_rfl))) (VE (bL hST Tryz.zeroValue53 (fun W4 B hST => ?_)))))))))))))))))
  refine VO (bH (.agg (aI ((⟨a.Kind, a.Head, zS, K0, K0, zS⟩ : Cred))).toArray) ((aI ((⟨a.Kind, a.Head, zS, K0, K0, zS⟩ : Cred))).toArray) hST rfl rfl Tryz.sizeOf53 (gY ((⟨a.Kind, a.Head, zS, K0, K0, zS⟩ : Cred))) nb rfl (fun W5 hST => aF (aH (aD (aA (V (aN oA rfl) (V (aJ rfl (aM hST.has (Mt Mh) (aO a.Head) rfl Tryz.isAgg28 Tryz.sizeOf28)) (bS hm fun r6 j0 hm => VE (Eg hST Tryz.call254 ((nP a.Head _ _  j0)) (fun W8 hST => V (aG rfl) (aF (aH (aD (Ib hm (fun b5 E W => ∃  (b6 : List (Nat × Obj)), ST true dC w W (hp w) ((B, Obj.cells ((aI b5.2).toArray : Array Value) 53 (0, 0)) :: ((N, Obj.cells ((aI a).toArray : Array Value) 53 (0, 0)) :: b6)) ∧ E 1 = (.pointer (some ⟨N, 0, none⟩)) ∧ E 3 = (.pointer (some ⟨B, 0, none⟩)) ∧ E 4 = (.bool b5.1)) (fun b5 g Z => ?_) ?_))))))))))))))
  · refine aD (aA (V (aN uq rfl) (V (aJ rfl (aP hST.has (Mt Mh) rfl Tryz.isAgg3)) (aF (aH (aY (aD (aA (V (aQ rfl rfl rfl) (V (aG rfl) (aF (aH (CI g rfl (fun e5 g => ?_) (fun e5 g => ?_))))))))))))))
    · replace hST := hST.drew
      have hS0 := hST.has.sel (Db (Kb Sn))
      refine cX hS0 cC (X 0 rfl hS0 (aN xG rfl) (XH 1 rfl hS0 (fun _ hS => aJ rfl (aP hS Mh rfl Tryz.isAgg9)) (X 2 rfl hS0 (aC rfl) (X 3 rfl hS0 (aC rfl) (X 8 rfl hS0 (aN xG rfl) (PJ g (fun d6 E W => ∃  (b9 : List (Nat × Obj)), ST true dC w W (hp w) ((B, Obj.cells ((aI ((⟨a.Kind, a.Head, zS, K0, K0, zS⟩ : Cred))).toArray : Array Value) 53 (0, 0)) :: ((N, Obj.cells ((aI a).toArray : Array Value) 53 (0, 0)) :: b9)) ∧ E 1 = (.pointer (some ⟨N, 0, none⟩)) ∧ E 3 = (.pointer (some ⟨B, 0, none⟩)) ∧ E 4 = (.bool r6) ∧ E 18 = (.string a.Who) ∧ E 24 = (.bool d6) ∧ E 25 = (.pointer (some ⟨B, 3, none⟩))) (bm 11 511) 2 ?_ (fun d6 D a2 => ?_)))))))
      · rintro l9 E W ⟨b9, hST, h0, h1, k6, h2, h3, h4⟩ f1
        have hS0 := hST.has.sel (Db (Kb Sn))
        refine XO 9 rfl (bH (.string a.Who) ((aI ((⟨a.Kind, a.Head, a.Who, K0, K0, zS⟩ : Cred))).toArray) hST h4 h2 Tryz.sizeOf9 (Jm a.Who) nb rfl (fun j3 hST => ?_))
        have hS0 := hST.has.sel (Db (Kb Sn))
        refine ⟨hS0, (X 10 rfl hS0 (aG h3) (dB (by kernel_rfl) (cL (aH ?_))))⟩
        cases f1
        exact ⟨_, rfl, _, (hST.sel St), h0, h1, rfl⟩
      refine bC D (fun k D => ?_) (fun k D => ?_)
      · refine Xg 4 rfl rfl (cB k) hS0 (aN xG rfl) (oN 5 rfl rfl (cB k) hS0 (fun _ hS => aJ rfl (aP hS Mh rfl Tryz.isAgg9)) (bS D fun l0 f9 D => vm 6 rfl rfl (cB k) (Eg hST Tryz.call152 ((qT a.Who _ _  f9)) (fun j4 hST => ?_))))
        have hS0 := hST.has.sel (Db (Kb Sn))
        refine ⟨hS0, (X 7 rfl hS0 (bU (cB k) rfl) ?_)⟩
        cases D
        refine cV (by kernel_rfl) (a2 _ _ ⟨_, (hST.sel St), rfl, rfl, rfl, rfl, rfl, rfl⟩)
      refine Xn 4 rfl rfl (cB k) hS0 (Xn 5 rfl rfl (cB k) hS0 (Xn 6 rfl rfl (cB k) hS0 (X 7 rfl hS0 (bX (cB k) rfl) ?_)))
      cases D
      refine cV (by kernel_rfl) (a2 _ _ ⟨_, (hST.sel St), rfl, rfl, rfl, rfl, rfl, rfl⟩)
    refine aD (aA (V (aQ rfl rfl rfl) (V (aG rfl) (aF (aH (CI g rfl (fun e6 g => ?_) (fun e6 g => ?_)))))))
    · replace hST := hST.drew
      have hS0 := hST.has.sel (Db (Kb Sn))
      refine cX hS0 cC (X 0 rfl hS0 (aN kR rfl) (XH 1 rfl hS0 (fun _ hS => aJ rfl (aM hS Mh (aO a.B) rfl Tryz.isAgg28 Tryz.sizeOf28)) (X 2 rfl hS0 (aC rfl) (X 3 rfl hS0 (aC rfl) (X 8 rfl hS0 (aN kR rfl) (PJ g (fun d7 E W => ∃  (c0 : List (Nat × Obj)), ST true dC w W (hp w) ((B, Obj.cells ((aI ((⟨a.Kind, a.Head, zS, K0, K0, zS⟩ : Cred))).toArray : Array Value) 53 (0, 0)) :: ((N, Obj.cells ((aI a).toArray : Array Value) 53 (0, 0)) :: c0)) ∧ E 1 = (.pointer (some ⟨N, 0, none⟩)) ∧ E 3 = (.pointer (some ⟨B, 0, none⟩)) ∧ E 4 = (.bool r6) ∧ E 29 = (.agg (aO a.B).toArray) ∧ E 35 = (.bool d7) ∧ E 36 = (.pointer (some ⟨B, 4, none⟩))) (bm 11 511) 2 ?_ (fun d7 G a3 => ?_)))))))
      · rintro m0 E W ⟨c0, hST, h5, h6, k7, h7, h8, h9⟩ f2
        have hS0 := hST.has.sel (Db (Kb Sn))
        refine XO 9 rfl (bH (.agg (aO a.B).toArray) ((aI ((⟨a.Kind, a.Head, zS, a.B, K0, zS⟩ : Cred))).toArray) hST h9 h7 Tryz.sizeOf28 (rI a.B) nb rfl (fun j5 hST => ?_))
        have hS0 := hST.has.sel (Db (Kb Sn))
        refine ⟨hS0, (X 10 rfl hS0 (aG h8) (dB (by kernel_rfl) (cL (aH ?_))))⟩
        cases f2
        exact ⟨_, rfl, _, (hST.sel St), h5, h6, rfl⟩
      refine bC G (fun t G => ?_) (fun t G => ?_)
      · refine Xg 4 rfl rfl (cB t) hS0 (aN kR rfl) (oN 5 rfl rfl (cB t) hS0 (fun _ hS => aJ rfl (aM hS Mh (aO a.B) rfl Tryz.isAgg28 Tryz.sizeOf28)) (bS G fun l1 g0 G => vm 6 rfl rfl (cB t) (Eg hST Tryz.call254 ((nP a.B _ _  g0)) (fun j6 hST => ?_))))
        have hS0 := hST.has.sel (Db (Kb Sn))
        refine ⟨hS0, (X 7 rfl hS0 (bU (cB t) rfl) ?_)⟩
        cases G
        refine cV (by kernel_rfl) (a3 _ _ ⟨_, (hST.sel St), rfl, rfl, rfl, rfl, rfl, rfl⟩)
      refine Xn 4 rfl rfl (cB t) hS0 (Xn 5 rfl rfl (cB t) hS0 (Xn 6 rfl rfl (cB t) hS0 (X 7 rfl hS0 (bX (cB t) rfl) ?_)))
      cases G
      refine cV (by kernel_rfl) (a3 _ _ ⟨_, (hST.sel St), rfl, rfl, rfl, rfl, rfl, rfl⟩)
    refine aD (aA (V (aQ rfl rfl rfl) (V (aG rfl) (aF (aH (CI g rfl (fun e7 g => ?_) (fun e7 g => ?_)))))))
    · refine aD ?_
      replace hST := hST.drew
      have hS0 := hST.has.sel (Db (Kb Sn))
      refine cX hS0 cC (X 0 rfl hS0 (aN kR rfl) (XH 1 rfl hS0 (fun _ hS => aJ rfl (aM hS Mh (aO a.B) rfl Tryz.isAgg28 Tryz.sizeOf28)) (X 2 rfl hS0 (aN uX rfl) (XH 3 rfl hS0 (fun _ hS => aJ rfl (aP hS Mh rfl Tryz.isAgg9)) (X 4 rfl hS0 (aN kR rfl) (XO 5 rfl (bH (.agg (aO a.B).toArray) ((aI ((⟨a.Kind, a.Head, zS, a.B, K0, zS⟩ : Cred))).toArray) hST rfl rfl Tryz.sizeOf28 (rI a.B) nb rfl (fun j7 hST => ?_))))))))
      have hS0 := hST.has.sel (Db (Kb Sn))
      refine ⟨hS0, (X 6 rfl hS0 (aN uX rfl) (XO 7 rfl (bH (.string a.Word2) ((aI ((⟨a.Kind, a.Head, zS, a.B, K0, a.Word2⟩ : Cred))).toArray) hST rfl rfl Tryz.sizeOf9 (Jm a.Word2) nb rfl (fun j8 hST => ?_))))⟩
      have hS0 := hST.has.sel (Db (Kb Sn))
      refine ⟨hS0, (dB (by kernel_rfl) (aH (aA (V (aC rfl) (V (aC rfl) (LJ g (fun e0 E W => ∃  (c1 : List (Nat × Obj)), ST true dC w W (hp w) ((B, Obj.cells ((aI ((⟨a.Kind, a.Head, zS, a.B, K0, a.Word2⟩ : Cred))).toArray : Array Value) 53 (0, 0)) :: ((N, Obj.cells ((aI a).toArray : Array Value) 53 (0, 0)) :: c1)) ∧ E 1 = (.pointer (some ⟨N, 0, none⟩)) ∧ E 3 = (.pointer (some ⟨B, 0, none⟩)) ∧ E 4 = (.bool r6) ∧ E 50 = (.bool e0)) 4 ?_ (fun e0 I a6 => ?_)))))))⟩
      · rintro m1 E W ⟨c1, hST, U, c7, c8, i0⟩ f3
        refine V (aC i0) (LJ f3 (fun d9 E W => ∃  (c2 : List (Nat × Obj)), ST true dC w W (hp w) ((B, Obj.cells ((aI ((⟨a.Kind, a.Head, zS, a.B, K0, a.Word2⟩ : Cred))).toArray : Array Value) 53 (0, 0)) :: ((N, Obj.cells ((aI a).toArray : Array Value) 53 (0, 0)) :: c2)) ∧ E 1 = (.pointer (some ⟨N, 0, none⟩)) ∧ E 3 = (.pointer (some ⟨B, 0, none⟩)) ∧ E 4 = (.bool r6) ∧ E 59 = (.bool d9)) 8 ?_ (fun d9 T a5 => ?_))
        · rintro m2 E W ⟨c2, hST, b2, c9, d0, i1⟩ f4
          refine V (aC i1) (LJ f4 (fun d8 E W => ∃  (c3 : List (Nat × Obj)), ST true dC w W (hp w) ((B, Obj.cells ((aI ((⟨a.Kind, a.Head, zS, a.B, K0, a.Word2⟩ : Cred))).toArray : Array Value) 53 (0, 0)) :: ((N, Obj.cells ((aI a).toArray : Array Value) 53 (0, 0)) :: c3)) ∧ E 1 = (.pointer (some ⟨N, 0, none⟩)) ∧ E 3 = (.pointer (some ⟨B, 0, none⟩)) ∧ E 4 = (.bool r6) ∧ E 64 = (.bool d8)) 4 ?_ (fun d8 H a4 => ?_))
          · rintro m3 E W ⟨c3, hST, i2, i3, k8, i4⟩ f5
            refine V (aG i4) (aF (cL (aH ?_)))
            cases f5
            exact ⟨_, rfl, _, (hST.sel St), i2, i3, rfl⟩
          refine bC H (fun x H => ?_) (fun x H => ?_)
          · refine Vg rfl (cB x) (aN uX b2) (Vg rfl (cB x) (aJ rfl (aP hST.has (Mt Mh) rfl Tryz.isAgg9)) (bS H fun l2 g1 H => oO rfl (cB x) (Eg hST Tryz.call152 ((qT a.Word2 _ _  g1)) (fun j9 hST => V (bU (cB x) rfl) ?_))))
            cases H
            exact a4 _ _ ⟨_, (hST.sel St), b2, c9, d0, rfl⟩
          refine Vn rfl (cB x) (Vn rfl (cB x) (Vn rfl (cB x) (V (bX (cB x) rfl) ?_)))
          cases H
          exact a4 _ _ ⟨_, (hST.sel St), b2, c9, d0, rfl⟩
        refine bC T (fun c T => ?_) (fun c T => ?_)
        · refine Vg rfl (cB c) (aN kR U) (Vg rfl (cB c) (aN qM rfl) (Vg rfl (cB c) (aJ rfl (aP hST.has (Mt Mh) rfl Tryz.isAgg9)) (Vg rfl (cB c) (aN oA U) (Vg rfl (cB c) (aN qM rfl) (Vg rfl (cB c) (aJ rfl (aP hST.has (Mt Mh) rfl Tryz.isAgg9)) (Vg rfl (cB c) (H8 rfl rfl rfl) (V (bU (cB c) rfl) ?_)))))))
          cases T
          exact a5 _ _ ⟨_, (hST.sel St), U, c7, c8, rfl⟩
        refine Vn rfl (cB c) (Vn rfl (cB c) (Vn rfl (cB c) (Vn rfl (cB c) (Vn rfl (cB c) (Vn rfl (cB c) (Vn rfl (cB c) (V (bX (cB c) rfl) ?_)))))))
        cases T
        exact a5 _ _ ⟨_, (hST.sel St), U, c7, c8, rfl⟩
      refine bC I (fun u I => ?_) (fun u I => ?_)
      · refine Vg rfl (cB u) (aN kR rfl) (Vg rfl (cB u) (aJ rfl (aM hST.has (Mt Mh) (aO a.B) rfl Tryz.isAgg28 Tryz.sizeOf28)) (bS I fun l3 g2 I => oO rfl (cB u) (Eg hST Tryz.call254 ((nP a.B _ _  g2)) (fun k0 hST => V (bU (cB u) rfl) ?_))))
        cases I
        exact a6 _ _ ⟨_, (hST.sel St), rfl, rfl, rfl, rfl⟩
      refine Vn rfl (cB u) (Vn rfl (cB u) (Vn rfl (cB u) (V (bX (cB u) rfl) ?_)))
      cases I
      exact a6 _ _ ⟨_, (hST.sel St), rfl, rfl, rfl, rfl⟩
    refine aD (aA (V (aQ rfl rfl rfl) (V (aG rfl) (aF (aH (CI g rfl (fun e8 g => ?_) (fun e8 g => ?_)))))))
    · refine aD ?_
      replace hST := hST.drew
      have hS0 := hST.has.sel (Db (Kb Sn))
      refine cX hS0 cC (X 0 rfl hS0 (aN kR rfl) (XH 1 rfl hS0 (fun _ hS => aJ rfl (aM hS Mh (aO a.B) rfl Tryz.isAgg28 Tryz.sizeOf28)) (X 2 rfl hS0 (aN un rfl) (XH 3 rfl hS0 (fun _ hS => aJ rfl (aM hS Mh (aO a.C) rfl Tryz.isAgg28 Tryz.sizeOf28)) (X 4 rfl hS0 (aN kR rfl) (XO 5 rfl (bH (.agg (aO a.B).toArray) ((aI ((⟨a.Kind, a.Head, zS, a.B, K0, zS⟩ : Cred))).toArray) hST rfl rfl Tryz.sizeOf28 (rI a.B) nb rfl (fun k1 hST => ?_))))))))
      have hS0 := hST.has.sel (Db (Kb Sn))
      refine ⟨hS0, (X 6 rfl hS0 (aN un rfl) (XO 7 rfl (bH (.agg (aO a.C).toArray) ((aI ((⟨a.Kind, a.Head, zS, a.B, a.C, zS⟩ : Cred))).toArray) hST rfl rfl Tryz.sizeOf28 (rI a.C) nb rfl (fun k2 hST => ?_))))⟩
      have hS0 := hST.has.sel (Db (Kb Sn))
      refine ⟨hS0, (dB (by kernel_rfl) (aH (aA (V (aC rfl) (V (aC rfl) (LJ g (fun e3 E W => ∃  (c4 : List (Nat × Obj)), ST true dC w W (hp w) ((B, Obj.cells ((aI ((⟨a.Kind, a.Head, zS, a.B, a.C, zS⟩ : Cred))).toArray : Array Value) 53 (0, 0)) :: ((N, Obj.cells ((aI a).toArray : Array Value) 53 (0, 0)) :: c4)) ∧ E 1 = (.pointer (some ⟨N, 0, none⟩)) ∧ E 3 = (.pointer (some ⟨B, 0, none⟩)) ∧ E 4 = (.bool r6) ∧ E 78 = (.bool e3)) 4 ?_ (fun e3 M a9 => ?_)))))))⟩
      · rintro m4 E W ⟨c4, hST, b4, d1, d2, i5⟩ f6
        refine V (aC i5) (LJ f6 (fun e2 E W => ∃  (c5 : List (Nat × Obj)), ST true dC w W (hp w) ((B, Obj.cells ((aI ((⟨a.Kind, a.Head, zS, a.B, a.C, zS⟩ : Cred))).toArray : Array Value) 53 (0, 0)) :: ((N, Obj.cells ((aI a).toArray : Array Value) 53 (0, 0)) :: c5)) ∧ E 1 = (.pointer (some ⟨N, 0, none⟩)) ∧ E 3 = (.pointer (some ⟨B, 0, none⟩)) ∧ E 4 = (.bool r6) ∧ E 83 = (.bool e2)) 4 ?_ (fun e2 K a8 => ?_))
        · rintro m5 E W ⟨c5, hST, Y, d3, d4, i6⟩ f7
          refine V (aC i6) (LJ f7 (fun e1 E W => ∃  (c6 : List (Nat × Obj)), ST true dC w W (hp w) ((B, Obj.cells ((aI ((⟨a.Kind, a.Head, zS, a.B, a.C, zS⟩ : Cred))).toArray : Array Value) 53 (0, 0)) :: ((N, Obj.cells ((aI a).toArray : Array Value) 53 (0, 0)) :: c6)) ∧ E 1 = (.pointer (some ⟨N, 0, none⟩)) ∧ E 3 = (.pointer (some ⟨B, 0, none⟩)) ∧ E 4 = (.bool r6) ∧ E 91 = (.bool e1)) 7 ?_ (fun e1 J a7 => ?_))
          · rintro m6 E W ⟨c6, hST, i7, i8, k9, i9⟩ f8
            refine V (aG i9) (aF (cL (aH ?_)))
            cases f8
            exact ⟨_, rfl, _, (hST.sel St), i7, i8, rfl⟩
          refine bC J (fun i J => ?_) (fun i J => ?_)
          · refine Vg rfl (cB i) (aN kR Y) (Vg rfl (cB i) (aJ rfl (aM hST.has (Mt Mh) (aO a.B) rfl Tryz.isAgg28 Tryz.sizeOf28)) (Vg rfl (cB i) (aN un Y) (Vg rfl (cB i) (aJ rfl (aM hST.has (Mt Mh) (aO a.C) rfl Tryz.isAgg28 Tryz.sizeOf28)) (bS J fun l4 g3 J => oO rfl (cB i) (Eg hST Tryz.call123 ((xz a.B a.C _ _  g3)) (fun k3 hST => Vg rfl (cB i) (aQ rfl rfl rfl) (V (bU (cB i) rfl) ?_)))))))
            cases J
            exact a7 _ _ ⟨_, (hST.sel St), Y, d3, d4, rfl⟩
          refine Vn rfl (cB i) (Vn rfl (cB i) (Vn rfl (cB i) (Vn rfl (cB i) (Vn rfl (cB i) (Vn rfl (cB i) (V (bX (cB i) rfl) ?_))))))
          cases J
          exact a7 _ _ ⟨_, (hST.sel St), Y, d3, d4, rfl⟩
        refine bC K (fun z K => ?_) (fun z K => ?_)
        · refine Vg rfl (cB z) (aN un b4) (Vg rfl (cB z) (aJ rfl (aM hST.has (Mt Mh) (aO a.C) rfl Tryz.isAgg28 Tryz.sizeOf28)) (bS K fun l5 g4 K => oO rfl (cB z) (Eg hST Tryz.call254 ((nP a.C _ _  g4)) (fun k4 hST => V (bU (cB z) rfl) ?_))))
          cases K
          exact a8 _ _ ⟨_, (hST.sel St), b4, d1, d2, rfl⟩
        refine Vn rfl (cB z) (Vn rfl (cB z) (Vn rfl (cB z) (V (bX (cB z) rfl) ?_)))
        cases K
        exact a8 _ _ ⟨_, (hST.sel St), b4, d1, d2, rfl⟩
      refine bC M (fun y M => ?_) (fun y M => ?_)
      · refine Vg rfl (cB y) (aN kR rfl) (Vg rfl (cB y) (aJ rfl (aM hST.has (Mt Mh) (aO a.B) rfl Tryz.isAgg28 Tryz.sizeOf28)) (bS M fun l6 g5 M => oO rfl (cB y) (Eg hST Tryz.call254 ((nP a.B _ _  g5)) (fun k5 hST => V (bU (cB y) rfl) ?_))))
        cases M
        exact a9 _ _ ⟨_, (hST.sel St), rfl, rfl, rfl, rfl⟩
      refine Vn rfl (cB y) (Vn rfl (cB y) (Vn rfl (cB y) (V (bX (cB y) rfl) ?_)))
      cases M
      exact a9 _ _ ⟨_, (hST.sel St), rfl, rfl, rfl, rfl⟩
    refine aD (aA (V (aG rfl) (aF (aH ?_))))
    replace hST := hST.sel (Db (Db St))
    refine aU (fE (cU ?_))
    have hx := sj g; subst hx
    replace Z : some false = some r := Z
    have hx := sj Z; subst hx
    exact rP hST
  rintro ⟨l7, e4⟩ E W ⟨b6, hST, g6, g7, g8⟩ e9
  refine aD (aA (V (aC g8) (V (aC rfl) (LJ e9 (fun d5 E W => ∃  (b7 : List (Nat × Obj)), ST true dC w W (hp w) b7 ∧ E 97 = (.bool d5)) 4 ?_ (fun d5 Q a1 => ?_)))))
  · rintro l8 E W ⟨b7, hST, g9⟩ f0
    refine V (aG g9) (aF (aH (aU ?_)))
    have hx := sj f0; subst hx
    exact rP hST
  refine bC Q (fun j Q => ?_) (fun j Q => ?_)
  · refine Vg rfl (cB j) (aJ g7 (aM hST.has Mh (aI e4) rfl Tryz.isAgg53 Tryz.sizeOf53)) (Vg rfl (cB j) (aJ g6 (aM hST.has (Mt Mh) (aI a) rfl Tryz.isAgg53 Tryz.sizeOf53)) (Vg rfl (cB j) (vJ rfl rfl (nM Tryz.eqGuardType53) (sR (tN _ e4 a))) (V (bU (cB j) rfl) ?_)))
    cases Q
    exact a1 _ _ ⟨_, (hST.sel (Db (Db St))), rfl⟩
  refine Vn rfl (cB j) (Vn rfl (cB j) (Vn rfl (cB j) (V (bX (cB j) rfl) ?_)))
  cases Q
  exact a1 _ _ ⟨_, (hST.sel (Db (Db St))), rfl⟩
theorem CZ (a : Cred) (r : Bool) (w : World)  (hm : rz a = some r) :
    bO true Tryz.prog 229 [(.agg (aI a).toArray)] w (.bool r) := by
  have hST := ST.start (dd := true) w
  unfold rz at hm
  refine cF 6 Tryz.func229 rfl (aD (aA (VE (cO (v := (.agg (aI a).toArray)) hST rfl (fun g j hST => V (aG rfl) (aF (aH (aD (aA (V (aJ rfl (aM hST.has Mh (aI a) rfl Tryz.isAgg53 Tryz.sizeOf53)) (bS hm fun k c hm => VE (Eg hST Tryz.call137 ((su a _ _  c)) (fun i hST => V (fV rfl) (V (aG rfl) (aF ?_)))))))))))))))
  refine aH ?_
  replace hST := hST.sel (Db St)
  refine aU ?_
  have hx := sj hm; subst hx
  exact rP hST
theorem FT (c : Value) (k : List Cred) (a : List (Nat × Obj)) (g : Value) (t : ((Cred × Cred)) → Option Int) (r : List Cred) (w : World) {y : bD} (u : jU y (a ++ []) w) (i : bI 53 aI 9 c k a) (j : Kz Tryz.prog g y (fun (x : (Cred × Cred)) => [(.agg (aI x.1).toArray), (.agg (aI x.2).toArray)]) (fun (r : Int) => (.int .i64 r)) t) (hm : uR t k = some r) :
    eB true Tryz.prog 230 [c, g] w (a ++ []) (fun v z W' => ∃ (S : List (Nat × Obj)), v = (.tuple #[]) ∧ z = (S ++ []) ∧ bI 53 aI 9 c r S) := ED (P := Tryz.prog) (ρ := Gi) JD 9 Tryz.isAgg53 Tryz.sizeOf53 aI bQ gY u.H u.S i j hm
theorem wh (c : Cred) (r : List Int) (w : World)  (hm : oV c = some r) :
    gQ true Tryz.prog 155 [(.agg (aI c).toArray)] w 5 (bV .u8) 1 r := by
  have hST := ST.start (dd := true) w
  unfold oV at hm
  refine cF 53 Tryz.func155 rfl (aD (aA (VE (cO (v := (.agg (aI c).toArray)) hST rfl (fun W2 b1 hST => V (aG rfl) (aF (aH (aD (aD (aA (V (aJ rfl (aM hST.has Mh (aI c) rfl Tryz.isAgg53 Tryz.sizeOf53)) (bS hm fun r3 g3 hm => VE (Eg hST Tryz.call137 ((su c _ _  g3)) (fun W5 hST => V (fV rfl) (aF ?_)))))))))))))))
  refine aH (CI hm rfl (fun g0 hm => ?_) (fun g0 hm => ?_))
  · refine aD (aA (V (aG rfl) (aF (aH ?_))))
    replace hST := hST.sel (Db St)
    refine aU (cU ?_)
    have hx := sj hm; subst hx
    exact eA (v := (.slice none 0 0)) rfl rfl ⟨_, [], rfl, hST.backRow (fun p hq => by cases hq) (by simp), bI.nil _ _ _⟩
  refine aX (aH (aD (aA (V (bJ (qs := #[]) (v := (.agg #[(.slice none 0 0)])) nZ (aW Tryz.zeroValue92 Tryz.underlying92 (J6 _ Tryz.underlying92) (by kernel_rfl))) (VE (cO (v := (.agg #[(.slice none 0 0)])) hST rfl (fun W8 g hST => V (aG rfl) (aF (aH (aD (aA (V (aC rfl) (V (aN uq rfl) (V (aJ rfl (aP hST.has (Mt Mh) rfl Tryz.isAgg3)) (bS hm fun r9 e2 hm => ?_)))))))))))))))
  have hsz := hST.size
  refine VE (mL hST (Cb Pz (C0 Cn)) Tryz.call268 (fun hH hN hsb hmm => (mY g (.slice none 0 0) ([]) [] c.Kind _ _ ⟨hH, hN, bE.refl _⟩ (bI.nil _ _ _) e2)) (fun j9 k1 k3 j7 hST g5 hl14 hlift e0 => ?_))
  obtain ⟨g4, f9, I, rfl, e4⟩ := e0
  replace I := I.symm; subst I
  replace hST := hST.perm (Tb (Tr Tn))
  refine aF (aH (aD (aA (V (aC rfl) (V (aN oA rfl) (V (aJ rfl (aM hST.has (Mt (Ma Mh)) (aO c.Head) rfl Tryz.isAgg28 Tryz.sizeOf28)) (bS hm fun N e3 hm => ?_)))))))
  have hsz := hST.size
  refine VE (mL hST (Cb Pz (Cr Qz Cn)) Tryz.call269 (fun hH hN hsb hmm => (qQ g g4 r9.2 f9 c.Head _ _ ⟨hH, hN, bE.refl _⟩ e4 e3)) (fun k0 k2 d1 j8 hST g6 hl27 hlift e1 => ?_))
  obtain ⟨G, D, J, rfl, i⟩ := e1
  replace J := J.symm; subst J
  replace hST := hST.perm (Tb (Tr Tn))
  refine aF (aH (aD (CJ hm (fun a3 E W => ∃ (B : Value) (H : List (Nat × Obj)) (K : bD) (Q : List (Nat × Obj)), bE d1 K ∧ ST true dC w W K ((g, Obj.cells (#[B] : Array Value) 92 (0, 0)) :: (H ++ Q)) ∧ E 3 = (.pointer (some ⟨g, 0, none⟩)) ∧ bI 5 (bV .u8) 1 B a3 H) (fun a3 a => ?_) ?_)))
  · refine aD (aA (V (aN uq rfl) (V (aJ rfl (aP hST.has (Mt (Ma Mh)) rfl Tryz.isAgg3)) (aF (aH (aY (aD (aA (V (aQ rfl rfl rfl) (V (aG rfl) (aF (aH (CI a rfl (fun b0 a => ?_) (fun b0 a => ?_))))))))))))))
    · refine aA (V (aC rfl) (V (aN xG rfl) (V (aJ rfl (aP hST.has (Mt (Ma Mh)) rfl Tryz.isAgg9)) (bS a fun i1 b6 a => ?_))))
      have hsz := hST.size
      refine VE (mL hST (Cb Pz (Cr Qz Cn)) Tryz.call270 (fun hH hN hsb hmm => (uf g G N.2 D c.Who _ _ ⟨hH, hN, bE.refl _⟩ i b6)) (fun h4 i6 f5 g7 hST T hl144 hlift a4 => ?_))
      obtain ⟨e9, d3, k, rfl, c5⟩ := a4
      replace k := k.symm; subst k
      replace hST := hST.perm (Tb (Tr Tn))
      refine aF (cL (aH ?_))
      cases a
      exact ⟨e9, d3, f5, _, T, (hST.sel (Kb (Kr (Db St)))), rfl, c5⟩
    refine aD (aA (V (aQ rfl rfl rfl) (V (aG rfl) (aF (aH (CI a rfl (fun b2 a => ?_) (fun b2 a => ?_)))))))
    · refine aA (V (aC rfl) (V (aN kR rfl) (V (aJ rfl (aM hST.has (Mt (Ma Mh)) (aO c.B) rfl Tryz.isAgg28 Tryz.sizeOf28)) (bS a fun i2 b9 a => ?_))))
      have hsz := hST.size
      refine VE (mL hST (Cb Pz (Cr Qz Cn)) Tryz.call269 (fun hH hN hsb hmm => (qQ g G N.2 D c.B _ _ ⟨hH, hN, bE.refl _⟩ i b9)) (fun h5 i7 f6 g8 hST U hl158 hlift a5 => ?_))
      obtain ⟨f0, d4, t, rfl, c6⟩ := a5
      replace t := t.symm; subst t
      replace hST := hST.perm (Tb (Tr Tn))
      refine aF (cL (aH ?_))
      cases a
      exact ⟨f0, d4, f6, _, U, (hST.sel (Kb (Kr (Db St)))), rfl, c6⟩
    refine aD (aA (V (aQ rfl rfl rfl) (V (aG rfl) (aF (aH (CI a rfl (fun b3 a => ?_) (fun b3 a => ?_)))))))
    · refine aD (aA (V (aC rfl) (V (aN kR rfl) (V (aJ rfl (aM hST.has (Mt (Ma Mh)) (aO c.B) rfl Tryz.isAgg28 Tryz.sizeOf28)) (bS a fun e6 c0 a => ?_)))))
      have hsz := hST.size
      refine VE (mL hST (Cb Pz (Cr Qz Cn)) Tryz.call269 (fun hH hN hsb hmm => (qQ g G N.2 D c.B _ _ ⟨hH, hN, bE.refl _⟩ i c0)) (fun h6 i8 j5 g9 hST Y hl172 hlift a6 => ?_))
      obtain ⟨f1, d5, u, rfl, c7⟩ := a6
      replace u := u.symm; subst u
      replace hST := hST.perm (Tb (Tr Tn))
      refine aF (aH (aA (V (aC rfl) (V (aN uX rfl) (V (aJ rfl (aP hST.has (Mt (Ma Mh)) rfl Tryz.isAgg9)) (bS a fun i3 c1 a => ?_))))))
      have hsz := hST.size
      refine VE (mL hST (Cb Pz (Cr Qz Cn)) Tryz.call270 (fun hH hN hsb hmm => (uf g f1 e6.2 d5 c.Word2 _ _ ⟨hH, hN, bE.refl _⟩ c7 c1)) (fun h7 i9 f7 h0 hST Z hl185 hlift a7 => ?_))
      obtain ⟨f2, d6, x, rfl, c8⟩ := a7
      replace x := x.symm; subst x
      replace hST := hST.perm (Tb (Tr Tn))
      refine aF (cL (aH ?_))
      cases a
      exact ⟨f2, d6, f7, _, (Y.trans Z), (hST.sel (Kb (Kr (Db St)))), rfl, c8⟩
    refine aD (aA (V (aQ rfl rfl rfl) (V (aG rfl) (aF (aH (CI a rfl (fun b4 a => ?_) (fun b4 a => ?_)))))))
    · refine aD (aA (V (aC rfl) (V (aN kR rfl) (V (aJ rfl (aM hST.has (Mt (Ma Mh)) (aO c.B) rfl Tryz.isAgg28 Tryz.sizeOf28)) (bS a fun e7 c2 a => ?_)))))
      have hsz := hST.size
      refine VE (mL hST (Cb Pz (Cr Qz Cn)) Tryz.call269 (fun hH hN hsb hmm => (qQ g G N.2 D c.B _ _ ⟨hH, hN, bE.refl _⟩ i c2)) (fun h8 j0 j6 h1 hST a1 hl199 hlift a8 => ?_))
      obtain ⟨f3, d7, y, rfl, c9⟩ := a8
      replace y := y.symm; subst y
      replace hST := hST.perm (Tb (Tr Tn))
      refine aF (aH (aA (V (aC rfl) (V (aN un rfl) (V (aJ rfl (aM hST.has (Mt (Ma Mh)) (aO c.C) rfl Tryz.isAgg28 Tryz.sizeOf28)) (bS a fun i4 c3 a => ?_))))))
      have hsz := hST.size
      refine VE (mL hST (Cb Pz (Cr Qz Cn)) Tryz.call269 (fun hH hN hsb hmm => (qQ g f3 e7.2 d7 c.C _ _ ⟨hH, hN, bE.refl _⟩ c9 c3)) (fun h9 j3 f8 h2 hST a2 hl212 hlift a9 => ?_))
      obtain ⟨f4, d8, z, rfl, d0⟩ := a9
      replace z := z.symm; subst z
      replace hST := hST.perm (Tb (Tr Tn))
      refine aF (cL (aH ?_))
      cases a
      exact ⟨f4, d8, f8, _, (a1.trans a2), (hST.sel (Kb (Kr (Db St)))), rfl, d0⟩
    refine aX (cL (aH ?_))
    cases a
    exact ⟨G, D, d1, _, (bE.refl _), (hST.sel (Kb (Kr (Db St)))), rfl, i⟩
  rintro e5 E W ⟨B, H, K, Q, g1, hST, d9, c4⟩ j
  refine aD (aA (V (aC d9) (bS j fun i0 b5 j => VE (sZ hST Tryz.call66 ((wi g B e5 _ _ (c4.sl (fun _ => rfl) (fun b o hq => hST.at_ (Mt (Ml hq)))) (At.of (hST.at_ Mh) _ rfl) b5)) (fun h3 e8 j4 d2 hST g2 hl131 M => V (aG rfl) (aF (aH ?_)))))))
  replace hST := hST.sel (Kr (Db (Dr St)))
  refine aU ?_
  have hx := sj j; subst hx
  exact eA (v := e8) rfl rfl ⟨_, d2, rfl, hST.backRow (fun p hq => (Ml hq)) M.nd, M⟩
theorem BT (g : Cred) (i : Cred) (r : Int) (w : World)  (hm : nC g i = some r) :
    bO true Tryz.prog 231 [(.agg (aI g).toArray), (.agg (aI i).toArray)] w (.int .i64 r) := by
  have hST := ST.start (dd := true) w
  unfold nC at hm
  refine cF 10 Tryz.func231 rfl (aD (aA (VE (cO (v := (.agg (aI g).toArray)) hST rfl (fun T Y hST => VE (cO (v := (.agg (aI i).toArray)) hST rfl (fun U Z hST => V (aG rfl) (aF (aH (aD ?_))))))))))
  replace hST := hST.drew
  have hS0 := hST.has.sel (Kb (Kb Sn))
  refine cX hS0 cC (XH 0 rfl hS0 (fun _ hS => aJ rfl (aM hS (Mt Mh) (aI g) rfl Tryz.isAgg53 Tryz.sizeOf53)) (XH 2 rfl hS0 (fun _ hS => aJ rfl (aM hS Mh (aI i) rfl Tryz.isAgg53 Tryz.sizeOf53)) (bS hm fun y t hm => XE 1 rfl (sZ hST Tryz.call155 ((wh g _ _  t)) (fun I B N G hST a hl52 j => ?_)))))
  have hS0 := hST.has.selS a (Dr (Kb (Kb Sn)))
  refine ⟨hS0, (bS hm fun z u hm => XE 3 rfl (sZ hST Tryz.call155 ((wh i _ _  u)) (fun J D Q H hST c hl61 k => ?_)))⟩
  have hS0 := hST.has.selS (a.trans c) (Dr (Dr (Kb (Kb Sn))))
  refine ⟨hS0, (bS hm fun M x hm => XE 4 rfl (Eg hST Tryz.call323 ((wV B y D z _ _ (j.sl (fun _ => rfl) (fun b o hq => hST.at_ (Ma (Ml hq)))) (k.sl (fun _ => rfl) (fun b o hq => hST.at_ (Ml hq))) x)) (fun K hST => ?_)))⟩
  have hS0 := hST.has.selS (a.trans c) (Dr (Dr (Kb (Kb Sn))))
  refine ⟨hS0, (X 5 rfl hS0 (aG rfl) (dB (by kernel_rfl) (aH ?_)))⟩
  replace hST := hST.sel (Dr (Dr (Db (Db St))))
  refine aU ?_
  have hx := sj hm; subst hx
  exact rP hST
theorem xu (j : Value) (a0 : List Cred) (x : List (Nat × Obj)) (r : List Cred) (w : World) {μ0 : bD} (h0 : jU μ0 (x ++ []) w) (B : bI 53 aI 9 j a0 x) (hm : lI a0 = some r) :
    eB true Tryz.prog 232 [j] w (x ++ []) (fun v L1 W' => ∃ (y1 : Value) (S2 : List (Nat × Obj)), v = y1 ∧ L1 = (S2 ++ []) ∧ bI 53 aI 9 y1 r S2) := by
  have hST := ST.startE (dd := true) h0
  unfold lI at hm
  refine cF 61 Tryz.func232 rfl (aD (aA (V (aG rfl) (aF (aH (aD (aD (aA (V (aC rfl) (V (nV Tryz.underlying22 rfl B) (V (aQ rfl rfl rfl) (aF (aH (CI hm rfl (fun g0 hm => ?_) (fun g0 hm => ?_)))))))))))))))
  · refine aD (aA (V (aC rfl) (V (aG rfl) (aF (aH (aU (cU ?_)))))))
    have hx := sj hm; subst hx
    exact eA (v := j) rfl rfl ⟨_, _, rfl, (hST.bkM (Kr Sn)), j, x, rfl, rfl, B⟩
  refine aX (aH (aD (aD (aA (V (aG rfl) (aF (aH (aY (iV (fun m E W => ∃ (t : Int) (b4 : List (Nat × Obj)), ST true (keys (x ++ [])) w W μ0 (x ++ b4) ∧ E 0 = j ∧ E 3 = (.int .i64 t) ∧ fY a0 m t = some r) cE ⟨1, _, (hST.sel St), rfl, rfl, hm⟩ ?_)))))))))
  rintro m E W ⟨t, b4, hST, D, H, a⟩
  cases m with
  | zero => rw [fY] at a; cases a
  | succ f5 =>
    rw [fY] at a
    refine aD (aD (aA (V (aC H) (V (aC D) (V (nV Tryz.underlying22 rfl B) (V (aQ rfl rfl rfl) (aF (aH (CI a rfl (fun d0 a => ?_) (fun d0 a => ?_))))))))))
    · refine aX (aH (aD (aY (aD ?_))))
      replace hST := hST.drew
      have hS0 := hST.has.sel (Kr Sn)
      refine cX hS0 cC (X 0 rfl hS0 (aC D) (X 1 rfl hS0 (aC H) (bS a fun c3 Z a => XQ 2 rfl hS0 (lA (i := t) (x0 := c3) Tryz.underlying22 Tryz.sizeOf53 rfl rfl B (bY Z) (bT Z)) (fun g5 d6 => XH 3 rfl hS0 (fun _ hS => aJ rfl (rh hS (fun p hq => (Ml hq)) B bQ d6 (bT Z) Tryz.isAgg53 Tryz.sizeOf53)) (X 4 rfl hS0 (aC D) (X 5 rfl hS0 (aC H) (X 6 rfl hS0 (aQ rfl rfl rfl) (bS a fun c4 a1 a => XQ 7 rfl hS0 (lA (i := (IntKind.i64.wrap (t - 1))) (x0 := c4) Tryz.underlying22 Tryz.sizeOf53 rfl rfl B (bY a1) (bT a1)) (fun g6 d7 => XH 8 rfl hS0 (fun _ hS => aJ rfl (rh hS (fun p hq => (Ml hq)) B bQ d7 (bT a1) Tryz.isAgg53 Tryz.sizeOf53)) (X 9 rfl hS0 (vJ rfl rfl (nM Tryz.eqGuardType53) (sR (tN _ c3 c4))) (dB (by kernel_rfl) (aH ?_))))))))))))
      refine CI a rfl (fun d1 a => ?_) (fun d1 a => ?_)
      · refine aD (aA (V (aC D) (V (aC H) (bS a fun _ b0 a => VQ (uT (i := t) Tryz.underlying22 Tryz.sizeOf53 rfl rfl B (rZ b0) (rX b0)) (fun c1 M => V (aG rfl) (aF (aH (aD (aD (aA (V (aG rfl) (aF (aH ?_)))))))))))))
        refine CJ a (fun U E W => ∃ (a6 : List (Nat × Obj)) (b5 : List (Nat × Obj)), ST true (keys (x ++ [])) w W μ0 (a6 ++ b5) ∧ E 0 = j ∧ E 3 = (.int .i64 U.2) ∧ bI 53 aI 9 j U.1 a6) (fun U d4 => ?_) ?_
        · refine aY (iV (fun m E W => ∃ (a7 : List Cred) (K : List (Nat × Obj)) (Y : Int) (y : Int) (b6 : List (Nat × Obj)), ST true (keys (x ++ [])) w W μ0 (K ++ b6) ∧ E 0 = j ∧ E 3 = (.int .i64 Y) ∧ E 4 = c1 ∧ E 5 = (.int .i64 y) ∧ bI 53 aI 9 j a7 K ∧ fX t m a7 Y y = some U) cE ⟨a0, x, t, 1, _, (hST.sel St), D, H, rfl, rfl, B, d4⟩ ?_)
          rintro m E W ⟨a7, K, Y, y, b6, hST, Q, T, I, J, g, k⟩
          cases m with
          | zero => rw [fX] at k; cases k
          | succ f6 =>
            rw [fX] at k
            refine aD (aD (aA (V (aC J) (V (aC I) (V (CA Tryz.underlying22 rfl M g) (V (aQ rfl rfl rfl) (aF (aH (CI k rfl (fun d2 k => ?_) (fun d2 k => ?_))))))))))
            · refine aX (aH (aD (CJ k (fun a8 E W => ∃ (N : List (Nat × Obj)) (b7 : List (Nat × Obj)), ST true (keys (x ++ [])) w W μ0 (N ++ b7) ∧ E 0 = j ∧ E 3 = (.int .i64 a8.2) ∧ E 4 = c1 ∧ E 5 = (.int .i64 y) ∧ bI 53 aI 9 j a8.1 N) (fun a8 c => ?_) ?_)))
              · refine aY (aD ?_)
                replace hST := hST.drew
                have hS0 := hST.has.sel (Kr Sn)
                refine cX hS0 cC (X 0 rfl hS0 (aC I) (X 1 rfl hS0 (aC J) (bS c fun c6 a2 c => XQ 2 rfl hS0 (uQ (i := y) (x0 := c6) Tryz.underlying22 Tryz.sizeOf53 rfl rfl g M (bY a2) (bT a2)) (fun g7 d8 => XH 3 rfl hS0 (fun _ hS => aJ rfl (rh hS (fun p hq => (Ml hq)) g bQ d8 (vU (bT a2)) Tryz.isAgg53 Tryz.sizeOf53)) (X 4 rfl hS0 (aC I) (X 5 rfl hS0 (aC J) (X 6 rfl hS0 (aQ rfl rfl rfl) (bS c fun c7 a3 c => XQ 7 rfl hS0 (uQ (i := (IntKind.i64.wrap (y - 1))) (x0 := c7) Tryz.underlying22 Tryz.sizeOf53 rfl rfl g M (bY a3) (bT a3)) (fun g8 d9 => XH 8 rfl hS0 (fun _ hS => aJ rfl (rh hS (fun p hq => (Ml hq)) g bQ d9 (vU (bT a3)) Tryz.isAgg53 Tryz.sizeOf53)) (X 9 rfl hS0 (If rfl rfl (nM Tryz.eqGuardType53) (Fc (tN _ c6 c7))) (dB (by kernel_rfl) (aH ?_))))))))))))
                refine CI c rfl (fun d3 c => ?_) (fun d3 c => ?_)
                · refine aD (aA (V (aC Q) (V (aC T) (V (aC I) (V (aC J) (bS c fun a9 a4 c => VQ (uQ (i := y) (x0 := a9) Tryz.underlying22 Tryz.sizeOf53 rfl rfl g M (bY a4) (bT a4)) (fun g9 e0 => V (aJ rfl (rh hST.has (fun p hq => (Ml hq)) g bQ e0 (vU (bT a4)) Tryz.isAgg53 Tryz.sizeOf53)) (bS c fun f8 a5 c => VQ (lA (i := Y) (x0 := f8) Tryz.underlying22 Tryz.sizeOf53 rfl rfl g (bY a5) (bT a5)) (fun h1 e1 => VO (vH (u := (.agg (aI a9).toArray)) (x1 := a9)  hST g bQ gY rfl rfl rfl e1 (bT a5) Tryz.sizeOf53 (fun g3 e8 hST c9 => aF (aH (aA ?_)))))))))))))
                  refine V (aC T) (V (aQ rfl rfl rfl) (V (aG rfl) (aF (cL (aH ?_)))))
                  cases c
                  exact ⟨e8, _, (hST.sel St), Q, rfl, I, J, c9⟩
                refine aX (cL (aH ?_))
                cases c
                exact ⟨K, _, (hST.sel St), Q, T, I, J, g⟩
              rintro ⟨f4, f7⟩ E W ⟨N, b7, hST, f0, f1, f2, f3, e4⟩ d5
              exact aA (V (aC f3) (V (aQ rfl rfl rfl) (V (aG rfl) (aF (aH ⟨f6, Nat.lt_succ_self _, f4, N, f7, ((IntKind.i64.wrap (y + 1))), _, (hST.sel St), f0, f1, f2, rfl, e4, d5⟩)))))
            refine iD (gI (gI (pC (aH ?_))))
            cases k
            exact ⟨K, _, (hST.sel St), Q, T, g⟩
        rintro ⟨g4, c5⟩ E W ⟨a6, b5, hST, b9, c0, b3⟩ G
        refine aD (aA (V (aC b9) (V (aC c0) (bS G fun _ b1 G => VQ (uT (i := c5) Tryz.underlying22 Tryz.sizeOf53 rfl rfl b3 (rZ b1) (rX b1)) (fun h2 e2 => VO (xj (z := Im)  hST b3 bQ gY Tryz.underlying22 Tryz.zeroValue53 e2 rfl rfl (fun g2 e7 hST c8 => aF (aH (aD (aA (V (aC b9) (V (aC c0) (bS G fun _ b2 G => VQ (yO (i := c5) Tryz.underlying22 Tryz.sizeOf53 rfl rfl c8 bQ (rZ b2) (rX b2)) (fun c2 e3 => ?_))))))))))))))
        refine V (aG rfl) (aF (aH (aU (fE (cU (cU (fE (cU ?_))))))))
        have hx := sj G; subst hx
        exact eA (v := c2) rfl rfl ⟨_, _, rfl, (hST.bkM (Kr Sn)), c2, e7, rfl, rfl, e3⟩
      exact aX (cL (aH (aA (V (aC H) (V (aQ rfl rfl rfl) (V (aG rfl) (aF (aH ⟨f5, Nat.lt_succ_self _, ((IntKind.i64.wrap (t + 1))), _, (hST.sel St), D, rfl, a⟩))))))))
    refine iD (gI (gI (pC (aH (aD (aA (V (aC D) (V (aG rfl) (aF (aH (aU ?_)))))))))))
    have hx := sj a; subst hx
    exact eA (v := j) rfl rfl ⟨_, _, rfl, (hST.bkM (Kr Sn)), j, x, rfl, rfl, B⟩
theorem BN (i : Value) (t : List Cred) (r : List Cred) (w : World) (B : Sl (Pl aI) 9 (hp w) i t) (hm : re t = some r) :
    gQ false Tryz.prog 116 [i] w 53 aI 9 r := by
  have hST := ST.start (dd := false) w
  unfold re at hm
  refine cF 11 Tryz.func116 rfl (aD (aA (V (aG rfl) (aF (aH (aD (aA (V (aC rfl) (bS hm fun r1 T hm => VE (sZ hST Tryz.call228 (gQ.weak (yK i t _ _ (B.mono (Pl.mono _) hST.sub_hp) T)) (fun W3 v7 μ4 R8 hST a5 hl6 Q => bS hm fun U D hm => ?_)))))))))))
  have hsz := hST.size
  refine VE (mL hST (Cr Qz Cn) Tryz.call143 (fun hH hN hsb hmm => (vT v7 r1 R8 (.func (.func 229) #[] #[]) (fun (x : Cred) => rz x) _ _ ⟨hH, hN, bE.refl _⟩ Q ⟨229, #[], #[], rfl, Tryz.call229, fun W x r hs hm => (CZ x r W  hm).weak⟩ D)) (fun b1 b5 b9 a8 hST a1 hl15 hlift u => ?_))
  obtain ⟨k, K, a, rfl, I⟩ := u
  replace a := a.symm; subst a
  replace hST := hST.perm (Tr Tn)
  refine V (aG rfl) (aF (aH (aD (aA (V (aC rfl) (bS hm fun Y G hm => ?_))))))
  have hsz := hST.size
  refine VE (mL hST (Cr Qz Cn) Tryz.call230 (fun hH hN hsb hmm => eB.weak (FT k U K (.func (.func 231) #[] #[]) (fun (x : (Cred × Cred)) => nC x.1 x.2) _ _ ⟨hH, hN, bE.refl _⟩ I ⟨231, #[], rfl, Tryz.call231, fun W x r hs hm => BT x.1 x.2 r W  hm⟩ G)) (fun b2 b6 c0 a9 hST a2 hl28 hlift y => ?_))
  obtain ⟨M, c, rfl, J⟩ := y
  replace c := c.symm; subst c
  replace hST := hST.perm (Tr Tn)
  refine aF (aH (aD (aA (V (aC rfl) (bS hm fun b4 H hm => ?_)))))
  have hsz := hST.size
  refine VE (mL hST (Cr Qz Cn) Tryz.call232 (fun hH hN hsb hmm => eB.weak (xu k Y M _ _ ⟨hH, hN, bE.refl _⟩ J H)) (fun b3 b7 c1 b0 hST a3 hl40 hlift z => ?_))
  obtain ⟨Z, N, g, rfl, j⟩ := z
  replace g := g.symm; subst g
  replace hST := hST.perm (Tr Tn)
  refine V (aG rfl) (aF (aH (aU ?_)))
  have hx := sj hm; subst hx
  exact eA (v := Z) rfl rfl ⟨_, N, rfl, hST.backRow (fun p hq => (Ml hq)) j.nd, j⟩
theorem yL (t : Value) (y : List Cred) (u : Value) (K : List Cred) (r : Bool) (w : World) (c : Sl (Pl aI) 9 (hp w) t y) (z : Sl (Pl aI) 9 (hp w) u K) (hm : mT y K = some r) :
    bO true Tryz.prog 313 [t, u] w (.bool r) := by
  have hST := ST.start (dd := true) w
  unfold mT at hm
  refine cF 26 Tryz.func313 rfl (aD (aA (V (aG rfl) (aF (aH (aD (aD (aA (V (aC rfl) (V (dO Tryz.underlying22 rfl c) (V (aC rfl) (V (dO Tryz.underlying22 rfl z) (V (aQ rfl rfl rfl) (aF ?_))))))))))))))
  refine aH (CI hm rfl (fun U hm => ?_) (fun U hm => ?_))
  · refine aD (aA (V (aG rfl) (aF (aH (aU (cU ?_))))))
    have hx := sj hm; subst hx
    exact rP hST
  refine aX (aH (aD (aD (aA (V (aC rfl) (V (dO Tryz.underlying22 rfl c) (V (aC rfl) (aF (aH (dA (fun i E W => ∃  (g : List (Nat × Obj)), (E 13 = .int .i64 (i : Nat) ∧ E 12 = .int .i64 (y.length : Nat)) ∧ ST true dC w W (hp w) g ∧ E 0 = t ∧ E 1 = u ∧ gT K (y.drop i) i = some r) y.length c.len ⟨_, ⟨rfl, rfl⟩, (hST.sel St), rfl, rfl, hm⟩ (by decide) (by decide) (by decide) (fun _ _ _ h => by obtain ⟨_, eIN, _⟩ := h; exact eIN) ?_ ?_))))))))))
  · rintro I E W M ⟨g, ⟨eI, eN⟩, hST, j, k, a⟩
    obtain ⟨J, a3, Q, N, T⟩ := cR M
    rw [Q] at a
    rw [gT] at a
    refine aY (aD (aA (V (aC eI) (V (aG rfl) (aF (aH (aD ?_)))))))
    replace hST := hST.drew
    have hS0 := hST.has.sel Sn
    refine cX hS0 cC (X 0 rfl hS0 (aC j) (X 1 rfl hS0 (aC rfl) (XQ 2 rfl hS0 (lZ (enc := aI) (i := (I : Int)) (x0 := J) Tryz.underlying22 Tryz.sizeOf53 rfl rfl c (Int.natCast_nonneg _) N) (fun Y G => XH 3 rfl hS0 (fun _ hS => aJ rfl (bN hS G Tryz.isAgg53 Tryz.sizeOf53)) (X 4 rfl hS0 (aC k) (X 5 rfl hS0 (aC rfl) (bS a fun B x a => XQ 6 rfl hS0 (lZ (enc := aI) (i := (I : Int)) (x0 := B) Tryz.underlying22 Tryz.sizeOf53 rfl rfl z (bY x) (bT x)) (fun Z H => XH 7 rfl hS0 (fun _ hS => aJ rfl (bN hS H Tryz.isAgg53 Tryz.sizeOf53)) (X 8 rfl hS0 (If rfl rfl (nM Tryz.eqGuardType53) (Fc (tN _ J B))) (dB (by kernel_rfl) (aH (CI a rfl (fun D a => ?_) (fun D a => ?_)))))))))))))
    · refine aD (aA (V (aG rfl) (aF (aH (aU (fE (cU (fE (cU ?_)))))))))
      have hx := sj a; subst hx
      exact rP hST
    exact aX (cL (aH ⟨eI, _, ⟨rfl, eN⟩, (hST.sel St), j, k, (by rw [T]; exact a)⟩))
  rintro E W ⟨g, ⟨eI, eN⟩, hST, j, k, a⟩
  rw [List.drop_length] at a
  rw [gT] at a
  refine aH (aD (aA (V (aG rfl) (aF (aH (aU ?_))))))
  have hx := sj a; subst hx
  exact rP hST
theorem xL (a : Value) (g : List Cred) (r : Bool) (w : World) (c : Sl (Pl aI) 9 (hp w) a g) (hm : oS g = some r) :
    bO false Tryz.prog 298 [a] w (.bool r) := by
  have hST := ST.start (dd := false) w
  unfold oS at hm
  refine cF 7 Tryz.func298 rfl (aD (aA (V (aG rfl) (aF (aH (aD (aA (V (aC rfl) (bS hm fun u t hm => VE (sZ hST Tryz.call116 ((BN a g _ _ (c.mono (Pl.mono _) hST.sub_hp) t)) (fun D x G B hST i hl6 k => V (aC rfl) (bS hm fun z j hm => VE (Eg hST Tryz.call313 (bO.weak (yL x u a g _ _ (k.sl bQ (fun b o hq => hST.at_ (Ml hq))) (c.mono (Pl.mono _) (i.trans hST.sub_hp)) j)) (fun y hST => V (aG rfl) ?_))))))))))))))
  refine aF (aH ?_)
  replace hST := hST.sel (Dr St)
  refine aU ?_
  have hx := sj hm; subst hx
  exact rP hST
theorem Da (z : cG) (x : Value) (B : Value) (r : Bool) (w : World) (g : Sl bF 15 (hp w) x z.Creds) (M : Sl cD 8 (hp w) B z.Acks) (hm : tE z = some r) :
    bO false Tryz.prog 206 [(.agg #[(.string z.Name), x, B])] w (.bool r) := by
  have hST := ST.start (dd := false) w
  unfold tE at hm
  refine cF 33 Tryz.func206 rfl (aD (aA ?_))
  obtain ⟨A1, c2, rfl⟩ := g.form
  obtain ⟨A3, c4, rfl⟩ := M.form
  refine VE (cO (v := (.agg (C5 z.Name A1 z.Creds.length c2 A3 z.Acks.length c4).toArray)) hST rfl (fun W6 b5 hST => V (aG rfl) (aF (aH (aD (aA (V (aG rfl) (aF (aH (aD (aD (aA (V (aN sE rfl) (V (aJ rfl (aP hST.has Mh rfl Tryz.isAgg107)) (V (dO Tryz.underlying107 rfl g) ?_)))))))))))))))
  refine V (aC rfl) (aF (aH ?_))
  replace hST := hST.sel (Db St)
  refine dA (fun i E W => ∃ (u : Value) (H : List Cred) (y : List (Nat × Obj)) (T : List (Nat × Obj)), (E 9 = .int .i64 (i : Nat) ∧ E 8 = .int .i64 (z.Creds.length : Nat)) ∧ ST false dC w W (hp w) (y ++ T) ∧ E 3 = u ∧ E 7 = (.slice A1 z.Creds.length c2) ∧ bI 53 aI 9 u H y ∧ jN (z.Creds.drop i) H = some r) z.Creds.length g.len ⟨(.slice none 0 0), ([]), [], _, ⟨rfl, rfl⟩, (hST.sel St), rfl, rfl, (bI.nil _ _ _), hm⟩ (by decide) (by decide) (by decide) (fun _ _ _ h => by obtain ⟨_, _, _, _, eIN, _⟩ := h; exact eIN) ?_ ?_
  · rintro a3 E W a8 ⟨u, H, y, T, ⟨eI, eN⟩, hST, I, J, K, j⟩
    obtain ⟨a, d1, b3, b2, b4⟩ := cR a8
    rw [b3] at j
    rw [jN] at j
    refine aY (aD (aA (VQ (eV (i := (a3 : Int)) (x0 := a) bF.out Tryz.underlying107 Tryz.sizeOf138 J eI g (Int.natCast_nonneg _) b2) (fun e0 ⟨_, ⟨e3, e4, rfl, Y, Z⟩, a9⟩ => V (aJ rfl (bN hST.has a9 Tryz.isAgg138 Tryz.sizeOf138)) (VE (bL hST Tryz.zeroValue138 (fun d3 a2 hST => ?_)))))))
    obtain ⟨Q, U, rfl⟩ := Y.form
    obtain ⟨D, G, rfl⟩ := Z.form
    refine VO (bH (.agg (C4 a.Signed.Cred.Kind a.Signed.Cred.Head.Owner a.Signed.Cred.Head.Word a.Signed.Cred.Who a.Signed.Cred.B.Owner a.Signed.Cred.B.Word a.Signed.Cred.C.Owner a.Signed.Cred.C.Word a.Signed.Cred.Word2 Q a.Signed.Tag.length U a.Release.Op a.Release.K a.Release.Role.Owner a.Release.Role.Word D a.Release.Kids.length G).toArray) ((C4 a.Signed.Cred.Kind a.Signed.Cred.Head.Owner a.Signed.Cred.Head.Word a.Signed.Cred.Who a.Signed.Cred.B.Owner a.Signed.Cred.B.Word a.Signed.Cred.C.Owner a.Signed.Cred.C.Word a.Signed.Cred.Word2 Q a.Signed.Tag.length U a.Release.Op a.Release.K a.Release.Role.Owner a.Release.Role.Word D a.Release.Kids.length G).toArray) hST rfl rfl Tryz.sizeOf138 (by simp [Value.cells, Value.oneCell']) nb rfl (fun d4 hST => aF (aH (aD (aD (aA (V (aN sL rfl) (V (aN Ea rfl) (V (aJ rfl (aP hST.has Mh rfl Tryz.isAgg54)) (V (dO Tryz.underlying54 rfl Y) (V (aQ rfl rfl rfl) (V (aC rfl) (LJ j (fun a4 E W => ∃  (a1 : List (Nat × Obj)), ST false dC w W (hp w) ((a2, Obj.cells ((C4 a.Signed.Cred.Kind a.Signed.Cred.Head.Owner a.Signed.Cred.Head.Word a.Signed.Cred.Who a.Signed.Cred.B.Owner a.Signed.Cred.B.Word a.Signed.Cred.C.Owner a.Signed.Cred.C.Word a.Signed.Cred.Word2 Q a.Signed.Tag.length U a.Release.Op a.Release.K a.Release.Role.Owner a.Release.Role.Word D a.Release.Kids.length G).toArray : Array Value) 138 (0, 0)) :: (y ++ a1)) ∧ E 3 = u ∧ E 5 = (.pointer (some ⟨a2, 0, none⟩)) ∧ E 7 = (.slice A1 z.Creds.length c2) ∧ E 8 = (.int .i64 ((z.Creds.length : Int))) ∧ E 9 = (.int .i64 ((a3 : Int))) ∧ E 23 = (.bool a4)) 5 ?_ (fun a4 t N => ?_))))))))))))))
    · rintro e5 E W ⟨a1, hST, c1, c3, c5, c6, c7, c8⟩ k
      refine aF (aH (CI k c8 (fun a6 k => ?_) (fun a6 k => ?_)))
      · refine aD (aA (V (aG rfl) (aF (aH ?_))))
        replace hST := hST.sel (Db (Dr St))
        refine aU (cU (fE (cU (fE (cU ?_)))))
        have hx := sj k; subst hx
        exact rP hST
      refine aX (aH (aA (V (aC c1) (V (aN sL c3) (V (aN ue rfl) (V (aJ rfl (aM hST.has Mh (aI a.Signed.Cred) rfl Tryz.isAgg53 Tryz.sizeOf53)) (VE (aR (qs := #[(0, (.agg (aI a.Signed.Cred).toArray))]) (cs := (aI a.Signed.Cred).toArray) hST (bM rfl) (bB [(.agg (aI a.Signed.Cred).toArray)] Tryz.underlying22 Tryz.sizeOf53 Tryz.zeroValue53 (by decide) rfl (by intro v hv; simp only [List.mem_cons, List.not_mem_nil, or_false] at hv; rcases hv with rfl <;> rfl) rfl rfl) (fun d5 b9 hST => ?_)))))))))
      replace hST := hST.perm (Nr (Qb (Qb Qz)) Nz)
      refine bS k fun c9 a7 k => VE (kG (enc := aI) (v := u) (vs := (.slice (some ⟨b9, 0, none⟩) 1 1)) (R := y) hST bQ (by decide) gY Tryz.underlying22 fT.1 fT.2.1 rfl fT.2.2.1 fT.2.2.2 rfl rfl K (Sl.lit (enc := aI) (l := [a.Signed.Cred]) bQ rfl nb rfl (hST.at_ (Ma Mh))) a7 (fun d6 d0 b7 hST a5 => V (aG rfl) (aF (cL (aH ?_)))))
      replace hST := hST.sel (Kr (Db (Db St)))
      exact ⟨c7, d0, c9, b7, _, ⟨rfl, c6⟩, (hST.sel St), rfl, c5, a5, (by rw [b4]; exact k)⟩
    refine bC t (fun c t => ?_) (fun c t => ?_)
    · refine Vn rfl (cB c) (Vn rfl (cB c) (Vn rfl (cB c) (Vn rfl (cB c) (V (bU (cB c) rfl) ?_))))
      cases t
      exact N _ _ ⟨_, (hST.sel St), I, rfl, J, eN, eI, rfl⟩
    refine Vg rfl (cB c) (aN Ce rfl) (Vg rfl (cB c) (aJ rfl (aM hST.has Mh (C3 a.Release.Op a.Release.K a.Release.Role.Owner a.Release.Role.Word D a.Release.Kids.length G) rfl Tryz.isAgg113 Tryz.sizeOf113)) (bS t fun e1 b0 t => oO rfl (cB c) (Eg hST Tryz.call107 ((mB a.Release (.slice D a.Release.Kids.length G) _ _ (Z.mono aV.mono hST.sub_hp) b0)) (fun d7 hST => Vg rfl (cB c) (fV rfl) (V (bX (cB c) rfl) ?_)))))
    cases t
    exact N _ _ ⟨_, (hST.sel St), I, rfl, J, eN, eI, rfl⟩
  rintro E W ⟨u, H, y, T, ⟨eI, eN⟩, hST, I, J, K, j⟩
  rw [List.drop_length] at j
  rw [jN] at j
  refine aH (aD (aA (V (aC I) (bS j fun e2 b1 j => VE (Eg hST Tryz.call298 ((xL u H _ _ (K.sl bQ (fun b o hq => hST.at_ (Ml hq))) b1)) (fun d8 hST => V (aG rfl) (aF (aH ?_))))))))
  replace hST := hST.sel (Dr St)
  refine aU ?_
  have hx := sj j; subst hx
  exact rP hST
theorem Ep (x : Value) (T : List eO) (r : Bool) (w : World) (a8 : Sl cD 8 (hp w) x T) (hm : uh T = some r) :
    bO false Tryz.prog 207 [x] w (.bool r) := by
  have hST := ST.start (dd := false) w
  unfold uh at hm
  refine cF 45 Tryz.func207 rfl (aD (aA (V (aG rfl) (aF (aH (aD (aD (aA (V (aC rfl) (V (dO Tryz.underlying108 rfl a8) (V (aC rfl) (aF (aH (dA (fun i E W => ∃  (a2 : List (Nat × Obj)), (E 7 = .int .i64 (i : Nat) ∧ E 6 = .int .i64 (T.length : Nat)) ∧ ST false dC w W (hp w) a2 ∧ E 0 = x ∧ E 5 = x ∧ kH T (T.drop i) i = some r) T.length a8.len ⟨_, ⟨rfl, rfl⟩, (hST.sel St), rfl, rfl, hm⟩ (by decide) (by decide) (by decide) (fun _ _ _ h => by obtain ⟨_, eIN, _⟩ := h; exact eIN) ?_ ?_))))))))))))))
  · rintro G E W c9 ⟨a2, ⟨eI, eN⟩, hST, a3, N, t⟩
    obtain ⟨a, g0, e1, e0, e2⟩ := cR c9
    rw [e1] at t
    rw [kH] at t
    refine aY (aD (aA (V (aC eI) (VQ (eV (i := (G : Int)) (x0 := a) cD.out Tryz.underlying108 Tryz.sizeOf263 N eI a8 (Int.natCast_nonneg _) e0) (fun g7 ⟨_, ⟨h4, h5, rfl, b0, b1⟩, d3⟩ => V (aJ rfl (bN hST.has d3 Tryz.isAgg263 Tryz.sizeOf263)) (VE (bL hST Tryz.zeroValue263 (fun g1 M hST => V (aG rfl) ?_))))))))
    obtain ⟨B, D, rfl⟩ := b0.form
    obtain ⟨H, I, rfl⟩ := b1.form
    refine VO (bH (.agg (C7 a.Role.Owner a.Role.Word a.Release.Op a.Release.K a.Release.Role.Owner a.Release.Role.Word B a.Release.Kids.length D H a.Closure.length I).toArray) ((C7 a.Role.Owner a.Role.Word a.Release.Op a.Release.K a.Release.Role.Owner a.Release.Role.Word B a.Release.Kids.length D H a.Closure.length I).toArray) hST rfl rfl Tryz.sizeOf263 (by simp [Value.cells, Value.oneCell']) nb rfl (fun g2 hST => aF (aH (aD ?_))))
    replace hST := hST.drew
    have hS0 := hST.has.sel (Kb Sn)
    refine cX hS0 cC (X 0 rfl hS0 (aN uF rfl) (XH 1 rfl hS0 (fun _ hS => aJ rfl (aM hS Mh (aO a.Role) rfl Tryz.isAgg28 Tryz.sizeOf28)) (bS t fun h0 d6 t => XE 2 rfl (Eg hST Tryz.call254 (bO.weak (nP a.Role _ _  d6)) (fun g3 hST => ?_)))))
    have hS0 := hST.has.sel (Kb Sn)
    refine ⟨hS0, (X 3 rfl hS0 (fV rfl) (X 4 rfl hS0 (aC rfl) (PJ t (fun c7 E W => ∃  (b3 : List (Nat × Obj)), ST false dC w W (hp w) ((M, Obj.cells ((C7 a.Role.Owner a.Role.Word a.Release.Op a.Release.K a.Release.Role.Owner a.Release.Role.Word B a.Release.Kids.length D H a.Closure.length I).toArray : Array Value) 263 (0, 0)) :: b3) ∧ E 0 = x ∧ E 3 = (.int .i64 ((G : Int))) ∧ E 4 = (.pointer (some ⟨M, 0, none⟩)) ∧ E 5 = x ∧ E 6 = (.int .i64 ((T.length : Int))) ∧ E 7 = (.int .i64 ((G : Int))) ∧ E 21 = (.bool c7)) (bm 32 1023) 22 ?_ (fun c7 z a1 => ?_))))⟩
    · rintro h8 E W ⟨b3, hST, b7, b9, a4, c0, c1, c2, e3⟩ d0
      have hS0 := hST.has.sel (Kb Sn)
      refine X 10 rfl hS0 (aC e3) (PJ d0 (fun c6 E W => ∃  (b4 : List (Nat × Obj)), ST false dC w W (hp w) ((M, Obj.cells ((C7 a.Role.Owner a.Role.Word a.Release.Op a.Release.K a.Release.Role.Owner a.Release.Role.Word B a.Release.Kids.length D H a.Closure.length I).toArray : Array Value) 263 (0, 0)) :: b4) ∧ E 0 = x ∧ E 3 = (.int .i64 ((G : Int))) ∧ E 4 = (.pointer (some ⟨M, 0, none⟩)) ∧ E 5 = x ∧ E 6 = (.int .i64 ((T.length : Int))) ∧ E 7 = (.int .i64 ((G : Int))) ∧ E 27 = (.bool c6)) (bm 32 65535) 16 ?_ (fun c6 y Z => ?_))
      · rintro f7 E W ⟨b4, hST, Q, c3, e4, a5, a6, a7, e5⟩ d1
        have hS0 := hST.has.sel (Kb Sn)
        refine X 16 rfl hS0 (aC e5) (PJ d1 (fun c4 E W => ∃  (b5 : List (Nat × Obj)), ST false dC w W (hp w) ((M, Obj.cells ((C7 a.Role.Owner a.Role.Word a.Release.Op a.Release.K a.Release.Role.Owner a.Release.Role.Word B a.Release.Kids.length D H a.Closure.length I).toArray : Array Value) 263 (0, 0)) :: b5) ∧ E 0 = x ∧ E 5 = x ∧ E 6 = (.int .i64 ((T.length : Int))) ∧ E 7 = (.int .i64 ((G : Int))) ∧ E 43 = (.bool c4)) (bm 32 4294967295) 0 ?_ (fun c4 K U => ?_))
        · rintro h9 E W ⟨b5, hST, e6, e7, e8, e9, f0⟩ J
          have hS0 := hST.has.sel (Kb Sn)
          refine dB (by kernel_rfl) (aH ?_)
          replace hST := hST.sel (Db St)
          refine CI J f0 (fun c8 J => ?_) (fun c8 J => ?_)
          · refine aD (aA (V (aG rfl) (aF (aH (aU (fE (cU (fE (cU ?_)))))))))
            have hx := sj J; subst hx
            exact rP hST
          exact aX (cL (aH ⟨e9, _, ⟨rfl, e8⟩, (hST.sel St), e6, e7, (by rw [e2]; exact J)⟩))
        refine bC K (fun g K => ?_) (fun g K => ?_)
        · refine Xn 17 rfl rfl (cB g) hS0 (Xn 18 rfl rfl (cB g) hS0 (Xn 19 rfl rfl (cB g) hS0 (Xu 20 rfl rfl rfl hS0 (Xu 21 rfl rfl rfl hS0 (Xu 22 rfl rfl rfl hS0 (Xu 23 rfl rfl rfl hS0 (Xu 24 rfl rfl rfl hS0 (Xu 25 rfl rfl rfl hS0 (Xu 26 rfl rfl rfl hS0 (Xu 27 rfl rfl rfl hS0 (Xu 28 rfl rfl rfl hS0 (Xu 29 rfl rfl rfl hS0 (Xn 30 rfl rfl (cB g) hS0 (X 31 rfl hS0 (bU (cB g) rfl) ?_))))))))))))))
          cases K
          refine cV (by kernel_rfl) (U _ _ ⟨_, (hST.sel St), Q, a5, a6, a7, rfl⟩)
        refine Xg 17 rfl rfl (cB g) hS0 (aC c3) (Xg 18 rfl rfl (cB g) hS0 (aQ rfl rfl rfl) (Xg 19 rfl rfl (cB g) hS0 (aC rfl) (PJ K (fun c5 E W => ∃  (b6 : List (Nat × Obj)), ST false dC w W (hp w) ((M, Obj.cells ((C7 a.Role.Owner a.Role.Word a.Release.Op a.Release.K a.Release.Role.Owner a.Release.Role.Word B a.Release.Kids.length D H a.Closure.length I).toArray : Array Value) 263 (0, 0)) :: b6) ∧ E 0 = x ∧ E 5 = x ∧ E 6 = (.int .i64 ((T.length : Int))) ∧ E 7 = (.int .i64 ((G : Int))) ∧ E 28 = (.bool f7) ∧ E 42 = (.bool c5)) (bm 32 2147483647) 1 ?_ (fun c5 u Y => ?_))))
        · rintro i0 E W ⟨b6, hST, f1, f2, f3, f4, f5, f6⟩ d2
          have hS0 := hST.has.sel (Kb Sn)
          refine X 31 rfl hS0 (bX (f5.trans (cB g)) f6) ?_
          cases d2
          refine cV (by kernel_rfl) (U _ _ ⟨_, (hST.sel St), f1, f2, f3, f4, rfl⟩)
        refine bC u (fun c u => ?_) (fun c u => ?_)
        · refine Xg 20 rfl rfl (cB c) hS0 (aC Q) (Xg 21 rfl rfl (cB c) hS0 (aC c3) (Xg 22 rfl rfl (cB c) hS0 (aQ rfl rfl rfl) (bS u fun a9 b2 u => pB 23 rfl (by kernel_rfl) (.inr ⟨19, true, 31, rfl, rfl, by decide, (cB c)⟩) rfl (by decide) (fun _ _ h => h) hS0 (eV (i := (IntKind.i64.wrap (((G : Int)) - 1))) (x0 := a9) cD.out Tryz.underlying108 Tryz.sizeOf263 rfl rfl a8 (bY b2) (bT b2)) (fun g8 ⟨_, ⟨h6, h7, rfl, f8, f9⟩, d4⟩ => pB 24 rfl (by kernel_rfl) (.inr ⟨19, true, 31, rfl, rfl, by decide, (cB c)⟩) rfl (by decide) (fun _ _ h => h) hS0 (uZ (aO a9.Role) uF rfl d4 rfl) (fun g9 d5 => oN 25 rfl rfl (cB c) hS0 (fun _ hS => aJ rfl (bN hS d5 Tryz.isAgg28 Tryz.sizeOf28)) (Xg 26 rfl rfl (cB c) hS0 (aN uF e4) (oN 27 rfl rfl (cB c) hS0 (fun _ hS => aJ rfl (aM hS Mh (aO a.Role) rfl Tryz.isAgg28 Tryz.sizeOf28)) (bS u fun h1 d7 u => vm 28 rfl rfl (cB c) (Eg hST Tryz.call123 (bO.weak (xz a9.Role a.Role _ _  d7)) (fun g4 hST => ?_))))))))))
          have hS0 := hST.has.sel (Kb Sn)
          refine ⟨hS0, (Xg 29 rfl rfl (cB c) hS0 (aQ rfl rfl rfl) (Xg 30 rfl rfl (cB g) hS0 (bU (cB c) rfl) ?_))⟩
          cases u
          refine cV (by kernel_rfl) (Y _ _ ⟨_, (hST.sel St), Q, a5, a6, a7, rfl, rfl⟩)
        refine Xn 20 rfl rfl (cB c) hS0 (Xn 21 rfl rfl (cB c) hS0 (Xn 22 rfl rfl (cB c) hS0 (Xn 23 rfl rfl (cB c) hS0 (Xn 24 rfl rfl (cB c) hS0 (Xn 25 rfl rfl (cB c) hS0 (Xn 26 rfl rfl (cB c) hS0 (Xn 27 rfl rfl (cB c) hS0 (Xn 28 rfl rfl (cB c) hS0 (Xn 29 rfl rfl (cB c) hS0 (Xg 30 rfl rfl (cB g) hS0 (bX (cB c) rfl) ?_))))))))))
        cases u
        refine cV (by kernel_rfl) (Y _ _ ⟨_, (hST.sel St), Q, a5, a6, a7, rfl, rfl⟩)
      refine bC y (fun k y => ?_) (fun k y => ?_)
      · refine Xn 11 rfl rfl (cB k) hS0 (Xn 12 rfl rfl (cB k) hS0 (Xn 13 rfl rfl (cB k) hS0 (Xn 14 rfl rfl (cB k) hS0 (X 15 rfl hS0 (bU (cB k) rfl) ?_))))
        cases y
        refine cV (by kernel_rfl) (Z _ _ ⟨_, (hST.sel St), b7, b9, a4, c0, c1, c2, rfl⟩)
      refine Xg 11 rfl rfl (cB k) hS0 (aN zW a4) (oN 12 rfl rfl (cB k) hS0 (fun _ hS => aJ rfl (aP hS Mh rfl Tryz.isAgg22)) (bS y fun h2 d8 y => vm 13 rfl rfl (cB k) (Eg hST Tryz.call298 ((xL (.slice H a.Closure.length I) a.Closure _ _ (b1.mono (Pl.mono _) hST.sub_hp) d8)) (fun g5 hST => ?_))))
      have hS0 := hST.has.sel (Kb Sn)
      refine ⟨hS0, (Xg 14 rfl rfl (cB k) hS0 (fV rfl) (X 15 rfl hS0 (bX (cB k) rfl) ?_))⟩
      cases y
      refine cV (by kernel_rfl) (Z _ _ ⟨_, (hST.sel St), b7, b9, a4, c0, c1, c2, rfl⟩)
    refine bC z (fun j z => ?_) (fun j z => ?_)
    · refine Xn 5 rfl rfl (cB j) hS0 (Xn 6 rfl rfl (cB j) hS0 (Xn 7 rfl rfl (cB j) hS0 (Xn 8 rfl rfl (cB j) hS0 (X 9 rfl hS0 (bU (cB j) rfl) ?_))))
      cases z
      refine cV (by kernel_rfl) (a1 _ _ ⟨_, (hST.sel St), a3, rfl, rfl, N, eN, eI, rfl⟩)
    refine Xg 5 rfl rfl (cB j) hS0 (aN zV rfl) (oN 6 rfl rfl (cB j) hS0 (fun _ hS => aJ rfl (aM hS Mh (C3 a.Release.Op a.Release.K a.Release.Role.Owner a.Release.Role.Word B a.Release.Kids.length D) rfl Tryz.isAgg113 Tryz.sizeOf113)) (bS z fun h3 d9 z => vm 7 rfl rfl (cB j) (Eg hST Tryz.call107 ((mB a.Release (.slice B a.Release.Kids.length D) _ _ (b0.mono aV.mono hST.sub_hp) d9)) (fun g6 hST => ?_))))
    have hS0 := hST.has.sel (Kb Sn)
    refine ⟨hS0, (Xg 8 rfl rfl (cB j) hS0 (fV rfl) (X 9 rfl hS0 (bX (cB j) rfl) ?_))⟩
    cases z
    refine cV (by kernel_rfl) (a1 _ _ ⟨_, (hST.sel St), a3, rfl, rfl, N, eN, eI, rfl⟩)
  rintro E W ⟨a2, ⟨eI, eN⟩, hST, a3, N, t⟩
  rw [List.drop_length] at t
  rw [kH] at t
  refine aH (aD (aA (V (aG rfl) (aF (aH (aU ?_))))))
  have hx := sj t; subst hx
  exact rP hST
theorem uy (a : Value) (g : List bK) (c : Value) (i : bK → Option Bool) (r : Bool) (w : World) (j : Sl bF 15 (hp w) a g) (k : sf Tryz.prog c (hp w) (uG bF) (fun (r : Bool) => (.bool r)) i) (hm : gZ g i = some r) :
    bO false Tryz.prog 299 [a, c] w (.bool r) := by
  have hST := ST.start (dd := false) w
  unfold gZ at hm
  refine cF 9 Tryz.func299 rfl (aD (aA (V (aG rfl) (aF (aH (aD (aA (V (aC rfl) (V (aC rfl) (bS hm fun x t hm => VE (Eg hST Tryz.call184 ((rx a g c i _ _ (j.mono bR.mono hST.sub_hp) (k.mono hST.sub_hp) t)) (fun u hST => V (aQ rfl rfl rfl) (V (aG rfl) (aF ?_))))))))))))))
  refine aH (aU ?_)
  have hx := sj hm; subst hx
  exact rP hST
theorem Ah (a : bK) (g : Value) (c : Value) (H : Nat) (y : ByteArray) (i : Value) (t : List bK) (j : Value) (x : List eO) (r : Bool) (w : World) (u : Sl (Pl (bV .u8)) 1 (hp w) g a.Signed.Tag) (k : Sl aK 5 (hp w) c a.Release.Kids) (B : Sl bF 15 (hp w) i t) (D : Sl cD 8 (hp w) j x) (I : At (hp w) (.pointer (some ⟨H, 0, none⟩)) [(.string y), i, j]) (hm : oB a y t x = some r) :
    bO false Tryz.prog 300 [(.agg #[(.int .i64 a.Signed.Cred.Kind), (.string a.Signed.Cred.Head.Owner), (.string a.Signed.Cred.Head.Word), (.string a.Signed.Cred.Who), (.string a.Signed.Cred.B.Owner), (.string a.Signed.Cred.B.Word), (.string a.Signed.Cred.C.Owner), (.string a.Signed.Cred.C.Word), (.string a.Signed.Cred.Word2), g, (.int .i64 a.Release.Op), (.int .i64 a.Release.K), (.string a.Release.Role.Owner), (.string a.Release.Role.Word), c]), (.pointer (some ⟨H, 0, none⟩))] w (.bool r) := by
  have hST := ST.start (dd := false) w
  unfold oB at hm
  refine cF 16 Tryz.func300 rfl (aD (aA ?_))
  obtain ⟨U, Z, rfl⟩ := u.form
  obtain ⟨Y, c4, rfl⟩ := k.form
  refine VE (cO (v := (.agg (C4 a.Signed.Cred.Kind a.Signed.Cred.Head.Owner a.Signed.Cred.Head.Word a.Signed.Cred.Who a.Signed.Cred.B.Owner a.Signed.Cred.B.Word a.Signed.Cred.C.Owner a.Signed.Cred.C.Word a.Signed.Cred.Word2 U a.Signed.Tag.length Z a.Release.Op a.Release.K a.Release.Role.Owner a.Release.Role.Word Y a.Release.Kids.length c4).toArray)) hST rfl (fun W6 b5 hST => V (aG rfl) (aF (aH (aD (aA (V (aJ rfl (bN hST.has I Tryz.isAgg110 Tryz.sizeOf110)) (V (aN sL rfl) (V (aN ue rfl) (V (aJ rfl (aM hST.has Mh (aI a.Signed.Cred) rfl Tryz.isAgg53 Tryz.sizeOf53)) (bS hm fun z Q hm => ?_)))))))))))
  have hsz := hST.size
  refine VE (lT hST (List.Perm.refl _) Tryz.call106 (fun hH hN hsb hmm => (uk ((⟨y, t, x⟩ : cG)) i j a.Signed.Cred _ _ ⟨hH, hN, hsb⟩ (B.mono bR.mono (bE.refl _)) (D.mono dR.mono (bE.refl _)) Q)) (fun W9 a6 a8 a2 hST T hl12 M => ?_) (L0 := []))
  obtain ⟨a7, G, rfl, N⟩ := M
  replace G := G.symm; subst G
  replace hST := hST.perm Tn
  refine V (aC rfl) (V (dU rfl rfl) (V (dU rfl rfl) (VE (bL hST Tryz.zeroValue113 (fun a3 a5 hST => ?_)))))
  obtain ⟨J, K, rfl⟩ := N.form
  refine VO (bH (.agg #[(.int .i64 ((z.1).Op)), (.int .i64 ((z.1).K)), (.string (((z.1).Role).Owner)), (.string (((z.1).Role).Word)), (.slice J ((z.1).Kids).length K)]) (#[(.int .i64 ((z.1).Op)), (.int .i64 ((z.1).K)), (.string (((z.1).Role).Owner)), (.string (((z.1).Role).Word)), (.slice J ((z.1).Kids).length K)]) hST rfl rfl Tryz.sizeOf113 (by simp [Value.cells, Value.oneCell']) nb rfl (fun a4 hST => V (aG rfl) (aF (aH ?_))))
  replace hST := hST.sel (Db (Db St))
  refine aD (aA (V (aC rfl) (V (aQ rfl rfl rfl) (V (aG rfl) (aF (aH (aU ?_)))))))
  have hx := sj hm; subst hx
  exact rP hST
theorem Cj (c : cG) (g : Value) (j : Value) (r : Bool) (w : World) (a : Sl bF 15 (hp w) g c.Creds) (i : Sl cD 8 (hp w) j c.Acks) (hm : qO c = some r) :
    bO false Tryz.prog 208 [(.agg #[(.string c.Name), g, j])] w (.bool r) := by
  have hST := ST.start (dd := false) w
  unfold qO at hm
  refine cF 8 Tryz.func208 rfl (aD (aA ?_))
  obtain ⟨k, u, rfl⟩ := a.form
  obtain ⟨y, z, rfl⟩ := i.form
  refine VE (cO (v := (.agg (C5 c.Name k c.Creds.length u y c.Acks.length z).toArray)) hST rfl (fun I t hST => V (aG rfl) (aF (aH (aD (aA (V (aN sE rfl) (V (aJ rfl (aP hST.has Mh rfl Tryz.isAgg107)) (V (qD (by exact tG rfl) rfl) (bS hm fun K D hm => VE (Eg hST Tryz.call299 ((uy (.slice k c.Creds.length u) c.Creds (.func (.func 300) #[] #[(.pointer (some ⟨t, 0, none⟩))]) (fun (x : bK) => oB x c.Name c.Creds c.Acks) _ _ (a.mono bR.mono hST.sub_hp) ⟨300, #[], #[(.pointer (some ⟨t, 0, none⟩))], rfl, Tryz.call300, fun W x vs r hs hR hm => by obtain ⟨_, rfl, B⟩ := hR; obtain ⟨G, H, rfl, k0, k1⟩ := B.out; exact Ah x G H t c.Name (.slice k c.Creds.length u) c.Creds (.slice y c.Acks.length z) c.Acks r W k0 k1 (a.mono bR.mono (hST.sub_hp.trans hs)) (i.mono dR.mono (hST.sub_hp.trans hs)) (At.of (hs _ _ (hST.at_ Mh)) _ rfl) hm⟩ D)) (fun J hST => V (fV rfl) (V (aG rfl) (aF (aH ?_)))))))))))))))
  replace hST := hST.sel (Db St)
  refine aU ?_
  have hx := sj hm; subst hx
  exact rP hST
theorem tJ (a : cG) (u : Value) (x : Value) (r : Int) (w : World) (g : Sl bF 15 (hp w) u a.Creds) (c : Sl cD 8 (hp w) x a.Acks) (hm : iU a = some r) :
    bO false Tryz.prog 103 [(.agg #[(.string a.Name), u, x])] w (.int .i64 r) := by
  have hST := ST.start (dd := false) w
  unfold iU at hm
  refine cF 26 Tryz.func103 rfl (aD (aA ?_))
  obtain ⟨D, G, rfl⟩ := g.form
  obtain ⟨z, B, rfl⟩ := c.form
  refine VE (cO (v := (.agg (C5 a.Name D a.Creds.length G z a.Acks.length B).toArray)) hST rfl (fun W6 b5 hST => V (aG rfl) (aF (aH (aD (aY (aD (aA (V (aN Fe rfl) (V (aJ rfl (aP hST.has Mh rfl Tryz.isAgg9)) (bS hm fun r7 a8 hm => VE (Eg hST Tryz.call152 (bO.weak (qT a.Name _ _  a8)) (fun W9 hST => V (fV rfl) (V (aG rfl) (aF ?_)))))))))))))))
  refine aH (CI hm rfl (fun Q hm => ?_) (fun Q hm => ?_))
  · refine aD (aA (V (aG rfl) (aF (aH ?_))))
    replace hST := hST.sel (Db St)
    refine aU (fE (cU ?_))
    have hx := sj hm; subst hx
    exact rP hST
  refine aD (aA (V (aJ rfl (aM hST.has Mh (C5 a.Name D a.Creds.length G z a.Acks.length B) rfl Tryz.isAgg110 Tryz.sizeOf110)) (bS hm fun b3 Z hm => VE (Eg hST Tryz.call205 ((DX a (.slice D a.Creds.length G) (.slice z a.Acks.length B) _ _ (g.mono bR.mono hST.sub_hp) (c.mono dR.mono hST.sub_hp) Z)) (fun a9 hST => V (aG rfl) (aF (aH (CI hm rfl (fun T hm => ?_) (fun T hm => ?_)))))))))
  · refine aD (aA (V (aG rfl) (aF (aH ?_))))
    replace hST := hST.sel (Db St)
    refine aU (fE (cU ?_))
    have hx := sj hm; subst hx
    exact rP hST
  refine aD (aA (V (aJ rfl (aM hST.has Mh (C5 a.Name D a.Creds.length G z a.Acks.length B) rfl Tryz.isAgg110 Tryz.sizeOf110)) (bS hm fun b4 a1 hm => VE (Eg hST Tryz.call206 ((Da a (.slice D a.Creds.length G) (.slice z a.Acks.length B) _ _ (g.mono bR.mono hST.sub_hp) (c.mono dR.mono hST.sub_hp) a1)) (fun b0 hST => V (fV rfl) (V (aC rfl) (LJ hm (fun N E W => ∃  (J : List (Nat × Obj)), ST false dC w W (hp w) ((b5, Obj.cells ((C5 a.Name D a.Creds.length G z a.Acks.length B).toArray : Array Value) 110 (0, 0)) :: J) ∧ E 1 = (.pointer (some ⟨b5, 0, none⟩)) ∧ E 20 = (.bool N)) 5 ?_ (fun N t I => ?_))))))))
  · rintro b9 E W ⟨J, hST, a5, a6⟩ Y
    refine V (aC a6) (LJ Y (fun M E W => ∃  (K : List (Nat × Obj)), ST false dC w W (hp w) K ∧ E 25 = (.bool M)) 4 ?_ (fun M k H => ?_))
    · rintro c0 E W ⟨K, hST, a7⟩ y
      refine V (aG a7) (aF (aH (CI y rfl (fun U y => ?_) (fun U y => ?_))))
      · refine aD (aA (V (aG rfl) (aF (aH (aU (fE (cU ?_)))))))
        have hx := sj y; subst hx
        exact rP hST
      refine aX (cL (aH (aD (aA (V (aG rfl) (aF (aH (aU ?_))))))))
      have hx := sj y; subst hx
      exact rP hST
    refine bC k (fun j k => ?_) (fun j k => ?_)
    · refine Vn rfl (cB j) (Vn rfl (cB j) (Vn rfl (cB j) (V (bU (cB j) rfl) ?_)))
      cases k
      exact H _ _ ⟨_, (hST.sel (Db St)), rfl⟩
    refine Vg rfl (cB j) (aJ a5 (aM hST.has Mh (C5 a.Name D a.Creds.length G z a.Acks.length B) rfl Tryz.isAgg110 Tryz.sizeOf110)) (bS k fun b6 a2 k => oO rfl (cB j) (Eg hST Tryz.call208 ((Cj a (.slice D a.Creds.length G) (.slice z a.Acks.length B) _ _ (g.mono bR.mono hST.sub_hp) (c.mono dR.mono hST.sub_hp) a2)) (fun b1 hST => Vg rfl (cB j) (fV rfl) (V (bX (cB j) rfl) ?_))))
    cases k
    exact H _ _ ⟨_, (hST.sel (Db St)), rfl⟩
  refine bC t (fun i t => ?_) (fun i t => ?_)
  · refine Vn rfl (cB i) (Vn rfl (cB i) (Vn rfl (cB i) (Vn rfl (cB i) (V (bU (cB i) rfl) ?_))))
    cases t
    exact I _ _ ⟨_, (hST.sel St), rfl, rfl⟩
  refine Vg rfl (cB i) (aN vP rfl) (Vg rfl (cB i) (aJ rfl (aP hST.has Mh rfl Tryz.isAgg108)) (bS t fun b7 a3 t => oO rfl (cB i) (Eg hST Tryz.call207 ((Ep (.slice z a.Acks.length B) a.Acks _ _ (c.mono dR.mono hST.sub_hp) a3)) (fun b2 hST => Vg rfl (cB i) (fV rfl) (V (bX (cB i) rfl) ?_)))))
  cases t
  exact I _ _ ⟨_, (hST.sel St), rfl, rfl⟩
theorem za (t : cG) (j : Value) (y : Value) (N : Cred) (r : List Role) (w : World) (g : Sl bF 15 (hp w) j t.Creds) (x : Sl cD 8 (hp w) y t.Acks) (hm : qN t N = some r) :
    gQ false Tryz.prog 104 [(.agg #[(.string t.Name), j, y]), (.agg (aI N).toArray)] w 28 aO 2 r := by
  have hST := ST.start (dd := false) w
  unfold qN at hm
  refine cF 23 Tryz.func104 rfl (aD (aA ?_))
  obtain ⟨A1, c2, rfl⟩ := g.form
  obtain ⟨A3, c4, rfl⟩ := x.form
  refine VE (cO (v := (.agg (C5 t.Name A1 t.Creds.length c2 A3 t.Acks.length c4).toArray)) hST rfl (fun W6 b5 hST => VE (cO (v := (.agg (aI N).toArray)) hST rfl (fun W8 b7 hST => V (aG rfl) (aF (aH (aD (aA (V (aG rfl) (aF (aH (aD (aD (aA (V (aJ rfl (aM hST.has (Mt Mh) (C5 t.Name A1 t.Creds.length c2 A3 t.Acks.length c4) rfl Tryz.isAgg110 Tryz.sizeOf110)) (V (aJ rfl (aM hST.has Mh (aI N) rfl Tryz.isAgg53 Tryz.sizeOf53)) ?_))))))))))))))))
  refine bS hm fun r9 b6 hm => ?_
  have hsz := hST.size
  refine VE (lT hST (List.Perm.refl _) Tryz.call209 (fun hH hN hsb hmm => (yE t (.slice A1 t.Creds.length c2) (.slice A3 t.Acks.length c4) N _ _ ⟨hH, hN, hsb⟩ (g.mono bR.mono (bE.refl _)) (x.mono dR.mono (bE.refl _)) b6)) (fun d8 d9 c6 d7 hST c7 hl14 b4 => ?_) (L0 := []))
  obtain ⟨c5, I, rfl, J⟩ := b4
  replace I := I.symm; subst I
  replace hST := hST.perm Tn
  refine V (dO Tryz.underlying108 rfl J) (V (aC rfl) (aF (aH ?_)))
  replace hST := hST.sel (Db (Db St))
  refine dA (fun i E W => ∃ (u : Value) (B : List Role) (k : List (Nat × Obj)) (D : List (Nat × Obj)), (E 12 = .int .i64 (i : Nat) ∧ E 11 = .int .i64 (r9.length : Nat)) ∧ ST false dC w W c6 (k ++ D) ∧ E 5 = u ∧ E 10 = c5 ∧ bI 28 aO 2 u B k ∧ kK (r9.drop i) B = some r) r9.length J.len ⟨(.slice none 0 0), ([]), [], _, ⟨rfl, rfl⟩, (hST.sel St), rfl, rfl, (bI.nil _ _ _), hm⟩ (by decide) (by decide) (by decide) (fun _ _ _ h => by obtain ⟨_, _, _, _, eIN, _⟩ := h; exact eIN) ?_ ?_
  · rintro b9 E W Z ⟨u, B, k, D, ⟨eI, eN⟩, hST, G, H, z, c⟩
    obtain ⟨a, c8, a6, a5, a7⟩ := cR Z
    rw [a6] at c
    rw [kK] at c
    refine aY (aD (aA (VQ (eV (i := (b9 : Int)) (x0 := a) cD.out Tryz.underlying108 Tryz.sizeOf263 H eI J (Int.natCast_nonneg _) a5) (fun d4 ⟨_, ⟨d5, d6, rfl, a3, a4⟩, a2⟩ => V (aJ rfl (bN hST.has a2 Tryz.isAgg263 Tryz.sizeOf263)) (VE (bL hST Tryz.zeroValue263 (fun c9 d3 hST => ?_)))))))
    obtain ⟨K, Q, rfl⟩ := a3.form
    obtain ⟨M, T, rfl⟩ := a4.form
    refine VO (bH (.agg (C7 a.Role.Owner a.Role.Word a.Release.Op a.Release.K a.Release.Role.Owner a.Release.Role.Word K a.Release.Kids.length Q M a.Closure.length T).toArray) ((C7 a.Role.Owner a.Role.Word a.Release.Op a.Release.K a.Release.Role.Owner a.Release.Role.Word K a.Release.Kids.length Q M a.Closure.length T).toArray) hST rfl rfl Tryz.sizeOf263 (by simp [Value.cells, Value.oneCell']) nb rfl (fun d0 hST => aF (aH (aA (V (aC G) (V (aN uF rfl) (V (aJ rfl (aM hST.has Mh (aO a.Role) rfl Tryz.isAgg28 Tryz.sizeOf28)) (VE (aR (qs := #[(0, (.agg (aO a.Role).toArray))]) (cs := (aO a.Role).toArray) hST (bM rfl) (bB [(.agg (aO a.Role).toArray)] Tryz.underlying34 Tryz.sizeOf28 Tryz.zeroValue28 (by decide) rfl (by intro v hv; simp only [List.mem_cons, List.not_mem_nil, or_false] at hv; rcases hv with rfl <;> rfl) rfl rfl) (fun d1 b1 hST => ?_))))))))))
    replace hST := hST.perm (Nr (Qb (Qb Qz)) Nz)
    refine bS c fun c0 Y c => VE (kG (enc := aO) (v := u) (vs := (.slice (some ⟨b1, 0, none⟩) 1 1)) (R := k) hST tY (by decide) rI Tryz.underlying34 rE.1 rE.2.1 rfl rE.2.2.1 rE.2.2.2 rfl rfl z (Sl.lit (enc := aO) (l := [a.Role]) tY rfl nb rfl (hST.at_ (Ma Mh))) Y (fun d2 c3 b0 hST U => V (aG rfl) (aF (cL (aH ?_)))))
    replace hST := hST.sel (Kr (Db (Db St)))
    exact ⟨eI, c3, c0, b0, _, ⟨rfl, eN⟩, (hST.sel St), rfl, H, U, (by rw [a7]; exact c)⟩
  rintro E W ⟨u, B, k, D, ⟨eI, eN⟩, hST, G, H, z, c⟩
  rw [List.drop_length] at c
  rw [kK] at c
  refine aH (aD (aA (V (aC G) (V (aG rfl) (aF (aH (aU ?_)))))))
  have hx := sj c; subst hx
  exact eA (v := u) rfl rfl ⟨_, k, rfl, hST.backRow (fun p hq => (Ml hq)) z.nd, z⟩
theorem Dn (a : Cred) (r : List Role) (w : World)  (hm : sr a = some r) :
    gQ true Tryz.prog 118 [(.agg (aI a).toArray)] w 28 aO 2 r := by
  have hST := ST.start (dd := true) w
  unfold sr at hm
  refine cF 27 Tryz.func118 rfl (aD (aA (VE (cO (v := (.agg (aI a).toArray)) hST rfl (fun W2 b1 hST => V (aG rfl) (aF (aH (aD (aD (aA (V (aJ rfl (aM hST.has Mh (aI a) rfl Tryz.isAgg53 Tryz.sizeOf53)) (bS hm fun r3 a7 hm => VE (Eg hST Tryz.call137 ((su a _ _  a7)) (fun W5 hST => V (fV rfl) (aF ?_)))))))))))))))
  refine aH (CI hm rfl (fun a6 hm => ?_) (fun a6 hm => ?_))
  · refine aD (aA (V (aG rfl) (aF (aH ?_))))
    replace hST := hST.sel (Db St)
    refine aU (cU ?_)
    have hx := sj hm; subst hx
    exact eA (v := (.slice none 0 0)) rfl rfl ⟨_, [], rfl, hST.backRow (fun p hq => by cases hq) (by simp), bI.nil _ _ _⟩
  refine aX (aH (aD (aA (V (aN oA rfl) (V (aJ rfl (aM hST.has Mh (aO a.Head) rfl Tryz.isAgg28 Tryz.sizeOf28)) (VE (aR (qs := #[(0, (.agg (aO a.Head).toArray))]) (cs := (aO a.Head).toArray) hST (bM rfl) (bB [(.agg (aO a.Head).toArray)] Tryz.underlying34 Tryz.sizeOf28 Tryz.zeroValue28 (by decide) rfl (by intro v hv; simp only [List.mem_cons, List.not_mem_nil, or_false] at hv; rcases hv with rfl <;> rfl) rfl rfl) (fun W8 y hST => V (aG rfl) (aF (aH (aD (CJ hm (fun I E W => ∃ (j : Value) (i : List (Nat × Obj)) (z : List (Nat × Obj)), ST true dC w W (hp w) ((b1, Obj.cells ((aI a).toArray : Array Value) 53 (0, 0)) :: (i ++ z)) ∧ E 1 = (.pointer (some ⟨b1, 0, none⟩)) ∧ E 3 = j ∧ bI 28 aO 2 j I i) (fun I g => ?_) ?_))))))))))))
  · refine aD (aA (V (aN uq rfl) (V (aJ rfl (aP hST.has (Mt Mh) rfl Tryz.isAgg3)) (V (aQ rfl rfl rfl) (aF (aH (CI g rfl (fun Q g => ?_) (fun Q g => ?_))))))))
    · refine aA (V (aC rfl) (V (aN kR rfl) (V (aJ rfl (aM hST.has (Mt Mh) (aO a.B) rfl Tryz.isAgg28 Tryz.sizeOf28)) (VE (aR (qs := #[(0, (.agg (aO a.B).toArray))]) (cs := (aO a.B).toArray) hST (bM rfl) (bB [(.agg (aO a.B).toArray)] Tryz.underlying34 Tryz.sizeOf28 Tryz.zeroValue28 (by decide) rfl (by intro v hv; simp only [List.mem_cons, List.not_mem_nil, or_false] at hv; rcases hv with rfl <;> rfl) rfl rfl) (fun b3 a4 hST => ?_))))))
      replace hST := hST.perm (Nb (Pb Pz) Nz)
      refine bS g fun c0 T g => VE (kG (enc := aO) (v := (.slice (some ⟨y, 0, none⟩) 1 1)) (vs := (.slice (some ⟨a4, 0, none⟩) 1 1)) (R := [(y, Obj.cells ((aO a.Head).toArray : Array Value) 28 (0, 0))]) hST tY (by decide) rI Tryz.underlying34 rE.1 rE.2.1 rfl rE.2.2.1 rE.2.2.2 rfl rfl (bI.lit (l := [a.Head]) (enc := aO) rfl (by decide) rfl rfl) (Sl.lit (enc := aO) (l := [a.B]) tY rfl nb rfl (hST.at_ (Mt Mh))) T (fun b4 a9 a1 hST K => V (aG rfl) (aF (aH ?_))))
      cases g
      exact ⟨a9, a1, _, (hST.sel (Sb (Pr (Pb Pz)) (Kr (Db St)))), rfl, rfl, K⟩
    refine aX (aH ?_)
    cases g
    replace hST := hST.row1
    exact ⟨(.slice (some ⟨y, 0, none⟩) 1 1), [(y, Obj.cells ((aO a.Head).toArray : Array Value) 28 (0, 0))], _, (hST.sel (Sb (Pr Pz) St)), rfl, rfl, (bI.lit (l := [a.Head]) (enc := aO) rfl (by decide) rfl rfl)⟩
  rintro b5 E W ⟨j, i, z, hST, D, G, u⟩ U
  refine aD (CJ U (fun H E W => ∃ (t : Value) (k : List (Nat × Obj)) (B : List (Nat × Obj)), ST true dC w W (hp w) (k ++ B) ∧ E 3 = t ∧ bI 28 aO 2 t H k) (fun H c => ?_) ?_)
  · refine aD (aA (V (aN uq D) (V (aJ rfl (aP hST.has Mh rfl Tryz.isAgg3)) (V (aQ rfl rfl rfl) (aF (aH (CI c rfl (fun M c => ?_) (fun M c => ?_))))))))
    · refine aA (V (aC G) (V (aN un D) (V (aJ rfl (aM hST.has Mh (aO a.C) rfl Tryz.isAgg28 Tryz.sizeOf28)) (VE (aR (qs := #[(0, (.agg (aO a.C).toArray))]) (cs := (aO a.C).toArray) hST (bM rfl) (bB [(.agg (aO a.C).toArray)] Tryz.underlying34 Tryz.sizeOf28 Tryz.zeroValue28 (by decide) rfl (by intro v hv; simp only [List.mem_cons, List.not_mem_nil, or_false] at hv; rcases hv with rfl <;> rfl) rfl rfl) (fun b0 a3 hST => ?_))))))
      replace hST := hST.perm (Nr (Qb (Qb Qz)) Nz)
      refine bS c fun b9 N c => VE (kG (enc := aO) (v := j) (vs := (.slice (some ⟨a3, 0, none⟩) 1 1)) (R := i) hST tY (by decide) rI Tryz.underlying34 rE.1 rE.2.1 rfl rE.2.2.1 rE.2.2.2 rfl rfl u (Sl.lit (enc := aO) (l := [a.C]) tY rfl nb rfl (hST.at_ (Ma Mh))) N (fun b2 a8 Z hST J => V (aG rfl) (aF (aH ?_))))
      cases c
      exact ⟨a8, Z, _, (hST.sel (Kr (Db (Db St)))), rfl, J⟩
    refine aX (aH ?_)
    cases c
    exact ⟨j, i, _, (hST.sel (Db St)), G, u⟩
  rintro b6 E W ⟨t, k, B, hST, a5, x⟩ Y
  refine aD (aA (V (aC a5) (V (aG rfl) (aF (aH (aU ?_))))))
  have hx := sj Y; subst hx
  exact eA (v := t) rfl rfl ⟨_, k, rfl, hST.backRow (fun p hq => (Ml hq)) x.nd, x⟩
theorem yx (M : Nat) (u : Value) (a9 : List (Role × (List (ByteArray × Bool)))) (G : List (Nat × Obj)) (D : Value) (a0 : List Cred) (B : List (Nat × Obj)) (a : Value) (Y : List (Role × (List Cred))) (I : List (Nat × Obj)) (c : Value) (K : List (ByteArray × (List Cred))) (t : List (Nat × Obj)) (j : Value) (a4 : List aT) (y : List (Nat × Obj)) (J : Int) (H : Cred) (r : ((List Cred) × (List (Role × (List Cred))) × (List (ByteArray × (List Cred))))) (w : World) {μ0 : bD} (h0 : jU μ0 ((M, Obj.cells (#[u, D, a, c, j, (.int .i64 J)] : Array Value) 294 (0, 0)) :: (G ++ (B ++ (I ++ (t ++ (y ++ [])))))) w) (e9 : dX (fun (x : Role) => (.agg (aO x).toArray)) (dS Value.string (fun (x : Bool) => (Value.bool x))) u a9 G) (a6 : bI 53 aI 9 D a0 B) (b2 : dX (fun (x : Role) => (.agg (aO x).toArray)) (bI 53 aI 9) a Y I) (T : dX Value.string (bI 53 aI 9) c K t) (e1 : lJ 38 dH 3 j a4 y) (hm : lY a9 a0 Y K a4 J H = some r) :
    eB true Tryz.prog 324 [(.pointer (some ⟨M, 0, none⟩)), (.agg (aI H).toArray)] w ((M, Obj.cells (#[u, D, a, c, j, (.int .i64 J)] : Array Value) 294 (0, 0)) :: (G ++ (B ++ (I ++ (t ++ (y ++ [])))))) (fun v L1 W' => ∃ (y1 : Value) (S2 : List (Nat × Obj)) (S4 : List (Nat × Obj)) (S6 : List (Nat × Obj)), v = (.tuple #[]) ∧ L1 = ((M, Obj.cells (#[u, y1, a, c, j, (.int .i64 J)] : Array Value) 294 (0, 0)) :: (G ++ (S2 ++ (S4 ++ (S6 ++ (y ++ [])))))) ∧ bI 53 aI 9 y1 r.1 S2 ∧ dX (fun (x : Role) => (.agg (aO x).toArray)) (bI 53 aI 9) a r.2.1 S4 ∧ dX Value.string (bI 53 aI 9) c r.2.2 S6) := by
  have hST := ST.startE (dd := true) h0
  unfold lY at hm
  refine cF 55 Tryz.func324 rfl (aD (aA (VE (cO (v := (.agg (aI H).toArray)) hST rfl (fun W2 b1 hST => aF (aH (aD ?_)))))))
  replace hST := hST.drew
  have hS0 := hST.has.sel (Kb Sn)
  have hS1 := hST.has.sel (Db (Kb Sn))
  refine qY 10 hS0 hS1 cC (cN 0 rfl (by kernel_rfl) (.inl rfl) rfl (by decide) (fun _ _ h => ⟨h.1, dG (by rfl) h.2⟩) ⟨hS0, fun _ => hS1⟩ (fun _ _ _ _ => aC rfl) (cN 1 rfl (by kernel_rfl) (.inl rfl) rfl (by decide) (fun _ _ h => ⟨h.1, dG (by rfl) h.2⟩) ⟨hS0, fun _ => hS1⟩ (fun _ _ _ _ => aC rfl) (cN 2 rfl (by kernel_rfl) (.inl rfl) rfl (by decide) (fun _ _ h => ⟨h.1, dG (by rfl) h.2⟩) ⟨hS0, fun _ => hS1⟩ (fun _ _ _ _ => cT rfl) (cN 3 rfl (by kernel_rfl) (.inl rfl) rfl (by decide) (fun _ _ h => ⟨h.1, dG (by rfl) h.2⟩) ⟨hS0, fun _ => hS1⟩ (fun _ _ _ _ => aN Cd rfl) (cN 4 rfl (by kernel_rfl) (.inl rfl) rfl (by decide) (fun _ _ h => ⟨h.1, dG (by rfl) h.2⟩) ⟨hS0, fun _ => hS1⟩ (fun l W hpd hs => have hS := (hs.2 (hpd.bar 10 [4] (by kernel_rfl) rfl)); aJ rfl (aP hS Mh rfl Tryz.isAgg22)) (cN 5 rfl (by kernel_rfl) (.inl rfl) rfl (by decide) (fun _ _ h => ⟨h.1, dG (by rfl) h.2⟩) ⟨hS0, fun _ => hS1⟩ (fun l W hpd hs => have hS := hs.1; aJ rfl (aM hS Mh (aI H) rfl Tryz.isAgg53 Tryz.sizeOf53)) (XE 6 rfl (aR (qs := #[(0, (.agg (aI H).toArray))]) (cs := (aI H).toArray) hST (bM rfl) (bB [(.agg (aI H).toArray)] Tryz.underlying22 Tryz.sizeOf53 Tryz.zeroValue53 (by decide) rfl (by intro v hv; simp only [List.mem_cons, List.not_mem_nil, or_false] at hv; rcases hv with rfl <;> rfl) rfl rfl) (fun j8 g0 hST => ?_)))))))))
  have hS0 := hST.has.sel (Db (Kb Sn))
  have hS1 := hST.has.sel (Db (Db (Kb Sn)))
  refine ⟨⟨hS0, fun _ => hS1⟩, ?_⟩
  replace hST := hST.perm (Nr (Qb (Qb (Qb (Qr Qz)))) Nz)
  refine bS hm fun a5 f0 hm => XE 7 rfl (kG (enc := aI) (v := D) (vs := (.slice (some ⟨g0, 0, none⟩) 1 1)) (R := B) hST bQ (by decide) gY Tryz.underlying22 fT.1 fT.2.1 rfl fT.2.2.1 fT.2.2.2 rfl rfl a6 (Sl.lit (enc := aI) (l := [H]) bQ rfl nb rfl (hST.at_ (Ma Mh))) f0 (fun j9 k2 b7 hST b5 => ?_))
  have hS0 := hST.has.sel (Dr (Db (Kb Sn)))
  have hS1 := hST.has.sel (Dr (Db (Db (Kb Sn))))
  refine ⟨⟨hS0, fun _ => hS1⟩, (cN 8 rfl (by kernel_rfl) (.inl rfl) rfl (by decide) (fun _ _ h => ⟨h.1, dG (by rfl) h.2⟩) ⟨hS0, fun _ => hS1⟩ (fun _ _ _ _ => cT rfl) (cN 9 rfl (by kernel_rfl) (.inl rfl) rfl (by decide) (fun _ _ h => ⟨h.1, dG (by rfl) h.2⟩) ⟨hS0, fun _ => hS1⟩ (fun _ _ _ _ => aN Cd rfl) ?_))⟩
  obtain ⟨a8, b0, rfl⟩ := b5.form
  replace hST := hST.perm (Nb (Pr (Pb (Pb Pz))) Nz)
  refine XO 10 rfl (bH (.slice a8 a5.length b0) (#[u, (.slice a8 a5.length b0), a, c, j, (.int .i64 J)]) hST rfl rfl Tryz.sizeOf22 (by simp [Value.cells, Value.oneCell']) nb rfl (fun k0 hST => ?_))
  have hS0 := hST.has.sel (Db (Dr (Db (Kb Sn))))
  refine ⟨⟨hS0, fun h => vh (by kernel_rfl) h⟩, (dB (by kernel_rfl) (aH ?_))⟩
  replace hST := hST.sel (Kb (Kr (Db St)))
  refine aD (aD (aA (V (aJ rfl (aM hST.has (Mt (Ma Mh)) (aI H) rfl Tryz.isAgg53 Tryz.sizeOf53)) (bS hm fun c1 f1 hm => VE (sZ hST Tryz.call118 ((Dn H _ _  f1)) (fun k1 k3 k4 j7 hST g4 hl41 e8 => ?_))))))
  obtain ⟨g3, hST, g5, hl49, f2⟩ := ST.pub1 hST e8 tY
  refine bS hm fun _ b9 hm => VQ (Ai (i := 1) Tryz.underlying34 Tryz.sizeOf28 rfl rfl f2 (rZ b9) (rX b9)) (fun g1 b6 => V (dO Tryz.underlying34 rfl b6.1) (V (aC rfl) (aF (aH (dA (fun i E W => ∃ (a3 : List (Role × (List Cred))) (U : List (Nat × Obj)) (b3 : List (Nat × Obj)), (E 20 = .int .i64 (i : Nat) ∧ E 19 = .int .i64 (((c1.drop (Int.toNat 1))).length : Nat)) ∧ ST true (keys ((M, Obj.cells (#[u, D, a, c, j, (.int .i64 J)] : Array Value) 294 (0, 0)) :: (G ++ (B ++ (I ++ (t ++ (y ++ []))))))) w W g3 ((M, Obj.cells (#[u, (.slice a8 a5.length b0), a, c, j, (.int .i64 J)] : Array Value) 294 (0, 0)) :: ((b1, Obj.cells ((aI H).toArray : Array Value) 53 (0, 0)) :: (U ++ (b7 ++ (G ++ (t ++ (y ++ b3))))))) ∧ E 0 = (.pointer (some ⟨M, 0, none⟩)) ∧ E 3 = (.pointer (some ⟨b1, 0, none⟩)) ∧ E 18 = g1 ∧ dX (fun (x : Role) => (.agg (aO x).toArray)) (bI 53 aI 9) a a3 U ∧ fM H K a5 (((c1.drop (Int.toNat 1))).drop i) a3 = some r) ((c1.drop (Int.toNat 1))).length b6.1.len ⟨Y, I, _, ⟨rfl, rfl⟩, (hST.sel (Kb (Sb (Pr Pz) (Sr (Qr (Qr Qz)) St)))), rfl, rfl, rfl, b2, hm⟩ (by decide) (by decide) (by decide) (fun _ _ _ h => by obtain ⟨_, _, _, eIN, _⟩ := h; exact eIN) ?_ ?_)))))
  · rintro f3 E W d3 ⟨a3, U, b3, ⟨eI, eN⟩, hST, a2, N, b4, Z, g⟩
    obtain ⟨Q, h2, d8, d7, d9⟩ := cR d3
    rw [d8] at g
    rw [fM] at g
    refine aY (aD (aA (VQ (lZ (enc := aO) (i := (f3 : Int)) (x0 := Q) Tryz.underlying34 Tryz.sizeOf28 b4 eI b6.1 (Int.natCast_nonneg _) d7) (fun j0 d4 => V (aJ rfl (bN hST.has d4 Tryz.isAgg28 Tryz.sizeOf28)) (VE (bL hST Tryz.zeroValue28 (fun h9 i8 hST => VO (bH (.agg (aO Q).toArray) ((aO Q).toArray) hST rfl rfl Tryz.sizeOf28 (rI Q) nb rfl (fun i0 hST => aF (aH ?_))))))))))
    replace hST := hST.drew
    have hS0 := hST.has.sel (Kb (Kb (Kb Sn)))
    refine cX hS0 cC (X 0 rfl hS0 (aC a2) (X 1 rfl hS0 (cT rfl) (X 2 rfl hS0 (aN Fa rfl) (XH 3 rfl hS0 (fun _ hS => aJ rfl (aP hS (Mt Mh) rfl Tryz.isAgg291)) (XH 4 rfl hS0 (fun _ hS => aJ rfl (aM hS Mh (aO Q) rfl Tryz.isAgg28 Tryz.sizeOf28)) (XH 5 rfl hS0 (fun _ hS => aJ N (aM hS (Mt (Mt Mh)) (aI H) rfl Tryz.isAgg53 Tryz.sizeOf53)) (XE 6 rfl (aR (qs := #[(0, (.agg (aI H).toArray))]) (cs := (aI H).toArray) hST (bM rfl) (bB [(.agg (aI H).toArray)] Tryz.underlying22 Tryz.sizeOf53 Tryz.zeroValue53 (by decide) rfl (by intro v hv; simp only [List.mem_cons, List.not_mem_nil, or_false] at hv; rcases hv with rfl <;> rfl) rfl rfl) (fun i1 e6 hST => ?_)))))))))
    have hS0 := hST.has.sel (Db (Kb (Kb (Kb Sn))))
    refine ⟨hS0, ?_⟩
    obtain ⟨g8, d1⟩ := Z
    replace hST := hST.perm (Nr (Qb (Qb (Qb (Qb Qz)))) Nz)
    refine XE 7 rfl (Fl (k := Q) (x0 := [])  aZ vp Tryz.underlying291 Tryz.zeroValue22 (bI.nil _ _ _) hST d1 rfl rfl (fun i2 f5 h1 h4 e2 hST c3 c2 => ?_))
    have hS0 := hST.has.sel (Dr (Dr (Db (Kb (Kb (Kb Sn))))))
    refine ⟨hS0, (X 8 rfl hS0 (dU rfl rfl) (X 10 rfl hS0 (dU rfl rfl) ?_))⟩
    replace hST := hST.perm (Nr (Qr Qz) Nz)
    refine bS g fun c0 c8 g => XE 9 rfl (kG (enc := aI) (v := f5) (vs := (.slice (some ⟨e6, 0, none⟩) 1 1)) (R := e2) hST bQ (by decide) gY Tryz.underlying22 fT.1 fT.2.1 rfl fT.2.2.1 fT.2.2.2 rfl rfl c3 (Sl.lit (enc := aI) (l := [H]) bQ rfl nb rfl (hST.at_ (Ma (Ma Mh)))) c8 (fun i3 j3 h5 hST c4 => ?_))
    have hS0 := hST.has.sel (Dr (Dr (Db (Kb (Kb (Kb Sn))))))
    refine ⟨hS0, ?_⟩
    replace hST := hST.perm (Nr (Qr Qz) Nz)
    refine XO 11 rfl (DH (e := 0) (z := c0)  aZ vp hST c2 rfl rfl rfl c4 (fun i4 g9 e3 hST c5 => ?_))
    have hS0 := hST.has.sel (Dr (Db (Kb (Kb (Kb Sn)))))
    refine ⟨hS0, (dB (by kernel_rfl) (cL (aH ?_)))⟩
    replace hST := hST.sel (Kr (Db (Db St)))
    exact ⟨eI, ((iG bA a3 Q c0)), e3, _, ⟨rfl, eN⟩, (hST.sel (Sb (Pr Pz) (Sb (Pr Pz) St))), a2, N, b4, c5.e, (by rw [d9]; exact g)⟩
  rintro E W ⟨a3, U, b3, ⟨eI, eN⟩, hST, a2, N, b4, Z, g⟩
  rw [List.drop_length] at g
  rw [fM] at g
  refine aH (aD (aA (V (aN uq N) (V (aJ rfl (aP hST.has (Mt Mh) rfl Tryz.isAgg3)) (V (aQ rfl rfl rfl) (aF (aH (CI g rfl (fun c9 g => ?_) (fun c9 g => ?_)))))))))
  · replace hST := hST.drew
    have hS0 := hST.has.sel (Kb (Kb Sn))
    have hS1 := hST.has.sel (Db (Db (Dr (Dr (Dr (Kr Sn))))))
    refine qY 15 hS0 hS1 cC (cN 0 rfl (by kernel_rfl) (.inl rfl) rfl (by decide) (fun _ _ h => ⟨h.1, dG (by rfl) h.2⟩) ⟨hS0, fun _ => hS1⟩ (fun _ _ _ _ => aC a2) (cN 1 rfl (by kernel_rfl) (.inl rfl) rfl (by decide) (fun _ _ h => ⟨h.1, dG (by rfl) h.2⟩) ⟨hS0, fun _ => hS1⟩ (fun _ _ _ _ => cT rfl) (cN 2 rfl (by kernel_rfl) (.inl rfl) rfl (by decide) (fun _ _ h => ⟨h.1, dG (by rfl) h.2⟩) ⟨hS0, fun _ => hS1⟩ (fun _ _ _ _ => aN BU rfl) (cN 3 rfl (by kernel_rfl) (.inl rfl) rfl (by decide) (fun _ _ h => ⟨h.1, dG (by rfl) h.2⟩) ⟨hS0, fun _ => hS1⟩ (fun l W hpd hs => have hS := hs.1; aJ rfl (aP hS Mh rfl Tryz.isAgg292)) (cN 4 rfl (by kernel_rfl) (.inl rfl) rfl (by decide) (fun _ _ h => ⟨h.1, dG (by rfl) h.2⟩) ⟨hS0, fun _ => hS1⟩ (fun _ _ _ _ => aN uX N) (cN 5 rfl (by kernel_rfl) (.inl rfl) rfl (by decide) (fun _ _ h => ⟨h.1, dG (by rfl) h.2⟩) ⟨hS0, fun _ => hS1⟩ (fun l W hpd hs => have hS := hs.1; aJ rfl (aP hS (Mt Mh) rfl Tryz.isAgg9)) (cN 6 rfl (by kernel_rfl) (.inl rfl) rfl (by decide) (fun _ _ h => ⟨h.1, dG (by rfl) h.2⟩) ⟨hS0, fun _ => hS1⟩ (fun _ _ _ _ => aC a2) (cN 7 rfl (by kernel_rfl) (.inl rfl) rfl (by decide) (fun _ _ h => ⟨h.1, dG (by rfl) h.2⟩) ⟨hS0, fun _ => hS1⟩ (fun _ _ _ _ => cT rfl) (cN 8 rfl (by kernel_rfl) (.inl rfl) rfl (by decide) (fun _ _ h => ⟨h.1, dG (by rfl) h.2⟩) ⟨hS0, fun _ => hS1⟩ (fun _ _ _ _ => aN BU rfl) (cN 9 rfl (by kernel_rfl) (.inl rfl) rfl (by decide) (fun _ _ h => ⟨h.1, dG (by rfl) h.2⟩) ⟨hS0, fun _ => hS1⟩ (fun l W hpd hs => have hS := hs.1; aJ rfl (aP hS Mh rfl Tryz.isAgg292)) (cN 10 rfl (by kernel_rfl) (.inl rfl) rfl (by decide) (fun _ _ h => ⟨h.1, dG (by rfl) h.2⟩) ⟨hS0, fun _ => hS1⟩ (fun _ _ _ _ => aN uX N) (cN 11 rfl (by kernel_rfl) (.inl rfl) rfl (by decide) (fun _ _ h => ⟨h.1, dG (by rfl) h.2⟩) ⟨hS0, fun _ => hS1⟩ (fun l W hpd hs => have hS := hs.1; aJ rfl (aP hS (Mt Mh) rfl Tryz.isAgg9)) ?_))))))))))))
    obtain ⟨e0, a7⟩ := T
    obtain ⟨h6, g6, g7⟩ := eQ.rowAt eP.1 a7 H.Word2
    refine cN 12 rfl (by kernel_rfl) (.inl rfl) rfl (by decide) (fun _ _ h => ⟨h.1, dG (by rfl) h.2⟩) ⟨hS0, fun _ => hS1⟩ (fun l W hpd hs => have hS := (hs.2 (hpd.bar 15 [12] (by kernel_rfl) rfl)); j1 (k := H.Word2) (z := (.slice none 0 0)) Av Tryz.underlying292 Tryz.zeroValue22 rfl rfl a7 (fun b o hq => hS.2 b o (Ml hq))) (cN 13 rfl (by kernel_rfl) (.inl rfl) rfl (by decide) (fun _ _ h => ⟨h.1, dG (by rfl) h.2⟩) ⟨hS0, fun _ => hS1⟩ (fun l W hpd hs => have hS := hs.1; aJ N (aM hS (Mt Mh) (aI H) rfl Tryz.isAgg53 Tryz.sizeOf53)) (XE 14 rfl (aR (qs := #[(0, (.agg (aI H).toArray))]) (cs := (aI H).toArray) hST (bM rfl) (bB [(.agg (aI H).toArray)] Tryz.underlying22 Tryz.sizeOf53 Tryz.zeroValue53 (by decide) rfl (by intro v hv; simp only [List.mem_cons, List.not_mem_nil, or_false] at hv; rcases hv with rfl <;> rfl) rfl rfl) (fun i5 e7 hST => ?_))))
    have hS0 := hST.has.sel (Db (Kb (Kb Sn)))
    have hS1 := hST.has.sel (Db (Db (Db (Dr (Dr (Dr (Kr Sn)))))))
    refine ⟨⟨hS0, fun _ => hS1⟩, ?_⟩
    replace hST := hST.perm (Nr (Qb (Qb (Qb (Qr (Qr (Qr Qz)))))) Nz)
    obtain ⟨h7, e4, d5, d6, d2⟩ := eQ.open eP.1 (bI.nil _ _ _) a7 H.Word2
    replace hST := hST.perm (Lc d5)
    replace hST := hST.perm (Nr (Qr Qz) Nz)
    refine bS g fun f4 d0 g => XE 15 rfl (kG (enc := aI) (v := (jL cQ e0 H.Word2 (.slice none 0 0))) (vs := (.slice (some ⟨e7, 0, none⟩) 1 1)) (R := e4) hST bQ (by decide) gY Tryz.underlying22 fT.1 fT.2.1 rfl fT.2.2.1 fT.2.2.2 rfl rfl d6 (Sl.lit (enc := aI) (l := [H]) bQ rfl nb rfl (hST.at_ (Ma (Ma Mh)))) d0 (fun i6 j4 h8 hST c6 => ?_))
    have hS0 := hST.has.sel (Dr (Dr (Db (Kb (Kb Sn)))))
    refine ⟨⟨hS0, fun h => vh (by kernel_rfl) h⟩, ?_⟩
    replace hST := hST.perm (Nr (Qr Qz) Nz)
    refine XO 16 rfl (Je (k := H.Word2) (z := f4)  Av Tryz.underlying292 hST d2 rfl rfl rfl c6 (fun i7 e5 hST c7 => ?_))
    have hS0 := hST.has.sel (Dr (Db (Kb (Kb Sn))))
    refine ⟨⟨hS0, fun h => vh (by kernel_rfl) h⟩, (dB (by kernel_rfl) (lP ?_))⟩
    have hx := sj g; subst hx
    exact jD rfl ⟨_, _, rfl, (hST.bkM (Sb (Pr (Pb Pz)) (Sr (Qr (Qb (Qb (Qr (Qr Qz))))) (Sr (Qr (Qb (Qb (Qr Qz)))) (Sr (Qr (Qb (Qb Qz))) (Kr (Db (Db (Kr Sn))))))))), (.slice a8 a5.length b0), b7, U, e5, rfl, rfl, b5, Z, c7.e⟩
  refine aX (lP ?_)
  have hx := sj g; subst hx
  exact jD rfl ⟨_, _, rfl, (hST.bkM (Kb (Db (Sr (Qr (Qr Qz)) (Sr (Qr Qz) (Kr (Kr (Kr Sn)))))))), (.slice a8 a5.length b0), b7, U, t, rfl, rfl, b5, Z, T⟩
theorem lW (J : Nat) (g : Value) (a0 : List (Role × (List (ByteArray × Bool)))) (D : List (Nat × Obj)) (a : Value) (M : List Cred) (u : List (Nat × Obj)) (j : Value) (Z : List (Role × (List Cred))) (B : List (Nat × Obj)) (c : Value) (N : List (ByteArray × (List Cred))) (y : List (Nat × Obj)) (i : Value) (Y : List aT) (t : List (Nat × Obj)) (H : Int) (G : Role) (U : ByteArray) (r : ((List (Role × (List (ByteArray × Bool)))) × (List aT) × Int)) (w : World) {μ0 : bD} (h0 : jU μ0 ((J, Obj.cells (#[g, a, j, c, i, (.int .i64 H)] : Array Value) 294 (0, 0)) :: (D ++ (u ++ (B ++ (y ++ (t ++ [])))))) w) (a5 : dX (fun (x : Role) => (.agg (aO x).toArray)) (dS Value.string (fun (x : Bool) => (Value.bool x))) g a0 D) (b5 : bI 53 aI 9 a M u) (c3 : dX (fun (x : Role) => (.agg (aO x).toArray)) (bI 53 aI 9) j Z B) (b6 : dX Value.string (bI 53 aI 9) c N y) (K : lJ 38 dH 3 i Y t) (hm : fQ a0 M Z N Y H G U = some r) :
    eB true Tryz.prog 370 [(.pointer (some ⟨J, 0, none⟩)), (.agg (aO G).toArray), (.string U)] w ((J, Obj.cells (#[g, a, j, c, i, (.int .i64 H)] : Array Value) 294 (0, 0)) :: (D ++ (u ++ (B ++ (y ++ (t ++ [])))))) (fun v L1 W' => ∃ (S1 : List (Nat × Obj)) (y3 : Value) (S4 : List (Nat × Obj)), v = (.tuple #[]) ∧ L1 = ((J, Obj.cells (#[g, a, j, c, y3, (.int .i64 (r.2.2))] : Array Value) 294 (0, 0)) :: (S1 ++ (u ++ (B ++ (y ++ (S4 ++ [])))))) ∧ dX (fun (x : Role) => (.agg (aO x).toArray)) (dS Value.string (fun (x : Bool) => (Value.bool x))) g r.1 S1 ∧ lJ 38 dH 3 y3 r.2.1 S4) := by
  have hST := ST.startE (dd := true) h0
  unfold fQ at hm
  refine cF 53 Tryz.func370 rfl (aD (aA (VE (cO (v := (.agg (aO G).toArray)) hST rfl (fun W2 b1 hST => aF (aH (aD (aD ?_))))))))
  replace hST := hST.drew
  have hS0 := hST.has.sel (Kb (Kb (Kr Sn)))
  refine cX hS0 cC (X 0 rfl hS0 (aC rfl) (X 1 rfl hS0 (cT rfl) (X 2 rfl hS0 (aN sM rfl) (XH 3 rfl hS0 (fun _ hS => aJ rfl (aP hS (Mt Mh) rfl Tryz.isAgg290)) (XH 4 rfl hS0 (fun _ hS => aJ rfl (aM hS Mh (aO G) rfl Tryz.isAgg28 Tryz.sizeOf28)) ?_)))))
  obtain ⟨f4, Q⟩ := a5
  refine XH 5 rfl hS0 (fun _ hS => j1 (k := G) (z := (.map none)) vp Tryz.underlying290 Tryz.zeroValue296 rfl rfl Q (fun b o hq => hS.2 b o (Mt (Mt (Ml hq))))) (X 6 rfl hS0 (aC rfl) (XH 7 rfl hS0 (fun _ hS => vj (k := U) (z := false) (vf := (fun (x : Bool) => (Value.bool x))) Av Tryz.underlying296 Tryz.zeroValue4 rfl rfl (eQ.mapAt (μ := hp _) aZ.1 Q G (fun b o hq => hS.2 b o (Mt (Mt (Ml hq)))))) (dB (by kernel_rfl) (aH (CI hm rfl (fun d5 hm => ?_) (fun d5 hm => ?_))))))
  · refine aU (cU ?_)
    have hx := sj hm; subst hx
    exact jD rfl ⟨_, _, rfl, (hST.bkM (Db (Kb (Kr (Kr (Kr (Kr (Kr Sn)))))))), D, i, t, rfl, rfl, Q.e, K⟩
  refine aX (aH (aD (CJ hm (fun b2 E W => ∃ (a8 : List (Nat × Obj)) (c0 : List (Nat × Obj)), ST true (keys ((J, Obj.cells (#[g, a, j, c, i, (.int .i64 H)] : Array Value) 294 (0, 0)) :: (D ++ (u ++ (B ++ (y ++ (t ++ []))))))) w W μ0 ((b1, Obj.cells ((aO G).toArray : Array Value) 28 (0, 0)) :: ((J, Obj.cells (#[g, a, j, c, i, (.int .i64 H)] : Array Value) 294 (0, 0)) :: (a8 ++ (u ++ (B ++ (y ++ (t ++ c0))))))) ∧ E 0 = (.pointer (some ⟨J, 0, none⟩)) ∧ E 2 = (.string U) ∧ E 4 = (.pointer (some ⟨b1, 0, none⟩)) ∧ dX (fun (x : Role) => (.agg (aO x).toArray)) (dS Value.string (fun (x : Bool) => (Value.bool x))) g b2 a8) (fun b2 I => ?_) ?_)))
  · refine aD ?_
    replace hST := hST.drew
    have hS0 := hST.has.sel (Kb (Kb (Kr Sn)))
    refine cX hS0 cC (X 0 rfl hS0 (aC rfl) (X 1 rfl hS0 (cT rfl) (X 2 rfl hS0 (aN sM rfl) (XH 3 rfl hS0 (fun _ hS => aJ rfl (aP hS (Mt Mh) rfl Tryz.isAgg290)) (XH 4 rfl hS0 (fun _ hS => aJ rfl (aM hS Mh (aO G) rfl Tryz.isAgg28 Tryz.sizeOf28)) (XH 5 rfl hS0 (fun _ hS => j1 (k := G) (z := (.map none)) vp Tryz.underlying290 Tryz.zeroValue296 rfl rfl Q (fun b o hq => hS.2 b o (Mt (Mt (Ml hq))))) (X 6 rfl hS0 (Ew aZ.1 Tryz.underlying296 Q rfl rfl) (dB (by kernel_rfl) (aH (CI I rfl (fun b7 I => ?_) (fun b7 I => ?_)))))))))))
    · replace hST := hST.drew
      have hS0 := hST.has.sel (Kb (Kb Sn))
      refine cX hS0 cC (X 0 rfl hS0 (aC rfl) (X 1 rfl hS0 (cT rfl) (X 2 rfl hS0 (aN sM rfl) (XH 3 rfl hS0 (fun _ hS => aJ rfl (aP hS (Mt Mh) rfl Tryz.isAgg290)) (XH 4 rfl hS0 (fun _ hS => aJ rfl (aM hS Mh (aO G) rfl Tryz.isAgg28 Tryz.sizeOf28)) (XE 5 rfl (Cw (P := Tryz.prog) Value.string (fun (x : Bool) => (Value.bool x)) hST (fun e1 e7 d9 hST b3 => ?_))))))))
      have hS0 := hST.has.sel (Dr (Kb (Kb Sn)))
      refine ⟨hS0, ?_⟩
      replace hST := hST.perm (Nr (Qr (Qb (Qb Qz))) Nz)
      refine bS I fun e4 b9 I => XO 6 rfl (Gl (k := G) (z := ([]))  vp Tryz.underlying290 hST Q rfl rfl rfl b3 b9 (fun e2 c4 hST b4 => ?_))
      have hS0 := hST.has.sel (Dr (Kb (Kb Sn)))
      refine ⟨hS0, (dB (by kernel_rfl) (aH ?_))⟩
      cases I
      exact ⟨c4, _, (hST.sel (Sb (Pr Pz) (Sb (Pr Pz) St))), rfl, rfl, rfl, b4.e⟩
    refine aX (aH ?_)
    cases I
    exact ⟨D, _, (hST.sel St), rfl, rfl, rfl, Q.e⟩
  rintro f2 E W ⟨a8, c0, hST, a6, c1, c2, c8⟩ T
  refine aD ?_
  replace hST := hST.drew
  have hS0 := hST.has.sel (Kb (Kb Sn))
  have hS1 := hST.has.sel (Db (Db (Kr Sn)))
  refine qY 7 hS0 hS1 cC (cN 0 rfl (by kernel_rfl) (.inl rfl) rfl (by decide) (fun _ _ h => ⟨h.1, dG (by rfl) h.2⟩) ⟨hS0, fun _ => hS1⟩ (fun _ _ _ _ => aC a6) (cN 1 rfl (by kernel_rfl) (.inl rfl) rfl (by decide) (fun _ _ h => ⟨h.1, dG (by rfl) h.2⟩) ⟨hS0, fun _ => hS1⟩ (fun _ _ _ _ => cT rfl) (cN 2 rfl (by kernel_rfl) (.inl rfl) rfl (by decide) (fun _ _ h => ⟨h.1, dG (by rfl) h.2⟩) ⟨hS0, fun _ => hS1⟩ (fun _ _ _ _ => aN sM rfl) (cN 3 rfl (by kernel_rfl) (.inl rfl) rfl (by decide) (fun _ _ h => ⟨h.1, dG (by rfl) h.2⟩) ⟨hS0, fun _ => hS1⟩ (fun l W hpd hs => have hS := hs.1; aJ rfl (aP hS (Mt Mh) rfl Tryz.isAgg290)) (cN 4 rfl (by kernel_rfl) (.inl rfl) rfl (by decide) (fun _ _ h => ⟨h.1, dG (by rfl) h.2⟩) ⟨hS0, fun _ => hS1⟩ (fun l W hpd hs => have hS := hs.1; aJ c2 (aM hS Mh (aO G) rfl Tryz.isAgg28 Tryz.sizeOf28)) ?_)))))
  obtain ⟨e5, a9⟩ := c8
  refine cN 5 rfl (by kernel_rfl) (.inl rfl) rfl (by decide) (fun _ _ h => ⟨h.1, dG (by rfl) h.2⟩) ⟨hS0, fun _ => hS1⟩ (fun l W hpd hs => have hS := (hs.2 (hpd.bar 7 [5] (by kernel_rfl) rfl)); j1 (k := G) (z := (.map none)) vp Tryz.underlying290 Tryz.zeroValue296 rfl rfl a9 (fun b o hq => hS.2 b o (Ml hq))) (cN 6 rfl (by kernel_rfl) (.inl rfl) rfl (by decide) (fun _ _ h => ⟨h.1, dG (by rfl) h.2⟩) ⟨hS0, fun _ => hS1⟩ (fun _ _ _ _ => aC c1) ?_)
  replace hST := hST.perm (Nr (Qb (Qb Qz)) Nz)
  refine bS T fun f3 c7 T => XO 7 rfl (GJ (k := G) (v := true) (vf := (fun (x : Bool) => (Value.bool x)))  aZ.1 Av Tryz.underlying296 hST a9 rfl rfl rfl c7 (fun e8 c9 hST c5 => ?_))
  have hS0 := hST.has.sel (Dr (Kb (Kb Sn)))
  refine ⟨⟨hS0, fun h => vh (by kernel_rfl) h⟩, (dB (by kernel_rfl) (aH (aD (aA (V (aC a6) (V (cT rfl) (V (aN zL rfl) (V (aJ rfl (aP hST.has (Ma (Mt Mh)) rfl Tryz.isAgg3)) (V (aQ rfl rfl rfl) (V (cT rfl) (V (aN zL rfl) ?_)))))))))))⟩
  replace hST := hST.perm (Nb (Pr (Pb Pz)) Nz)
  refine VO (bH (.int .i64 ((IntKind.i64.wrap (H + 1)))) (#[g, a, j, c, i, (.int .i64 ((IntKind.i64.wrap (H + 1))))]) hST rfl rfl Tryz.sizeOf3 (zk _ ((IntKind.i64.wrap (H + 1)))) nb rfl (fun e9 hST => aF (aH ?_)))
  replace hST := hST.drew
  have hS0 := hST.has.sel (Db (Dr (Kb Sn)))
  have hS1 := hST.has.sel (Kb Sn)
  refine qY 12 hS0 hS1 cC (cN 0 rfl (by kernel_rfl) (.inl rfl) rfl (by decide) (fun _ _ h => ⟨h.1, dG (by rfl) h.2⟩) ⟨hS0, fun _ => hS1⟩ (fun _ _ _ _ => aC a6) (cN 1 rfl (by kernel_rfl) (.inl rfl) rfl (by decide) (fun _ _ h => ⟨h.1, dG (by rfl) h.2⟩) ⟨hS0, fun _ => hS1⟩ (fun _ _ _ _ => aC a6) (cN 2 rfl (by kernel_rfl) (.inl rfl) rfl (by decide) (fun _ _ h => ⟨h.1, dG (by rfl) h.2⟩) ⟨hS0, fun _ => hS1⟩ (fun _ _ _ _ => cT rfl) (cN 3 rfl (by kernel_rfl) (.inl rfl) rfl (by decide) (fun _ _ h => ⟨h.1, dG (by rfl) h.2⟩) ⟨hS0, fun _ => hS1⟩ (fun _ _ _ _ => aN vN rfl) (cN 4 rfl (by kernel_rfl) (.inl rfl) rfl (by decide) (fun _ _ h => ⟨h.1, dG (by rfl) h.2⟩) ⟨hS0, fun _ => hS1⟩ (fun l W hpd hs => have hS := (hs.2 (hpd.bar 12 [4] (by kernel_rfl) rfl)); aJ rfl (aP hS Mh rfl Tryz.isAgg68)) (cN 5 rfl (by kernel_rfl) (.inl rfl) rfl (by decide) (fun _ _ h => ⟨h.1, dG (by rfl) h.2⟩) ⟨hS0, fun _ => hS1⟩ (fun l W hpd hs => have hS := hs.1; aJ c2 (aM hS Mh (aO G) rfl Tryz.isAgg28 Tryz.sizeOf28)) (cN 6 rfl (by kernel_rfl) (.inl rfl) rfl (by decide) (fun _ _ h => ⟨h.1, dG (by rfl) h.2⟩) ⟨hS0, fun _ => hS1⟩ (fun _ _ _ _ => aC c1) (cN 7 rfl (by kernel_rfl) (.inl rfl) rfl (by decide) (fun _ _ h => ⟨h.1, dG (by rfl) h.2⟩) ⟨hS0, fun _ => hS1⟩ (fun _ _ _ _ => bJ (qs := #[(0, (.agg (aO G).toArray)), (1, (.string U))]) (v := (.agg (dH ((⟨G, U⟩ : aT))).toArray)) (fR rfl rfl) (aW Tryz.zeroValue38 Tryz.underlying38 (JQ _ Tryz.underlying38) (by kernel_rfl))) (XE 8 rfl (aR (qs := #[(0, (.agg (dH ((⟨G, U⟩ : aT))).toArray))]) (cs := (dH ((⟨G, U⟩ : aT))).toArray) hST (bM rfl) (bB [(.agg (dH ((⟨G, U⟩ : aT))).toArray)] Tryz.underlying68 Tryz.sizeOf38 Tryz.zeroValue38 (by decide) rfl (by intro v hv; simp only [List.mem_cons, List.not_mem_nil, or_false] at hv; rcases hv with rfl <;> rfl) rfl rfl) (fun f0 d4 hST => ?_)))))))))))
  have hS0 := hST.has.sel (Db (Db (Dr (Kb Sn))))
  have hS1 := hST.has.sel (Db (Kb Sn))
  refine ⟨⟨hS0, fun _ => hS1⟩, ?_⟩
  replace hST := hST.perm (Nr (Qb (Qb (Qr (Qb (Qr (Qr (Qr Qz))))))) Nz)
  refine bS T fun b0 c6 T => XE 9 rfl (EE (enc := dH) (v := i) (vs := (.slice (some ⟨d4, 0, none⟩) 1 1)) (R := t) hST tW (by decide) EU Tryz.underlying68 Bm.1 Bm.2.1 rfl Bm.2.2.1 Bm.2.2.2 rfl rfl K (Sl.lit (enc := dH) (l := [(⟨G, U⟩ : aT)]) tW rfl nb rfl (hST.at_ (Ma Mh))) c6 (fun f1 e6 d0 hST a7 => ?_))
  have hS0 := hST.has.sel (Dr (Db (Db (Dr (Kb Sn)))))
  have hS1 := hST.has.sel (Dr (Db (Kb Sn)))
  refine ⟨⟨hS0, fun _ => hS1⟩, (cN 10 rfl (by kernel_rfl) (.inl rfl) rfl (by decide) (fun _ _ h => ⟨h.1, dG (by rfl) h.2⟩) ⟨hS0, fun _ => hS1⟩ (fun _ _ _ _ => cT rfl) (cN 11 rfl (by kernel_rfl) (.inl rfl) rfl (by decide) (fun _ _ h => ⟨h.1, dG (by rfl) h.2⟩) ⟨hS0, fun _ => hS1⟩ (fun _ _ _ _ => aN vN rfl) ?_))⟩
  obtain ⟨a3, a4, rfl⟩ := a7.form
  replace hST := hST.perm (Nb (Pr (Pb Pz)) Nz)
  refine XO 12 rfl (bH (.slice a3 b0.length a4) (#[g, a, j, c, (.slice a3 b0.length a4), (.int .i64 ((IntKind.i64.wrap (H + 1))))]) hST rfl rfl Tryz.sizeOf68 (by simp [Value.cells, Value.oneCell']) nb rfl (fun e0 hST => ?_))
  have hS0 := hST.has.sel (Db (Dr (Db (Dr (Kb Sn)))))
  refine ⟨⟨hS0, fun h => vh (by kernel_rfl) h⟩, (dB (by kernel_rfl) (lP ?_))⟩
  have hx := sj T; subst hx
  exact jD rfl ⟨_, _, rfl, (hST.bkM (Kb (Sr (Qr (Qb Qz)) (Sr (Qr (Qb (Qb Qz))) (Sr (Qr (Qb (Qb Qz))) (Sr (Qr (Qb (Qb Qz))) (Kr Sn))))))), c9, (.slice a3 b0.length a4), d0, rfl, rfl, c5.e, a7⟩
theorem rB (a : Value) (g : List (ByteArray × Bool)) (r : Unit) (w : World) (c : rl Value.string (fun (x : Bool) => (Value.bool x)) (hp w) a g) (hm : fW g = some r) :
    eB true Tryz.prog 234 [a] w [] (fun v k W' => ∃ (i : Nat), v = (.func (.func 327) #[] #[(.pointer (some ⟨i, 0, none⟩))]) ∧ k = ((i, Obj.cells (#[a] : Array Value) 296 (0, 0)) :: [])) := by
  have hST := ST.start (dd := true) w
  unfold fW at hm
  refine cF 4 Tryz.func234 rfl (aD (aA ?_))
  obtain ⟨t, rfl⟩ := c.form
  refine VE (cO (v := (.map t)) hST rfl (fun u j hST => V (aG rfl) (aF (aH (aD (aA (V (qD (by exact tG rfl) rfl) (V (aG rfl) (aF (aH (aU ?_)))))))))))
  have hx := sj hm; subst hx
  exact eA (v := (.func (.func 327) #[] #[(.pointer (some ⟨j, 0, none⟩))])) rfl rfl ⟨_, _, rfl, (hST.bkL (Kb Sn)), j, rfl, rfl⟩
theorem BR {β : Type} {vf : β → Value} {l : List (ByteArray × β)} {b : Nat} {mv : Value} {W : World} {r : List ByteArray} (hb : W.heap[b]? = some (.cells #[mv] 296 (0, 0))) (hm : rl Value.string vf (hp W) mv l) (hk : Be l = some r) : gQ false Tryz.prog 159 [.func (.func 327) #[] #[.pointer (some ⟨b, 0, none⟩)]] W 9 xZ 1 r := EC (P := Tryz.prog) ID IW JR rfl Tryz.underlying9 Tryz.call327 Tryz.call273 hb hm hk
theorem ub (T : Nat) (a : Value) (u : List (Role × (List (ByteArray × Bool)))) (c : Value) (t : List Cred) (j : Value) (G : List (Role × (List Cred))) (g : Value) (B : List (ByteArray × (List Cred))) (i : Value) (D : List aT) (Q : Int) (H : Role) (r : List ByteArray) (w : World) (J : mS (fun (x : Role) => (.agg (aO x).toArray)) (dS Value.string (fun (x : Bool) => (Value.bool x))) (hp w) a u) (Z : Sl (Pl aI) 9 (hp w) c t) (a4 : mS (fun (x : Role) => (.agg (aO x).toArray)) (bI 53 aI 9) (hp w) j G) (a0 : mS Value.string (bI 53 aI 9) (hp w) g B) (a3 : Sl (Pl dH) 3 (hp w) i D) (Y : At (hp w) (.pointer (some ⟨T, 0, none⟩)) [a, c, j, g, i, (.int .i64 Q)]) (hm : jK u t G B D Q H = some r) :
    gQ false Tryz.prog 119 [(.pointer (some ⟨T, 0, none⟩)), (.agg (aO H).toArray)] w 9 xZ 1 r := by
  have hST := ST.start (dd := false) w
  unfold jK at hm
  refine cF 15 Tryz.func119 rfl (aD (aA (VE (cO (v := (.agg (aO H).toArray)) hST rfl (fun W2 b1 hST => V (aG rfl) (aF (aH (aD (aD (aA (V (aC rfl) (V (pV Tryz.underlying171 rfl rfl) (aF (aH (oL rfl ?_)))))))))))))))
  refine aX (aH (aD ?_))
  replace hST := hST.drew
  have hS0 := hST.has.sel (Kb Sn)
  refine cX hS0 cC (X 0 rfl hS0 (aC rfl) (X 1 rfl hS0 (cT rfl) (XQ 2 rfl hS0 (uZ [a] sM rfl Y rfl) (fun b9 a6 => XH 3 rfl hS0 (fun _ hS => aJ rfl (nU hS (y := a) a6 Tryz.isAgg290)) (XH 4 rfl hS0 (fun _ hS => aJ rfl (aM hS Mh (aO H) rfl Tryz.isAgg28 Tryz.sizeOf28)) ?_)))))
  obtain ⟨a9, b4, K, M⟩ := J
  refine XH 5 rfl hS0 (fun _ hS => j1 (k := H) (z := (.map none)) vp Tryz.underlying290 Tryz.zeroValue296 rfl rfl K (fun b o hq => hS.1 b o (M b o hq))) (bS hm fun c0 a7 hm => ?_)
  have hsz := hST.size
  refine XE 6 rfl (mL hST (List.Perm.refl _) Tryz.call234 (fun _ _ _ _ => eB.weak (rB (jL bA a9 H (.map none)) (((cH bA u H).getD [])) _ _ ((eQ.mapAt aZ.1 K H M).mono hST.sub_hp) a7)) (fun b5 c2 c3 b3 hST I hl69 hlift a5 => ?_) (L0 := []))
  obtain ⟨b7, N, rfl⟩ := a5
  replace N := N.symm; subst N
  replace hST := hST.perm (Tb Tn)
  have hS0 := hST.has.selS I (Db (Kb Sn))
  refine ⟨hS0, (bS hm fun c1 a8 hm => XE 7 rfl (sZ hST Tryz.call159 (BR (vf := (fun (x : Bool) => (Value.bool x))) (hST.has.2 _ _ Mh) ((eQ.mapAt aZ.1 K H M).mono (fun b o hq => hST.has.1 b o (I b o hq))) a8) (fun b6 b2 c4 b0 hST a2 hl80 U => ?_)))⟩
  have hS0 := hST.has.selS (I.trans a2) (Dr (Db (Kb Sn)))
  refine ⟨hS0, (X 8 rfl hS0 (aG rfl) (dB (by kernel_rfl) (aH ?_)))⟩
  replace hST := hST.sel (Kr (Db (Db St)))
  refine aU ?_
  have hx := sj hm; subst hx
  exact eA (v := b2) rfl rfl ⟨_, b0, rfl, hST.backRow (fun p hq => (Ml hq)) U.nd, U⟩
theorem yI (K : Nat) (g : Value) (N : List (Role × (List (ByteArray × Bool)))) (G : List (Nat × Obj)) (a : Value) (H : List Cred) (k : List (Nat × Obj)) (j : Value) (J : List (Role × (List Cred))) (u : List (Nat × Obj)) (c : Value) (I : List (ByteArray × (List Cred))) (t : List (Nat × Obj)) (z : Value) (M : List aT) (B : List (Nat × Obj)) (Z : Int) (a1 : Role) (a2 : Role) (r : ((List (Role × (List (ByteArray × Bool)))) × (List aT) × Int)) (w : World) {μ0 : bD} (h0 : jU μ0 ((K, Obj.cells (#[g, a, j, c, z, (.int .i64 Z)] : Array Value) 294 (0, 0)) :: (G ++ (k ++ (u ++ (t ++ (B ++ [])))))) w) (a5 : dX (fun (x : Role) => (.agg (aO x).toArray)) (dS Value.string (fun (x : Bool) => (Value.bool x))) g N G) (Q : bI 53 aI 9 a H k) (a4 : dX (fun (x : Role) => (.agg (aO x).toArray)) (bI 53 aI 9) j J u) (T : dX Value.string (bI 53 aI 9) c I t) (a3 : lJ 38 dH 3 z M B) (hm : mU N H J I M Z a1 a2 = some r) :
    eB false Tryz.prog 415 [(.pointer (some ⟨K, 0, none⟩)), (.agg (aO a1).toArray), (.agg (aO a2).toArray)] w ((K, Obj.cells (#[g, a, j, c, z, (.int .i64 Z)] : Array Value) 294 (0, 0)) :: (G ++ (k ++ (u ++ (t ++ (B ++ [])))))) (fun v L1 W' => ∃ (S1 : List (Nat × Obj)) (y3 : Value) (S4 : List (Nat × Obj)), v = (.tuple #[]) ∧ L1 = ((K, Obj.cells (#[g, a, j, c, y3, (.int .i64 (r.2.2))] : Array Value) 294 (0, 0)) :: (S1 ++ (k ++ (u ++ (t ++ (S4 ++ [])))))) ∧ dX (fun (x : Role) => (.agg (aO x).toArray)) (dS Value.string (fun (x : Bool) => (Value.bool x))) g r.1 S1 ∧ lJ 38 dH 3 y3 r.2.1 S4) := by
  have hST := ST.startE (dd := false) h0
  unfold mU at hm
  refine cF 21 Tryz.func415 rfl (aD (aA (VE (cO (v := (.agg (aO a1).toArray)) hST rfl (fun W2 b1 hST => VE (cO (v := (.agg (aO a2).toArray)) hST rfl (fun W4 b3 hST => aF (aH (aD (aA (V (aC rfl) (V (aJ rfl (aM hST.has (Mt Mh) (aO a1) rfl Tryz.isAgg28 Tryz.sizeOf28)) (bS hm fun r5 e6 hm => VE (sZ hST Tryz.call119 ((ub K g N a H j J c I z M Z a1 _ _ (a5.at (fun b o hq => hST.at_ (Mt (Mt (Mt (Ml hq)))))) (Q.sl bQ (fun b o hq => hST.at_ (Mt (Mt (Mt (Ma (Ml hq))))))) (a4.at (fun b o hq => hST.at_ (Mt (Mt (Mt (Ma (Ma (Ml hq)))))))) (T.at (fun b o hq => hST.at_ (Mt (Mt (Mt (Ma (Ma (Ma (Ml hq))))))))) ((a3.slL tW).mono (Pl.mono _) (eG (fun b o hq => hST.at_ (Mt (Mt (Mt (Ma (Ma (Ma (Ma (Ml hq))))))))))) (At.of (hST.at_ (Mt (Mt Mh))) _ rfl) e6)) (fun W7 e7 μ8 e2 hST f5 hl10 a9 => V (nV Tryz.underlying82 rfl a9) (V (aC rfl) ?_))))))))))))))))
  refine aF (aH ?_)
  replace hST := hST.sel (Kr (Kb (Db St)))
  refine qP (dA (fun i E W => ∃ (a6 : List (Role × (List (ByteArray × Bool)))) (U : List (Nat × Obj)) (a0 : Value) (a7 : List aT) (Y : List (Nat × Obj)) (a8 : Int) (b5 : bD) (b7 : List (Nat × Obj)), (E 12 = .int .i64 (i : Nat) ∧ E 11 = .int .i64 (r5.length : Nat)) ∧ bE μ8 b5 ∧ ST false (keys ((K, Obj.cells (#[g, a, j, c, z, (.int .i64 Z)] : Array Value) 294 (0, 0)) :: (G ++ (k ++ (u ++ (t ++ (B ++ []))))))) w W b5 ((K, Obj.cells (#[g, a, j, c, a0, (.int .i64 a8)] : Array Value) 294 (0, 0)) :: ((b3, Obj.cells ((aO a2).toArray : Array Value) 28 (0, 0)) :: (U ++ (k ++ (u ++ (t ++ (Y ++ (e2 ++ b7)))))))) ∧ E 0 = (.pointer (some ⟨K, 0, none⟩)) ∧ E 5 = (.pointer (some ⟨b3, 0, none⟩)) ∧ E 10 = e7 ∧ dX (fun (x : Role) => (.agg (aO x).toArray)) (dS Value.string (fun (x : Bool) => (Value.bool x))) g a6 U ∧ lJ 38 dH 3 a0 a7 Y ∧ gU H J I a2 (r5.drop i) a6 a7 a8 = some r) r5.length a9.len ⟨N, G, z, M, B, Z, μ8, _, ⟨rfl, rfl⟩, (bE.refl _), (hST.sel (Sb (Pr (Pb Pz)) (Sb (Pr Pz) (Sr (Qr Qz) (Sr (Qr Qz) (Sr (Qr Qz) (Sr (Qr Qz) (Sr (Qr Qz) St)))))))), rfl, rfl, rfl, a5, a3, hm⟩ (by decide) (by decide) (by decide) (fun _ _ _ h => by obtain ⟨_, _, _, _, _, _, _, _, eIN, _⟩ := h; exact eIN) ?_ ?_)
  · rintro d8 E W c9 ⟨a6, U, a0, a7, Y, a8, b5, b7, ⟨eI, eN⟩, b6, hST, c0, c1, c2, b0, b2, D⟩
    obtain ⟨c4, f0, d2, c5, d3⟩ := cR c9
    rw [d2] at D
    rw [gU] at D
    refine aY (aD (aA (VQ (lA (i := (d8 : Int)) (x0 := c4) Tryz.underlying82 Tryz.sizeOf9 c2 eI a9 (Int.natCast_nonneg _) c5) (fun f6 d0 => V (aJ rfl (DE hST.has (fun p hq => (Mt (Mt (Ma (Ma (Ma (Ma (Ma (Ml hq))))))))) a9 (fun _ => rfl) d0 c5 (y := (.string c4)) rfl Tryz.isAgg9)) (V (aG rfl) (aF (aH (aA (V (aC c0) (V (aJ c1 (aM hST.has (Mt Mh) (aO a2) rfl Tryz.isAgg28 Tryz.sizeOf28)) (V (aC rfl) (bS D fun c3 d1 D => ?_))))))))))))
    have hsz := hST.size
    refine VE (mL hST (Cb Pz (Cr (Qb Qz) (Cr (Qb Qz) (Cr (Qb Qz) (Cr (Qb Qz) (Cr (Qb Qz) Cn)))))) Tryz.call370 (fun hH hN hsb hmm => eB.weak (lW K g a6 U a H k j J u c I t a0 a7 Y a8 a2 c4 _ _ ⟨hH, hN, bE.refl _⟩ b0 Q a4 T b2 d1)) (fun f3 f7 e1 f2 hST c7 hl182 hlift c8 => ?_))
    obtain ⟨d6, e0, d7, b4, rfl, d4, d5⟩ := c8
    replace b4 := b4.symm; subst b4
    replace hST := hST.perm (Tb (Tr (Tr (Tr (Tr (Tr Tn))))))
    exact aF (cL (aH ⟨eI, c3.1, d6, e0, c3.2.1, d7, c3.2.2, e1, _, ⟨rfl, eN⟩, (b6.trans c7), (hST.sel (Kb (Sb (Pr (Pr (Pr (Pr (Pr Pz))))) St))), c0, c1, c2, d4, d5, (by rw [d3]; exact D)⟩))
  rintro E W ⟨a6, U, a0, a7, Y, a8, b5, b7, ⟨eI, eN⟩, b6, hST, c0, c1, c2, b0, b2, D⟩
  rw [List.drop_length] at D
  rw [gU] at D
  refine aH ?_
  replace hST := hST.sel (Kb (Db (Kr (Kr (Kr (Kr (Kr (Dr St))))))))
  refine lP ?_
  have hx := sj D; subst hx
  exact jD rfl ⟨_, _, rfl, (hST.bkM (Kb (Kr (Kr (Kr (Kr (Kr Sn))))))), U, a0, Y, rfl, rfl, b0, b2⟩
theorem uB (K : Nat) (G : Value) (Z : List (Role × (List (ByteArray × Bool)))) (D : List (Nat × Obj)) (g : Value) (I : List Cred) (a : List (Nat × Obj)) (B : Value) (N : List (Role × (List Cred))) (y : List (Nat × Obj)) (i : Value) (J : List (ByteArray × (List Cred))) (c : List (Nat × Obj)) (t : Value) (M : List aT) (j : List (Nat × Obj)) (a0 : Int) (Q : Cred) (a2 : aT) (r : ((List (Role × (List (ByteArray × Bool)))) × (List aT) × Int)) (w : World) {μ0 : bD} (h0 : jU μ0 ((K, Obj.cells (#[G, g, B, i, t, (.int .i64 a0)] : Array Value) 294 (0, 0)) :: (D ++ (a ++ (y ++ (c ++ (j ++ [])))))) w) (U : dX (fun (x : Role) => (.agg (aO x).toArray)) (dS Value.string (fun (x : Bool) => (Value.bool x))) G Z D) (T : bI 53 aI 9 g I a) (a3 : dX (fun (x : Role) => (.agg (aO x).toArray)) (bI 53 aI 9) B N y) (Y : dX Value.string (bI 53 aI 9) i J c) (H : lJ 38 dH 3 t M j) (hm : kO Z I N J M a0 Q a2 = some r) :
    eB false Tryz.prog 371 [(.pointer (some ⟨K, 0, none⟩)), (.agg (aI Q).toArray), (.agg (dH a2).toArray)] w ((K, Obj.cells (#[G, g, B, i, t, (.int .i64 a0)] : Array Value) 294 (0, 0)) :: (D ++ (a ++ (y ++ (c ++ (j ++ [])))))) (fun v L1 W' => ∃ (S1 : List (Nat × Obj)) (y3 : Value) (S4 : List (Nat × Obj)), v = (.tuple #[]) ∧ L1 = ((K, Obj.cells (#[G, g, B, i, y3, (.int .i64 (r.2.2))] : Array Value) 294 (0, 0)) :: (S1 ++ (a ++ (y ++ (c ++ (S4 ++ [])))))) ∧ dX (fun (x : Role) => (.agg (aO x).toArray)) (dS Value.string (fun (x : Bool) => (Value.bool x))) G r.1 S1 ∧ lJ 38 dH 3 y3 r.2.1 S4) := by
  have hST := ST.startE (dd := false) h0
  unfold kO at hm
  refine cF 57 Tryz.func371 rfl (aD (aA (VE (cO (v := (.agg (aI Q).toArray)) hST rfl (fun W2 b1 hST => VE (cO (v := (.agg (dH a2).toArray)) hST rfl (fun W4 b3 hST => aF (aH (aD (aA (V (aN uq rfl) (V (aJ rfl (aP hST.has (Mt Mh) rfl Tryz.isAgg3)) (aF (aH (aY (aD ?_))))))))))))))))
  refine aA (V (aQ rfl rfl rfl) (V (aG rfl) (aF (aH (CI hm rfl (fun e5 hm => ?_) (fun e5 hm => ?_))))))
  · refine aA (V (aC rfl) (V (aN oA rfl) (V (aJ rfl (aM hST.has (Mt Mh) (aO Q.Head) rfl Tryz.isAgg28 Tryz.sizeOf28)) (V (aN xD rfl) (V (aJ rfl (aP hST.has Mh rfl Tryz.isAgg9)) (bS hm fun r6 e6 hm => ?_))))))
    have hsz := hST.size
    refine VE (mL hST (Cb (Pb (Pb Pz)) (Cr (Qb (Qb Qz)) (Cr (Qb (Qb Qz)) (Cr (Qb (Qb Qz)) (Cr (Qb (Qb Qz)) (Cr (Qb (Qb Qz)) Cn)))))) Tryz.call370 (fun hH hN hsb hmm => eB.weak (lW K G Z D g I a B N y i J c t M j a0 Q.Head a2.Who _ _ ⟨hH, hN, bE.refl _⟩ U T a3 Y H e6)) (fun W8 g5 μ9 f8 hST f2 hl11 hlift b6 => ?_))
    obtain ⟨d2, e7, d3, a8, rfl, c5, c6⟩ := b6
    replace a8 := a8.symm; subst a8
    replace hST := hST.perm (Tb (Tr (Tr (Tr (Tr (Tr Tn))))))
    refine aF (cL (lP ?_))
    have hx := sj hm; subst hx
    exact jD rfl ⟨_, _, rfl, (hST.bkM (Kb (Kr (Kr (Kr (Kr (Kr Sn))))))), d2, e7, d3, rfl, rfl, c5, c6⟩
  refine aD (aA (V (aQ rfl rfl rfl) (V (aG rfl) (aF (aH (CI hm rfl (fun c0 hm => ?_) (fun c0 hm => ?_)))))))
  · refine aA (V (aC rfl) (V (aN xD rfl) (V (aJ rfl (aP hST.has Mh rfl Tryz.isAgg9)) (V (aN uX rfl) (V (aJ rfl (aP hST.has (Mt Mh) rfl Tryz.isAgg9)) (V (bJ (qs := #[(0, (.string a2.Who)), (1, (.string Q.Word2))]) (v := (.agg (aO ((⟨a2.Who, Q.Word2⟩ : Role))).toArray)) (fR rfl rfl) (aW Tryz.zeroValue28 Tryz.underlying28 (DU _ Tryz.underlying28) (by kernel_rfl))) (V (aN oA rfl) (V (aJ rfl (aM hST.has (Mt Mh) (aO Q.Head) rfl Tryz.isAgg28 Tryz.sizeOf28)) (bS hm fun g3 c3 hm => ?_)))))))))
    have hsz := hST.size
    refine VE (mL hST (Cb (Pb (Pb Pz)) (Cr (Qb (Qb Qz)) (Cr (Qb (Qb Qz)) (Cr (Qb (Qb Qz)) (Cr (Qb (Qb Qz)) (Cr (Qb (Qb Qz)) Cn)))))) Tryz.call415 (fun hH hN hsb hmm => (yI K G Z D g I a B N y i J c t M j a0 ((⟨a2.Who, Q.Word2⟩ : Role)) Q.Head _ _ ⟨hH, hN, bE.refl _⟩ U T a3 Y H c3)) (fun g1 g6 g9 f9 hST f3 hl27 hlift b7 => ?_))
    obtain ⟨d4, e9, d5, a9, rfl, c7, c8⟩ := b7
    replace a9 := a9.symm; subst a9
    replace hST := hST.perm (Tb (Tr (Tr (Tr (Tr (Tr Tn))))))
    refine aF (cL (lP ?_))
    have hx := sj hm; subst hx
    exact jD rfl ⟨_, _, rfl, (hST.bkM (Kb (Kr (Kr (Kr (Kr (Kr Sn))))))), d4, e9, d5, rfl, rfl, c7, c8⟩
  refine aD (aA (V (aQ rfl rfl rfl) (V (aG rfl) (aF (aH (CI hm rfl (fun c1 hm => ?_) (fun c1 hm => ?_)))))))
  · refine aD ?_
    replace hST := hST.drew
    have hS0 := hST.has.sel (Kb (Kb (Kb (Kr Sn))))
    refine cX hS0 cC (X 0 rfl hS0 (aC rfl) (X 1 rfl hS0 (cT rfl) (X 2 rfl hS0 (aN sM rfl) (XH 3 rfl hS0 (fun _ hS => aJ rfl (aP hS (Mt (Mt Mh)) rfl Tryz.isAgg290)) (X 4 rfl hS0 (aN kR rfl) (XH 5 rfl hS0 (fun _ hS => aJ rfl (aM hS (Mt Mh) (aO Q.B) rfl Tryz.isAgg28 Tryz.sizeOf28)) ?_))))))
    obtain ⟨f7, a5⟩ := U
    refine XH 6 rfl hS0 (fun _ hS => j1 (k := Q.B) (z := (.map none)) vp Tryz.underlying290 Tryz.zeroValue296 rfl rfl a5 (fun b o hq => hS.2 b o (Mt (Mt (Mt (Ml hq)))))) (X 7 rfl hS0 (aN xD rfl) (XH 8 rfl hS0 (fun _ hS => aJ rfl (aP hS Mh rfl Tryz.isAgg9)) (XH 9 rfl hS0 (fun _ hS => vj (k := a2.Who) (z := false) (vf := (fun (x : Bool) => (Value.bool x))) Av Tryz.underlying296 Tryz.zeroValue4 rfl rfl (eQ.mapAt (μ := hp _) aZ.1 a5 Q.B (fun b o hq => hS.2 b o (Mt (Mt (Mt (Ml hq))))))) (X 10 rfl hS0 (aC rfl) (PJ hm (fun b5 E W => ∃  (b4 : List (Nat × Obj)), ST false (keys ((K, Obj.cells (#[G, g, B, i, t, (.int .i64 a0)] : Array Value) 294 (0, 0)) :: (D ++ (a ++ (y ++ (c ++ (j ++ []))))))) w W μ0 ((b3, Obj.cells ((dH a2).toArray : Array Value) 38 (0, 0)) :: ((b1, Obj.cells ((aI Q).toArray : Array Value) 53 (0, 0)) :: ((K, Obj.cells (#[G, g, B, i, t, (.int .i64 a0)] : Array Value) 294 (0, 0)) :: (D ++ (a ++ (y ++ (c ++ (j ++ b4)))))))) ∧ E 0 = (.pointer (some ⟨K, 0, none⟩)) ∧ E 4 = (.pointer (some ⟨b1, 0, none⟩)) ∧ E 5 = (.pointer (some ⟨b3, 0, none⟩)) ∧ E 50 = (.bool b5)) (bm 22 4194303) 0 ?_ (fun b5 a7 b2 => ?_))))))
    · rintro g8 E W ⟨b4, hST, e1, e2, e3, e4⟩ a4
      have hS0 := hST.has.sel (Kb (Kb (Kb (Kr Sn))))
      refine dB (by kernel_rfl) (aH (CI a4 e4 (fun c2 a4 => ?_) (fun c2 a4 => ?_)))
      · refine aA (V (aC e1) (V (aN oA e2) (V (aJ rfl (aM hST.has (Mt Mh) (aO Q.Head) rfl Tryz.isAgg28 Tryz.sizeOf28)) (V (aN xD e3) (V (aJ rfl (aP hST.has Mh rfl Tryz.isAgg9)) (bS a4 fun g4 c4 a4 => ?_))))))
        have hsz := hST.size
        refine VE (mL hST (Cb (Pb (Pb Pz)) (Cr (Qb (Qb Qz)) (Cr (Qb (Qb Qz)) (Cr (Qb (Qb Qz)) (Cr (Qb (Qb Qz)) (Cr (Qb (Qb Qz)) Cn)))))) Tryz.call370 (fun hH hN hsb hmm => eB.weak (lW K G Z D g I a B N y i J c t M j a0 Q.Head a2.Who _ _ ⟨hH, hN, bE.refl _⟩ a5.e T a3 Y H c4)) (fun g2 g7 h1 g0 hST f4 hl82 hlift b9 => ?_))
        obtain ⟨d7, f0, d8, b0, rfl, c9, d0⟩ := b9
        replace b0 := b0.symm; subst b0
        replace hST := hST.perm (Tb (Tr (Tr (Tr (Tr (Tr Tn))))))
        refine aF (cL (lP ?_))
        have hx := sj a4; subst hx
        exact jD rfl ⟨_, _, rfl, (hST.bkM (Kb (Kr (Kr (Kr (Kr (Kr Sn))))))), d7, f0, d8, rfl, rfl, c9, d0⟩
      refine aX (cL (lP ?_))
      have hx := sj a4; subst hx
      exact jD rfl ⟨_, _, rfl, (hST.bkM (Db (Db (Kb (Kr (Kr (Kr (Kr (Kr Sn))))))))), D, t, j, rfl, rfl, a5.e, H⟩
    refine bC a7 (fun u a7 => ?_) (fun u a7 => ?_)
    · refine Xg 11 rfl rfl (cB u) hS0 (aC rfl) (Xg 12 rfl rfl (cB u) hS0 (cT rfl) (Xg 13 rfl rfl (cB u) hS0 (aN sM rfl) (oN 14 rfl rfl (cB u) hS0 (fun _ hS => aJ rfl (aP hS (Mt (Mt Mh)) rfl Tryz.isAgg290)) (Xg 15 rfl rfl (cB u) hS0 (aN un rfl) (oN 16 rfl rfl (cB u) hS0 (fun _ hS => aJ rfl (aM hS (Mt Mh) (aO Q.C) rfl Tryz.isAgg28 Tryz.sizeOf28)) (oN 17 rfl rfl (cB u) hS0 (fun _ hS => j1 (k := Q.C) (z := (.map none)) vp Tryz.underlying290 Tryz.zeroValue296 rfl rfl a5 (fun b o hq => hS.2 b o (Mt (Mt (Mt (Ml hq)))))) (Xg 18 rfl rfl (cB u) hS0 (aN xD rfl) (oN 19 rfl rfl (cB u) hS0 (fun _ hS => aJ rfl (aP hS Mh rfl Tryz.isAgg9)) (oN 20 rfl rfl (cB u) hS0 (fun _ hS => vj (k := a2.Who) (z := false) (vf := (fun (x : Bool) => (Value.bool x))) Av Tryz.underlying296 Tryz.zeroValue4 rfl rfl (eQ.mapAt (μ := hp _) aZ.1 a5 Q.C (fun b o hq => hS.2 b o (Mt (Mt (Mt (Ml hq))))))) (X 21 rfl hS0 (bU (cB u) rfl) ?_))))))))))
      cases a7
      refine cV (by kernel_rfl) (b2 _ _ ⟨_, (hST.sel St), rfl, rfl, rfl, rfl⟩)
    refine Xn 11 rfl rfl (cB u) hS0 (Xn 12 rfl rfl (cB u) hS0 (Xn 13 rfl rfl (cB u) hS0 (Xn 14 rfl rfl (cB u) hS0 (Xn 15 rfl rfl (cB u) hS0 (Xn 16 rfl rfl (cB u) hS0 (Xn 17 rfl rfl (cB u) hS0 (Xn 18 rfl rfl (cB u) hS0 (Xn 19 rfl rfl (cB u) hS0 (Xn 20 rfl rfl (cB u) hS0 (X 21 rfl hS0 (bX (cB u) rfl) ?_))))))))))
    cases a7
    refine cV (by kernel_rfl) (b2 _ _ ⟨_, (hST.sel St), rfl, rfl, rfl, rfl⟩)
  refine aX (cL (lP ?_))
  have hx := sj hm; subst hx
  exact jD rfl ⟨_, _, rfl, (hST.bkM (Db (Db (Kb (Kr (Kr (Kr (Kr (Kr Sn))))))))), D, t, j, rfl, rfl, U, H⟩
theorem xH (K : Nat) (g : Value) (T : List (Role × (List (ByteArray × Bool)))) (D : List (Nat × Obj)) (a : Value) (G : List Cred) (j : List (Nat × Obj)) (t : Value) (J : List (Role × (List Cred))) (u : List (Nat × Obj)) (c : Value) (H : List (ByteArray × (List Cred))) (k : List (Nat × Obj)) (z : Value) (M : List aT) (B : List (Nat × Obj)) (a0 : Int) (Z : Cred) (r : ((List (Role × (List (ByteArray × Bool)))) × (List aT) × Int)) (w : World) {μ0 : bD} (h0 : jU μ0 ((K, Obj.cells (#[g, a, t, c, z, (.int .i64 a0)] : Array Value) 294 (0, 0)) :: (D ++ (j ++ (u ++ (k ++ (B ++ [])))))) w) (a2 : dX (fun (x : Role) => (.agg (aO x).toArray)) (dS Value.string (fun (x : Bool) => (Value.bool x))) g T D) (N : bI 53 aI 9 a G j) (Y : dX (fun (x : Role) => (.agg (aO x).toArray)) (bI 53 aI 9) t J u) (Q : dX Value.string (bI 53 aI 9) c H k) (U : lJ 38 dH 3 z M B) (hm : lL T G J H M a0 Z = some r) :
    eB false Tryz.prog 325 [(.pointer (some ⟨K, 0, none⟩)), (.agg (aI Z).toArray)] w ((K, Obj.cells (#[g, a, t, c, z, (.int .i64 a0)] : Array Value) 294 (0, 0)) :: (D ++ (j ++ (u ++ (k ++ (B ++ [])))))) (fun v L1 W' => ∃ (S1 : List (Nat × Obj)) (y3 : Value) (S4 : List (Nat × Obj)), v = (.tuple #[]) ∧ L1 = ((K, Obj.cells (#[g, a, t, c, y3, (.int .i64 (r.2.2))] : Array Value) 294 (0, 0)) :: (S1 ++ (j ++ (u ++ (k ++ (S4 ++ [])))))) ∧ dX (fun (x : Role) => (.agg (aO x).toArray)) (dS Value.string (fun (x : Bool) => (Value.bool x))) g r.1 S1 ∧ lJ 38 dH 3 y3 r.2.1 S4) := by
  have hST := ST.startE (dd := false) h0
  unfold lL at hm
  refine cF 33 Tryz.func325 rfl (aD (aA (VE (cO (v := (.agg (aI Z).toArray)) hST rfl (fun W2 b1 hST => aF (aH (aD (aA (V (aN uq rfl) (V (aJ rfl (aP hST.has Mh rfl Tryz.isAgg3)) (aF (aH (aY (aD (aA ?_)))))))))))))))
  refine V (aQ rfl rfl rfl) (V (aG rfl) (aF (aH (CI hm rfl (fun f1 hm => ?_) (fun f1 hm => ?_)))))
  · refine aA (V (aC rfl) (V (aN oA rfl) (V (aJ rfl (aM hST.has Mh (aO Z.Head) rfl Tryz.isAgg28 Tryz.sizeOf28)) (V (aN xG rfl) (V (aJ rfl (aP hST.has Mh rfl Tryz.isAgg9)) (bS hm fun r4 f2 hm => ?_))))))
    have hsz := hST.size
    refine VE (mL hST (Cb (Pb Pz) (Cr (Qb Qz) (Cr (Qb Qz) (Cr (Qb Qz) (Cr (Qb Qz) (Cr (Qb Qz) Cn)))))) Tryz.call370 (fun hH hN hsb hmm => eB.weak (lW K g T D a G j t J u c H k z M B a0 Z.Head Z.Who _ _ ⟨hH, hN, bE.refl _⟩ a2 N Y Q U f2)) (fun W6 g8 μ7 g6 hST g2 hl9 hlift d8 => ?_))
    obtain ⟨e7, f4, e8, c2, rfl, e0, e1⟩ := d8
    replace c2 := c2.symm; subst c2
    replace hST := hST.perm (Tb (Tr (Tr (Tr (Tr (Tr Tn))))))
    refine aF (cL (lP ?_))
    have hx := sj hm; subst hx
    exact jD rfl ⟨_, _, rfl, (hST.bkM (Kb (Kr (Kr (Kr (Kr (Kr Sn))))))), e7, f4, e8, rfl, rfl, e0, e1⟩
  refine aD (aA (V (aC rfl) (V (aN kR rfl) (V (aJ rfl (aM hST.has Mh (aO Z.B) rfl Tryz.isAgg28 Tryz.sizeOf28)) (bS hm fun c6 d9 hm => VE (sZ hST Tryz.call119 ((ub K g T a G t J c H z M a0 Z.B _ _ (a2.at (fun b o hq => hST.at_ (Mt (Mt (Ml hq))))) (N.sl bQ (fun b o hq => hST.at_ (Mt (Mt (Ma (Ml hq)))))) (Y.at (fun b o hq => hST.at_ (Mt (Mt (Ma (Ma (Ml hq))))))) (Q.at (fun b o hq => hST.at_ (Mt (Mt (Ma (Ma (Ma (Ml hq)))))))) ((U.slL tW).mono (Pl.mono _) (eG (fun b o hq => hST.at_ (Mt (Mt (Ma (Ma (Ma (Ma (Ml hq)))))))))) (At.of (hST.at_ (Mt Mh)) _ rfl) d9)) (fun g7 f3 d5 e5 hST f6 hl24 b2 => V (nV Tryz.underlying82 rfl b2) (V (aC rfl) (aF (aH (qP (dA (fun i E W => ∃ (a6 : List (Role × (List (ByteArray × Bool)))) (a3 : List (Nat × Obj)) (a5 : Value) (a7 : List aT) (a4 : List (Nat × Obj)) (a9 : Int) (b6 : bD) (b9 : List (Nat × Obj)), (E 13 = .int .i64 (i : Nat) ∧ E 12 = .int .i64 (c6.length : Nat)) ∧ bE d5 b6 ∧ ST false (keys ((K, Obj.cells (#[g, a, t, c, z, (.int .i64 a0)] : Array Value) 294 (0, 0)) :: (D ++ (j ++ (u ++ (k ++ (B ++ []))))))) w W b6 ((K, Obj.cells (#[g, a, t, c, a5, (.int .i64 a9)] : Array Value) 294 (0, 0)) :: ((b1, Obj.cells ((aI Z).toArray : Array Value) 53 (0, 0)) :: (a3 ++ (j ++ (u ++ (k ++ (a4 ++ (e5 ++ b9)))))))) ∧ E 0 = (.pointer (some ⟨K, 0, none⟩)) ∧ E 3 = (.pointer (some ⟨b1, 0, none⟩)) ∧ E 11 = f3 ∧ dX (fun (x : Role) => (.agg (aO x).toArray)) (dS Value.string (fun (x : Bool) => (Value.bool x))) g a6 a3 ∧ lJ 38 dH 3 a5 a7 a4 ∧ gu G J H Z (c6.drop i) a6 a7 a9 = some r) c6.length b2.len ⟨T, D, z, M, B, a0, d5, _, ⟨rfl, rfl⟩, (bE.refl _), (hST.sel (Sb (Pr (Pb Pz)) (Sb (Pr Pz) (Sr (Qr Qz) (Sr (Qr Qz) (Sr (Qr Qz) (Sr (Qr Qz) (Sr (Qr Qz) St)))))))), rfl, rfl, rfl, a2, U, hm⟩ (by decide) (by decide) (by decide) (fun _ _ _ h => by obtain ⟨_, _, _, _, _, _, _, _, eIN, _⟩ := h; exact eIN) ?_ ?_))))))))))))
  · rintro e2 E W c8 ⟨a6, a3, a5, a7, a4, a9, b6, b9, ⟨eI, eN⟩, b7, hST, c0, b0, c1, b3, b4, I⟩
    obtain ⟨a8, f7, d1, c4, d2⟩ := cR c8
    rw [d1] at I
    rw [gu] at I
    refine aY (aD (aA (VQ (lA (i := (e2 : Int)) (x0 := a8) Tryz.underlying82 Tryz.sizeOf9 c1 eI b2 (Int.natCast_nonneg _) c4) (fun g3 c9 => V (aJ rfl (DE hST.has (fun p hq => (Mt (Mt (Ma (Ma (Ma (Ma (Ma (Ml hq))))))))) b2 (fun _ => rfl) c9 c4 (y := (.string a8)) rfl Tryz.isAgg9)) (V (aG rfl) (aF (aH (aA (V (aC c0) (V (aJ b0 (aM hST.has (Mt Mh) (aI Z) rfl Tryz.isAgg53 Tryz.sizeOf53)) (V (aN kR b0) (V (aJ rfl (aM hST.has (Mt Mh) (aO Z.B) rfl Tryz.isAgg28 Tryz.sizeOf28)) (V (aC rfl) (V (bJ (qs := #[(0, (.agg (aO Z.B).toArray)), (1, (.string a8))]) (v := (.agg (dH ((⟨Z.B, a8⟩ : aT))).toArray)) (fR rfl rfl) (aW Tryz.zeroValue38 Tryz.underlying38 (JQ _ Tryz.underlying38) (by kernel_rfl))) ?_))))))))))))))
    refine bS I fun c3 d0 I => ?_
    have hsz := hST.size
    refine VE (mL hST (Cb Pz (Cr (Qb Qz) (Cr (Qb Qz) (Cr (Qb Qz) (Cr (Qb Qz) (Cr (Qb Qz) Cn)))))) Tryz.call371 (fun hH hN hsb hmm => (uB K g a6 a3 a G j t J u c H k a5 a7 a4 a9 Z ((⟨Z.B, a8⟩ : aT)) _ _ ⟨hH, hN, bE.refl _⟩ b3 N Y Q b4 d0)) (fun g0 g4 e4 f9 hST c5 hl196 hlift c7 => ?_))
    obtain ⟨d6, e3, d7, b5, rfl, d3, d4⟩ := c7
    replace b5 := b5.symm; subst b5
    replace hST := hST.perm (Tb (Tr (Tr (Tr (Tr (Tr Tn))))))
    exact aF (cL (aH ⟨eI, c3.1, d6, e3, c3.2.1, d7, c3.2.2, e4, _, ⟨rfl, eN⟩, (b7.trans c5), (hST.sel (Kb (Sb (Pr (Pr (Pr (Pr (Pr Pz))))) St))), c0, b0, c1, d3, d4, (by rw [d2]; exact I)⟩))
  rintro E W ⟨a6, a3, a5, a7, a4, a9, b6, b9, ⟨eI, eN⟩, b7, hST, c0, b0, c1, b3, b4, I⟩
  rw [List.drop_length] at I
  rw [gu] at I
  refine aH ?_
  replace hST := hST.sel (Kb (Db (Kr (Kr (Kr (Kr (Kr (Dr St))))))))
  refine cL (lP ?_)
  have hx := sj I; subst hx
  exact jD rfl ⟨_, _, rfl, (hST.bkM (Kb (Kr (Kr (Kr (Kr (Kr Sn))))))), a3, a5, a4, rfl, rfl, b3, b4⟩
theorem xf (I : Nat) (a : Value) (e8 : List (Role × (List (ByteArray × Bool)))) (K : List (Nat × Obj)) (c : Value) (Q : List Cred) (j : List (Nat × Obj)) (u : Value) (N : List (Role × (List Cred))) (y : List (Nat × Obj)) (g : Value) (H : List (ByteArray × (List Cred))) (t : List (Nat × Obj)) (G : Value) (d4 : List aT) (D : List (Nat × Obj)) (a0 : Int) (r : ((List (Role × (List (ByteArray × Bool)))) × (List aT) × Int)) (w : World) {μ0 : bD} (h0 : jU μ0 ((I, Obj.cells (#[a, c, u, g, G, (.int .i64 a0)] : Array Value) 294 (0, 0)) :: (K ++ (j ++ (y ++ (t ++ (D ++ [])))))) w) (h2 : dX (fun (x : Role) => (.agg (aO x).toArray)) (dS Value.string (fun (x : Bool) => (Value.bool x))) a e8 K) (c1 : bI 53 aI 9 c Q j) (g5 : dX (fun (x : Role) => (.agg (aO x).toArray)) (bI 53 aI 9) u N y) (c2 : dX Value.string (bI 53 aI 9) g H t) (g4 : lJ 38 dH 3 G d4 D) (hm : nH e8 Q N H d4 a0 = some r) :
    eB false Tryz.prog 326 [(.pointer (some ⟨I, 0, none⟩))] w ((I, Obj.cells (#[a, c, u, g, G, (.int .i64 a0)] : Array Value) 294 (0, 0)) :: (K ++ (j ++ (y ++ (t ++ (D ++ [])))))) (fun v L1 W' => ∃ (S1 : List (Nat × Obj)) (y3 : Value) (S4 : List (Nat × Obj)), v = (.tuple #[]) ∧ L1 = ((I, Obj.cells (#[a, c, u, g, y3, (.int .i64 (r.2.2))] : Array Value) 294 (0, 0)) :: (S1 ++ (j ++ (y ++ (t ++ (S4 ++ [])))))) ∧ dX (fun (x : Role) => (.agg (aO x).toArray)) (dS Value.string (fun (x : Bool) => (Value.bool x))) a r.1 S1 ∧ lJ 38 dH 3 y3 r.2.1 S4) := by
  have hST := ST.startE (dd := false) h0
  unfold nH at hm
  refine cF 75 Tryz.func326 rfl (qP (aY (iV (fun m E W => ∃ (e3 : List (Role × (List (ByteArray × Bool)))) (b7 : List (Nat × Obj)) (e4 : Value) (a1 : List aT) (b9 : List (Nat × Obj)) (d1 : Int) (b4 : bD) (h3 : List (Nat × Obj)), bE μ0 b4 ∧ ST false (keys ((I, Obj.cells (#[a, c, u, g, G, (.int .i64 a0)] : Array Value) 294 (0, 0)) :: (K ++ (j ++ (y ++ (t ++ (D ++ []))))))) w W b4 ((I, Obj.cells (#[a, c, u, g, e4, (.int .i64 d1)] : Array Value) 294 (0, 0)) :: (b7 ++ (j ++ (y ++ (t ++ (b9 ++ h3)))))) ∧ E 0 = (.pointer (some ⟨I, 0, none⟩)) ∧ dX (fun (x : Role) => (.agg (aO x).toArray)) (dS Value.string (fun (x : Bool) => (Value.bool x))) a e3 b7 ∧ lJ 38 dH 3 e4 a1 b9 ∧ eZ Q N H m e3 a1 d1 = some r) cE ⟨e8, K, G, d4, D, a0, μ0, _, (bE.refl _), (hST.sel St), rfl, h2, g4, hm⟩ ?_)))
  rintro m E W ⟨e3, b7, e4, a1, b9, d1, b4, h3, h8, hST, a6, g7, c5, M⟩
  cases m with
  | zero => rw [eZ] at M; cases M
  | succ m8 =>
    rw [eZ] at M
    refine aD (aD (aA (V (aC a6) (V (cT rfl) (V (aN vN rfl) (V (aJ rfl (aP hST.has Mh rfl Tryz.isAgg68)) (V (Hd Tryz.underlying68 rfl c5) (V (aQ rfl rfl rfl) (aF (aH (CI M rfl (fun i5 M => ?_) (fun i5 M => ?_))))))))))))
    · refine aX (aH (aY (aD (aA (V (aC a6) (V (cT rfl) (V (aN vN rfl) (V (aJ rfl (aP hST.has Mh rfl Tryz.isAgg68)) (bS M fun B g9 M => VQ (lZ (enc := dH) (i := 0) (x0 := B) Tryz.underlying68 Tryz.sizeOf38 rfl rfl (c5.slL tW) (bY g9) (bT g9)) (fun p8 j5 => V (aJ rfl (bN (iA.hp _) (j5.mono (eG (fun b o hq => hST.has.2 b o (Mt (Ma (Ma (Ma (Ma (Ml hq))))))))) Tryz.isAgg38 Tryz.sizeOf38)) (VE (bL hST Tryz.zeroValue38 (fun o7 a5 hST => VO (bH (.agg (dH B).toArray) ((dH B).toArray) hST rfl rfl Tryz.sizeOf38 (EU B) nb rfl (fun o8 hST => aF ?_)))))))))))))))
      refine aH (aD (aA (V (aC a6) (V (aC a6) (V (cT rfl) (V (aN vN rfl) (V (aJ rfl (aP hST.has (Mt Mh) rfl Tryz.isAgg68)) (bS M fun _ g6 M => VQ (FR (i := 1) Tryz.underlying68 Tryz.sizeOf38 rfl rfl tW c5 (rZ g6) (rX g6)) (fun q1 g8 => V (cT rfl) (V (aN vN rfl) ?_))))))))))
      obtain ⟨f7, g0, rfl⟩ := g8.form
      replace hST := hST.perm (Nb (Pb Pz) Nz)
      refine VO (bH (.slice f7 ((a1.drop (Int.toNat 1))).length g0) (#[a, c, u, g, (.slice f7 ((a1.drop (Int.toNat 1))).length g0), (.int .i64 d1)]) hST rfl rfl Tryz.sizeOf68 (by simp [Value.cells, Value.oneCell']) nb rfl (fun o9 hST => aF (aH (aD (aD ?_)))))
      replace hST := hST.drew
      have hS0 := hST.has.sel (Kb (Kb (Dr (Dr (Kr Sn)))))
      refine cX hS0 cC (X 0 rfl hS0 (aC a6) (X 1 rfl hS0 (cT rfl) (X 2 rfl hS0 (aN Fa rfl) (XH 3 rfl hS0 (fun _ hS => aJ rfl (aP hS Mh rfl Tryz.isAgg291)) (X 4 rfl hS0 (aN Du rfl) (XH 5 rfl hS0 (fun _ hS => aJ rfl (aM hS (Mt Mh) (aO B.Role) rfl Tryz.isAgg28 Tryz.sizeOf28)) ?_))))))
      obtain ⟨l5, c3⟩ := g5
      obtain ⟨o5, f0, k0⟩ := eQ.rowAt aZ.1 c3 B.Role
      refine XH 6 rfl hS0 (fun _ hS => j1 (k := B.Role) (z := (.slice none 0 0)) vp Tryz.underlying291 Tryz.zeroValue22 rfl rfl c3 (fun b o hq => hS.2 b o (Mt (Mt (Ml hq))))) (X 7 rfl hS0 (dO Tryz.underlying22 rfl (f0.slL bQ)) (X 8 rfl hS0 (aC rfl) (dB (by kernel_rfl) (aH (CJ M (fun d0 E W => ∃ (d6 : List (Nat × Obj)) (e5 : Value) (d7 : List (Nat × Obj)) (b5 : bD) (h4 : List (Nat × Obj)), bE b4 b5 ∧ ST false (keys ((I, Obj.cells (#[a, c, u, g, G, (.int .i64 a0)] : Array Value) 294 (0, 0)) :: (K ++ (j ++ (y ++ (t ++ (D ++ []))))))) w W b5 ((I, Obj.cells (#[a, c, u, g, e5, (.int .i64 d0.2.2)] : Array Value) 294 (0, 0)) :: ((a5, Obj.cells ((dH B).toArray : Array Value) 38 (0, 0)) :: (d6 ++ (j ++ (y ++ (t ++ (d7 ++ h4))))))) ∧ E 0 = (.pointer (some ⟨I, 0, none⟩)) ∧ E 2 = (.pointer (some ⟨a5, 0, none⟩)) ∧ dX (fun (x : Role) => (.agg (aO x).toArray)) (dS Value.string (fun (x : Bool) => (Value.bool x))) a d0.1 d6 ∧ lJ 38 dH 3 e5 d0.2.1 d7) (fun d0 j4 => ?_) ?_)))))
      · refine dA (fun i E W => ∃ (c7 : List (Role × (List (ByteArray × Bool)))) (a3 : List (Nat × Obj)) (b1 : Value) (c8 : List aT) (a4 : List (Nat × Obj)) (d2 : Int) (d3 : bD) (f9 : List (Nat × Obj)), (E 35 = .int .i64 (i : Nat) ∧ E 34 = .int .i64 ((((cH bA N B.Role).getD [])).length : Nat)) ∧ bE b4 d3 ∧ ST false (keys ((I, Obj.cells (#[a, c, u, g, G, (.int .i64 a0)] : Array Value) 294 (0, 0)) :: (K ++ (j ++ (y ++ (t ++ (D ++ []))))))) w W d3 ((I, Obj.cells (#[a, c, u, g, b1, (.int .i64 d2)] : Array Value) 294 (0, 0)) :: ((a5, Obj.cells ((dH B).toArray : Array Value) 38 (0, 0)) :: (a3 ++ (j ++ (y ++ (t ++ (a4 ++ f9))))))) ∧ E 0 = (.pointer (some ⟨I, 0, none⟩)) ∧ E 2 = (.pointer (some ⟨a5, 0, none⟩)) ∧ E 33 = (jL bA l5 B.Role (.slice none 0 0)) ∧ dX (fun (x : Role) => (.agg (aO x).toArray)) (dS Value.string (fun (x : Bool) => (Value.bool x))) a c7 a3 ∧ lJ 38 dH 3 b1 c8 a4 ∧ fP Q N H B ((((cH bA N B.Role).getD [])).drop i) c7 c8 d2 = some d0) (((cH bA N B.Role).getD [])).length (f0.slL bQ).len ⟨e3, b7, (.slice f7 ((a1.drop (Int.toNat 1))).length g0), ((a1.drop (Int.toNat 1))), b9, d1, b4, _, ⟨rfl, rfl⟩, (bE.refl _), (hST.sel St), a6, rfl, rfl, g7, g8, j4⟩ (by decide) (by decide) (by decide) (fun _ _ _ h => by obtain ⟨_, _, _, _, _, _, _, _, eIN, _⟩ := h; exact eIN) ?_ ?_
        · rintro m3 E W i8 ⟨c7, a3, b1, c8, a4, d2, d3, f9, ⟨eI, eN⟩, d5, hST, e1, e2, g1, f3, f4, T⟩
          obtain ⟨b3, o1, k9, k8, l0⟩ := cR i8
          rw [k9] at T
          rw [fP] at T
          refine aY (aD (aA (VQ (lZ (enc := aI) (i := (m3 : Int)) (x0 := b3) Tryz.underlying22 Tryz.sizeOf53 g1 eI (f0.slL bQ) (Int.natCast_nonneg _) k8) (fun q0 j7 => V (aJ rfl (bN (iA.hp _) (j7.mono (eG (fun b o hq => hST.has.2 b o (Mt (Mt (Ma (Ma (Ml (k0 b o hq))))))))) Tryz.isAgg53 Tryz.sizeOf53)) (VE (bL hST Tryz.zeroValue53 (fun p3 p7 hST => VO (bH (.agg (aI b3).toArray) ((aI b3).toArray) hST rfl rfl Tryz.sizeOf53 (gY b3) nb rfl (fun p4 hST => aF (aH (aA (V (aC e1) (V (aJ rfl (aM hST.has Mh (aI b3) rfl Tryz.isAgg53 Tryz.sizeOf53)) (V (aJ e2 (aM hST.has (Mt (Mt Mh)) (dH B) rfl Tryz.isAgg38 Tryz.sizeOf38)) (bS T fun g3 j9 T => ?_)))))))))))))))
          have hsz := hST.size
          refine VE (mL hST (Cb (Pb Pz) (Cr (Qb (Qb Qz)) (Cr (Qb (Qb Qz)) (Cr (Qb (Qb Qz)) (Cr (Qb (Qb Qz)) (Cr (Qb (Qb Qz)) Cn)))))) Tryz.call371 (fun hH hN hsb hmm => (uB I a c7 a3 c Q j u N y g H t b1 c8 a4 d2 b3 B _ _ ⟨hH, hN, bE.refl _⟩ f3 c1 c3.e c2 f4 j9)) (fun p5 q3 n4 o4 hST i2 hl3113 hlift i4 => ?_))
          obtain ⟨l9, n2, m0, f6, rfl, l3, l4⟩ := i4
          replace f6 := f6.symm; subst f6
          replace hST := hST.perm (Tb (Tr (Tr (Tr (Tr (Tr Tn))))))
          refine aF (cL (aH ?_))
          replace hST := hST.sel (Kb (Kr (Kr (Kr (Kr (Kr (Db St)))))))
          exact ⟨eI, g3.1, l9, n2, g3.2.1, m0, g3.2.2, n4, _, ⟨rfl, eN⟩, (d5.trans i2), (hST.sel (Kb (Sb (Pr (Pr (Pr (Pr (Pr Pz))))) St))), e1, e2, g1, l3, l4, (by rw [l0]; exact T)⟩
        rintro E W ⟨c7, a3, b1, c8, a4, d2, d3, f9, ⟨eI, eN⟩, d5, hST, e1, e2, g1, f3, f4, T⟩
        rw [List.drop_length] at T
        rw [fP] at T
        refine aH ?_
        cases T
        exact ⟨a3, b1, a4, d3, _, d5, (hST.sel St), e1, e2, f3, f4⟩
      rintro ⟨m4, m5, m9⟩ E W ⟨d6, e5, d7, b5, h4, h9, hST, h6, h7, k1, k2⟩ i9
      refine aD ?_
      replace hST := hST.drew
      have hS0 := hST.has.sel (Kb (Kb (Dr (Dr (Dr (Kr Sn))))))
      refine cX hS0 cC (X 0 rfl hS0 (aC h6) (X 1 rfl hS0 (cT rfl) (X 2 rfl hS0 (aN BU rfl) (XH 3 rfl hS0 (fun _ hS => aJ rfl (aP hS Mh rfl Tryz.isAgg292)) (X 4 rfl hS0 (aN Du h7) (X 5 rfl hS0 (aN te rfl) (XH 6 rfl hS0 (fun _ hS => aJ rfl (aP hS (Mt Mh) rfl Tryz.isAgg9)) ?_)))))))
      obtain ⟨l6, e9⟩ := c2
      obtain ⟨o6, f1, k3⟩ := eQ.rowAt eP.1 e9 B.Role.Word
      refine XH 7 rfl hS0 (fun _ hS => j1 (k := B.Role.Word) (z := (.slice none 0 0)) Av Tryz.underlying292 Tryz.zeroValue22 rfl rfl e9 (fun b o hq => hS.2 b o (Mt (Mt (Ml hq))))) (X 8 rfl hS0 (dO Tryz.underlying22 rfl (f1.slL bQ)) (X 9 rfl hS0 (aC rfl) (dB (by kernel_rfl) (aH (qP (CJ i9 (fun c9 E W => ∃ (d8 : List (Nat × Obj)) (e6 : Value) (d9 : List (Nat × Obj)) (e7 : bD) (h5 : List (Nat × Obj)), bE b5 e7 ∧ ST false (keys ((I, Obj.cells (#[a, c, u, g, G, (.int .i64 a0)] : Array Value) 294 (0, 0)) :: (K ++ (j ++ (y ++ (t ++ (D ++ []))))))) w W e7 ((I, Obj.cells (#[a, c, u, g, e6, (.int .i64 c9.2.2)] : Array Value) 294 (0, 0)) :: (d8 ++ (j ++ (y ++ (t ++ (d9 ++ h5)))))) ∧ E 0 = (.pointer (some ⟨I, 0, none⟩)) ∧ dX (fun (x : Role) => (.agg (aO x).toArray)) (dS Value.string (fun (x : Bool) => (Value.bool x))) a c9.1 d8 ∧ lJ 38 dH 3 e6 c9.2.1 d9) (fun c9 j3 => ?_) ?_))))))
      · refine dA (fun i E W => ∃ (a9 : List (Role × (List (ByteArray × Bool)))) (Y : List (Nat × Obj)) (a2 : Value) (b0 : List aT) (Z : List (Nat × Obj)) (b2 : Int) (b6 : bD) (f8 : List (Nat × Obj)), (E 53 = .int .i64 (i : Nat) ∧ E 52 = .int .i64 ((((cH cQ H B.Role.Word).getD [])).length : Nat)) ∧ bE b5 b6 ∧ ST false (keys ((I, Obj.cells (#[a, c, u, g, G, (.int .i64 a0)] : Array Value) 294 (0, 0)) :: (K ++ (j ++ (y ++ (t ++ (D ++ []))))))) w W b6 ((I, Obj.cells (#[a, c, u, g, a2, (.int .i64 b2)] : Array Value) 294 (0, 0)) :: ((a5, Obj.cells ((dH B).toArray : Array Value) 38 (0, 0)) :: (Y ++ (j ++ (y ++ (t ++ (Z ++ f8))))))) ∧ E 0 = (.pointer (some ⟨I, 0, none⟩)) ∧ E 2 = (.pointer (some ⟨a5, 0, none⟩)) ∧ E 51 = (jL cQ l6 B.Role.Word (.slice none 0 0)) ∧ dX (fun (x : Role) => (.agg (aO x).toArray)) (dS Value.string (fun (x : Bool) => (Value.bool x))) a a9 Y ∧ lJ 38 dH 3 a2 b0 Z ∧ eX B Q N H ((((cH cQ H B.Role.Word).getD [])).drop i) a9 b0 b2 = some c9) (((cH cQ H B.Role.Word).getD [])).length (f1.slL bQ).len ⟨m4, d6, e5, m5, d7, m9, b5, _, ⟨rfl, rfl⟩, (bE.refl _), (hST.sel St), h6, h7, rfl, k1, k2, j3⟩ (by decide) (by decide) (by decide) (fun _ _ _ h => by obtain ⟨_, _, _, _, _, _, _, _, eIN, _⟩ := h; exact eIN) ?_ ?_
        · rintro m2 E W i7 ⟨a9, Y, a2, b0, Z, b2, b6, f8, ⟨eI, eN⟩, a8, hST, a7, c0, e0, f2, c6, J⟩
          obtain ⟨U, o0, k7, k6, h1⟩ := cR i7
          rw [k7] at J
          rw [eX] at J
          refine aY (aD (aA (VQ (lZ (enc := aI) (i := (m2 : Int)) (x0 := U) Tryz.underlying22 Tryz.sizeOf53 e0 eI (f1.slL bQ) (Int.natCast_nonneg _) k6) (fun p9 j6 => V (aJ rfl (bN (iA.hp _) (j6.mono (eG (fun b o hq => hST.has.2 b o (Mt (Mt (Ma (Ma (Ma (Ml (k3 b o hq)))))))))) Tryz.isAgg53 Tryz.sizeOf53)) (VE (bL hST Tryz.zeroValue53 (fun p0 p6 hST => VO (bH (.agg (aI U).toArray) ((aI U).toArray) hST rfl rfl Tryz.sizeOf53 (gY U) nb rfl (fun p1 hST => aF (aH (aD ?_)))))))))))
          replace hST := hST.drew
          have hS0 := hST.has.sel (Kb (Kb (Kb (Kr Sn))))
          refine cX hS0 cC (X 0 rfl hS0 (aC a7) (X 1 rfl hS0 (cT rfl) (X 2 rfl hS0 (aN sM rfl) (XH 3 rfl hS0 (fun _ hS => aJ rfl (aP hS (Mt Mh) rfl Tryz.isAgg290)) (X 4 rfl hS0 (aN kR rfl) (XH 5 rfl hS0 (fun _ hS => aJ rfl (aM hS Mh (aO U.B) rfl Tryz.isAgg28 Tryz.sizeOf28)) ?_))))))
          obtain ⟨n8, c4⟩ := f2
          refine XH 6 rfl hS0 (fun _ hS => j1 (k := U.B) (z := (.map none)) vp Tryz.underlying290 Tryz.zeroValue296 rfl rfl c4 (fun b o hq => hS.2 b o (Mt (Mt (Mt (Ml hq)))))) (X 7 rfl hS0 (aN Du c0) (X 8 rfl hS0 (aN qM rfl) (XH 9 rfl hS0 (fun _ hS => aJ rfl (aP hS (Mt (Mt Mh)) rfl Tryz.isAgg9)) (XH 10 rfl hS0 (fun _ hS => vj (k := B.Role.Owner) (z := false) (vf := (fun (x : Bool) => (Value.bool x))) Av Tryz.underlying296 Tryz.zeroValue4 rfl rfl (eQ.mapAt (μ := hp _) aZ.1 c4 U.B (fun b o hq => hS.2 b o (Mt (Mt (Mt (Ml hq))))))) (dB (by kernel_rfl) (aH (CI J rfl (fun i6 J => ?_) (fun i6 J => ?_))))))))
          · refine aA (V (aC a7) (V (aN oA rfl) (V (aJ rfl (aM hST.has Mh (aO U.Head) rfl Tryz.isAgg28 Tryz.sizeOf28)) (V (aN xD c0) (V (aJ rfl (aP hST.has (Mt (Mt Mh)) rfl Tryz.isAgg9)) (bS J fun g2 j8 J => ?_))))))
            have hsz := hST.size
            refine VE (mL hST (Cb (Pb Pz) (Cr (Qb (Qb Qz)) (Cr (Qb (Qb Qz)) (Cr (Qb (Qb Qz)) (Cr (Qb (Qb Qz)) (Cr (Qb (Qb Qz)) Cn)))))) Tryz.call370 (fun hH hN hsb hmm => eB.weak (lW I a a9 Y c Q j u N y g H t a2 b0 Z b2 U.Head B.Who _ _ ⟨hH, hN, bE.refl _⟩ c4.e c1 c3.e e9.e c6 j8)) (fun p2 q2 n3 o3 hST i1 hl3012 hlift i3 => ?_))
            obtain ⟨l7, n1, l8, f5, rfl, l1, l2⟩ := i3
            replace f5 := f5.symm; subst f5
            replace hST := hST.perm (Tb (Tr (Tr (Tr (Tr (Tr Tn))))))
            refine aF (cL (aH ?_))
            replace hST := hST.sel (Kb (Kr (Kr (Kr (Kr (Kr (Db St)))))))
            exact ⟨eI, g2.1, l7, n1, g2.2.1, l8, g2.2.2, n3, _, ⟨rfl, eN⟩, (a8.trans i1), (hST.sel (Kb (Sb (Pr (Pr (Pr (Pr (Pr Pz))))) St))), a7, c0, e0, l1, l2, (by rw [h1]; exact J)⟩
          refine aX (cL (aH ?_))
          replace hST := hST.sel (Db St)
          exact ⟨eI, a9, Y, a2, b0, Z, b2, b6, _, ⟨rfl, eN⟩, a8, (hST.sel St), a7, c0, e0, c4.e, c6, (by rw [h1]; exact J)⟩
        rintro E W ⟨a9, Y, a2, b0, Z, b2, b6, f8, ⟨eI, eN⟩, a8, hST, a7, c0, e0, f2, c6, J⟩
        rw [List.drop_length] at J
        rw [eX] at J
        refine aH ?_
        cases J
        exact ⟨Y, a2, Z, b6, _, a8, (hST.sel (Kb (Db St))), a7, f2, c6⟩
      rintro ⟨m6, m7, n0⟩ E W ⟨d8, e6, d9, e7, h5, i0, hST, m1, k4, k5⟩ j0
      exact cL (aH ⟨m8, Nat.lt_succ_self _, m6, d8, e6, m7, d9, n0, e7, _, ((h8.trans h9).trans i0), (hST.sel St), m1, k4, k5, j0⟩)
    refine iD (gI (gI (pC (aH (lP ?_)))))
    have hx := sj M; subst hx
    exact jD rfl ⟨_, _, rfl, (hST.bkM (Kb (Kr (Kr (Kr (Kr (Kr Sn))))))), b7, e4, b9, rfl, rfl, g7, c5⟩
theorem yM (H : Nat) (g : Value) (c2 : List (Role × (List (ByteArray × Bool)))) (G : List (Nat × Obj)) (u : Value) (a7 : List Cred) (k : List (Nat × Obj)) (c : Value) (b7 : List (Role × (List Cred))) (z : List (Nat × Obj)) (a : Value) (a8 : List (ByteArray × (List Cred))) (t : List (Nat × Obj)) (B : Value) (b6 : List aT) (y : List (Nat × Obj)) (K : Int) (d1 : Value) (a1 : List Cred) (r : (Int × (List (Role × (List (ByteArray × Bool)))) × (List Cred) × (List (Role × (List Cred))) × (List (ByteArray × (List Cred))) × (List aT) × Int)) (w : World) {μ0 : bD} (h0 : jU μ0 ((H, Obj.cells (#[g, u, c, a, B, (.int .i64 K)] : Array Value) 294 (0, 0)) :: (G ++ (k ++ (z ++ (t ++ (y ++ [])))))) w) (d6 : dX (fun (x : Role) => (.agg (aO x).toArray)) (dS Value.string (fun (x : Bool) => (Value.bool x))) g c2 G) (c6 : bI 53 aI 9 u a7 k) (d3 : dX (fun (x : Role) => (.agg (aO x).toArray)) (bI 53 aI 9) c b7 z) (c7 : dX Value.string (bI 53 aI 9) a a8 t) (d2 : lJ 38 dH 3 B b6 y) (d7 : Sl (Pl aI) 9 μ0 d1 a1) (hm : mV c2 a7 b7 a8 b6 K a1 = some r) :
    eB false Tryz.prog 233 [(.pointer (some ⟨H, 0, none⟩)), d1] w ((H, Obj.cells (#[g, u, c, a, B, (.int .i64 K)] : Array Value) 294 (0, 0)) :: (G ++ (k ++ (z ++ (t ++ (y ++ [])))))) (fun v L1 W' => ∃ (S1 : List (Nat × Obj)) (y3 : Value) (S4 : List (Nat × Obj)) (S6 : List (Nat × Obj)) (S8 : List (Nat × Obj)) (h9 : Value) (h8 : List (Nat × Obj)), v = (.int .i64 (r.1)) ∧ L1 = ((H, Obj.cells (#[g, y3, c, a, h9, (.int .i64 (r.2.2.2.2.2.2))] : Array Value) 294 (0, 0)) :: (S1 ++ (S4 ++ (S6 ++ (S8 ++ (h8 ++ [])))))) ∧ dX (fun (x : Role) => (.agg (aO x).toArray)) (dS Value.string (fun (x : Bool) => (Value.bool x))) g r.2.1 S1 ∧ bI 53 aI 9 y3 r.2.2.1 S4 ∧ dX (fun (x : Role) => (.agg (aO x).toArray)) (bI 53 aI 9) c r.2.2.2.1 S6 ∧ dX Value.string (bI 53 aI 9) a r.2.2.2.2.1 S8 ∧ lJ 38 dH 3 h9 r.2.2.2.2.2.1 h8) := by
  have hST := ST.startE (dd := false) h0
  unfold mV at hm
  refine cF 46 Tryz.func233 rfl (aD (aA (V (aG rfl) (aF (aH (aD (aD (aA (V (aC rfl) (V (pV Tryz.underlying171 rfl rfl) (aF (aH (oL rfl (aX ?_))))))))))))))
  refine aH (aD (aA (V (aC rfl) (V (cT rfl) (V (aN zL rfl) (V (aJ rfl (aP hST.has Mh rfl Tryz.isAgg3)) (V (aG rfl) (aF (aH (aD (aD (aA (V (aC rfl) (V (dO Tryz.underlying22 rfl d7) ?_))))))))))))))
  refine V (aC rfl) (aF (aH (dA (fun i E W => ∃ (a3 : List (Role × (List (ByteArray × Bool)))) (N : List (Nat × Obj)) (M : Value) (a4 : List Cred) (Q : List (Nat × Obj)) (a9 : List (Role × (List Cred))) (T : List (Nat × Obj)) (b0 : List (ByteArray × (List Cred))) (U : List (Nat × Obj)) (a0 : Value) (a5 : List aT) (Y : List (Nat × Obj)) (a2 : Int) (c1 : bD) (d5 : List (Nat × Obj)), (E 16 = .int .i64 (i : Nat) ∧ E 15 = .int .i64 (a1.length : Nat)) ∧ bE μ0 c1 ∧ ST false (keys ((H, Obj.cells (#[g, u, c, a, B, (.int .i64 K)] : Array Value) 294 (0, 0)) :: (G ++ (k ++ (z ++ (t ++ (y ++ []))))))) w W c1 ((H, Obj.cells (#[g, M, c, a, a0, (.int .i64 a2)] : Array Value) 294 (0, 0)) :: (N ++ (Q ++ (T ++ (U ++ (Y ++ d5)))))) ∧ E 0 = (.pointer (some ⟨H, 0, none⟩)) ∧ E 5 = (.int .i64 K) ∧ E 14 = d1 ∧ dX (fun (x : Role) => (.agg (aO x).toArray)) (dS Value.string (fun (x : Bool) => (Value.bool x))) g a3 N ∧ bI 53 aI 9 M a4 Q ∧ dX (fun (x : Role) => (.agg (aO x).toArray)) (bI 53 aI 9) c a9 T ∧ dX Value.string (bI 53 aI 9) a b0 U ∧ lJ 38 dH 3 a0 a5 Y ∧ fC K (a1.drop i) a3 a4 a9 b0 a5 a2 = some r) a1.length d7.len ⟨c2, G, u, a7, k, b7, z, a8, t, B, b6, y, K, μ0, _, ⟨rfl, rfl⟩, (bE.refl _), (hST.sel St), rfl, rfl, rfl, d6, c6, d3, c7, d2, hm⟩ (by decide) (by decide) (by decide) (fun _ _ _ h => by obtain ⟨_, _, _, _, _, _, _, _, _, _, _, _, _, _, _, eIN, _⟩ := h; exact eIN) ?_ ?_)))
  · rintro f6 E W g3 ⟨a3, N, M, a4, Q, a9, T, b0, U, a0, a5, Y, a2, c1, d5, ⟨eI, eN⟩, b1, hST, b9, c3, c4, b2, a6, b3, b4, b5, D⟩
    obtain ⟨I, j6, h2, h1, d9⟩ := cR g3
    rw [h2] at D
    rw [fC] at D
    refine aY (aD (aA (VQ (lZ (enc := aI) (i := (f6 : Int)) (x0 := I) Tryz.underlying22 Tryz.sizeOf53 c4 eI (d7.mono (Pl.mono _) b1) (Int.natCast_nonneg _) h1) (fun k9 g4 => V (aJ rfl (bN hST.has g4 Tryz.isAgg53 Tryz.sizeOf53)) (VE (bL hST Tryz.zeroValue53 (fun k1 e8 hST => VO (bH (.agg (aI I).toArray) ((aI I).toArray) hST rfl rfl Tryz.sizeOf53 (gY I) nb rfl (fun k2 hST => aF (aH (aD ?_)))))))))))
    replace hST := hST.drew
    have hS0 := hST.has.sel (Kb (Kb Sn))
    refine cX hS0 cC (XH 0 rfl hS0 (fun _ hS => aJ rfl (aM hS Mh (aI I) rfl Tryz.isAgg53 Tryz.sizeOf53)) (bS D fun l0 g5 D => XE 1 rfl (Eg hST Tryz.call137 (bO.weak (su I _ _  g5)) (fun k3 hST => ?_))))
    have hS0 := hST.has.sel (Kb (Kb Sn))
    refine ⟨hS0, (X 2 rfl hS0 (aC rfl) (PJ D (fun f7 E W => ∃  (e4 : List (Nat × Obj)), ST false (keys ((H, Obj.cells (#[g, u, c, a, B, (.int .i64 K)] : Array Value) 294 (0, 0)) :: (G ++ (k ++ (z ++ (t ++ (y ++ []))))))) w W c1 ((e8, Obj.cells ((aI I).toArray : Array Value) 53 (0, 0)) :: ((H, Obj.cells (#[g, M, c, a, a0, (.int .i64 a2)] : Array Value) 294 (0, 0)) :: (N ++ (Q ++ (T ++ (U ++ (Y ++ e4))))))) ∧ E 0 = (.pointer (some ⟨H, 0, none⟩)) ∧ E 5 = (.int .i64 K) ∧ E 7 = (.pointer (some ⟨e8, 0, none⟩)) ∧ E 14 = d1 ∧ E 15 = (.int .i64 ((a1.length : Int))) ∧ E 16 = (.int .i64 ((f6 : Int))) ∧ E 30 = (.bool f7)) (bm 11 2047) 0 ?_ (fun f7 Z d4 => ?_)))⟩
    · rintro l5 E W ⟨e4, hST, c5, e9, f0, f1, f2, f3, i4⟩ J
      have hS0 := hST.has.sel (Kb (Kb Sn))
      refine dB (by kernel_rfl) (aH (CI J i4 (fun g2 J => ?_) (fun g2 J => ?_)))
      · refine aD (aA (V (aC c5) (V (aJ f0 (aM hST.has Mh (aI I) rfl Tryz.isAgg53 Tryz.sizeOf53)) (bS J fun c0 g6 J => ?_))))
        have hsz := hST.size
        refine VE (mL hST (Cb (Pb Pz) (Cr (Qb Qz) (Cr (Qb Qz) (Cr (Qb Qz) (Cr (Qb Qz) (Cr (Qb Qz) Cn)))))) Tryz.call324 (fun hH hN hsb hmm => eB.weak (yx H g a3 N M a4 Q c a9 T a b0 U a0 a5 Y a2 I _ _ ⟨hH, hN, bE.refl _⟩ b2 a6 b3 b4 b5 g6)) (fun k4 l2 l6 j8 hST f4 hl743 hlift f9 => ?_))
        obtain ⟨f8, e5, e6, e7, c8, rfl, e0, e1, e2⟩ := f9
        replace c8 := c8.symm; subst c8
        replace hST := hST.perm (Tb (Tr (Tr (Tr (Tr (Tr Tn))))))
        refine aF (aH (aA (V (aC c5) (V (aJ f0 (aM hST.has (Mt (Ma (Ma (Ma (Ma (Ma Mh)))))) (aI I) rfl Tryz.isAgg53 Tryz.sizeOf53)) (bS J fun d8 g7 J => ?_)))))
        have hsz := hST.size
        refine VE (mL hST (Cb Pz (Cr Qz (Cr Qz (Cr Qz (Cr Qz (Cr Qz Cn)))))) Tryz.call325 (fun hH hN hsb hmm => (xH H g a3 N f8 c0.1 e5 c c0.2.1 e6 a c0.2.2 e7 a0 a5 Y a2 I _ _ ⟨hH, hN, bE.refl _⟩ b2 e0 e1 e2 b5 g7)) (fun k5 l3 i8 j9 hST f5 hl760 hlift g0 => ?_))
        obtain ⟨i0, i6, i1, c9, rfl, h3, h4⟩ := g0
        replace c9 := c9.symm; subst c9
        replace hST := hST.perm (Tb (Tr (Tr (Tr (Tr (Tr Tn))))))
        refine aF (cL (aH ?_))
        replace hST := hST.sel (Kb (Kr (Kr (Kr (Kr (Kr (Db St)))))))
        exact ⟨f3, d8.1, i0, f8, c0.1, e5, c0.2.1, e6, c0.2.2, e7, i6, d8.2.1, i1, d8.2.2, i8, _, ⟨rfl, f2⟩, ((b1.trans f4).trans f5), (hST.sel St), c5, e9, f1, h3, e0, e1, e2, h4, (by rw [d9]; exact J)⟩
      refine aX (cL (aH ?_))
      replace hST := hST.sel (Db St)
      exact ⟨f3, a3, N, M, a4, Q, a9, T, b0, U, a0, a5, Y, a2, c1, _, ⟨rfl, f2⟩, b1, (hST.sel St), c5, e9, f1, b2, a6, b3, b4, b5, (by rw [d9]; exact J)⟩
    refine bC Z (fun j Z => ?_) (fun j Z => ?_)
    · refine Xg 3 rfl rfl (cB j) hS0 (aC b9) (Xg 4 rfl rfl (cB j) hS0 (cT rfl) (Xg 5 rfl rfl (cB j) hS0 (aN Cd rfl) (oN 6 rfl rfl (cB j) hS0 (fun _ hS => aJ rfl (aP hS (Mt Mh) rfl Tryz.isAgg22)) (oN 7 rfl rfl (cB j) hS0 (fun _ hS => aJ rfl (aM hS Mh (aI I) rfl Tryz.isAgg53 Tryz.sizeOf53)) (bS Z fun l1 g8 Z => vm 8 rfl rfl (cB j) (Eg hST Tryz.call201 (bO.weak (Bx M a4 I _ _ (a6.sl bQ (fun b o hq => hST.at_ (Mt (Mt (Ma (Ml hq)))))) g8)) (fun k6 hST => ?_)))))))
      have hS0 := hST.has.sel (Kb (Kb Sn))
      refine ⟨hS0, (Xg 9 rfl rfl (cB j) hS0 (fV rfl) (X 10 rfl hS0 (bU (cB j) rfl) ?_))⟩
      cases Z
      refine cV (by kernel_rfl) (d4 _ _ ⟨_, (hST.sel St), b9, c3, rfl, c4, eN, eI, rfl⟩)
    refine Xn 3 rfl rfl (cB j) hS0 (Xn 4 rfl rfl (cB j) hS0 (Xn 5 rfl rfl (cB j) hS0 (Xn 6 rfl rfl (cB j) hS0 (Xn 7 rfl rfl (cB j) hS0 (Xn 8 rfl rfl (cB j) hS0 (Xn 9 rfl rfl (cB j) hS0 (X 10 rfl hS0 (bX (cB j) rfl) ?_)))))))
    cases Z
    refine cV (by kernel_rfl) (d4 _ _ ⟨_, (hST.sel St), b9, c3, rfl, c4, eN, eI, rfl⟩)
  rintro E W ⟨a3, N, M, a4, Q, a9, T, b0, U, a0, a5, Y, a2, c1, d5, ⟨eI, eN⟩, b1, hST, b9, c3, c4, b2, a6, b3, b4, b5, D⟩
  rw [List.drop_length] at D
  rw [fC] at D
  refine aH (aD (aA (V (aC b9) (bS D fun i5 g9 D => ?_))))
  have hsz := hST.size
  refine VE (mL hST (Cb Pz (Cr Qz (Cr Qz (Cr Qz (Cr Qz (Cr Qz Cn)))))) Tryz.call326 (fun hH hN hsb hmm => (xf H g a3 N M a4 Q c a9 T a b0 U a0 a5 Y a2 _ _ ⟨hH, hN, bE.refl _⟩ b2 a6 b3 b4 b5 g9)) (fun k7 l4 l7 k0 hST j4 hl782 hlift g1 => ?_))
  obtain ⟨i2, i7, i3, d0, rfl, h5, h6⟩ := g1
  replace d0 := d0.symm; subst d0
  replace hST := hST.perm (Tb (Tr (Tr (Tr (Tr (Tr Tn))))))
  refine aF (aH (aD (aA (V (aC b9) (V (cT rfl) (V (aN zL rfl) (V (aJ rfl (aP hST.has Mh rfl Tryz.isAgg3)) (V (aC c3) (V (aQ rfl rfl rfl) (V (aG rfl) (aF (aH (aU ?_)))))))))))))
  have hx := sj D; subst hx
  exact eA (v := (.int .i64 ((IntKind.i64.wrap (i5.2.2 - K))))) rfl rfl ⟨_, _, rfl, (hST.bkM (Kb (Kr (Kr (Kr (Kr (Kr Sn))))))), i2, M, Q, T, U, i7, i3, rfl, rfl, h5, a6, b3, b4, h6⟩
theorem F8 (j : Value) (H : List Cred) (r : ((List (Role × (List (ByteArray × Bool)))) × (List Cred) × (List (Role × (List Cred))) × (List (ByteArray × (List Cred))) × (List aT) × Int)) (w : World) (J : Sl (Pl aI) 9 (hp w) j H) (hm : sF H = some r) :
    eB false Tryz.prog 117 [j] w [] (fun v L1 W' => ∃ (b1 : Nat) (y2 : Value) (S3 : List (Nat × Obj)) (y5 : Value) (S6 : List (Nat × Obj)) (y8 : Value) (S9 : List (Nat × Obj)) (D : Value) (u : List (Nat × Obj)) (G : Value) (y : List (Nat × Obj)), v = (.pointer (some ⟨b1, 0, none⟩)) ∧ L1 = ((b1, Obj.cells (#[y2, y5, y8, D, G, (.int .i64 (r.2.2.2.2.2))] : Array Value) 294 (0, 0)) :: (S3 ++ (S6 ++ (S9 ++ (u ++ (y ++ [])))))) ∧ dX (fun (x : Role) => (.agg (aO x).toArray)) (dS Value.string (fun (x : Bool) => (Value.bool x))) y2 r.1 S3 ∧ bI 53 aI 9 y5 r.2.1 S6 ∧ dX (fun (x : Role) => (.agg (aO x).toArray)) (bI 53 aI 9) y8 r.2.2.1 S9 ∧ dX Value.string (bI 53 aI 9) D r.2.2.2.1 u ∧ lJ 38 dH 3 G r.2.2.2.2.1 y) := by
  have hST := ST.start (dd := false) w
  unfold sF at hm
  refine cF 13 Tryz.func117 rfl (aD (aA (V (aG rfl) (aF (aH (aD (aA (VE (xX (P := Tryz.prog) (fun (x : Role) => (.agg (aO x).toArray)) (dS Value.string (fun (x : Bool) => (Value.bool x))) hST (fun W1 v4 R2 hST z => VE (xX (P := Tryz.prog) (fun (x : Role) => (.agg (aO x).toArray)) (bI 53 aI 9) hST (fun W5 v8 R6 hST B => VE (xX (P := Tryz.prog) Value.string (bI 53 aI 9) hST (fun W9 c4 Y hST t => ?_))))))))))))))
  obtain ⟨a, rfl⟩ := z.form
  obtain ⟨c, rfl⟩ := B.form
  obtain ⟨g, rfl⟩ := t.form
  refine V (bJ (qs := #[(0, (.map (some a))), (2, (.map (some c))), (3, (.map (some g)))]) (v := (.agg #[(.map (some a)), (.slice none 0 0), (.map (some c)), (.map (some g)), (.slice none 0 0), (.int .i64 0)])) (eH rfl rfl rfl) (aW Tryz.zeroValue294 Tryz.underlying294 (Kg _ Tryz.underlying294) (by kernel_rfl))) (VE (cO (v := (.agg #[(.map (some a)), (.slice none 0 0), (.map (some c)), (.map (some g)), (.slice none 0 0), (.int .i64 0)])) hST rfl (fun c1 k hST => V (aG rfl) (aF (aH (aD (aA (V (aC rfl) (V (aC rfl) (bS hm fun c3 K hm => ?_))))))))))
  have hsz := hST.size
  refine VE (mL hST (Cb Pz (Cr (Qr (Qr Qz)) (C0 (Cr (Qr Qz) (Cr Qz (C0 Cn)))))) Tryz.call233 (fun hH hN hsb hmm => (yM k (.map (some a)) ([]) R2 (.slice none 0 0) ([]) [] (.map (some c)) ([]) R6 (.map (some g)) ([]) Y (.slice none 0 0) ([]) [] 0 j H _ _ ⟨hH, hN, bE.refl _⟩ z (bI.nil _ _ _) B t (lJ.nil _ _ _) (J.mono (Pl.mono _) hsb) K)) (fun c2 c5 c6 c0 hST b5 hl23 hlift I => ?_))
  obtain ⟨Z, b0, a2, a3, a4, b2, a5, i, rfl, M, N, Q, T, U⟩ := I
  replace i := i.symm; subst i
  replace hST := hST.perm (Tb (Tr (Tr (Tr (Tr (Tr Tn))))))
  refine aF (aH (aD (aA (V (aC rfl) (V (aG rfl) (aF (aH (aU ?_))))))))
  have hx := sj hm; subst hx
  exact eA (v := (.pointer (some ⟨k, 0, none⟩))) rfl rfl ⟨_, _, rfl, (hST.bkL (Kb (Kr (Kr (Kr (Kr (Kr Sn))))))), k, (.map (some a)), Z, b0, a2, (.map (some c)), a3, (.map (some g)), a4, b2, a5, rfl, rfl, M, N, Q, T, U⟩
theorem zd (c : Value) (D : List Cred) (G : ByteArray) (r : ((List (Role × (List (ByteArray × Bool)))) × (List Cred) × (List (Role × (List Cred))) × (List (ByteArray × (List Cred))) × (List aT) × Int × ByteArray)) (w : World) (I : Sl (Pl aI) 9 (hp w) c D) (hm : qJ D G = some r) :
    eB false Tryz.prog 182 [c, (.string G)] w [] (fun v L1 W' => ∃ (g : Nat) (b2 : Nat) (y3 : Value) (S4 : List (Nat × Obj)) (y6 : Value) (S7 : List (Nat × Obj)) (y9 : Value) (j : List (Nat × Obj)) (z : Value) (k : List (Nat × Obj)) (B : Value) (t : List (Nat × Obj)) (u : Nat), v = (.func (.func 287) #[] #[(.pointer (some ⟨g, 0, none⟩)), (.pointer (some ⟨u, 0, none⟩))]) ∧ L1 = ((g, Obj.cells (#[(.pointer (some ⟨b2, 0, none⟩))] : Array Value) 171 (0, 0)) :: ((b2, Obj.cells (#[y3, y6, y9, z, B, (.int .i64 (r.2.2.2.2.2.1))] : Array Value) 294 (0, 0)) :: ((u, Obj.cells (#[(.string (r.2.2.2.2.2.2))] : Array Value) 9 (0, 0)) :: (S4 ++ (S7 ++ (j ++ (k ++ (t ++ [])))))))) ∧ dX (fun (x : Role) => (.agg (aO x).toArray)) (dS Value.string (fun (x : Bool) => (Value.bool x))) y3 r.1 S4 ∧ bI 53 aI 9 y6 r.2.1 S7 ∧ dX (fun (x : Role) => (.agg (aO x).toArray)) (bI 53 aI 9) y9 r.2.2.1 j ∧ dX Value.string (bI 53 aI 9) z r.2.2.2.1 k ∧ lJ 38 dH 3 B r.2.2.2.2.1 t) := by
  have hST := ST.start (dd := false) w
  unfold qJ at hm
  refine cF 9 Tryz.func182 rfl (aD (aA (VE (cO (v := (.string G)) hST rfl (fun W2 g hST => V (aG rfl) (aF (aH (aD (aA (V (aC rfl) (bS hm fun r3 a6 hm => ?_)))))))))))
  have hsz := hST.size
  refine VE (mL hST (List.Perm.refl _) Tryz.call117 (fun _ _ _ _ => (F8 c D _ _ (I.mono (Pl.mono _) hST.sub_hp) a6)) (fun W5 v9 μ6 c0 hST b9 hl8 hlift H => ?_) (L0 := []))
  obtain ⟨i, a7, T, a8, U, a9, Y, b0, Z, b3, a2, a, rfl, J, K, M, N, Q⟩ := H
  replace a := a.symm; subst a
  replace hST := hST.perm (Tb (Tr (Tr (Tr (Tr (Tr Tn))))))
  refine VE (bL hST Tryz.zeroValue171 (fun c1 y hST => VO (bH (.pointer (some ⟨i, 0, none⟩)) (#[(.pointer (some ⟨i, 0, none⟩))]) hST rfl rfl Tryz.sizeOf171 (by simp [Value.cells, Value.oneCell']) nb rfl (fun c2 hST => aF (aH (aD (aA (V (qD (by exact sJ rfl rfl) rfl) (V (aG rfl) (aF (aH (aU ?_))))))))))))
  have hx := sj hm; subst hx
  exact eA (v := (.func (.func 287) #[] #[(.pointer (some ⟨y, 0, none⟩)), (.pointer (some ⟨g, 0, none⟩))])) rfl rfl ⟨_, _, rfl, (hST.bkL (Kb (Kb (Sb (Pr (Pr (Pr (Pr (Pr Pz))))) (Kr (Kr (Kr (Kr (Kr Sn))))))))), y, i, a7, T, a8, U, a9, Y, b0, Z, b3, a2, g, rfl, rfl, J, K, M, N, Q⟩
theorem yh (Q : aB → (Role → Option Bool) → Option Bool) (a5 : ∀ (g : aB) (k : Value) (t : Value) (J : Role → Option Bool) (r : Bool) (w : World) (c : Sl aK 5 (hp w) k g.Kids) (K : uE Tryz.prog t (hp w) (fun (x : Role) => [(.agg (aO x).toArray)]) (fun (r : Bool) => (.bool r)) J), Q g J = some r → bO false Tryz.prog 288 [(.agg #[(.int .i64 g.Op), (.int .i64 g.K), (.string g.Role.Owner), (.string g.Role.Word), k]), t] w (.bool r)) (g : aB) (k : Value) (t : Value) (J : Role → Option Bool) (r : Bool) (w : World) (c : Sl aK 5 (hp w) k g.Kids) (K : uE Tryz.prog t (hp w) (fun (x : Role) => [(.agg (aO x).toArray)]) (fun (r : Bool) => (.bool r)) J) (hm : oH Q g J = some r) :
    bO false Tryz.prog 288 [(.agg #[(.int .i64 g.Op), (.int .i64 g.K), (.string g.Role.Owner), (.string g.Role.Word), k]), t] w (.bool r) := by
  have hST := ST.start (dd := false) w
  unfold oH at hm
  refine cF 45 Tryz.func288 rfl (aD (aA ?_))
  obtain ⟨A1, c2, rfl⟩ := c.form
  refine VE (cO (v := (.agg (C3 g.Op g.K g.Role.Owner g.Role.Word A1 g.Kids.length c2).toArray)) hST rfl (fun W4 b3 hST => V (aG rfl) (aF (aH (aD (aD (aA (V (aN nR rfl) (V (aJ rfl (aP hST.has Mh rfl Tryz.isAgg3)) (V (aQ rfl rfl rfl) (aF (aH (CI hm rfl (fun a9 hm => ?_) (fun a9 hm => ?_))))))))))))))
  · refine aD (aA (V (aC rfl) (V (aN qK rfl) (V (aJ rfl (aM hST.has Mh (aO g.Role) rfl Tryz.isAgg28 Tryz.sizeOf28)) (bS hm fun r6 b0 hm => VE (Hn g.Role hST K (bE.refl _) rfl (tG rfl) b0 (fun W8 hST => V (aG rfl) (aF (aH ?_)))))))))
    replace hST := hST.sel (Db St)
    refine aU (cU ?_)
    have hx := sj hm; subst hx
    exact rP hST
  refine aX (aH (aD (aA (V (aG rfl) (aF (aH (aD (aD (aA (V (aN lK rfl) (V (aJ rfl (aP hST.has Mh rfl Tryz.isAgg111)) (V (dO Tryz.underlying111 rfl c) (V (aC rfl) (aF ?_))))))))))))))
  refine aH (dA (fun i E W => ∃ (z : Int) (I : List (Nat × Obj)), (E 18 = .int .i64 (i : Nat) ∧ E 17 = .int .i64 (g.Kids.length : Nat)) ∧ ST false dC w W (hp w) ((b3, Obj.cells ((C3 g.Op g.K g.Role.Owner g.Role.Word A1 g.Kids.length c2).toArray : Array Value) 113 (0, 0)) :: I) ∧ E 1 = t ∧ E 2 = (.pointer (some ⟨b3, 0, none⟩)) ∧ E 5 = (.int .i64 z) ∧ E 16 = (.slice A1 g.Kids.length c2) ∧ gO Q J g (g.Kids.drop i) z = some r) g.Kids.length c.len ⟨0, _, ⟨rfl, rfl⟩, (hST.sel St), rfl, rfl, rfl, rfl, hm⟩ (by decide) (by decide) (by decide) (fun _ _ _ h => by obtain ⟨_, _, eIN, _⟩ := h; exact eIN) ?_ ?_)
  · rintro b1 E W a4 ⟨z, I, ⟨eI, eN⟩, hST, G, u, y, H, a⟩
    obtain ⟨j, c1, a7, a6, N⟩ := cR a4
    rw [a7] at a
    rw [gO] at a
    refine aY (aD (aA (VQ (eV (i := (b1 : Int)) (x0 := j) aK.out Tryz.underlying111 Tryz.sizeOf113 H eI c (Int.natCast_nonneg _) a6) (fun b7 ⟨_, ⟨c0, rfl, M⟩, Z⟩ => V (aJ rfl (bN hST.has Z Tryz.isAgg113 Tryz.sizeOf113)) (VE (bL hST Tryz.zeroValue113 (fun b2 b6 hST => ?_)))))))
    obtain ⟨B, D, rfl⟩ := M.form
    refine VO (bH (.agg (C3 j.Op j.K j.Role.Owner j.Role.Word B j.Kids.length D).toArray) ((C3 j.Op j.K j.Role.Owner j.Role.Word B j.Kids.length D).toArray) hST rfl rfl Tryz.sizeOf113 (by simp [Value.cells, Value.oneCell']) nb rfl (fun b4 hST => aF (aH (aD (aA (V (aJ rfl (aM hST.has Mh (C3 j.Op j.K j.Role.Owner j.Role.Word B j.Kids.length D) rfl Tryz.isAgg113 Tryz.sizeOf113)) (V (aC G) (bS a fun b9 a1 a => VE (Eg hST Tryz.call288 ((a5 j (.slice B j.Kids.length D) t J _ _ (M.mono aV.mono hST.sub_hp) (K.mono hST.sub_hp) a1)) (fun b5 hST => aF (aH ?_)))))))))))
    replace hST := hST.sel (Db St)
    refine CI a rfl (fun T a => ?_) (fun T a => ?_)
    · exact aA (V (aC y) (V (aQ rfl rfl rfl) (V (aG rfl) (aF (cL (aH ⟨eI, ((IntKind.i64.wrap (z + 1))), _, ⟨rfl, eN⟩, (hST.sel St), G, u, rfl, H, (by rw [N]; exact a)⟩))))))
    exact aX (cL (aH ⟨eI, z, _, ⟨rfl, eN⟩, (hST.sel St), G, u, y, H, (by rw [N]; exact a)⟩))
  rintro E W ⟨z, I, ⟨eI, eN⟩, hST, G, u, y, H, a⟩
  rw [List.drop_length] at a
  rw [gO] at a
  refine aH (aD (aD (aA (V (aN nR u) (V (aJ rfl (aP hST.has Mh rfl Tryz.isAgg3)) (aF (aH (aY (aD (aA (V (aQ rfl rfl rfl) (V (aG rfl) (aF (aH ?_))))))))))))))
  refine CI a rfl (fun U a => ?_) (fun U a => ?_)
  · refine aD (aA (V (aC y) (V (aN lK u) (V (aJ rfl (aP hST.has Mh rfl Tryz.isAgg111)) (V (dO Tryz.underlying111 rfl c) (V (aQ rfl rfl rfl) (V (aG rfl) (aF (aH ?_)))))))))
    replace hST := hST.sel (Db St)
    refine aU (fE (cU ?_))
    have hx := sj a; subst hx
    exact rP hST
  refine aD (aA (V (aQ rfl rfl rfl) (V (aG rfl) (aF (aH (CI a rfl (fun Y a => ?_) (fun Y a => ?_)))))))
  · refine aD (aA (V (aC y) (V (aQ rfl rfl rfl) (V (aG rfl) (aF (aH ?_))))))
    replace hST := hST.sel (Db St)
    refine aU (fE (cU ?_))
    have hx := sj a; subst hx
    exact rP hST
  refine aX (cL (aH (aD (aA (V (aC y) (V (aN sO u) (V (aJ rfl (aP hST.has Mh rfl Tryz.isAgg3)) (V (aQ rfl rfl rfl) (V (aG rfl) (aF (aH ?_)))))))))))
  replace hST := hST.sel (Db St)
  refine aU ?_
  have hx := sj a; subst hx
  exact rP hST
theorem wM : ∀ (n : Nat) (c : aB) (a : Value) (g : Value) (j : Role → Option Bool) (r : Bool) (w : World) (i : Sl aK 5 (hp w) a c.Kids) (k : uE Tryz.prog g (hp w) (fun (x : Role) => [(.agg (aO x).toArray)]) (fun (r : Bool) => (.bool r)) j) (_ : kI n c j = some r),
    bO false Tryz.prog 288 [(.agg #[(.int .i64 c.Op), (.int .i64 c.K), (.string c.Role.Owner), (.string c.Role.Word), a]), g] w (.bool r)
  | 0 => by intros; rename_i h; simp only [kI] at h; cases h
  | n + 1 => yh (kI n) (wM n)
theorem xC (a : aB) (j : Value) (k : Value) (G : Role → Option Bool) (r : Bool) (w : World) (c : Sl aK 5 (hp w) j a.Kids) (z : uE Tryz.prog k (hp w) (fun (x : Role) => [(.agg (aO x).toArray)]) (fun (r : Bool) => (.bool r)) G) (hm : oQ a G = some r) :
    bO false Tryz.prog 183 [(.agg #[(.int .i64 a.Op), (.int .i64 a.K), (.string a.Role.Owner), (.string a.Role.Word), j]), k] w (.bool r) := by
  have hST := ST.start (dd := false) w
  unfold oQ at hm
  refine cF 16 Tryz.func183 rfl (aD (aA ?_))
  obtain ⟨u, y, rfl⟩ := c.form
  refine VE (cO (v := (.agg (C3 a.Op a.K a.Role.Owner a.Role.Word u a.Kids.length y).toArray)) hST rfl (fun U Z hST => V (aG rfl) (aF (aH (aD (aA (V (aC rfl) (V (GO Tryz.underlying242 z.form rfl rfl) (V (aC rfl) (Vg rfl rfl (aJ rfl (aM hST.has Mh (C3 a.Op a.K a.Role.Owner a.Role.Word u a.Kids.length y) rfl Tryz.isAgg113 Tryz.sizeOf113)) (bS hm fun r5 K hm => oO rfl rfl (Eg hST Tryz.call107 ((mB a (.slice u a.Kids.length y) _ _ (c.mono aV.mono hST.sub_hp) K)) (fun Y hST => V (bU rfl rfl) (V (aC rfl) (LJ hm (fun D E W => ∃  (B : List (Nat × Obj)), ST false dC w W (hp w) B ∧ E 4 = (.bool false) ∧ E 15 = (.bool D)) 4 ?_ (fun D g t => ?_))))))))))))))))
  · rintro T E W ⟨B, hST, N, J⟩ H
    refine V (aG J) (aF (aH (aU ?_)))
    have hx := sj H; subst hx
    exact rP hST
  refine bC g (fun i g => ?_) (fun i g => ?_)
  · refine Vg rfl (cB i) (aJ rfl (aM hST.has Mh (C3 a.Op a.K a.Role.Owner a.Role.Word u a.Kids.length y) rfl Tryz.isAgg113 Tryz.sizeOf113)) (Vg rfl (cB i) (aC rfl) (bS g fun Q I g => oO rfl (cB i) (Eg hST Tryz.call288 (((wM cE) a (.slice u a.Kids.length y) k G _ _ (c.mono aV.mono hST.sub_hp) (z.mono hST.sub_hp) I)) (fun M hST => V (bU (cB i) rfl) ?_))))
    cases g
    exact t _ _ ⟨_, (hST.sel (Db St)), rfl, rfl⟩
  refine Vn rfl (cB i) (Vn rfl (cB i) (Vn rfl (cB i) (V (bX (cB i) rfl) ?_)))
  cases g
  exact t _ _ ⟨_, (hST.sel (Db St)), rfl, rfl⟩
theorem A5 (K : Nat) (a : Value) (G : List (Role × (List (ByteArray × Bool)))) (c : Value) (t : List Cred) (j : Value) (D : List (Role × (List Cred))) (g : Value) (u : List (ByteArray × (List Cred))) (i : Value) (B : List aT) (J : Int) (I : Role) (a2 : ByteArray) (r : Bool) (w : World) (H : mS (fun (x : Role) => (.agg (aO x).toArray)) (dS Value.string (fun (x : Bool) => (Value.bool x))) (hp w) a G) (T : Sl (Pl aI) 9 (hp w) c t) (Z : mS (fun (x : Role) => (.agg (aO x).toArray)) (bI 53 aI 9) (hp w) j D) (U : mS Value.string (bI 53 aI 9) (hp w) g u) (Y : Sl (Pl dH) 3 (hp w) i B) (Q : At (hp w) (.pointer (some ⟨K, 0, none⟩)) [a, c, j, g, i, (.int .i64 J)]) (hm : pE G t D u B J I a2 = some r) :
    bO true Tryz.prog 149 [(.pointer (some ⟨K, 0, none⟩)), (.agg (aO I).toArray), (.string a2)] w (.bool r) := by
  have hST := ST.start (dd := true) w
  unfold pE at hm
  refine cF 19 Tryz.func149 rfl (aD (aA (VE (cO (v := (.agg (aO I).toArray)) hST rfl (fun W2 b1 hST => V (aG rfl) (aF (aH (aD ?_))))))))
  replace hST := hST.drew
  have hS0 := hST.has.sel (Kb Sn)
  refine cX hS0 cC (X 0 rfl hS0 (aC rfl) (X 1 rfl hS0 (yA Tryz.underlying171 rfl rfl) (X 2 rfl hS0 (aC rfl) (Xg 3 rfl rfl rfl hS0 (aC rfl) (Xg 4 rfl rfl rfl hS0 (cT rfl) (pB 5 rfl (by kernel_rfl) (.inr ⟨2, true, 9, rfl, rfl, by decide, rfl⟩) rfl (by decide) (fun _ _ h => h) hS0 (uZ [a] sM rfl Q rfl) (fun a6 a3 => oN 6 rfl rfl rfl hS0 (fun _ hS => aJ rfl (nU hS (y := a) a3 Tryz.isAgg290)) (oN 7 rfl rfl rfl hS0 (fun _ hS => aJ rfl (aM hS Mh (aO I) rfl Tryz.isAgg28 Tryz.sizeOf28)) ?_))))))))
  obtain ⟨a4, a5, M, N⟩ := H
  refine oN 8 rfl rfl rfl hS0 (fun _ hS => j1 (k := I) (z := (.map none)) vp Tryz.underlying290 Tryz.zeroValue296 rfl rfl M (fun b o hq => hS.1 b o (N b o hq))) (Xg 9 rfl rfl rfl hS0 (aC rfl) (oN 10 rfl rfl rfl hS0 (fun _ hS => vj (k := a2) (z := false) (vf := (fun (x : Bool) => (Value.bool x))) Av Tryz.underlying296 Tryz.zeroValue4 rfl rfl ((eQ.mapAt aZ.1 M I N).mono (fun b o hq => hS.1 b o hq))) (X 11 rfl hS0 (bU rfl rfl) (X 12 rfl hS0 (aG rfl) (dB (by kernel_rfl) (aH ?_))))))
  replace hST := hST.sel (Db St)
  refine aU ?_
  have hx := sj hm; subst hx
  exact rP hST
theorem wJ (N : Role) (Q : Nat) (D : Nat) (t : Value) (B : List (Role × (List (ByteArray × Bool)))) (a : Value) (j : List Cred) (i : Value) (z : List (Role × (List Cred))) (c : Value) (k : List (ByteArray × (List Cred))) (g : Value) (u : List aT) (I : Int) (T : Nat) (Y : ByteArray) (r : Bool) (w : World) (M : mS (fun (x : Role) => (.agg (aO x).toArray)) (dS Value.string (fun (x : Bool) => (Value.bool x))) (hp w) t B) (G : Sl (Pl aI) 9 (hp w) a j) (K : mS (fun (x : Role) => (.agg (aO x).toArray)) (bI 53 aI 9) (hp w) i z) (H : mS Value.string (bI 53 aI 9) (hp w) c k) (J : Sl (Pl dH) 3 (hp w) g u) (U : At (hp w) (.pointer (some ⟨D, 0, none⟩)) [t, a, i, c, g, (.int .i64 I)]) (Z : At (hp w) (.pointer (some ⟨Q, 0, none⟩)) [(.pointer (some ⟨D, 0, none⟩))]) (a1 : At (hp w) (.pointer (some ⟨T, 0, none⟩)) [(.string Y)]) (hm : iK N B j z k u I Y = some r) :
    bO true Tryz.prog 287 [(.agg (aO N).toArray), (.pointer (some ⟨Q, 0, none⟩)), (.pointer (some ⟨T, 0, none⟩))] w (.bool r) := by
  have hST := ST.start (dd := true) w
  unfold iK at hm
  refine cF 9 Tryz.func287 rfl (aD (aA (VE (cO (v := (.agg (aO N).toArray)) hST rfl (fun W2 b1 hST => V (aG rfl) (aF (aH (aD (aA (V (aJ rfl (nU hST.has (y := (.pointer (some ⟨D, 0, none⟩))) Z Tryz.isAgg171)) (V (aJ rfl (aM hST.has Mh (aO N) rfl Tryz.isAgg28 Tryz.sizeOf28)) (V (aJ rfl (nU hST.has (y := (.string Y)) a1 Tryz.isAgg9)) (bS hm fun r3 a2 hm => VE (Eg hST Tryz.call149 ((A5 D t B a j i z c k g u I N Y _ _ (M.mono hST.sub_hp) (G.mono (Pl.mono _) hST.sub_hp) (K.mono hST.sub_hp) (H.mono hST.sub_hp) (J.mono (Pl.mono _) hST.sub_hp) (U.mono hST.sub_hp) a2)) (fun W5 hST => V (aG rfl) ?_)))))))))))))))
  refine aF (aH ?_)
  replace hST := hST.sel (Db St)
  refine aU ?_
  have hx := sj hm; subst hx
  exact rP hST
theorem ui (k : cG) (H : Value) (K : Value) (c1 : Value) (a1 : List Cred) (a2 : ByteArray) (r : List Cred) (w : World) (g : Sl bF 15 (hp w) H k.Creds) (J : Sl cD 8 (hp w) K k.Acks) (h3 : Sl (Pl aI) 9 (hp w) c1 a1) (hm : jS k a1 a2 = some r) :
    gQ false Tryz.prog 80 [(.agg #[(.string k.Name), H, K]), c1, (.string a2)] w 53 aI 9 r := by
  have hST := ST.start (dd := false) w
  unfold jS at hm
  refine cF 47 Tryz.func80 rfl (aD (aA ?_))
  obtain ⟨A1, c2, rfl⟩ := g.form
  obtain ⟨A3, c4, rfl⟩ := J.form
  refine VE (cO (v := (.agg (C5 k.Name A1 k.Creds.length c2 A3 k.Acks.length c4).toArray)) hST rfl (fun W6 b5 hST => V (aG rfl) (aF (aH (aD (aA (V (aC rfl) (V (aC rfl) (bS hm fun B i3 hm => ?_)))))))))
  have hsz := hST.size
  refine VE (mL hST (List.Perm.refl _) Tryz.call182 (fun _ _ _ _ => (zd c1 a1 a2 _ _ (h3.mono (Pl.mono _) hST.sub_hp) i3)) (fun W9 k9 g4 k8 hST a5 hl12 hlift h2 => ?_) (L0 := []))
  obtain ⟨N, a8, e0, f9, e1, g0, e2, g1, e3, g2, e4, g3, Q, c0, rfl, h4, h5, h6, h7, h8⟩ := h2
  replace c0 := c0.symm; subst c0
  replace hST := hST.perm (Tb (Tb (Tb (Tr (Tr (Tr (Tr (Tr Tn))))))))
  refine V (aG rfl) (aF (aH (aD (aA (V (aG rfl) (aF (aH (aD (aD (aA (V (aN sE rfl) (V (aJ rfl (aP hST.has (Mt (Mt (Mt (Ma (Ma (Ma (Ma (Ma Mh)))))))) rfl Tryz.isAgg107)) (V (dO Tryz.underlying107 rfl g) (V (aC rfl) ?_))))))))))))))
  refine aF (aH (dA (fun i E W => ∃ (D : Value) (I : List Cred) (G : List (Nat × Obj)) (a7 : bD) (b4 : List (Nat × Obj)), (E 19 = .int .i64 (i : Nat) ∧ E 18 = .int .i64 (k.Creds.length : Nat)) ∧ bE g4 a7 ∧ ST false dC w W a7 ((N, Obj.cells (#[(.pointer (some ⟨a8, 0, none⟩))] : Array Value) 171 (0, 0)) :: ((a8, Obj.cells (#[e0, e1, e2, e3, e4, (.int .i64 B.2.2.2.2.2.1)] : Array Value) 294 (0, 0)) :: ((Q, Obj.cells (#[(.string B.2.2.2.2.2.2)] : Array Value) 9 (0, 0)) :: ((b5, Obj.cells ((C5 k.Name A1 k.Creds.length c2 A3 k.Acks.length c4).toArray : Array Value) 110 (0, 0)) :: (G ++ (f9 ++ (g0 ++ (g1 ++ (g2 ++ (g3 ++ b4)))))))))) ∧ E 3 = (.pointer (some ⟨b5, 0, none⟩)) ∧ E 7 = (.func (.func 287) #[] #[(.pointer (some ⟨N, 0, none⟩)), (.pointer (some ⟨Q, 0, none⟩))]) ∧ E 8 = D ∧ E 17 = (.slice A1 k.Creds.length c2) ∧ bI 53 aI 9 D I G ∧ jH k B (k.Creds.drop i) I = some r) k.Creds.length g.len ⟨(.slice none 0 0), ([]), [], g4, _, ⟨rfl, rfl⟩, (bE.refl _), (hST.sel (Kb (Kb (Kb (Sb (Pr (Pr (Pr (Pr (Pr Pz))))) St))))), rfl, rfl, rfl, rfl, (bI.nil _ _ _), hm⟩ (by decide) (by decide) (by decide) (fun _ _ _ h => by obtain ⟨_, _, _, _, _, eIN, _⟩ := h; exact eIN) ?_ ?_))
  · rintro d8 E W f0 ⟨D, I, G, a7, b4, ⟨eI, eN⟩, u, hST, Y, Z, a3, a4, M, j⟩
    obtain ⟨a, i4, f8, f7, c6⟩ := cR f0
    rw [f8] at j
    rw [jH] at j
    refine aY (aD (aA (VQ (eV (i := (d8 : Int)) (x0 := a) bF.out Tryz.underlying107 Tryz.sizeOf138 a4 eI (g.mono bR.mono (a5.trans u)) (Int.natCast_nonneg _) f7) (fun j9 ⟨_, ⟨k2, k3, rfl, f5, f6⟩, f1⟩ => V (aJ rfl (bN hST.has f1 Tryz.isAgg138 Tryz.sizeOf138)) (VE (bL hST Tryz.zeroValue138 (fun i7 d0 hST => ?_)))))))
    obtain ⟨b2, b7, rfl⟩ := f5.form
    obtain ⟨b3, b9, rfl⟩ := f6.form
    refine VO (bH (.agg (C4 a.Signed.Cred.Kind a.Signed.Cred.Head.Owner a.Signed.Cred.Head.Word a.Signed.Cred.Who a.Signed.Cred.B.Owner a.Signed.Cred.B.Word a.Signed.Cred.C.Owner a.Signed.Cred.C.Word a.Signed.Cred.Word2 b2 a.Signed.Tag.length b7 a.Release.Op a.Release.K a.Release.Role.Owner a.Release.Role.Word b3 a.Release.Kids.length b9).toArray) ((C4 a.Signed.Cred.Kind a.Signed.Cred.Head.Owner a.Signed.Cred.Head.Word a.Signed.Cred.Who a.Signed.Cred.B.Owner a.Signed.Cred.B.Word a.Signed.Cred.C.Owner a.Signed.Cred.C.Word a.Signed.Cred.Word2 b2 a.Signed.Tag.length b7 a.Release.Op a.Release.K a.Release.Role.Owner a.Release.Role.Word b3 a.Release.Kids.length b9).toArray) hST rfl rfl Tryz.sizeOf138 (by simp [Value.cells, Value.oneCell']) nb rfl (fun i8 hST => aF (aH (aD (aA (V (aJ Y (aM hST.has (Mt (Mt (Mt (Mt Mh)))) (C5 k.Name A1 k.Creds.length c2 A3 k.Acks.length c4) rfl Tryz.isAgg110 Tryz.sizeOf110)) (V (aN sL rfl) (V (aN ue rfl) (V (aJ rfl (aM hST.has Mh (aI a.Signed.Cred) rfl Tryz.isAgg53 Tryz.sizeOf53)) (bS j fun c f2 j => ?_))))))))))
    have hsz := hST.size
    refine VE (lT hST (List.Perm.refl _) Tryz.call106 (fun hH hN hsb hmm => (uk k (.slice A1 k.Creds.length c2) (.slice A3 k.Acks.length c4) a.Signed.Cred _ _ ⟨hH, hN, hsb⟩ (g.mono bR.mono (a5.trans u)) (J.mono dR.mono (a5.trans u)) f2)) (fun i9 k4 c3 i6 hST a9 hl422 e6 => ?_) (L0 := []))
    obtain ⟨k6, a6, rfl, c7⟩ := e6
    replace a6 := a6.symm; subst a6
    replace hST := hST.perm Tn
    refine V (aC rfl) (V (dU rfl rfl) (V (dU rfl rfl) (VE (bL hST Tryz.zeroValue113 (fun j0 j8 hST => ?_)))))
    obtain ⟨T, U, rfl⟩ := c7.form
    refine VO (bH (.agg #[(.int .i64 ((c.1).Op)), (.int .i64 ((c.1).K)), (.string (((c.1).Role).Owner)), (.string (((c.1).Role).Word)), (.slice T ((c.1).Kids).length U)]) (#[(.int .i64 ((c.1).Op)), (.int .i64 ((c.1).K)), (.string (((c.1).Role).Owner)), (.string (((c.1).Role).Word)), (.slice T ((c.1).Kids).length U)]) hST rfl rfl Tryz.sizeOf113 (by simp [Value.cells, Value.oneCell']) nb rfl (fun j3 hST => V (aG rfl) (aF (aH (aD (aA (V (aC rfl) (V (aQ rfl rfl rfl) (V (aC rfl) (LJ j (fun d9 E W => ∃  (c9 : List (Nat × Obj)), ST false dC w W c3 ((d0, Obj.cells ((C4 a.Signed.Cred.Kind a.Signed.Cred.Head.Owner a.Signed.Cred.Head.Word a.Signed.Cred.Who a.Signed.Cred.B.Owner a.Signed.Cred.B.Word a.Signed.Cred.C.Owner a.Signed.Cred.C.Word a.Signed.Cred.Word2 b2 a.Signed.Tag.length b7 a.Release.Op a.Release.K a.Release.Role.Owner a.Release.Role.Word b3 a.Release.Kids.length b9).toArray : Array Value) 138 (0, 0)) :: ((N, Obj.cells (#[(.pointer (some ⟨a8, 0, none⟩))] : Array Value) 171 (0, 0)) :: ((a8, Obj.cells (#[e0, e1, e2, e3, e4, (.int .i64 B.2.2.2.2.2.1)] : Array Value) 294 (0, 0)) :: ((Q, Obj.cells (#[(.string B.2.2.2.2.2.2)] : Array Value) 9 (0, 0)) :: ((b5, Obj.cells ((C5 k.Name A1 k.Creds.length c2 A3 k.Acks.length c4).toArray : Array Value) 110 (0, 0)) :: (G ++ (f9 ++ (g0 ++ (g1 ++ (g2 ++ (g3 ++ c9))))))))))) ∧ E 3 = (.pointer (some ⟨b5, 0, none⟩)) ∧ E 7 = (.func (.func 287) #[] #[(.pointer (some ⟨N, 0, none⟩)), (.pointer (some ⟨Q, 0, none⟩))]) ∧ E 8 = D ∧ E 10 = (.pointer (some ⟨d0, 0, none⟩)) ∧ E 17 = (.slice A1 k.Creds.length c2) ∧ E 18 = (.int .i64 ((k.Creds.length : Int))) ∧ E 19 = (.int .i64 ((d8 : Int))) ∧ E 37 = (.bool d9)) 4 ?_ (fun d9 z b0 => ?_)))))))))))
    · rintro k5 E W ⟨c9, hST, d2, d3, d4, h0, d5, d6, d7, h1⟩ y
      refine aF (aH (CI y h1 (fun e8 y => ?_) (fun e8 y => ?_)))
      · refine aA (V (aC d4) (V (aN sL h0) (V (aN ue rfl) (V (aJ rfl (aM hST.has Mh (aI a.Signed.Cred) rfl Tryz.isAgg53 Tryz.sizeOf53)) (VE (aR (qs := #[(0, (.agg (aI a.Signed.Cred).toArray))]) (cs := (aI a.Signed.Cred).toArray) hST (bM rfl) (bB [(.agg (aI a.Signed.Cred).toArray)] Tryz.underlying22 Tryz.sizeOf53 Tryz.zeroValue53 (by decide) rfl (by intro v hv; simp only [List.mem_cons, List.not_mem_nil, or_false] at hv; rcases hv with rfl <;> rfl) rfl rfl) (fun j4 g9 hST => ?_)))))))
        replace hST := hST.perm (Nr (Qb (Qb (Qb (Qb (Qb (Qb Qz)))))) Nz)
        refine bS y fun h9 e9 y => VE (kG (enc := aI) (v := D) (vs := (.slice (some ⟨g9, 0, none⟩) 1 1)) (R := G) hST bQ (by decide) gY Tryz.underlying22 fT.1 fT.2.1 rfl fT.2.2.1 fT.2.2.2 rfl rfl M (Sl.lit (enc := aI) (l := [a.Signed.Cred]) bQ rfl nb rfl (hST.at_ (Ma Mh))) e9 (fun j5 i0 g5 hST e7 => V (aG rfl) (aF (cL (aH ?_)))))
        replace hST := hST.sel (Kr (Db (Db St)))
        exact ⟨d7, i0, h9, g5, c3, _, ⟨rfl, d6⟩, (u.trans a9), (hST.sel (Sb (Pr Pz) (Sb (Pr Pz) (Sb (Pr Pz) (Sb (Pr Pz) St))))), d2, d3, rfl, d5, e7, (by rw [c6]; exact y)⟩
      refine aX (cL (aH ?_))
      replace hST := hST.sel (Db St)
      exact ⟨d7, D, I, G, c3, _, ⟨rfl, d6⟩, (u.trans a9), (hST.sel St), d2, d3, d4, d5, M, (by rw [c6]; exact y)⟩
    refine bC z (fun t z => ?_) (fun t z => ?_)
    · refine Vg rfl (cB t) (aJ rfl (aM hST.has Mh [(.int .i64 ((c.1).Op)), (.int .i64 ((c.1).K)), (.string (((c.1).Role).Owner)), (.string (((c.1).Role).Word)), (.slice T ((c.1).Kids).length U)] rfl Tryz.isAgg113 Tryz.sizeOf113)) (Vg rfl (cB t) (aC Z) (bS z fun k0 f3 z => oO rfl (cB t) (Eg hST Tryz.call183 ((xC c.1 (.slice T ((c.1).Kids).length U) (.func (.func 287) #[] #[(.pointer (some ⟨N, 0, none⟩)), (.pointer (some ⟨Q, 0, none⟩))]) (fun (x : Role) => iK x B.1 B.2.1 B.2.2.1 B.2.2.2.1 B.2.2.2.2.1 B.2.2.2.2.2.1 B.2.2.2.2.2.2) _ _ (c7.mono aV.mono hST.sub_hp) ⟨287, #[], #[(.pointer (some ⟨N, 0, none⟩)), (.pointer (some ⟨Q, 0, none⟩))], rfl, Tryz.call287, fun W x r hs hm => (wJ x N a8 e0 B.1 e1 B.2.1 e2 B.2.2.1 e3 B.2.2.2.1 e4 B.2.2.2.2.1 B.2.2.2.2.2.1 Q B.2.2.2.2.2.2 r W (h4.at (fun b o hq => hs _ _ ((fun b o hq => hST.at_ (Mt (Mt (Mt (Mt (Mt (Mt (Ma (Ml hq))))))))) b o hq))) (h5.sl bQ (fun b o hq => hs _ _ ((fun b o hq => hST.at_ (Mt (Mt (Mt (Mt (Mt (Mt (Ma (Ma (Ml hq)))))))))) b o hq))) (h6.at (fun b o hq => hs _ _ ((fun b o hq => hST.at_ (Mt (Mt (Mt (Mt (Mt (Mt (Ma (Ma (Ma (Ml hq))))))))))) b o hq))) (h7.at (fun b o hq => hs _ _ ((fun b o hq => hST.at_ (Mt (Mt (Mt (Mt (Mt (Mt (Ma (Ma (Ma (Ma (Ml hq)))))))))))) b o hq))) ((h8.slL tW).mono (Pl.mono _) (eG (fun b o hq => hs _ _ ((fun b o hq => hST.at_ (Mt (Mt (Mt (Mt (Mt (Mt (Ma (Ma (Ma (Ma (Ma (Ml hq))))))))))))) b o hq)))) (At.of (hs _ _ (hST.at_ (Mt (Mt (Mt Mh))))) _ rfl) (At.of (hs _ _ (hST.at_ (Mt (Mt Mh)))) _ rfl) (At.of (hs _ _ (hST.at_ (Mt (Mt (Mt (Mt Mh)))))) _ rfl) hm).weak⟩ f3)) (fun j6 hST => V (bU (cB t) rfl) ?_))))
      cases z
      exact b0 _ _ ⟨_, (hST.sel (Db St)), Y, Z, a3, rfl, a4, eN, eI, rfl⟩
    refine Vn rfl (cB t) (Vn rfl (cB t) (Vn rfl (cB t) (V (bX (cB t) rfl) ?_)))
    cases z
    exact b0 _ _ ⟨_, (hST.sel (Db St)), Y, Z, a3, rfl, a4, eN, eI, rfl⟩
  rintro E W ⟨D, I, G, a7, b4, ⟨eI, eN⟩, u, hST, Y, Z, a3, a4, M, j⟩
  rw [List.drop_length] at j
  rw [jH] at j
  refine aH ?_
  replace hST := hST.sel (Db (Db (Db (Db (Kr (Dr (Dr (Dr (Dr (Dr St))))))))))
  refine aD (aA (V (aC a3) (bS j fun k1 f4 j => VE (sZ hST Tryz.call116 ((BN D I _ _ (M.sl bQ (fun b o hq => hST.at_ (Ml hq))) f4)) (fun j7 i1 k7 g6 hST i2 hl470 c5 => V (aG rfl) (aF (aH ?_)))))))
  replace hST := hST.sel (Kr (Dr St))
  refine aU ?_
  have hx := sj j; subst hx
  exact eA (v := i1) rfl rfl ⟨_, g6, rfl, hST.backRow (fun p hq => (Ml hq)) c5.nd, c5⟩
theorem A6 (a : eO) (g : Value) (j : Value) (D : Nat) (N : Role) (G : Nat) (u : Value) (z : Role → Option Bool) (r : Bool) (w : World) (c : Sl aK 5 (hp w) g a.Release.Kids) (t : Sl (Pl aI) 9 (hp w) j a.Closure) (H : At (hp w) (.pointer (some ⟨D, 0, none⟩)) (aO N)) (T : uE Tryz.prog u (hp w) (fun (x : Role) => [(.agg (aO x).toArray)]) (fun (r : Bool) => (.bool r)) z) (I : At (hp w) (.pointer (some ⟨G, 0, none⟩)) [u]) (hm : pY a N z = some r) :
    bO false Tryz.prog 211 [(.agg #[(.string a.Role.Owner), (.string a.Role.Word), (.int .i64 a.Release.Op), (.int .i64 a.Release.K), (.string a.Release.Role.Owner), (.string a.Release.Role.Word), g, j]), (.pointer (some ⟨D, 0, none⟩)), (.pointer (some ⟨G, 0, none⟩))] w (.bool r) := by
  have hST := ST.start (dd := false) w
  unfold pY at hm
  refine cF 16 Tryz.func211 rfl (aD (aA ?_))
  obtain ⟨M, Q, rfl⟩ := c.form
  obtain ⟨A3, c4, rfl⟩ := t.form
  refine VE (cO (v := (.agg (C7 a.Role.Owner a.Role.Word a.Release.Op a.Release.K a.Release.Role.Owner a.Release.Role.Word M a.Release.Kids.length Q A3 a.Closure.length c4).toArray)) hST rfl (fun W6 b5 hST => V (aG rfl) (aF (aH (aD (aA (V (aN uF rfl) (V (aJ rfl (aM hST.has Mh (aO a.Role) rfl Tryz.isAgg28 Tryz.sizeOf28)) (V (aJ rfl (bN hST.has H Tryz.isAgg28 Tryz.sizeOf28)) (V (vJ rfl rfl (nM Tryz.eqGuardType28) (sR (sg _ a.Role N))) (V (aC rfl) (LJ hm (fun K E W => ∃  (J : List (Nat × Obj)), ST false dC w W (hp w) J ∧ E 4 = (.bool false) ∧ E 15 = (.bool K)) 6 ?_ (fun K k B => ?_)))))))))))))
  · rintro a6 E W ⟨J, hST, a4, Z⟩ U
    refine V (aG Z) (aF (aH (aU ?_)))
    have hx := sj U; subst hx
    exact rP hST
  refine bC k (fun i k => ?_) (fun i k => ?_)
  · refine Vg rfl (cB i) (aN zV rfl) (Vg rfl (cB i) (aJ rfl (aM hST.has Mh (C3 a.Release.Op a.Release.K a.Release.Role.Owner a.Release.Role.Word M a.Release.Kids.length Q) rfl Tryz.isAgg113 Tryz.sizeOf113)) (Vg rfl (cB i) (aJ rfl (nU hST.has (y := u) I Tryz.isAgg242)) (bS k fun a5 Y k => oO rfl (cB i) (Eg hST Tryz.call183 ((xC a.Release (.slice M a.Release.Kids.length Q) u z _ _ (c.mono aV.mono hST.sub_hp) (T.mono hST.sub_hp) Y)) (fun a3 hST => Vg rfl (cB i) (fV rfl) (V (bU (cB i) rfl) ?_))))))
    cases k
    exact B _ _ ⟨_, (hST.sel (Db St)), rfl, rfl⟩
  refine Vn rfl (cB i) (Vn rfl (cB i) (Vn rfl (cB i) (Vn rfl (cB i) (Vn rfl (cB i) (V (bX (cB i) rfl) ?_)))))
  cases k
  exact B _ _ ⟨_, (hST.sel (Db St)), rfl, rfl⟩
theorem ww (j : cG) (c : Value) (i : Value) (B : Role) (z : Value) (H : List Cred) (I : ByteArray) (r : Bool) (w : World) (k : Sl bF 15 (hp w) c j.Creds) (g : Sl cD 8 (hp w) i j.Acks) (M : Sl (Pl aI) 9 (hp w) z H) (hm : nO j B H I = some r) :
    bO false Tryz.prog 105 [(.agg #[(.string j.Name), c, i]), (.agg (aO B).toArray), z, (.string I)] w (.bool r) := by
  have hST := ST.start (dd := false) w
  unfold nO at hm
  refine cF 18 Tryz.func105 rfl (aD (aA ?_))
  obtain ⟨A1, c2, rfl⟩ := k.form
  obtain ⟨A3, c4, rfl⟩ := g.form
  refine VE (cO (v := (.agg (C5 j.Name A1 j.Creds.length c2 A3 j.Acks.length c4).toArray)) hST rfl (fun W6 b5 hST => VE (cO (v := (.agg (aO B).toArray)) hST rfl (fun W8 J hST => V (aG rfl) (aF (aH (aD (aA (V (aC rfl) (V (aC rfl) (bS hm fun a N hm => ?_)))))))))))
  have hsz := hST.size
  refine VE (mL hST (List.Perm.refl _) Tryz.call182 (fun _ _ _ _ => (zd z H I _ _ (M.mono (Pl.mono _) hST.sub_hp) N)) (fun c9 d4 d5 c1 hST G hl14 hlift K => ?_) (L0 := []))
  obtain ⟨t, a6, a9, c3, b0, c5, b1, c6, b2, c7, b3, c8, u, y, rfl, T, U, Y, Z, a4⟩ := K
  replace y := y.symm; subst y
  replace hST := hST.perm (Tb (Tb (Tb (Tr (Tr (Tr (Tr (Tr Tn))))))))
  refine VE (bL hST Tryz.zeroValue242 (fun d0 D hST => VO (bH (.func (.func 287) #[] #[(.pointer (some ⟨t, 0, none⟩)), (.pointer (some ⟨u, 0, none⟩))]) (#[(.func (.func 287) #[] #[(.pointer (some ⟨t, 0, none⟩)), (.pointer (some ⟨u, 0, none⟩))])]) hST rfl rfl Tryz.sizeOf242 (by simp [Value.cells, Value.oneCell']) nb rfl (fun d1 hST => aF (aH (aD (aA (V (aN vP rfl) (V (aJ rfl (aP hST.has (Mt (Mt (Mt (Mt (Ma (Ma (Ma (Ma (Ma (Mt Mh)))))))))) rfl Tryz.isAgg108)) (V (qD (by exact sJ rfl rfl) rfl) (bS hm fun d3 Q hm => VE (Eg hST Tryz.call210 ((rS (.slice A3 j.Acks.length c4) j.Acks (.func (.func 211) #[] #[(.pointer (some ⟨J, 0, none⟩)), (.pointer (some ⟨D, 0, none⟩))]) (fun (x : eO) => pY x B (fun (x : Role) => iK x a.1 a.2.1 a.2.2.1 a.2.2.2.1 a.2.2.2.2.1 a.2.2.2.2.2.1 a.2.2.2.2.2.2)) _ _ (g.mono dR.mono (G.trans hST.sub_hp)) ⟨211, #[], #[(.pointer (some ⟨J, 0, none⟩)), (.pointer (some ⟨D, 0, none⟩))], rfl, Tryz.call211, fun W x vs r hs hR hm => by obtain ⟨_, rfl, a8⟩ := hR; obtain ⟨u0, u1, rfl, k0, k1⟩ := a8.out; exact A6 x u0 u1 J B D (.func (.func 287) #[] #[(.pointer (some ⟨t, 0, none⟩)), (.pointer (some ⟨u, 0, none⟩))]) (fun (x : Role) => iK x a.1 a.2.1 a.2.2.1 a.2.2.2.1 a.2.2.2.2.1 a.2.2.2.2.2.1 a.2.2.2.2.2.2) r W k0 k1 (At.of (hs _ _ (hST.at_ (Mt (Mt (Mt (Mt (Ma (Ma (Ma (Ma (Ma Mh))))))))))) _ rfl) ⟨287, #[], #[(.pointer (some ⟨t, 0, none⟩)), (.pointer (some ⟨u, 0, none⟩))], rfl, Tryz.call287, fun W x r hs_2 hm => (wJ x t a6 a9 a.1 b0 a.2.1 b1 a.2.2.1 b2 a.2.2.2.1 b3 a.2.2.2.2.1 a.2.2.2.2.2.1 u a.2.2.2.2.2.2 r W (T.at (fun b o hq => hs_2 _ _ ((fun b o hq => hs _ _ ((fun b o hq => hST.at_ (Mt (Mt (Mt (Mt (Ml hq)))))) b o hq)) b o hq))) (U.sl bQ (fun b o hq => hs_2 _ _ ((fun b o hq => hs _ _ ((fun b o hq => hST.at_ (Mt (Mt (Mt (Mt (Ma (Ml hq))))))) b o hq)) b o hq))) (Y.at (fun b o hq => hs_2 _ _ ((fun b o hq => hs _ _ ((fun b o hq => hST.at_ (Mt (Mt (Mt (Mt (Ma (Ma (Ml hq)))))))) b o hq)) b o hq))) (Z.at (fun b o hq => hs_2 _ _ ((fun b o hq => hs _ _ ((fun b o hq => hST.at_ (Mt (Mt (Mt (Mt (Ma (Ma (Ma (Ml hq))))))))) b o hq)) b o hq))) ((a4.slL tW).mono (Pl.mono _) (eG (fun b o hq => hs_2 _ _ ((fun b o hq => hs _ _ ((fun b o hq => hST.at_ (Mt (Mt (Mt (Mt (Ma (Ma (Ma (Ma (Ml hq)))))))))) b o hq)) b o hq)))) (At.of (hs_2 _ _ (hs _ _ (hST.at_ (Mt (Mt Mh))))) _ rfl) (At.of (hs_2 _ _ (hs _ _ (hST.at_ (Mt Mh)))) _ rfl) (At.of (hs_2 _ _ (hs _ _ (hST.at_ (Mt (Mt (Mt Mh)))))) _ rfl) hm).weak⟩ (At.of (hs _ _ (hST.at_ Mh)) _ rfl) hm⟩ Q)) (fun d2 hST => V (fV rfl) (V (aG rfl) (aF (aH ?_))))))))))))))))
  replace hST := hST.sel (Db (Db (Db (Db (Dr (Dr (Dr (Dr (Dr (Db (Db St)))))))))))
  refine aU ?_
  have hx := sj hm; subst hx
  exact rP hST
theorem yT (t : Value) (K : Option kT) (a : Cred) (r : ((List Int) × Int)) (w : World) {J : bD} (Y : jU J [] w) (c : tR jG J t K) (hm : sb K a = some r) :
    eS true Tryz.prog 154 [t, (.agg (aI a).toArray)] w J [] (fun v U Z => ∃ (T : Value), v = (.tuple #[T, (.int .i64 (r.2))]) ∧ U = [] ∧ Sl (Pl (bV .u8)) 1 Z T (r.1)) := by
  have hST := ST.startE (dd := true) Y
  unfold sb at hm
  refine cF 29 Tryz.func154 rfl (aD (aA (VE (cO (v := (.agg (aI a).toArray)) hST rfl (fun W2 b1 hST => V (aG rfl) (V (aG rfl) (aF (aH (aD (aY (aD (aA (V (aC rfl) (V (F7 Tryz.underlying73 c rfl rfl) (V (aG rfl) ?_)))))))))))))))
  refine aF (aH (CI hm rfl (fun M hm => ?_) (fun M hm => ?_)))
  · refine aD (aA (V (aG rfl) (V (aG rfl) (aF (aH ?_)))))
    replace hST := hST.sel (Db St)
    refine aU (fE (cU ?_))
    have hx := sj hm; subst hx
    exact wn (v := (.slice none 0 0)) (u := (.int .i64 1)) rfl rfl rfl ⟨_, _, _, rfl, (hST.bkM Sn), (bE.refl _), Lo.refl, (ST.sub_hpx hST (fF.mem Sn)), (.slice none 0 0), rfl, rfl, (Sl.nil _ _ _)⟩
  refine aD (aA (V (aJ rfl (aM hST.has Mh (aI a) rfl Tryz.isAgg53 Tryz.sizeOf53)) (bS hm fun r4 Q hm => VE (Eg hST Tryz.call137 ((su a _ _  Q)) (fun W6 hST => V (fV rfl) (V (aG rfl) (aF (aH (CI hm rfl (fun N hm => ?_) (fun N hm => ?_))))))))))
  · refine aD (aA (V (aG rfl) (V (aG rfl) (aF (aH ?_)))))
    replace hST := hST.sel (Db St)
    refine aU (fE (cU ?_))
    have hx := sj hm; subst hx
    exact wn (v := (.slice none 0 0)) (u := (.int .i64 11)) rfl rfl rfl ⟨_, _, _, rfl, (hST.bkM Sn), (bE.refl _), Lo.refl, (ST.sub_hpx hST (fF.mem Sn)), (.slice none 0 0), rfl, rfl, (Sl.nil _ _ _)⟩
  refine aX (cL (aH (aD ?_)))
  replace hST := hST.drew
  have hS0 := hST.has.sel (Kb Sn)
  refine cX hS0 cC (X 0 rfl hS0 (aC rfl) (bS hm fun a5 I hm => XQ 1 rfl hS0 (CR jG.out c I rfl) (fun a3 ⟨_, ⟨x, rfl, H⟩, D⟩ => XQ 2 rfl hS0 (uZ [x] I7 rfl D rfl) (fun a4 G => XH 3 rfl hS0 (fun _ hS => aJ rfl (nU hS (y := x) G Tryz.isAgg210)) (X 4 rfl hS0 (aN oA rfl) (X 5 rfl hS0 (aN qM rfl) (XH 6 rfl hS0 (fun _ hS => aJ rfl (aP hS Mh rfl Tryz.isAgg9)) ?_)))))))
  obtain ⟨j, a2, g, i⟩ := H
  refine XH 7 rfl hS0 (fun _ hS => Cf (k := a.Head.Owner) (z := (.slice none 0 0)) Av Tryz.underlying210 Tryz.zeroValue54 rfl rfl g (fun b o hq => hS.1 b o (i b o hq))) (X 8 rfl hS0 (aC rfl) (X 9 rfl hS0 (dU rfl rfl) (X 10 rfl hS0 (dU rfl rfl) (X 11 rfl hS0 (aG rfl) (X 12 rfl hS0 (aG rfl) (dB (by kernel_rfl) (aH ?_)))))))
  replace hST := hST.sel (Db St)
  refine aD (aD (aA (V (aC rfl) (V (fV rfl) (aF (aH (CI hm rfl (fun B hm => ?_) (fun B hm => ?_))))))))
  · refine aD (aA (V (aG rfl) (V (aG rfl) (aF (aH (aU (cU ?_)))))))
    have hx := sj hm; subst hx
    exact wn (v := (.slice none 0 0)) (u := (.int .i64 21)) rfl rfl rfl ⟨_, _, _, rfl, (hST.bkM Sn), (bE.refl _), Lo.refl, (ST.sub_hpx hST (fF.mem Sn)), (.slice none 0 0), rfl, rfl, (Sl.nil _ _ _)⟩
  refine aX (aH (aD (aA (V (aC rfl) (V (aG rfl) (V (aG rfl) (aF (aH (aU ?_)))))))))
  have hx := sj hm; subst hx
  exact wn (v := (jL cQ j a.Head.Owner (.slice none 0 0))) (u := (.int .i64 0)) rfl rfl rfl ⟨_, _, _, rfl, (hST.bkM Sn), (bE.refl _), Lo.refl, (ST.sub_hpx hST (fF.mem Sn)), (jL cQ j a.Head.Owner (.slice none 0 0)), rfl, rfl, (eQ.slAt (enc := (bV .u8)) (n := 1) (fun _ => rfl) eP.1 g a.Head.Owner i)⟩
theorem Al (j : Value) (t : List Int) (r : Bool) (w : World) (i : Sl (Pl (bV .u8)) 1 (hp w) j t) (hm : uS t = some r) :
    bO true Tryz.prog 255 [j] w (.bool r) := by
  have hST := ST.start (dd := true) w
  unfold uS at hm
  refine cF 11 Tryz.func255 rfl (aD (aA (V (aG rfl) (aF (aH (aD (aA (V (aC rfl) (V (dO Tryz.underlying54 rfl i) (V (aQ rfl rfl rfl) (V (aC rfl) (LJ hm (fun x E W => ∃  (k : List (Nat × Obj)), ST true dC w W (hp w) k ∧ E 2 = (.bool false) ∧ E 10 = (.bool x)) 4 ?_ (fun x c g => ?_)))))))))))))
  · rintro B E W ⟨k, hST, z, y⟩ u
    refine V (aG y) (aF (aH (aU ?_)))
    have hx := sj u; subst hx
    exact rP hST
  refine bC c (fun a c => ?_) (fun a c => ?_)
  · refine Vg rfl (cB a) (aC rfl) (Vg rfl (cB a) (dO Tryz.underlying54 rfl i) (Vg rfl (cB a) (aQ rfl rfl rfl) (V (bU (cB a) rfl) ?_)))
    cases c
    exact g _ _ ⟨_, (hST.sel St), rfl, rfl⟩
  refine Vn rfl (cB a) (Vn rfl (cB a) (Vn rfl (cB a) (V (bX (cB a) rfl) ?_)))
  cases c
  exact g _ _ ⟨_, (hST.sel St), rfl, rfl⟩
theorem GG (u : Value) (H : List (List Int)) (r : Int) (w : World) (U : Sl (DC (bV .u8) 1) 1 (hp w) u H) (hm : yN H = some r) :
    bO true Tryz.prog 256 [u] w (.int .u64 r) := by
  have hST := ST.start (dd := true) w
  unfold yN at hm
  refine cF 28 Tryz.func256 rfl (aD (aA (V (aG rfl) (aF (aH (aD (aA (V (aG rfl) (aF (aH (aD (aD (aA (V (aC rfl) ?_))))))))))))))
  refine V (dO Tryz.underlying365 rfl U) (V (aC rfl) (aF (aH (dA (fun i E W => ∃ (x : Int) (D : List (Nat × Obj)), (E 10 = .int .i64 (i : Nat) ∧ E 9 = .int .i64 (H.length : Nat)) ∧ ST true dC w W (hp w) D ∧ E 3 = (.int .u64 x) ∧ E 8 = u ∧ sv (H.drop i) x = some r) H.length U.len ⟨14695981039346656037, _, ⟨rfl, rfl⟩, (hST.sel St), rfl, rfl, hm⟩ (by decide) (by decide) (by decide) (fun _ _ _ h => by obtain ⟨_, _, eIN, _⟩ := h; exact eIN) ?_ ?_))))
  · rintro Y E W a3 ⟨x, D, ⟨eI, eN⟩, hST, I, J, c⟩
    obtain ⟨B, c2, b0, a9, b1⟩ := cR a3
    rw [b0] at c
    rw [sv] at c
    refine aY (aD (aA (VQ (HG (enc := (bV .u8)) (k2 := 1) (i := (Y : Int)) (x0 := B) Tryz.underlying365 Tryz.sizeOf54 J eI U (Int.natCast_nonneg _) a9) (fun c4 ⟨a2, a7, z⟩ => V (aJ rfl (nU hST.has (y := a2) a7 Tryz.isAgg54)) (V (aG rfl) (aF (aH (aD (aA (V (aC rfl) (V (dO Tryz.underlying54 rfl z) (V (aC rfl) (aF (aH ?_))))))))))))))
    refine qP (CJ c (fun Z E W => ∃  (a1 : List (Nat × Obj)), ST true dC w W (hp w) a1 ∧ E 3 = (.int .u64 Z) ∧ E 8 = u ∧ E 9 = (.int .i64 ((H.length : Int))) ∧ E 10 = (.int .i64 ((Y : Int)))) (fun Z a6 => ?_) ?_)
    · refine dA (fun i E W => ∃ (j : Int) (G : List (Nat × Obj)), (E 16 = .int .i64 (i : Nat) ∧ E 15 = .int .i64 (B.length : Nat)) ∧ ST true dC w W (hp w) G ∧ E 3 = (.int .u64 j) ∧ E 8 = u ∧ E 9 = (.int .i64 ((H.length : Int))) ∧ E 10 = (.int .i64 ((Y : Int))) ∧ E 14 = a2 ∧ sC (B.drop i) j = some Z) B.length z.len ⟨x, _, ⟨rfl, rfl⟩, (hST.sel St), I, J, eN, eI, rfl, a6⟩ (by decide) (by decide) (by decide) (fun _ _ _ h => by obtain ⟨_, _, eIN, _⟩ := h; exact eIN) ?_ ?_
      · rintro c0 E W a4 ⟨j, G, ⟨eI, eN⟩, hST, K, M, N, Q, T, g⟩
        obtain ⟨t, c3, b3, b2, b4⟩ := cR a4
        rw [b3] at g
        rw [sC] at g
        refine aY (aD (aA (VQ (lZ (enc := (bV .u8)) (i := (c0 : Int)) (x0 := t) Tryz.underlying54 Tryz.sizeOf5 T eI z (Int.natCast_nonneg _) b2) (fun c5 a8 => V (aJ rfl (nU hST.has (y := (.int .u8 t)) a8 Tryz.isAgg5)) (V (aG rfl) (aF (aH (aA (V (aC K) (V (aC rfl) (V (lM (k' := .u8) (a := t) Tryz.underlying5 Tryz.underlying309 rfl) (V (JS (k := .u64) (a := j) (b := ((IntKind.u64.wrap t))) (v := (.int .u64 ((IntKind.u64.wrap (BitVec.ofInt (IntKind.bits .u64) j ^^^ BitVec.ofInt (IntKind.bits .u64) ((IntKind.u64.wrap t))).toNat)))) rfl rfl rfl) (V (aQ rfl rfl rfl) (V (aG rfl) ?_))))))))))))))
        exact aF (cL (aH ⟨eI, ((IntKind.u64.wrap (((IntKind.u64.wrap (BitVec.ofInt (IntKind.bits .u64) j ^^^ BitVec.ofInt (IntKind.bits .u64) ((IntKind.u64.wrap t))).toNat)) * 1099511628211))), _, ⟨rfl, eN⟩, (hST.sel St), rfl, M, N, Q, T, (by rw [b4]; exact g)⟩))
      rintro E W ⟨j, G, ⟨eI, eN⟩, hST, K, M, N, Q, T, g⟩
      rw [List.drop_length] at g
      rw [sC] at g
      refine aH ?_
      cases g
      exact ⟨_, (hST.sel St), K, M, N, Q⟩
    rintro c1 E W ⟨a1, hST, b5, b6, b7, b9⟩ a5
    exact cL (aH ⟨b9, c1, _, ⟨rfl, b7⟩, (hST.sel St), b5, b6, (by rw [b1]; exact a5)⟩)
  rintro E W ⟨x, D, ⟨eI, eN⟩, hST, I, J, c⟩
  rw [List.drop_length] at c
  rw [sv] at c
  refine aH (aD (aA (V (aC I) (V (aG rfl) (aF (aH (aU ?_)))))))
  have hx := sj c; subst hx
  exact rP hST
theorem FE (Q : Value) (g : List Int) (a2 : Value) (H : List Int) (r : List Int) (w : World) (j : Sl (Pl (bV .u8)) 1 (hp w) Q g) (Y : Sl (Pl (bV .u8)) 1 (hp w) a2 H) (hm : yk g H = some r) :
    gQ true Tryz.prog 138 [Q, a2] w 5 (bV .u8) 1 r := by
  have hST := ST.start (dd := true) w
  unfold yk at hm
  refine cF 37 Tryz.func138 rfl (aD (aA (V (aG rfl) (aF (aH (aD (aD (aA (V (aC rfl) (bS hm fun r1 c0 hm => VE (Eg hST Tryz.call255 ((Al Q g _ _ (j.mono (Pl.mono _) hST.sub_hp) c0)) (fun W3 hST => V (fV rfl) (aF (aH ?_))))))))))))))
  refine CI hm rfl (fun b9 hm => ?_) (fun b9 hm => ?_)
  · refine aD (aA (V (aG rfl) (aF (aH (aU (cU ?_))))))
    have hx := sj hm; subst hx
    exact eA (v := (.slice none 0 0)) rfl rfl ⟨_, [], rfl, hST.backRow (fun p hq => by cases hq) (by simp), bI.nil _ _ _⟩
  refine aX (aH (aD (aA (V (aC rfl) (V (dO Tryz.underlying54 rfl j) (V (lM (k' := .i64) (a := (g.length : Int)) Tryz.underlying3 Tryz.underlying5 rfl) (VE (aR (qs := #[(0, (.int .u8 ((IntKind.u8.wrap ((g.length : Int))))))]) (cs := [(.int .u8 ((IntKind.u8.wrap ((g.length : Int)))))].toArray) hST (bM rfl) (bB [(.int .u8 ((IntKind.u8.wrap ((g.length : Int)))))] Tryz.underlying54 Tryz.sizeOf5 Tryz.zeroValue5 (by decide) rfl (by intro v hv; simp only [List.mem_cons, List.not_mem_nil, or_false] at hv; rcases hv with rfl <;> rfl) rfl rfl) (fun W6 b5 hST => V (aC rfl) (V (aC rfl) (V (aC rfl) ?_)))))))))))
  obtain ⟨D, I, rfl⟩ := j.form
  obtain ⟨A9, T, rfl⟩ := Y.form
  refine VE (aR (qs := #[(0, (.slice (some ⟨b5, 0, none⟩) 1 1)), (1, (.slice D g.length I)), (2, (.slice A9 H.length T)), (3, (.slice D g.length I))]) (cs := #[(.slice (some ⟨b5, 0, none⟩) 1 1), (.slice D g.length I), (.slice A9 H.length T), (.slice D g.length I)]) hST (J5 rfl rfl rfl rfl) (bB [(.slice (some ⟨b5, 0, none⟩) 1 1), (.slice D g.length I), (.slice A9 H.length T), (.slice D g.length I)] Tryz.underlying365 Tryz.sizeOf54 Tryz.zeroValue54 (by decide) rfl (by intro v hv; simp only [List.mem_cons, List.not_mem_nil, or_false] at hv; rcases hv with rfl | rfl | rfl | rfl <;> rfl) rfl rfl) (fun c5 b7 hST => bS hm fun x b1 hm => VE (Eg hST Tryz.call256 ((GG (.slice (some ⟨b7, 0, none⟩) 4 4) ([[(IntKind.u8.wrap ((g.length : Int)))], g, H, g]) _ _ (DC.lit (l := [[(IntKind.u8.wrap ((g.length : Int)))], g, H, g]) (vs := [(.slice (some ⟨b5, 0, none⟩) 1 1), (.slice D g.length I), (.slice A9 H.length T), (.slice D g.length I)]) rfl nb (hST.at_ Mh) (.cons (Sl.lit (enc := (bV .u8)) (l := [(IntKind.u8.wrap ((g.length : Int)))]) (fun _ => rfl) rfl nb rfl (hST.at_ (Mt Mh))) (.cons (j.mono (Pl.mono _) hST.sub_hp) (.cons (Y.mono (Pl.mono _) hST.sub_hp) (.cons (j.mono (Pl.mono _) hST.sub_hp) .nil))))) b1)) (fun c6 hST => V (aG rfl) (aF (aH ?_))))))
  replace hST := hST.sel (Db (Db St))
  refine aD (aA (bS hm fun U a9 hm => VE (lU (enc := (bV .u8)) (z := 0) hST (fun _ => rfl) (by decide) Tryz.underlying54 dZ.1 dZ.2.1 dZ.2.2.1 dZ.2.2.2 rfl rfl rfl a9 (fun c7 Z b6 hST N => V (aG rfl) (aF (aH (aD (aD (aA (V (aC rfl) (V (nV Tryz.underlying54 rfl N) (V (aC rfl) (aF (aH ?_))))))))))))))
  refine dA (fun i E W => ∃ (J : List Int) (G : List (Nat × Obj)) (K : List (Nat × Obj)), (E 23 = .int .i64 (i : Nat) ∧ E 22 = .int .i64 (U.length : Nat)) ∧ ST true dC w W (hp w) (G ++ K) ∧ E 5 = (.int .u64 x) ∧ E 6 = Z ∧ bI 5 (bV .u8) 1 Z J G ∧ ry x (U.drop i) i J = some r) U.length N.len ⟨U, b6, _, ⟨rfl, rfl⟩, (hST.sel St), rfl, rfl, N, hm⟩ (by decide) (by decide) (by decide) (fun _ _ _ h => by obtain ⟨_, _, _, eIN, _⟩ := h; exact eIN) ?_ ?_
  · rintro t E W b0 ⟨J, G, K, ⟨eI, eN⟩, hST, M, y, k, c⟩
    obtain ⟨c9, c4, b2, c2, b3⟩ := cR b0
    rw [b2] at c
    rw [ry] at c
    refine aY (aD (aA (V (aC eI) (V (aG rfl) (aF (aH (aA (V (aC y) (V (aC rfl) (V (aC M) (V (aC rfl) (V (aQ rfl rfl rfl) (V (aQ rfl rfl rfl) (bS c fun _ a6 c => ?_))))))))))))))
    exact V (zY (a := x) (b := ((IntKind.i64.wrap (8 * ((IntKind.i64.wrap (7 - ((t : Int))))))))) rfl rfl (KQ a6)) (V (lM (k' := .u64) (a := (Int.fdiv x (2 ^ min (Int.toNat ((IntKind.i64.wrap (8 * ((IntKind.i64.wrap (7 - ((t : Int))))))))) (IntKind.bits .u64)))) Tryz.underlying309 Tryz.underlying5 rfl) (bS c fun b4 B c => VQ (lA (i := (t : Int)) (x0 := b4) Tryz.underlying54 Tryz.sizeOf5 rfl rfl k (bY B) (bT B)) (fun c3 a7 => VO (vH (u := (.int .u8 ((IntKind.u8.wrap ((Int.fdiv x (2 ^ min (Int.toNat ((IntKind.i64.wrap (8 * ((IntKind.i64.wrap (7 - ((t : Int))))))))) (IntKind.bits .u64)))))))) (x1 := ((IntKind.u8.wrap ((Int.fdiv x (2 ^ min (Int.toNat ((IntKind.i64.wrap (8 * ((IntKind.i64.wrap (7 - ((t : Int))))))))) (IntKind.bits .u64)))))))  hST k (fun _ => rfl) (zk _) rfl rfl rfl a7 (bT B) Tryz.sizeOf5 (fun c1 a8 hST a5 => aF (cL (aH ⟨eI, ((J.set (Int.toNat ((t : Int))) ((IntKind.u8.wrap ((Int.fdiv x (2 ^ min (Int.toNat ((IntKind.i64.wrap (8 * ((IntKind.i64.wrap (7 - ((t : Int))))))))) (IntKind.bits .u64)))))))), a8, _, ⟨rfl, eN⟩, (hST.sel St), M, y, a5, (by rw [b3]; exact c)⟩)))))))
  rintro E W ⟨J, G, K, ⟨eI, eN⟩, hST, M, y, k, c⟩
  rw [List.drop_length] at c
  rw [ry] at c
  refine aH (aD (aA (V (aC y) (V (aG rfl) (aF (aH (aU ?_)))))))
  have hx := sj c; subst hx
  exact eA (v := Z) rfl rfl ⟨_, G, rfl, hST.backRow (fun p hq => (Ml hq)) k.nd, k⟩
theorem CV (a : Value) (j : List Int) (c : Value) (k : List Int) (r : Bool) (w : World) (g : Sl (Pl (bV .u8)) 1 (hp w) a j) (i : Sl (Pl (bV .u8)) 1 (hp w) c k) (hm : vr j k = some r) :
    bO true Tryz.prog 271 [a, c] w (.bool r) := by
  have hST := ST.start (dd := true) w
  unfold vr at hm
  refine cF 10 Tryz.func271 rfl (aD (aA (V (aG rfl) (aF (aH (aD (aA (V (aC rfl) (V (E7 Tryz.underlying54 Tryz.underlying5 Tryz.underlying9 rfl (g.mono (Pl.mono _) hST.sub_hp)) (V (aC rfl) (V (E7 Tryz.underlying54 Tryz.underlying5 Tryz.underlying9 rfl (i.mono (Pl.mono _) hST.sub_hp)) (V (H8 rfl rfl rfl) (V (aG rfl) (aF ?_))))))))))))))
  refine aH (aU ?_)
  have hx := sj hm; subst hx
  exact rP hST
theorem FI (g : Value) (y : List Int) (i : Value) (D : List Int) (j : Value) (G : List Int) (r : Bool) (w : World) (u : Sl (Pl (bV .u8)) 1 (hp w) g y) (I : Sl (Pl (bV .u8)) 1 (hp w) i D) (J : Sl (Pl (bV .u8)) 1 (hp w) j G) (hm : yf y D G = some r) :
    bO true Tryz.prog 156 [g, i, j] w (.bool r) := by
  have hST := ST.start (dd := true) w
  unfold yf at hm
  refine cF 16 Tryz.func156 rfl (aD (aA (V (aG rfl) (aF (aH (aD (aA (V (aC rfl) (bS hm fun r1 T hm => VE (Eg hST Tryz.call255 ((Al g y _ _ (u.mono (Pl.mono _) hST.sub_hp) T)) (fun W3 hST => V (aC rfl) (LJ hm (fun B E W => ∃  (x : bD) (z : List (Nat × Obj)), bE (hp w) x ∧ ST true dC w W x z ∧ E 6 = (.bool false) ∧ E 15 = (.bool B)) 6 ?_ (fun B c t => ?_)))))))))))))
  · rintro a9 E W ⟨x, z, a3, hST, a7, Q⟩ K
    refine V (aG Q) (aF (aH (aU ?_)))
    have hx := sj K; subst hx
    exact rP hST
  refine bC c (fun a c => ?_) (fun a c => ?_)
  · refine Vg rfl (cB a) (aC rfl) (Vg rfl (cB a) (aC rfl) (bS c fun U M c => oO rfl (cB a) (sZ hST Tryz.call138 ((FE g y i D _ _ (u.mono (Pl.mono _) hST.sub_hp) (I.mono (Pl.mono _) hST.sub_hp) M)) (fun a5 Y Z a4 hST k hl33 H => Vg rfl (cB a) (aC rfl) (bS c fun a8 N c => oO rfl (cB a) (Eg hST Tryz.call271 ((CV Y U j G _ _ (H.sl (fun _ => rfl) (fun b o hq => hST.at_ (Ml hq))) (J.mono (Pl.mono _) (k.trans hST.sub_hp)) N)) (fun a6 hST => V (bU (cB a) rfl) ?_)))))))
    cases c
    exact t _ _ ⟨Z, _, k, (hST.sel (Dr St)), rfl, rfl⟩
  refine Vn rfl (cB a) (Vn rfl (cB a) (Vn rfl (cB a) (Vn rfl (cB a) (Vn rfl (cB a) (V (bX (cB a) rfl) ?_)))))
  cases c
  exact t _ _ ⟨(hp w), _, (bE.refl _), (hST.sel St), rfl, rfl⟩
theorem xw (y : Value) (N : Option kT) (c : Signed) (t : Value) (r : Int) (w : World) (Z : tR jG (hp w) y N) (k : Sl (Pl (bV .u8)) 1 (hp w) t c.Tag) (hm : qW N c = some r) :
    bO true Tryz.prog 51 [y, (.agg #[(.int .i64 c.Cred.Kind), (.string c.Cred.Head.Owner), (.string c.Cred.Head.Word), (.string c.Cred.Who), (.string c.Cred.B.Owner), (.string c.Cred.B.Word), (.string c.Cred.C.Owner), (.string c.Cred.C.Word), (.string c.Cred.Word2), t])] w (.int .i64 r) := by
  have hST := ST.start (dd := true) w
  unfold qW at hm
  refine cF 27 Tryz.func51 rfl (aD (aA ?_))
  obtain ⟨M, Q, rfl⟩ := k.form
  refine VE (cO (v := (.agg (C9 c.Cred.Kind c.Cred.Head.Owner c.Cred.Head.Word c.Cred.Who c.Cred.B.Owner c.Cred.B.Word c.Cred.C.Owner c.Cred.C.Word c.Cred.Word2 M c.Tag.length Q).toArray)) hST rfl (fun W4 b3 hST => V (aG rfl) (aF (aH (aD (aA (V (aC rfl) (V (aN ue rfl) (V (aJ rfl (aM hST.has Mh (aI c.Cred) rfl Tryz.isAgg53 Tryz.sizeOf53)) (bS hm fun r5 a7 hm => ?_))))))))))
  have hsz := hST.size
  refine VE (lT hST (List.Perm.refl _) Tryz.call154 (fun hH hN hsb hmm => (yT y N c.Cred _ _ ⟨hH, hN, hsb⟩ (Z.mono yB (bE.refl _)) a7)) (fun W7 c0 μ8 b9 hST a2 hl10 Y => ?_) (L0 := []))
  obtain ⟨a9, x, rfl, a3⟩ := Y
  replace x := x.symm; subst x
  replace hST := hST.perm Tn
  refine V (aC rfl) (V (dU rfl rfl) (V (dU rfl rfl) (V (aG rfl) (V (aG rfl) (aF (aH (aD (aD ?_))))))))
  replace hST := hST.drew
  have hS0 := hST.has.sel (Kb Sn)
  refine cX hS0 cC (X 0 rfl hS0 (aC rfl) (X 1 rfl hS0 (aQ rfl rfl rfl) (X 2 rfl hS0 (aC rfl) (PJ hm (fun G E W => ∃  (z : bD) (B : List (Nat × Obj)), bE μ8 z ∧ ST true dC w W z ((b3, Obj.cells ((C9 c.Cred.Kind c.Cred.Head.Owner c.Cred.Head.Word c.Cred.Who c.Cred.B.Owner c.Cred.B.Word c.Cred.C.Owner c.Cred.C.Word c.Cred.Word2 M c.Tag.length Q).toArray : Array Value) 56 (0, 0)) :: B) ∧ E 6 = (.int .i64 r5.2) ∧ E 25 = (.bool G)) (bm 12 4095) 0 ?_ (fun G g u => ?_)))))
  · rintro b7 E W ⟨z, B, D, hST, T, U⟩ j
    have hS0 := hST.has.selS D (Kb Sn)
    refine dB (by kernel_rfl) (aH ?_)
    replace hST := hST.sel (Db St)
    refine CI j U (fun I j => ?_) (fun I j => ?_)
    · refine aD (aA (V (aG rfl) (aF (aH (aU (cU ?_))))))
      have hx := sj j; subst hx
      exact rP hST
    refine aX (aH (aD (aA (V (aC T) (V (aG rfl) (aF (aH (aU ?_))))))))
    have hx := sj j; subst hx
    exact rP hST
  refine bC g (fun a g => ?_) (fun a g => ?_)
  · refine Xg 3 rfl rfl (cB a) hS0 (aC rfl) (Xg 4 rfl rfl (cB a) hS0 (aN ue rfl) (oN 5 rfl rfl (cB a) hS0 (fun _ hS => aJ rfl (aM hS Mh (aI c.Cred) rfl Tryz.isAgg53 Tryz.sizeOf53)) (Xg 7 rfl rfl (cB a) hS0 (aN Ea rfl) (oN 8 rfl rfl (cB a) hS0 (fun _ hS => aJ rfl (aP hS Mh rfl Tryz.isAgg54)) (bS g fun a4 J g => vm 6 rfl rfl (cB a) (sZ hST Tryz.call155 ((wh c.Cred _ _  J)) (fun b2 a5 a6 b1 hST i hl119 H => ?_)))))))
    have hS0 := hST.has.selS i (Dr (Kb Sn))
    refine ⟨hS0, (bS g fun b6 K g => vm 9 rfl rfl (cB a) (Eg hST Tryz.call156 ((FI a9 r5.1 a5 a4 (.slice M c.Tag.length Q) c.Tag _ _ (a3.mono (Pl.mono _) (i.trans hST.sub_hp)) (H.sl (fun _ => rfl) (fun b o hq => hST.at_ (Ml hq))) (k.mono (Pl.mono _) ((a2.trans i).trans hST.sub_hp)) K)) (fun b4 hST => ?_)))⟩
    have hS0 := hST.has.selS i (Dr (Kb Sn))
    refine ⟨hS0, (Xg 10 rfl rfl (cB a) hS0 (fV rfl) (X 11 rfl hS0 (bU (cB a) rfl) ?_))⟩
    cases g
    refine cV (by kernel_rfl) (u _ _ ⟨a6, _, i, (hST.sel (Dr St)), rfl, rfl⟩)
  refine Xn 3 rfl rfl (cB a) hS0 (Xn 4 rfl rfl (cB a) hS0 (Xn 5 rfl rfl (cB a) hS0 (Xn 6 rfl rfl (cB a) hS0 (Xn 7 rfl rfl (cB a) hS0 (Xn 8 rfl rfl (cB a) hS0 (Xn 9 rfl rfl (cB a) hS0 (Xn 10 rfl rfl (cB a) hS0 (X 11 rfl hS0 (bX (cB a) rfl) ?_))))))))
  cases g
  refine cV (by kernel_rfl) (u _ _ ⟨μ8, _, (bE.refl _), (hST.sel St), rfl, rfl⟩)
theorem CS (j : cG) (k : Value) (u : Value) (z : Value) (M : Option kT) (r : Int) (w : World) (g : Sl bF 15 (hp w) k j.Creds) (t : Sl cD 8 (hp w) u j.Acks) (a3 : tR jG (hp w) z M) (hm : rC j M = some r) :
    bO false Tryz.prog 204 [(.agg #[(.string j.Name), k, u]), z] w (.int .i64 r) := by
  have hST := ST.start (dd := false) w
  unfold rC at hm
  refine cF 29 Tryz.func204 rfl (aD (aA ?_))
  obtain ⟨K, N, rfl⟩ := g.form
  obtain ⟨Z, c4, rfl⟩ := t.form
  refine VE (cO (v := (.agg (C5 j.Name K j.Creds.length N Z j.Acks.length c4).toArray)) hST rfl (fun W6 b5 hST => V (aG rfl) (aF (aH (aD (aD (aA (V (aJ rfl (aM hST.has Mh (C5 j.Name K j.Creds.length N Z j.Acks.length c4) rfl Tryz.isAgg110 Tryz.sizeOf110)) (bS hm fun r7 a9 hm => VE (Eg hST Tryz.call103 ((tJ j (.slice K j.Creds.length N) (.slice Z j.Acks.length c4) _ _ (g.mono bR.mono hST.sub_hp) (t.mono dR.mono hST.sub_hp) a9)) (fun W9 hST => V (aG rfl) (aF (aH (aD (aA ?_)))))))))))))))
  refine V (aC rfl) (V (aQ rfl rfl rfl) (aF (aH (CI hm rfl (fun a4 hm => ?_) (fun a4 hm => ?_)))))
  · refine aD (aA (V (aC rfl) (V (aG rfl) (aF (aH ?_)))))
    replace hST := hST.sel (Db St)
    refine aU (cU ?_)
    have hx := sj hm; subst hx
    exact rP hST
  refine aX (aH (aD (aD (aA (V (aN sE rfl) (V (aJ rfl (aP hST.has Mh rfl Tryz.isAgg107)) (V (dO Tryz.underlying107 rfl g) (V (aC rfl) (aF (aH ?_))))))))))
  replace hST := hST.sel (Db St)
  refine dA (fun i E W => ∃  (B : List (Nat × Obj)), (E 17 = .int .i64 (i : Nat) ∧ E 16 = .int .i64 (j.Creds.length : Nat)) ∧ ST false dC w W (hp w) B ∧ E 1 = z ∧ E 15 = (.slice K j.Creds.length N) ∧ pG M (j.Creds.drop i) = some r) j.Creds.length g.len ⟨_, ⟨rfl, rfl⟩, (hST.sel St), rfl, rfl, hm⟩ (by decide) (by decide) (by decide) (fun _ _ _ h => by obtain ⟨_, eIN, _⟩ := h; exact eIN) ?_ ?_
  · rintro b0 E W a5 ⟨B, ⟨eI, eN⟩, hST, D, G, c⟩
    obtain ⟨a, c1, a7, a6, a8⟩ := cR a5
    rw [a7] at c
    rw [pG] at c
    refine aY (aD (aA (VQ (eV (i := (b0 : Int)) (x0 := a) bF.out Tryz.underlying107 Tryz.sizeOf138 G eI g (Int.natCast_nonneg _) a6) (fun b6 ⟨_, ⟨b9, c0, rfl, H, Y⟩, T⟩ => V (aJ rfl (bN hST.has T Tryz.isAgg138 Tryz.sizeOf138)) (VE (bL hST Tryz.zeroValue138 (fun b1 b4 hST => ?_)))))))
    obtain ⟨x, y, rfl⟩ := H.form
    obtain ⟨I, J, rfl⟩ := Y.form
    refine VO (bH (.agg (C4 a.Signed.Cred.Kind a.Signed.Cred.Head.Owner a.Signed.Cred.Head.Word a.Signed.Cred.Who a.Signed.Cred.B.Owner a.Signed.Cred.B.Word a.Signed.Cred.C.Owner a.Signed.Cred.C.Word a.Signed.Cred.Word2 x a.Signed.Tag.length y a.Release.Op a.Release.K a.Release.Role.Owner a.Release.Role.Word I a.Release.Kids.length J).toArray) ((C4 a.Signed.Cred.Kind a.Signed.Cred.Head.Owner a.Signed.Cred.Head.Word a.Signed.Cred.Who a.Signed.Cred.B.Owner a.Signed.Cred.B.Word a.Signed.Cred.C.Owner a.Signed.Cred.C.Word a.Signed.Cred.Word2 x a.Signed.Tag.length y a.Release.Op a.Release.K a.Release.Role.Owner a.Release.Role.Word I a.Release.Kids.length J).toArray) hST rfl rfl Tryz.sizeOf138 (by simp [Value.cells, Value.oneCell']) nb rfl (fun b2 hST => aF (aH (aD (aA (V (aC D) (V (aN sL rfl) (V (aJ rfl (aM hST.has Mh (C9 a.Signed.Cred.Kind a.Signed.Cred.Head.Owner a.Signed.Cred.Head.Word a.Signed.Cred.Who a.Signed.Cred.B.Owner a.Signed.Cred.B.Word a.Signed.Cred.C.Owner a.Signed.Cred.C.Word a.Signed.Cred.Word2 x a.Signed.Tag.length y) rfl Tryz.isAgg56 Tryz.sizeOf56)) (bS c fun b7 U c => VE (Eg hST Tryz.call51 (bO.weak (xw z M a.Signed (.slice x a.Signed.Tag.length y) _ _ (a3.mono yB hST.sub_hp) (H.mono (Pl.mono _) hST.sub_hp) U)) (fun b3 hST => V (aG rfl) (aF (aH ?_)))))))))))))
    replace hST := hST.sel (Db St)
    refine aD (aA (V (aC rfl) (V (aQ rfl rfl rfl) (aF (aH (CI c rfl (fun Q c => ?_) (fun Q c => ?_)))))))
    · refine aD (aA (V (aC rfl) (V (aG rfl) (aF (aH (aU (fE (cU (fE (cU ?_))))))))))
      have hx := sj c; subst hx
      exact rP hST
    exact aX (cL (aH ⟨eI, _, ⟨rfl, eN⟩, (hST.sel St), D, G, (by rw [a8]; exact c)⟩))
  rintro E W ⟨B, ⟨eI, eN⟩, hST, D, G, c⟩
  rw [List.drop_length] at c
  rw [pG] at c
  refine aH (aD (aA (V (aG rfl) (aF (aH (aU ?_))))))
  have hx := sj c; subst hx
  exact rP hST
end Go.Proofs.YtmlncblocfcmiaaGreat
