/- a part of a proof of StuckWaits -/
import Derived.Test.YtmlncblocfcmiaaGreatSWW2w
set_option linter.all false
namespace Go.Proofs.YtmlncblocfcmiaaGreat
open Go.RowKit
set_option maxRecDepth 10000
set_option maxHeartbeats 1000000 in
theorem xH  (r : Bool) (w : World)  (hm : lJ  = some r) :
    bW false Tryz.prog 72 [] w (.bool r) := by
  have hST := ST.start (dd := false) w
  unfold lJ at hm
  refine cF 86 Tryz.func72 rfl (aC (aA (V (aF rfl) (aD (aG (aC (aA (V (dX (qs := #[(0, (.string K1)), (1, (.string K3))]) (v := (.agg (aO K7).toArray)) (iK rfl rfl) (cV Tryz.zeroValue28 Tryz.underlying28 (AG _ Tryz.underlying28) (by kernel_rfl))) (V (dX (qs := #[(0, (.int .i64 1)), (1, (.agg (aO K7).toArray)), (2, (.string K2))]) (v := (.agg (aJ qN).toArray)) (vP rfl rfl rfl) (cV Tryz.zeroValue53 Tryz.underlying53 (Cz _ Tryz.underlying53) (by kernel_rfl))) (VE (cA hST Tryz.zeroValue53 (fun W2 b1 hST => VO (aX (.agg (aJ qN).toArray) ((aJ qN).toArray) hST rfl rfl Tryz.sizeOf53 (gC qN) nb rfl (fun W3 hST => aD (aG (aC ?_))))))))))))))))
  refine aA (V (dX (qs := #[(0, (.string K1)), (1, (.string K5))]) (v := (.agg (aO K9).toArray)) (iK rfl rfl) (cV Tryz.zeroValue28 Tryz.underlying28 (AG _ Tryz.underlying28) (by kernel_rfl))) (V (dX (qs := #[(0, (.int .i64 1)), (1, (.agg (aO K9).toArray)), (2, (.string K4))]) (v := (.agg (aJ wv).toArray)) (vP rfl rfl rfl) (cV Tryz.zeroValue53 Tryz.underlying53 (Cz _ Tryz.underlying53) (by kernel_rfl))) (VE (cA hST Tryz.zeroValue53 (fun W5 b4 hST => VO (aX (.agg (aJ wv).toArray) ((aJ wv).toArray) hST rfl rfl Tryz.sizeOf53 (gC wv) nb rfl (fun W6 hST => aD (aG (aC (aA (V (aF rfl) (aD (aG (aC ?_))))))))))))))
  replace hST := hST.drew
  have hS0 := hST.has.sel (Kb (Kb Sn))
  refine cU hS0 bO (X 0 rfl hS0 (aB rfl) (XH 1 rfl hS0 (fun _ hS => aI rfl (aK hS Mh (aJ wv) rfl Tryz.isAgg53 Tryz.sizeOf53)) (X 2 rfl hS0 (aM lR rfl) (XH 3 rfl hS0 (fun _ hS => aI rfl (aK hS (Mt Mh) (aO K7) rfl Tryz.isAgg28 Tryz.sizeOf28)) (X 6 rfl hS0 (aB rfl) (XH 7 rfl hS0 (fun _ hS => aI rfl (aK hS (Mt Mh) (aJ qN) rfl Tryz.isAgg53 Tryz.sizeOf53)) (X 8 rfl hS0 (aM lR rfl) (XH 9 rfl hS0 (fun _ hS => aI rfl (aK hS Mh (aO K9) rfl Tryz.isAgg28 Tryz.sizeOf28)) (PJ hm (fun g E W => ∃ (d4 : Nat) (k3 : Value) (i3 : Value) (k4 : Value) (i4 : Value) (i5 : Value) (i6 : Value) (i7 : Value) (i8 : Value) (i9 : Value) (j0 : Value) (j3 : Value) (j4 : Value) (b2 : aY) (m2 : List (Nat × Obj)), aW (hp w) b2 ∧ ST false dW w W b2 ((d4, Obj.cells (#[(.string g.2.2.2.2.2.2.2.2.2.2.2.2.2.2.2.2.1), i7, i8, (.string g.2.2.2.2.2.2.2.2.2.2.2.2.2.2.2.2.2.2.2.1), i9, j0, (.int .i64 g.2.2.2.2.2.2.2.2.2.2.2.2.2.2.2.2.2.2.2.2.2.2.1), (.int .i64 g.2.2.2.2.2.2.2.2.2.2.2.2.2.2.2.2.2.2.2.2.2.2.2.1), (.string g.2.2.2.2.2.2.2.2.2.2.2.2.2.2.2.2.2.2.2.2.2.2.2.2.1.Owner), (.string g.2.2.2.2.2.2.2.2.2.2.2.2.2.2.2.2.2.2.2.2.2.2.2.2.1.Word), j3, (.int .i64 g.2.2.2.2.2.2.2.2.2.2.2.2.2.2.2.2.2.2.2.2.2.2.2.2.2.2.1), (.int .i64 g.2.2.2.2.2.2.2.2.2.2.2.2.2.2.2.2.2.2.2.2.2.2.2.2.2.2.2.1.at0), (.int .i64 g.2.2.2.2.2.2.2.2.2.2.2.2.2.2.2.2.2.2.2.2.2.2.2.2.2.2.2.1.at1), (.int .i64 g.2.2.2.2.2.2.2.2.2.2.2.2.2.2.2.2.2.2.2.2.2.2.2.2.2.2.2.2.1), (.int .i64 g.2.2.2.2.2.2.2.2.2.2.2.2.2.2.2.2.2.2.2.2.2.2.2.2.2.2.2.2.2.1), (.int .i64 g.2.2.2.2.2.2.2.2.2.2.2.2.2.2.2.2.2.2.2.2.2.2.2.2.2.2.2.2.2.2.1), j4] : Array Value) 116 (0, 0)) :: ((b4, Obj.cells ((aJ wv).toArray : Array Value) 53 (0, 0)) :: ((b1, Obj.cells ((aJ qN).toArray : Array Value) 53 (0, 0)) :: m2))) ∧ E 1 = (.pointer (some ⟨b1, 0, none⟩)) ∧ E 4 = (.pointer (some ⟨d4, 0, none⟩)) ∧ E 29 = (.agg #[(.string g.1), k3, i3, (.string g.2.2.2.1), k4, i4, (.int .i64 g.2.2.2.2.2.2.1), (.int .i64 g.2.2.2.2.2.2.2.1), (.string g.2.2.2.2.2.2.2.2.1.Owner), (.string g.2.2.2.2.2.2.2.2.1.Word), i5, (.int .i64 g.2.2.2.2.2.2.2.2.2.2.1), (.int .i64 g.2.2.2.2.2.2.2.2.2.2.2.1.at0), (.int .i64 g.2.2.2.2.2.2.2.2.2.2.2.1.at1), (.int .i64 g.2.2.2.2.2.2.2.2.2.2.2.2.1), (.int .i64 g.2.2.2.2.2.2.2.2.2.2.2.2.2.1), (.int .i64 g.2.2.2.2.2.2.2.2.2.2.2.2.2.2.1), i6]) ∧ Sl bB 15 b2 k3 g.2.1 ∧ Sl cN 8 b2 i3 g.2.2.1 ∧ Fr w.heap.size i3 ∧ Sl bB 15 b2 k4 g.2.2.2.2.1 ∧ Sl cN 8 b2 i4 g.2.2.2.2.2.1 ∧ Fr w.heap.size i4 ∧ Sl aH 5 b2 i5 g.2.2.2.2.2.2.2.2.2.1 ∧ Fr w.heap.size i5 ∧ Sl iN 2 b2 i6 g.2.2.2.2.2.2.2.2.2.2.2.2.2.2.2.1 ∧ Fr w.heap.size i6 ∧ Sl bB 15 b2 i7 g.2.2.2.2.2.2.2.2.2.2.2.2.2.2.2.2.2.1 ∧ Fr w.heap.size i7 ∧ Sl cN 8 b2 i8 g.2.2.2.2.2.2.2.2.2.2.2.2.2.2.2.2.2.2.1 ∧ Fr w.heap.size i8 ∧ Sl bB 15 b2 i9 g.2.2.2.2.2.2.2.2.2.2.2.2.2.2.2.2.2.2.2.2.1 ∧ Fr w.heap.size i9 ∧ Sl cN 8 b2 j0 g.2.2.2.2.2.2.2.2.2.2.2.2.2.2.2.2.2.2.2.2.2.1 ∧ Fr w.heap.size j0 ∧ Sl aH 5 b2 j3 g.2.2.2.2.2.2.2.2.2.2.2.2.2.2.2.2.2.2.2.2.2.2.2.2.2.1 ∧ Fr w.heap.size j3 ∧ Sl iN 2 b2 j4 g.2.2.2.2.2.2.2.2.2.2.2.2.2.2.2.2.2.2.2.2.2.2.2.2.2.2.2.2.2.2.2 ∧ Fr w.heap.size j4) (bm 15 16383) 1 ?_ (fun g I g8 => ?_))))))))))
  · rintro ⟨a3, u, x, a4, y, z, a5, a6, k, B, a7, t, a8, a9, b0, D, bf, aj, ak, bg, al, am, bh, bi, bj, an, bk, bl, bn, bo, bp, ao⟩ E W ⟨d4, k3, i3, k4, i4, i5, i6, i7, i8, i9, j0, j3, j4, b2, m2, j5, hST, n7, e8, u2, e2, e3, w1, e4, e5, w2, e6, w3, e7, w4, x1, w5, x2, w6, x3, w7, x4, w8, x5, w9, x6, x0⟩ c0
    have hS0 := hST.has.selS j5 (Db (Kb (Kb Sn)))
    obtain ⟨J, U, rfl⟩ := e2.form
    obtain ⟨K, Y, rfl⟩ := e3.form
    obtain ⟨M, Z, rfl⟩ := e4.form
    obtain ⟨N, a0, rfl⟩ := e5.form
    obtain ⟨Q, a1, rfl⟩ := e6.form
    obtain ⟨T, a2, rfl⟩ := e7.form
    refine XO 14 rfl (aX (.agg (C1 a3 J u.length U K x.length Y a4 M y.length Z N z.length a0 a5 a6 k.Owner k.Word Q B.length a1 a7 t.at0 t.at1 a8 a9 b0 T D.length a2).toArray) ((C1 a3 J u.length U K x.length Y a4 M y.length Z N z.length a0 a5 a6 k.Owner k.Word Q B.length a1 a7 t.at0 t.at1 a8 a9 b0 T D.length a2).toArray) hST e8 u2 Tryz.sizeOf116 (by simp [Value.cells, Value.oneCell']) nb rfl (fun y8 hST => ?_))
    have hS0 := hST.has.selS j5 (Db (Kb (Kb Sn)))
    refine ⟨hS0, (dC (by kernel_rfl) (aG ?_))⟩
    replace hST := hST.sel (Kb (Db St))
    refine aC (aA (V (aI e8 (aK hST.has Mh (C1 a3 J u.length U K x.length Y a4 M y.length Z N z.length a0 a5 a6 k.Owner k.Word Q B.length a1 a7 t.at0 t.at1 a8 a9 b0 T D.length a2) rfl Tryz.isAgg116 Tryz.sizeOf116)) (bS c0 fun ap r7 c0 => ?_)))
    have hsz := hST.size
    refine VE (iu hST (List.Perm.refl _) Tryz.call76 (fun _ _ _ _ => (pP ((⟨(⟨a3, u, x⟩ : bT), (⟨a4, y, z⟩ : bT), (⟨a5, a6, k, B⟩ : Formula), a7, t, a8, a9, b0, D⟩ : eW)) (.slice J u.length U) (.slice K x.length Y) (.slice M y.length Z) (.slice N z.length a0) (.slice Q B.length a1) (.slice T D.length a2) _ _ (e2.mono bD.mono hST.sub_hp) (e3.mono dV.mono hST.sub_hp) (e4.mono bD.mono hST.sub_hp) (e5.mono dV.mono hST.sub_hp) (e6.mono aQ.mono hST.sub_hp) (e7.mono ns.mono hST.sub_hp) r7)) (fun y9 av cr x7 hST i hl449 hlift q1 => ?_) (L0 := []))
    obtain ⟨bx, y6, bz, y7, h3, rfl, s8, s9⟩ := q1
    replace h3 := h3.symm; subst h3
    replace hST := hST.perm (Tr (Tr Tn))
    refine V (aB rfl) (V (bQ rfl rfl) (V (bQ rfl rfl) (V (aF rfl) (V (aF rfl) (aD (aG (aC (aA (V (aI e8 (aK hST.has (Ma (Ma Mh)) (C1 a3 J u.length U K x.length Y a4 M y.length Z N z.length a0 a5 a6 k.Owner k.Word Q B.length a1 a7 t.at0 t.at1 a8 a9 b0 T D.length a2) rfl Tryz.isAgg116 Tryz.sizeOf116)) (bS c0 fun aq r8 c0 => ?_))))))))))
    have hsz := hST.size
    refine VE (iu hST (List.Perm.refl _) Tryz.call74 (fun _ _ _ _ => (pO ((⟨(⟨a3, u, x⟩ : bT), (⟨a4, y, z⟩ : bT), (⟨a5, a6, k, B⟩ : Formula), a7, t, a8, a9, b0, D⟩ : eW)) (.slice J u.length U) (.slice K x.length Y) (.slice M y.length Z) (.slice N z.length a0) (.slice Q B.length a1) (.slice T D.length a2) _ _ (e2.mono bD.mono (i.trans hST.sub_hp)) (e3.mono dV.mono (i.trans hST.sub_hp)) (e4.mono bD.mono (i.trans hST.sub_hp)) (e5.mono dV.mono (i.trans hST.sub_hp)) (e6.mono aQ.mono (i.trans hST.sub_hp)) (e7.mono ns.mono (i.trans hST.sub_hp)) r8)) (fun z0 aw cs x8 hST j hl465 hlift q2 => ?_) (L0 := []))
    obtain ⟨v6, t8, q0, n0, h4, rfl, t0, t1⟩ := q2
    replace h4 := h4.symm; subst h4
    replace hST := hST.perm (Tr (Tr Tn))
    refine V (aB rfl) (V (bQ rfl rfl) (V (bQ rfl rfl) (V (aF rfl) (V (aF rfl) (aD (aG (aC (aA (V (aI e8 (aK hST.has (Ma (Ma (Ma (Ma Mh)))) (C1 a3 J u.length U K x.length Y a4 M y.length Z N z.length a0 a5 a6 k.Owner k.Word Q B.length a1 a7 t.at0 t.at1 a8 a9 b0 T D.length a2) rfl Tryz.isAgg116 Tryz.sizeOf116)) (V (aI n7 (aK hST.has (Ma (Ma (Ma (Ma (Mt Mh))))) (aJ qN) rfl Tryz.isAgg53 Tryz.sizeOf53)) (bS c0 fun a r9 c0 => ?_)))))))))))
    have hsz := hST.size
    refine VE (je hST (List.Perm.refl _) Tryz.call81 (fun hH hN hsb hmm => (oh ((⟨(⟨a3, u, x⟩ : bT), (⟨a4, y, z⟩ : bT), (⟨a5, a6, k, B⟩ : Formula), a7, t, a8, a9, b0, D⟩ : eW)) (.slice J u.length U) (.slice K x.length Y) (.slice M y.length Z) (.slice N z.length a0) (.slice Q B.length a1) (.slice T D.length a2) 1 qN _ _ ⟨hH, hN, hsb⟩ (e2.mono bD.mono (i.trans j)) (e3.mono dV.mono (i.trans j)) (e4.mono bD.mono (i.trans j)) (e5.mono dV.mono (i.trans j)) (e6.mono aQ.mono (i.trans j)) (e7.mono ns.mono (i.trans j)) r9)) (fun z1 ay ct x9 hST G hl481 q3 => ?_) (L0 := []))
    obtain ⟨ca, cb, cc, cd, ce, cf, h5, rfl, k5, k6, k7, k8, k9, l0⟩ := q3
    replace h5 := h5.symm; subst h5
    replace hST := hST.perm Tn
    refine V (aB rfl) (V (bQ rfl rfl) (V (bQ rfl rfl) (VE (cA hST Tryz.zeroValue116 (fun z2 b3 hST => ?_)))))
    obtain ⟨c2, c8, rfl⟩ := k5.form
    obtain ⟨c3, c9, rfl⟩ := k6.form
    obtain ⟨c4, d0, rfl⟩ := k7.form
    obtain ⟨c5, d1, rfl⟩ := k8.form
    obtain ⟨c6, d2, rfl⟩ := k9.form
    obtain ⟨c7, d3, rfl⟩ := l0.form
    refine VO (aX (.agg #[(.string (((a.1).Owner).Name)), (.slice c2 (((a.1).Owner).Creds).length c8), (.slice c3 (((a.1).Owner).Acks).length c9), (.string (((a.1).Client).Name)), (.slice c4 (((a.1).Client).Creds).length d0), (.slice c5 (((a.1).Client).Acks).length d1), (.int .i64 (((a.1).Formula).Op)), (.int .i64 (((a.1).Formula).K)), (.string ((((a.1).Formula).Role).Owner)), (.string ((((a.1).Formula).Role).Word)), (.slice c6 (((a.1).Formula).Kids).length d2), (.int .i64 ((a.1).Plan)), (.int .i64 (((a.1).Rooms).at0)), (.int .i64 (((a.1).Rooms).at1)), (.int .i64 ((a.1).Timeout)), (.int .i64 ((a.1).Tries)), (.int .i64 ((a.1).Budget)), (.slice c7 ((a.1).Keys).length d3)]) (#[(.string (((a.1).Owner).Name)), (.slice c2 (((a.1).Owner).Creds).length c8), (.slice c3 (((a.1).Owner).Acks).length c9), (.string (((a.1).Client).Name)), (.slice c4 (((a.1).Client).Creds).length d0), (.slice c5 (((a.1).Client).Acks).length d1), (.int .i64 (((a.1).Formula).Op)), (.int .i64 (((a.1).Formula).K)), (.string ((((a.1).Formula).Role).Owner)), (.string ((((a.1).Formula).Role).Word)), (.slice c6 (((a.1).Formula).Kids).length d2), (.int .i64 ((a.1).Plan)), (.int .i64 (((a.1).Rooms).at0)), (.int .i64 (((a.1).Rooms).at1)), (.int .i64 ((a.1).Timeout)), (.int .i64 ((a.1).Tries)), (.int .i64 ((a.1).Budget)), (.slice c7 ((a.1).Keys).length d3)]) hST rfl rfl Tryz.sizeOf116 (by simp [Value.cells, Value.oneCell']) nb rfl (fun z3 hST => V (aF rfl) (aD (aG (aC (aA (V (aI e8 (aK hST.has (Mt (Ma (Ma (Ma (Ma Mh))))) (C1 a3 J u.length U K x.length Y a4 M y.length Z N z.length a0 a5 a6 k.Owner k.Word Q B.length a1 a7 t.at0 t.at1 a8 a9 b0 T D.length a2) rfl Tryz.isAgg116 Tryz.sizeOf116)) (V (aI n7 (aK hST.has (Mt (Ma (Ma (Ma (Ma (Mt Mh)))))) (aJ qN) rfl Tryz.isAgg53 Tryz.sizeOf53)) (bS c0 fun c s0 c0 => ?_)))))))))
    have hsz := hST.size
    refine VE (je hST (List.Perm.refl _) Tryz.call81 (fun hH hN hsb hmm => (oh ((⟨(⟨a3, u, x⟩ : bT), (⟨a4, y, z⟩ : bT), (⟨a5, a6, k, B⟩ : Formula), a7, t, a8, a9, b0, D⟩ : eW)) (.slice J u.length U) (.slice K x.length Y) (.slice M y.length Z) (.slice N z.length a0) (.slice Q B.length a1) (.slice T D.length a2) 0 qN _ _ ⟨hH, hN, hsb⟩ (e2.mono bD.mono ((i.trans j).trans G)) (e3.mono dV.mono ((i.trans j).trans G)) (e4.mono bD.mono ((i.trans j).trans G)) (e5.mono dV.mono ((i.trans j).trans G)) (e6.mono aQ.mono ((i.trans j).trans G)) (e7.mono ns.mono ((i.trans j).trans G)) s0)) (fun z4 az e9 y0 hST H hl518 q4 => ?_) (L0 := []))
    obtain ⟨cg, ch, ci, cj, ck, cl, h6, rfl, t2, t3, t4, t5, t6, t7⟩ := q4
    replace h6 := h6.symm; subst h6
    replace hST := hST.perm Tn
    refine V (aB rfl) (V (bQ rfl rfl) (V (bQ rfl rfl) (VE (cA hST Tryz.zeroValue116 (fun z5 ai hST => ?_)))))
    obtain ⟨l6, n1, rfl⟩ := t2.form
    obtain ⟨l7, n2, rfl⟩ := t3.form
    obtain ⟨l8, n3, rfl⟩ := t4.form
    obtain ⟨l9, n4, rfl⟩ := t5.form
    obtain ⟨m0, n5, rfl⟩ := t6.form
    obtain ⟨m1, n6, rfl⟩ := t7.form
    refine VO (aX (.agg #[(.string (((c.1).Owner).Name)), (.slice l6 (((c.1).Owner).Creds).length n1), (.slice l7 (((c.1).Owner).Acks).length n2), (.string (((c.1).Client).Name)), (.slice l8 (((c.1).Client).Creds).length n3), (.slice l9 (((c.1).Client).Acks).length n4), (.int .i64 (((c.1).Formula).Op)), (.int .i64 (((c.1).Formula).K)), (.string ((((c.1).Formula).Role).Owner)), (.string ((((c.1).Formula).Role).Word)), (.slice m0 (((c.1).Formula).Kids).length n5), (.int .i64 ((c.1).Plan)), (.int .i64 (((c.1).Rooms).at0)), (.int .i64 (((c.1).Rooms).at1)), (.int .i64 ((c.1).Timeout)), (.int .i64 ((c.1).Tries)), (.int .i64 ((c.1).Budget)), (.slice m1 ((c.1).Keys).length n6)]) (#[(.string (((c.1).Owner).Name)), (.slice l6 (((c.1).Owner).Creds).length n1), (.slice l7 (((c.1).Owner).Acks).length n2), (.string (((c.1).Client).Name)), (.slice l8 (((c.1).Client).Creds).length n3), (.slice l9 (((c.1).Client).Acks).length n4), (.int .i64 (((c.1).Formula).Op)), (.int .i64 (((c.1).Formula).K)), (.string ((((c.1).Formula).Role).Owner)), (.string ((((c.1).Formula).Role).Word)), (.slice m0 (((c.1).Formula).Kids).length n5), (.int .i64 ((c.1).Plan)), (.int .i64 (((c.1).Rooms).at0)), (.int .i64 (((c.1).Rooms).at1)), (.int .i64 ((c.1).Timeout)), (.int .i64 ((c.1).Tries)), (.int .i64 ((c.1).Budget)), (.slice m1 ((c.1).Keys).length n6)]) hST rfl rfl Tryz.sizeOf116 (by simp [Value.cells, Value.oneCell']) nb rfl (fun z6 hST => V (aF rfl) (aD (aG ?_))))
    replace hST := hST.sel (Db (Kb (Kr (Kr (Kr (Kr (Kb (Db St))))))))
    refine aC (aA (V (aB rfl) (V (eP Tryz.underlying22 rfl s8) (V (aP rfl rfl rfl) (V (aB rfl) (LJ c0 (fun p9 E W => ∃  (m3 : List (Nat × Obj)), ST false dW w W e9 ((b3, Obj.cells (#[(.string (((a.1).Owner).Name)), (.slice c2 (((a.1).Owner).Creds).length c8), (.slice c3 (((a.1).Owner).Acks).length c9), (.string (((a.1).Client).Name)), (.slice c4 (((a.1).Client).Creds).length d0), (.slice c5 (((a.1).Client).Acks).length d1), (.int .i64 (((a.1).Formula).Op)), (.int .i64 (((a.1).Formula).K)), (.string ((((a.1).Formula).Role).Owner)), (.string ((((a.1).Formula).Role).Word)), (.slice c6 (((a.1).Formula).Kids).length d2), (.int .i64 ((a.1).Plan)), (.int .i64 (((a.1).Rooms).at0)), (.int .i64 (((a.1).Rooms).at1)), (.int .i64 ((a.1).Timeout)), (.int .i64 ((a.1).Tries)), (.int .i64 ((a.1).Budget)), (.slice c7 ((a.1).Keys).length d3)] : Array Value) 116 (0, 0)) :: ((d4, Obj.cells ((C1 a3 J u.length U K x.length Y a4 M y.length Z N z.length a0 a5 a6 k.Owner k.Word Q B.length a1 a7 t.at0 t.at1 a8 a9 b0 T D.length a2).toArray : Array Value) 116 (0, 0)) :: (t8 ++ (n0 ++ m3)))) ∧ E 4 = (.pointer (some ⟨d4, 0, none⟩)) ∧ E 7 = v6 ∧ E 8 = q0 ∧ E 9 = (.pointer (some ⟨b3, 0, none⟩)) ∧ E 10 = (.bool a.2) ∧ E 12 = (.bool c.2) ∧ E 59 = (.bool p9)) 4 ?_ (fun p9 f6 k2 => ?_)))))))
    · rintro bq E W ⟨m3, hST, n8, u3, n9, o0, o1, o2, u4⟩ r0
      refine V (aB u4) (LJ r0 (fun p8 E W => ∃  (m4 : List (Nat × Obj)), ST false dW w W e9 ((b3, Obj.cells (#[(.string (((a.1).Owner).Name)), (.slice c2 (((a.1).Owner).Creds).length c8), (.slice c3 (((a.1).Owner).Acks).length c9), (.string (((a.1).Client).Name)), (.slice c4 (((a.1).Client).Creds).length d0), (.slice c5 (((a.1).Client).Acks).length d1), (.int .i64 (((a.1).Formula).Op)), (.int .i64 (((a.1).Formula).K)), (.string ((((a.1).Formula).Role).Owner)), (.string ((((a.1).Formula).Role).Word)), (.slice c6 (((a.1).Formula).Kids).length d2), (.int .i64 ((a.1).Plan)), (.int .i64 (((a.1).Rooms).at0)), (.int .i64 (((a.1).Rooms).at1)), (.int .i64 ((a.1).Timeout)), (.int .i64 ((a.1).Tries)), (.int .i64 ((a.1).Budget)), (.slice c7 ((a.1).Keys).length d3)] : Array Value) 116 (0, 0)) :: ((d4, Obj.cells ((C1 a3 J u.length U K x.length Y a4 M y.length Z N z.length a0 a5 a6 k.Owner k.Word Q B.length a1 a7 t.at0 t.at1 a8 a9 b0 T D.length a2).toArray : Array Value) 116 (0, 0)) :: (n0 ++ m4))) ∧ E 4 = (.pointer (some ⟨d4, 0, none⟩)) ∧ E 8 = q0 ∧ E 9 = (.pointer (some ⟨b3, 0, none⟩)) ∧ E 10 = (.bool a.2) ∧ E 12 = (.bool c.2) ∧ E 64 = (.bool p8)) 4 ?_ (fun p8 f5 k1 => ?_))
      · rintro br E W ⟨m4, hST, o3, u5, o4, o5, o6, u6⟩ r1
        refine V (aB u6) (LJ r1 (fun p7 E W => ∃  (m5 : List (Nat × Obj)), ST false dW w W e9 ((b3, Obj.cells (#[(.string (((a.1).Owner).Name)), (.slice c2 (((a.1).Owner).Creds).length c8), (.slice c3 (((a.1).Owner).Acks).length c9), (.string (((a.1).Client).Name)), (.slice c4 (((a.1).Client).Creds).length d0), (.slice c5 (((a.1).Client).Acks).length d1), (.int .i64 (((a.1).Formula).Op)), (.int .i64 (((a.1).Formula).K)), (.string ((((a.1).Formula).Role).Owner)), (.string ((((a.1).Formula).Role).Word)), (.slice c6 (((a.1).Formula).Kids).length d2), (.int .i64 ((a.1).Plan)), (.int .i64 (((a.1).Rooms).at0)), (.int .i64 (((a.1).Rooms).at1)), (.int .i64 ((a.1).Timeout)), (.int .i64 ((a.1).Tries)), (.int .i64 ((a.1).Budget)), (.slice c7 ((a.1).Keys).length d3)] : Array Value) 116 (0, 0)) :: ((d4, Obj.cells ((C1 a3 J u.length U K x.length Y a4 M y.length Z N z.length a0 a5 a6 k.Owner k.Word Q B.length a1 a7 t.at0 t.at1 a8 a9 b0 T D.length a2).toArray : Array Value) 116 (0, 0)) :: m5)) ∧ E 4 = (.pointer (some ⟨d4, 0, none⟩)) ∧ E 9 = (.pointer (some ⟨b3, 0, none⟩)) ∧ E 10 = (.bool a.2) ∧ E 12 = (.bool c.2) ∧ E 69 = (.bool p7)) 4 ?_ (fun p7 f4 k0 => ?_))
        · rintro bs E W ⟨m5, hST, u7, o7, o8, o9, u8⟩ r2
          refine V (aB u8) (LJ r2 (fun p6 E W => ∃  (m6 : List (Nat × Obj)), ST false dW w W e9 ((b3, Obj.cells (#[(.string (((a.1).Owner).Name)), (.slice c2 (((a.1).Owner).Creds).length c8), (.slice c3 (((a.1).Owner).Acks).length c9), (.string (((a.1).Client).Name)), (.slice c4 (((a.1).Client).Creds).length d0), (.slice c5 (((a.1).Client).Acks).length d1), (.int .i64 (((a.1).Formula).Op)), (.int .i64 (((a.1).Formula).K)), (.string ((((a.1).Formula).Role).Owner)), (.string ((((a.1).Formula).Role).Word)), (.slice c6 (((a.1).Formula).Kids).length d2), (.int .i64 ((a.1).Plan)), (.int .i64 (((a.1).Rooms).at0)), (.int .i64 (((a.1).Rooms).at1)), (.int .i64 ((a.1).Timeout)), (.int .i64 ((a.1).Tries)), (.int .i64 ((a.1).Budget)), (.slice c7 ((a.1).Keys).length d3)] : Array Value) 116 (0, 0)) :: m6) ∧ E 9 = (.pointer (some ⟨b3, 0, none⟩)) ∧ E 10 = (.bool a.2) ∧ E 12 = (.bool c.2) ∧ E 74 = (.bool p6)) 4 ?_ (fun p6 d8 j9 => ?_))
          · rintro bt E W ⟨m6, hST, p0, u9, p1, v0⟩ r3
            refine V (aB v0) (LJ r3 (fun p5 E W => ∃  (m7 : List (Nat × Obj)), ST false dW w W e9 ((b3, Obj.cells (#[(.string (((a.1).Owner).Name)), (.slice c2 (((a.1).Owner).Creds).length c8), (.slice c3 (((a.1).Owner).Acks).length c9), (.string (((a.1).Client).Name)), (.slice c4 (((a.1).Client).Creds).length d0), (.slice c5 (((a.1).Client).Acks).length d1), (.int .i64 (((a.1).Formula).Op)), (.int .i64 (((a.1).Formula).K)), (.string ((((a.1).Formula).Role).Owner)), (.string ((((a.1).Formula).Role).Word)), (.slice c6 (((a.1).Formula).Kids).length d2), (.int .i64 ((a.1).Plan)), (.int .i64 (((a.1).Rooms).at0)), (.int .i64 (((a.1).Rooms).at1)), (.int .i64 ((a.1).Timeout)), (.int .i64 ((a.1).Tries)), (.int .i64 ((a.1).Budget)), (.slice c7 ((a.1).Keys).length d3)] : Array Value) 116 (0, 0)) :: m7) ∧ E 9 = (.pointer (some ⟨b3, 0, none⟩)) ∧ E 12 = (.bool c.2) ∧ E 77 = (.bool p5)) 2 ?_ (fun p5 f3 j8 => ?_))
            · rintro bu E W ⟨m7, hST, p2, v1, v2⟩ r4
              refine V (aB v2) (LJ r4 (fun p4 E W => ∃  (m8 : List (Nat × Obj)), ST false dW w W e9 ((b3, Obj.cells (#[(.string (((a.1).Owner).Name)), (.slice c2 (((a.1).Owner).Creds).length c8), (.slice c3 (((a.1).Owner).Acks).length c9), (.string (((a.1).Client).Name)), (.slice c4 (((a.1).Client).Creds).length d0), (.slice c5 (((a.1).Client).Acks).length d1), (.int .i64 (((a.1).Formula).Op)), (.int .i64 (((a.1).Formula).K)), (.string ((((a.1).Formula).Role).Owner)), (.string ((((a.1).Formula).Role).Word)), (.slice c6 (((a.1).Formula).Kids).length d2), (.int .i64 ((a.1).Plan)), (.int .i64 (((a.1).Rooms).at0)), (.int .i64 (((a.1).Rooms).at1)), (.int .i64 ((a.1).Timeout)), (.int .i64 ((a.1).Tries)), (.int .i64 ((a.1).Budget)), (.slice c7 ((a.1).Keys).length d3)] : Array Value) 116 (0, 0)) :: m8) ∧ E 9 = (.pointer (some ⟨b3, 0, none⟩)) ∧ E 81 = (.bool p4)) 3 ?_ (fun p4 f2 j7 => ?_))
              · rintro bv E W ⟨m8, hST, v3, v4⟩ r5
                refine V (aB v4) (LJ r5 (fun p3 E W => ∃  (m9 : List (Nat × Obj)), ST false dW w W e9 m9 ∧ E 85 = (.bool p3)) 3 ?_ (fun p3 d7 j6 => ?_))
                · rintro bw E W ⟨m9, hST, v5⟩ r6
                  refine V (aF v5) (aD (aG (aS ?_)))
                  have hx := sj r6; subst hx
                  exact rP hST
                refine bC d7 (fun d6 d7 => ?_) (fun d6 d7 => ?_)
                · refine Vg rfl (cB d6) (aI v3 (aK hST.has Mh [(.string (((a.1).Owner).Name)), (.slice c2 (((a.1).Owner).Creds).length c8), (.slice c3 (((a.1).Owner).Acks).length c9), (.string (((a.1).Client).Name)), (.slice c4 (((a.1).Client).Creds).length d0), (.slice c5 (((a.1).Client).Acks).length d1), (.int .i64 (((a.1).Formula).Op)), (.int .i64 (((a.1).Formula).K)), (.string ((((a.1).Formula).Role).Owner)), (.string ((((a.1).Formula).Role).Word)), (.slice c6 (((a.1).Formula).Kids).length d2), (.int .i64 ((a.1).Plan)), (.int .i64 (((a.1).Rooms).at0)), (.int .i64 (((a.1).Rooms).at1)), (.int .i64 ((a.1).Timeout)), (.int .i64 ((a.1).Tries)), (.int .i64 ((a.1).Budget)), (.slice c7 ((a.1).Keys).length d3)] rfl Tryz.isAgg116 Tryz.sizeOf116)) (bS d7 fun ar s1 d7 => np rfl (cB d6) (Eg hST Tryz.call78 ((ud a.1 (.slice c2 (((a.1).Owner).Creds).length c8) (.slice c3 (((a.1).Owner).Acks).length c9) (.slice c4 (((a.1).Client).Creds).length d0) (.slice c5 (((a.1).Client).Acks).length d1) (.slice c6 (((a.1).Formula).Kids).length d2) (.slice c7 ((a.1).Keys).length d3) _ _ (k5.mono bD.mono (H.trans hST.sub_hp)) (k6.mono dV.mono (H.trans hST.sub_hp)) (k7.mono bD.mono (H.trans hST.sub_hp)) (k8.mono dV.mono (H.trans hST.sub_hp)) (k9.mono aQ.mono (H.trans hST.sub_hp)) (l0.mono ns.mono (H.trans hST.sub_hp)) s1)) (fun z7 hST => V (cD (cB d6) rfl) ?_)))
                  have hx := sj d7; subst hx
                  exact j6 _ _ ⟨_, (hST.sel (Db St)), rfl⟩
                refine Vn rfl (cB d6) (Vn rfl (cB d6) (V (cI (cB d6) rfl) ?_))
                have hx := sj d7; subst hx
                exact j6 _ _ ⟨_, (hST.sel (Db St)), rfl⟩
              refine bC f2 (fun d5 f2 => ?_) (fun d5 f2 => ?_)
              · refine Vg rfl (cB d5) (aB v1) (Vg rfl (cB d5) (iS rfl) (V (cD (cB d5) rfl) ?_))
                have hx := sj f2; subst hx
                exact j7 _ _ ⟨_, (hST.sel St), p2, rfl⟩
              refine Vn rfl (cB d5) (Vn rfl (cB d5) (V (cI (cB d5) rfl) ?_))
              have hx := sj f2; subst hx
              exact j7 _ _ ⟨_, (hST.sel St), p2, rfl⟩
            refine bC f3 (fun f0 f3 => ?_) (fun f0 f3 => ?_)
            · refine Vg rfl (cB f0) (aB u9) (V (cD (cB f0) rfl) ?_)
              have hx := sj f3; subst hx
              exact j8 _ _ ⟨_, (hST.sel St), p0, p1, rfl⟩
            refine Vn rfl (cB f0) (V (cI (cB f0) rfl) ?_)
            have hx := sj f3; subst hx
            exact j8 _ _ ⟨_, (hST.sel St), p0, p1, rfl⟩
          refine bC d8 (fun b9 d8 => ?_) (fun b9 d8 => ?_)
          · refine Vg rfl (cB b9) (aI u7 (aK hST.has (Mt Mh) (C1 a3 J u.length U K x.length Y a4 M y.length Z N z.length a0 a5 a6 k.Owner k.Word Q B.length a1 a7 t.at0 t.at1 a8 a9 b0 T D.length a2) rfl Tryz.isAgg116 Tryz.sizeOf116)) (bS d8 fun au s2 d8 => np rfl (cB b9) (Eg hST Tryz.call78 ((ud ((⟨(⟨a3, u, x⟩ : bT), (⟨a4, y, z⟩ : bT), (⟨a5, a6, k, B⟩ : Formula), a7, t, a8, a9, b0, D⟩ : eW)) (.slice J u.length U) (.slice K x.length Y) (.slice M y.length Z) (.slice N z.length a0) (.slice Q B.length a1) (.slice T D.length a2) _ _ (e2.mono bD.mono ((((i.trans j).trans G).trans H).trans hST.sub_hp)) (e3.mono dV.mono ((((i.trans j).trans G).trans H).trans hST.sub_hp)) (e4.mono bD.mono ((((i.trans j).trans G).trans H).trans hST.sub_hp)) (e5.mono dV.mono ((((i.trans j).trans G).trans H).trans hST.sub_hp)) (e6.mono aQ.mono ((((i.trans j).trans G).trans H).trans hST.sub_hp)) (e7.mono ns.mono ((((i.trans j).trans G).trans H).trans hST.sub_hp)) s2)) (fun z8 hST => Vg rfl (cB b9) (iS rfl) (V (cD (cB b9) rfl) ?_))))
            have hx := sj d8; subst hx
            exact j9 _ _ ⟨_, (hST.sel (Kb (Db St))), o7, o8, o9, rfl⟩
          refine Vn rfl (cB b9) (Vn rfl (cB b9) (Vn rfl (cB b9) (V (cI (cB b9) rfl) ?_)))
          have hx := sj d8; subst hx
          exact j9 _ _ ⟨_, (hST.sel (Kb (Db St))), o7, o8, o9, rfl⟩
        refine bC f4 (fun b7 f4 => ?_) (fun b7 f4 => ?_)
        · refine Vg rfl (cB b7) (aB u5) (Vg rfl (cB b7) (eP Tryz.underlying22 rfl t1) (Vg rfl (cB b7) (aP rfl rfl rfl) (V (cD (cB b7) rfl) ?_)))
          have hx := sj f4; subst hx
          exact k0 _ _ ⟨_, (hST.sel (Kb (Kb (Dr St)))), o3, o4, o5, o6, rfl⟩
        refine Vn rfl (cB b7) (Vn rfl (cB b7) (Vn rfl (cB b7) (V (cI (cB b7) rfl) ?_)))
        have hx := sj f4; subst hx
        exact k0 _ _ ⟨_, (hST.sel (Kb (Kb (Dr St)))), o3, o4, o5, o6, rfl⟩
      refine bC f5 (fun b6 f5 => ?_) (fun b6 f5 => ?_)
      · refine Vg rfl (cB b6) (aB u3) (Vg rfl (cB b6) (eP Tryz.underlying22 rfl t0) (Vg rfl (cB b6) (aP rfl rfl rfl) (V (cD (cB b6) rfl) ?_)))
        have hx := sj f5; subst hx
        exact k1 _ _ ⟨_, (hST.sel (Kb (Kb (Dr St)))), n8, n9, o0, o1, o2, rfl⟩
      refine Vn rfl (cB b6) (Vn rfl (cB b6) (Vn rfl (cB b6) (V (cI (cB b6) rfl) ?_)))
      have hx := sj f5; subst hx
      exact k1 _ _ ⟨_, (hST.sel (Kb (Kb (Dr St)))), n8, n9, o0, o1, o2, rfl⟩
    refine bC f6 (fun b5 f6 => ?_) (fun b5 f6 => ?_)
    · refine Vg rfl (cB b5) (aB rfl) (Vg rfl (cB b5) (eP Tryz.underlying22 rfl s9) (Vg rfl (cB b5) (aP rfl rfl rfl) (V (cD (cB b5) rfl) ?_)))
      have hx := sj f6; subst hx
      exact k2 _ _ ⟨_, (hST.sel (Kb (Sb (Pr (Pr (Pr (Pr Pz)))) (Kr (Kr (Dr (Dr St))))))), e8, rfl, rfl, rfl, rfl, rfl, rfl⟩
    refine Vn rfl (cB b5) (Vn rfl (cB b5) (Vn rfl (cB b5) (V (cI (cB b5) rfl) ?_)))
    have hx := sj f6; subst hx
    exact k2 _ _ ⟨_, (hST.sel (Kb (Sb (Pr (Pr (Pr (Pr Pz)))) (Kr (Kr (Dr (Dr St))))))), e8, rfl, rfl, rfl, rfl, rfl, rfl⟩
  refine rx 4 13 rfl rfl (by kernel_rfl) (.inl rfl) (.inl rfl) rfl rfl (by decide) (by decide) ?_ ?_
  · refine bS I fun e1 s3 I => ?_
    have hsz := hST.size
    refine vz (args := [(.agg (aJ wv).toArray), (.agg (aO K7).toArray)]) (caps := #[]) [] _ hST (List.Perm.refl _) rfl Tryz.call172 (by exact no rfl rfl) (fun hH hN hsb hmm => dO.weak (lh wv K7 _ _ ⟨hH, hN, hsb⟩  s3)) (fun z9 ba cu y1 hST c1 hl655 q5 => ?_)
    obtain ⟨cm, h7, rfl, i2⟩ := q5
    replace h7 := h7.symm; subst h7
    replace hST := hST.perm Tn
    have hS0 := hST.has.selS c1 (Kb (Kb Sn))
    refine ⟨hS0, ?_⟩
    obtain ⟨d9, e0, rfl⟩ := i2.form
    refine X 5 rfl hS0 (dX (qs := #[(0, (.string K4)), (1, (.slice d9 e1.length e0))]) (v := (.agg #[(.string K4), (.slice d9 e1.length e0), (.slice none 0 0)])) (iK rfl rfl) (cV Tryz.zeroValue110 Tryz.underlying110 (vF _ Tryz.underlying110) (by kernel_rfl))) (rx 10 13 rfl rfl (by kernel_rfl) (.inl rfl) (.inl rfl) rfl rfl (by decide) (by decide) ?_ ?_)
    · refine bS I fun g9 s4 I => ?_
      have hsz := hST.size
      refine vz (args := [(.agg (aJ qN).toArray), (.agg (aO K9).toArray)]) (caps := #[]) [] _ hST (List.Perm.refl _) rfl Tryz.call172 (by exact no rfl rfl) (fun hH hN hsb hmm => dO.weak (lh qN K9 _ _ ⟨hH, hN, hsb⟩  s4)) (fun aa bb v7 y2 hST f1 hl669 q6 => ?_)
      obtain ⟨cn, h8, rfl, l1⟩ := q6
      replace h8 := h8.symm; subst h8
      replace hST := hST.perm Tn
      have hS0 := hST.has.selS (c1.trans f1) (Kb (Kb Sn))
      refine ⟨hS0, ?_⟩
      obtain ⟨f7, g1, rfl⟩ := l1.form
      refine X 11 rfl hS0 (dX (qs := #[(0, (.string K2)), (1, (.slice f7 g9.length g1))]) (v := (.agg #[(.string K2), (.slice f7 g9.length g1), (.slice none 0 0)])) (iK rfl rfl) (cV Tryz.zeroValue110 Tryz.underlying110 (vF _ Tryz.underlying110) (by kernel_rfl))) (X 12 rfl hS0 (dX (qs := #[(0, (.agg #[(.string K4), (.slice d9 e1.length e0), (.slice none 0 0)])), (1, (.agg #[(.string K2), (.slice f7 g9.length g1), (.slice none 0 0)]))]) (v := (.agg (Ep d9 e1.length e0 f7 g9.length g1).toArray)) (iK rfl rfl) (cV Tryz.zeroValue116 Tryz.underlying116 (AJ _ Tryz.underlying116) (by kernel_rfl))) (XE 13 rfl (cA hST Tryz.zeroValue116 (fun ab t9 hST => ?_))))
      have hS0 := hST.has.selS (c1.trans f1) (Db (Kb (Kb Sn)))
      refine ⟨hS0, ?_⟩
      have hx := sj I; subst hx
      refine kL (by kernel_rfl) (g8 _ _ ⟨t9, (.slice d9 e1.length e0), (.slice none 0 0), (.slice f7 g9.length g1), (.slice none 0 0), (.slice none 0 0), (.slice none 0 0), (.slice none 0 0), (.slice none 0 0), (.slice none 0 0), (.slice none 0 0), (.slice none 0 0), (.slice none 0 0), v7, _, (c1.trans f1), (hST.sel St), rfl, rfl, rfl, (i2.mono bD.mono f1), (Sl.nil _ _ _), (Fr.nil _), l1, (Sl.nil _ _ _), (Fr.nil _), (Sl.nil _ _ _), (Fr.nil _), (Sl.nil _ _ _), (Fr.nil _), (Sl.nil _ _ _), (Fr.nil _), (Sl.nil _ _ _), (Fr.nil _), (Sl.nil _ _ _), (Fr.nil _), (Sl.nil _ _ _), (Fr.nil _), (Sl.nil _ _ _), (Fr.nil _), (Sl.nil _ _ _), (Fr.nil _)⟩)
    · refine cA hST Tryz.zeroValue116 (fun ac u0 hST => ?_)
      have hS0 := hST.has.selS c1 (Db (Kb (Kb Sn)))
      refine ⟨hS0, (bS I fun h0 s5 I => ?_)⟩
      have hsz := hST.size
      refine XE 10 rfl (je hST (List.Perm.refl _) Tryz.call172 (fun hH hN hsb hmm => dO.weak (lh qN K9 _ _ ⟨hH, hN, hsb⟩  s5)) (fun ad bc v8 y3 hST g5 hl687 q7 => ?_) (L0 := []))
      obtain ⟨co, h9, rfl, l2⟩ := q7
      replace h9 := h9.symm; subst h9
      replace hST := hST.perm Tn
      have hS0 := hST.has.selS (c1.trans g5) (Db (Kb (Kb Sn)))
      refine ⟨hS0, ?_⟩
      obtain ⟨f8, g2, rfl⟩ := l2.form
      refine X 11 rfl hS0 (dX (qs := #[(0, (.string K2)), (1, (.slice f8 h0.length g2))]) (v := (.agg #[(.string K2), (.slice f8 h0.length g2), (.slice none 0 0)])) (iK rfl rfl) (cV Tryz.zeroValue110 Tryz.underlying110 (vF _ Tryz.underlying110) (by kernel_rfl))) (X 12 rfl hS0 (dX (qs := #[(0, (.agg #[(.string K4), (.slice d9 e1.length e0), (.slice none 0 0)])), (1, (.agg #[(.string K2), (.slice f8 h0.length g2), (.slice none 0 0)]))]) (v := (.agg (Ep d9 e1.length e0 f8 h0.length g2).toArray)) (iK rfl rfl) (cV Tryz.zeroValue116 Tryz.underlying116 (AJ _ Tryz.underlying116) (by kernel_rfl))) ?_)
      have hx := sj I; subst hx
      refine kL (by kernel_rfl) (g8 _ _ ⟨u0, (.slice d9 e1.length e0), (.slice none 0 0), (.slice f8 h0.length g2), (.slice none 0 0), (.slice none 0 0), (.slice none 0 0), (.slice none 0 0), (.slice none 0 0), (.slice none 0 0), (.slice none 0 0), (.slice none 0 0), (.slice none 0 0), v8, _, (c1.trans g5), (hST.sel St), rfl, rfl, rfl, (i2.mono bD.mono g5), (Sl.nil _ _ _), (Fr.nil _), l2, (Sl.nil _ _ _), (Fr.nil _), (Sl.nil _ _ _), (Fr.nil _), (Sl.nil _ _ _), (Fr.nil _), (Sl.nil _ _ _), (Fr.nil _), (Sl.nil _ _ _), (Fr.nil _), (Sl.nil _ _ _), (Fr.nil _), (Sl.nil _ _ _), (Fr.nil _), (Sl.nil _ _ _), (Fr.nil _), (Sl.nil _ _ _), (Fr.nil _)⟩)
  · refine cA hST Tryz.zeroValue116 (fun ae u1 hST => ?_)
    have hS0 := hST.has.sel (Db (Kb (Kb Sn)))
    refine ⟨hS0, (bS I fun h1 s6 I => ?_)⟩
    have hsz := hST.size
    refine XE 4 rfl (je hST (List.Perm.refl _) Tryz.call172 (fun hH hN hsb hmm => dO.weak (lh wv K7 _ _ ⟨hH, hN, hsb⟩  s6)) (fun af bd cv y4 hST g6 hl703 q8 => ?_) (L0 := []))
    obtain ⟨cp, i0, rfl, l3⟩ := q8
    replace i0 := i0.symm; subst i0
    replace hST := hST.perm Tn
    have hS0 := hST.has.selS g6 (Db (Kb (Kb Sn)))
    refine ⟨hS0, ?_⟩
    obtain ⟨f9, g3, rfl⟩ := l3.form
    refine X 5 rfl hS0 (dX (qs := #[(0, (.string K4)), (1, (.slice f9 h1.length g3))]) (v := (.agg #[(.string K4), (.slice f9 h1.length g3), (.slice none 0 0)])) (iK rfl rfl) (cV Tryz.zeroValue110 Tryz.underlying110 (vF _ Tryz.underlying110) (by kernel_rfl))) (bS I fun h2 s7 I => ?_)
    have hsz := hST.size
    refine XE 10 rfl (je hST (List.Perm.refl _) Tryz.call172 (fun hH hN hsb hmm => dO.weak (lh qN K9 _ _ ⟨hH, hN, hsb⟩  s7)) (fun ag be v9 y5 hST g7 hl717 q9 => ?_) (L0 := []))
    obtain ⟨cq, i1, rfl, l4⟩ := q9
    replace i1 := i1.symm; subst i1
    replace hST := hST.perm Tn
    have hS0 := hST.has.selS (g6.trans g7) (Db (Kb (Kb Sn)))
    refine ⟨hS0, ?_⟩
    obtain ⟨g0, g4, rfl⟩ := l4.form
    refine X 11 rfl hS0 (dX (qs := #[(0, (.string K2)), (1, (.slice g0 h2.length g4))]) (v := (.agg #[(.string K2), (.slice g0 h2.length g4), (.slice none 0 0)])) (iK rfl rfl) (cV Tryz.zeroValue110 Tryz.underlying110 (vF _ Tryz.underlying110) (by kernel_rfl))) (X 12 rfl hS0 (dX (qs := #[(0, (.agg #[(.string K4), (.slice f9 h1.length g3), (.slice none 0 0)])), (1, (.agg #[(.string K2), (.slice g0 h2.length g4), (.slice none 0 0)]))]) (v := (.agg (Ep f9 h1.length g3 g0 h2.length g4).toArray)) (iK rfl rfl) (cV Tryz.zeroValue116 Tryz.underlying116 (AJ _ Tryz.underlying116) (by kernel_rfl))) ?_)
    have hx := sj I; subst hx
    refine kL (by kernel_rfl) (g8 _ _ ⟨u1, (.slice f9 h1.length g3), (.slice none 0 0), (.slice g0 h2.length g4), (.slice none 0 0), (.slice none 0 0), (.slice none 0 0), (.slice none 0 0), (.slice none 0 0), (.slice none 0 0), (.slice none 0 0), (.slice none 0 0), (.slice none 0 0), v9, _, (g6.trans g7), (hST.sel St), rfl, rfl, rfl, (l3.mono bD.mono g7), (Sl.nil _ _ _), (Fr.nil _), l4, (Sl.nil _ _ _), (Fr.nil _), (Sl.nil _ _ _), (Fr.nil _), (Sl.nil _ _ _), (Fr.nil _), (Sl.nil _ _ _), (Fr.nil _), (Sl.nil _ _ _), (Fr.nil _), (Sl.nil _ _ _), (Fr.nil _), (Sl.nil _ _ _), (Fr.nil _), (Sl.nil _ _ _), (Fr.nil _), (Sl.nil _ _ _), (Fr.nil _)⟩)
theorem ta (k : Value) (u : List Cred) (r : Int) (w : World) (j : Sl (Pl aJ) 9 (hp w) k u) (hm : na u = some r) :
    bW true Tryz.prog 21 [k] w (.int .i64 r) := by
  have hST := ST.start (dd := true) w
  unfold na at hm
  refine cF 54 Tryz.func21 rfl (aC (aA (V (aF rfl) (aD (aG (aC (aA (V (aF rfl) (aD (aG (aC (aC (aA (V (aB rfl) ?_))))))))))))))
  refine V (eH Tryz.underlying22 rfl j) (V (aB rfl) (aD (aG (dP (fun i E W => ∃ (g : Int) (t : List (Nat × Obj)), (E 8 = .int .i64 (i : Nat) ∧ E 7 = .int .i64 (u.length : Nat)) ∧ ST true dW w W (hp w) t ∧ E 3 = (.int .i64 g) ∧ E 6 = k ∧ jk (u.drop i) g = some r) u.length j.len ⟨0, _, ⟨rfl, rfl⟩, (hST.sel St), rfl, rfl, hm⟩ (by decide) (by decide) (by decide) (fun _ _ _ h => by obtain ⟨_, _, eIN, _⟩ := h; exact eIN) ?_ ?_))))
  · rintro I E W z ⟨g, t, ⟨eI, eN⟩, hST, x, y, c⟩
    obtain ⟨a, J, G, D, H⟩ := dB z
    rw [G] at c
    rw [jk] at c
    refine aU (aC (aA (VQ (lm (enc := aJ) (i := (I : Int)) (x0 := a) Tryz.underlying22 Tryz.sizeOf53 y eI j (Int.natCast_nonneg _) D) (fun Q B => V (aI rfl (bN hST.has B Tryz.isAgg53 Tryz.sizeOf53)) (VE (cA hST Tryz.zeroValue53 (fun K N hST => VO (aX (.agg (aJ a).toArray) ((aJ a).toArray) hST rfl rfl Tryz.sizeOf53 (gC a) nb rfl (fun M hST => aD (aG (aA (V (aB x) (V (aM lR rfl) (V (aM ne rfl) (V (aI rfl (aN hST.has Mh rfl Tryz.isAgg9)) (V (iO Tryz.underlying9 rfl) ?_))))))))))))))))
    refine V (aP rfl rfl rfl) (V (aM lR rfl) (V (aM oa rfl) (V (aI rfl (aN hST.has Mh rfl Tryz.isAgg9)) (V (iO Tryz.underlying9 rfl) (V (aP rfl rfl rfl) (V (aM rM rfl) (V (aI rfl (aN hST.has Mh rfl Tryz.isAgg9)) (V (iO Tryz.underlying9 rfl) (V (aP rfl rfl rfl) (V (aM jb rfl) (V (aM ne rfl) (V (aI rfl (aN hST.has Mh rfl Tryz.isAgg9)) (V (iO Tryz.underlying9 rfl) (V (aP rfl rfl rfl) ?_))))))))))))))
    refine V (aM jb rfl) (V (aM oa rfl) (V (aI rfl (aN hST.has Mh rfl Tryz.isAgg9)) (V (iO Tryz.underlying9 rfl) (V (aP rfl rfl rfl) (V (aM oP rfl) (V (aM ne rfl) (V (aI rfl (aN hST.has Mh rfl Tryz.isAgg9)) (V (iO Tryz.underlying9 rfl) (V (aP rfl rfl rfl) (V (aM oP rfl) (V (aM oa rfl) (V (aI rfl (aN hST.has Mh rfl Tryz.isAgg9)) (V (iO Tryz.underlying9 rfl) (V (aP rfl rfl rfl) ?_))))))))))))))
    refine V (aM pC rfl) (V (aI rfl (aN hST.has Mh rfl Tryz.isAgg9)) (V (iO Tryz.underlying9 rfl) (V (aP rfl rfl rfl) (V (aP rfl rfl rfl) (V (aF rfl) (aD (cM (aG ?_))))))))
    replace hST := hST.sel (Db St)
    exact ⟨eI, ((IntKind.i64.wrap (g + ((IntKind.i64.wrap (((IntKind.i64.wrap (((IntKind.i64.wrap (((IntKind.i64.wrap (((IntKind.i64.wrap (((IntKind.i64.wrap (((IntKind.i64.wrap (((IntKind.i64.wrap (20 + ((a.Head.Owner.size : Int))))) + ((a.Head.Word.size : Int))))) + ((a.Who.size : Int))))) + ((a.B.Owner.size : Int))))) + ((a.B.Word.size : Int))))) + ((a.C.Owner.size : Int))))) + ((a.C.Word.size : Int))))) + ((a.Word2.size : Int)))))))), _, ⟨rfl, eN⟩, (hST.sel St), rfl, y, (by rw [H]; exact c)⟩
  rintro E W ⟨g, t, ⟨eI, eN⟩, hST, x, y, c⟩
  rw [List.drop_length] at c
  rw [jk] at c
  refine aG (aC (aA (V (aB x) (V (aF rfl) (aD (aG (aS ?_)))))))
  have hx := sj c; subst hx
  exact rP hST
theorem og (H : Value) (Q : List Key) (u : Value) (J : List Signed) (r : Int) (w : World) (B : Sl iN 2 (hp w) H Q) (D : Sl kV 10 (hp w) u J) (hm : mQ Q J = some r) :
    bW true Tryz.prog 35 [H, u] w (.int .i64 r) := by
  have hST := ST.start (dd := true) w
  unfold mQ at hm
  refine cF 45 Tryz.func35 rfl (aC (aA (V (aF rfl) (aD (aG (aC (aA (V (aF rfl) (aD (aG (aC (aC (aA (V (aB rfl) ?_))))))))))))))
  refine V (eH Tryz.underlying49 rfl B) (V (aB rfl) (aD (aG (dP (fun i E W => ∃ (t : Int) (N : List (Nat × Obj)), (E 12 = .int .i64 (i : Nat) ∧ E 11 = .int .i64 (Q.length : Nat)) ∧ ST true dW w W (hp w) N ∧ E 1 = u ∧ E 5 = (.int .i64 t) ∧ E 10 = H ∧ iw J (Q.drop i) t = some r) Q.length B.len ⟨0, _, ⟨rfl, rfl⟩, (hST.sel St), rfl, rfl, rfl, hm⟩ (by decide) (by decide) (by decide) (fun _ _ _ h => by obtain ⟨_, _, eIN, _⟩ := h; exact eIN) ?_ ?_))))
  · rintro c3 E W b5 ⟨t, N, ⟨eI, eN⟩, hST, U, Y, Z, g⟩
    obtain ⟨k, d4, b9, b7, c0⟩ := dB b5
    rw [b9] at g
    rw [iw] at g
    refine aU (aC (aA (VQ (fN (i := (c3 : Int)) (x0 := k) iN.out Tryz.underlying49 Tryz.sizeOf196 Z eI B (Int.natCast_nonneg _) b7) (fun d8 ⟨_, ⟨d9, rfl, a2⟩, b6⟩ => V (aI rfl (bN hST.has b6 Tryz.isAgg196 Tryz.sizeOf196)) (VE (cA hST Tryz.zeroValue196 (fun d5 d7 hST => ?_)))))))
    obtain ⟨b1, b2, rfl⟩ := a2.form
    refine VO (aX (.agg #[(.string k.Who), (.slice b1 k.Key.length b2)]) (#[(.string k.Who), (.slice b1 k.Key.length b2)]) hST rfl rfl Tryz.sizeOf196 (by simp [Value.cells, Value.oneCell']) nb rfl (fun d6 hST => aD (aG (aA (V (aB Y) (V (aM D1 rfl) (V (aI rfl (aN hST.has Mh rfl Tryz.isAgg9)) (V (iO Tryz.underlying9 rfl) (V (aP rfl rfl rfl) (V (aM DJ rfl) (V (aI rfl (aN hST.has Mh rfl Tryz.isAgg54)) (V (eH Tryz.underlying54 rfl a2) (V (aP rfl rfl rfl) (V (aP rfl rfl rfl) (V (aF rfl) ?_)))))))))))))))
    refine aD (cM (aG ?_))
    replace hST := hST.sel (Db St)
    exact ⟨eI, ((IntKind.i64.wrap (t + ((IntKind.i64.wrap (((IntKind.i64.wrap (10 + ((k.Who.size : Int))))) + ((k.Key.length : Int)))))))), _, ⟨rfl, eN⟩, (hST.sel St), U, rfl, Z, (by rw [c0]; exact g)⟩
  rintro E W ⟨t, N, ⟨eI, eN⟩, hST, U, Y, Z, g⟩
  rw [List.drop_length] at g
  rw [iw] at g
  refine aG (aC (aC (aA (V (aB U) (V (eH Tryz.underlying50 rfl D) (V (aB rfl) (aD (aG (CJ g (fun G E W => ∃  (M : List (Nat × Obj)), ST true dW w W (hp w) M ∧ E 5 = (.int .i64 G)) (fun G a5 => ?_) ?_)))))))))
  · refine dP (fun i E W => ∃ (j : Int) (x : List (Nat × Obj)), (E 29 = .int .i64 (i : Nat) ∧ E 28 = .int .i64 (J.length : Nat)) ∧ ST true dW w W (hp w) x ∧ E 5 = (.int .i64 j) ∧ E 27 = u ∧ jl (J.drop i) j = some G) J.length D.len ⟨t, _, ⟨rfl, rfl⟩, (hST.sel St), Y, rfl, a5⟩ (by decide) (by decide) (by decide) (fun _ _ _ h => by obtain ⟨_, _, eIN, _⟩ := h; exact eIN) ?_ ?_
    · rintro c1 E W a3 ⟨j, x, ⟨eI, eN⟩, hST, y, z, c⟩
      obtain ⟨a, c4, a9, a8, b0⟩ := dB a3
      rw [a9] at c
      rw [jl] at c
      refine aU (aC (aA (VQ (fN (i := (c1 : Int)) (x0 := a) kV.out Tryz.underlying50 Tryz.sizeOf56 z eI D (Int.natCast_nonneg _) a8) (fun d0 ⟨_, ⟨d1, rfl, I⟩, a6⟩ => V (aI rfl (bN hST.has a6 Tryz.isAgg56 Tryz.sizeOf56)) (VE (cA hST Tryz.zeroValue56 (fun c5 c9 hST => ?_)))))))
      obtain ⟨K, T, rfl⟩ := I.form
      refine VO (aX (.agg (C4 a.Cred.Kind a.Cred.Head.Owner a.Cred.Head.Word a.Cred.Who a.Cred.B.Owner a.Cred.B.Word a.Cred.C.Owner a.Cred.C.Word a.Cred.Word2 K a.Tag.length T).toArray) ((C4 a.Cred.Kind a.Cred.Head.Owner a.Cred.Head.Word a.Cred.Who a.Cred.B.Owner a.Cred.B.Word a.Cred.C.Owner a.Cred.C.Word a.Cred.Word2 K a.Tag.length T).toArray) hST rfl rfl Tryz.sizeOf56 (by simp [Value.cells, Value.oneCell']) nb rfl (fun c6 hST => aD (aG ?_)))
      replace hST := hST.drew
      have hS0 := hST.has.sel (Kb Sn)
      refine cU hS0 bO (X 0 rfl hS0 (aB y) (X 1 rfl hS0 (aM rK rfl) (XH 2 rfl hS0 (fun _ hS => aI rfl (aK hS Mh (aJ a.Cred) rfl Tryz.isAgg53 Tryz.sizeOf53)) (X 5 rfl hS0 (aM Ej rfl) (XH 6 rfl hS0 (fun _ hS => aI rfl (aN hS Mh rfl Tryz.isAgg54)) (X 7 rfl hS0 (eH Tryz.underlying54 rfl I) (XE 3 rfl (bU (qs := #[(0, (.agg (aJ a.Cred).toArray))]) (cs := (aJ a.Cred).toArray) hST (fH rfl) (eF [(.agg (aJ a.Cred).toArray)] Tryz.underlying22 Tryz.sizeOf53 Tryz.zeroValue53 (by decide) rfl (by intro v hv; simp only [List.mem_cons, List.not_mem_nil, or_false] at hv; rcases hv with rfl <;> rfl) rfl rfl) (fun c7 b3 hST => ?_)))))))))
      have hS0 := hST.has.sel (Db (Kb Sn))
      refine ⟨hS0, (bS c fun c2 a7 c => XE 4 rfl (Eg hST Tryz.call21 ((ta (.slice (some ⟨b3, 0, none⟩) 1 1) ([a.Cred]) _ _ (Sl.lit (enc := aJ) (l := [a.Cred]) bV rfl nb rfl (hST.at_ Mh)) a7)) (fun c8 hST => ?_)))⟩
      have hS0 := hST.has.sel (Db (Kb Sn))
      refine ⟨hS0, (X 8 rfl hS0 (aP rfl rfl rfl) (X 9 rfl hS0 (aP rfl rfl rfl) (X 10 rfl hS0 (aF rfl) (dC (by kernel_rfl) (cM (aG ?_))))))⟩
      replace hST := hST.sel (Db (Db St))
      exact ⟨eI, ((IntKind.i64.wrap (j + ((IntKind.i64.wrap (c2 + ((a.Tag.length : Int)))))))), _, ⟨rfl, eN⟩, (hST.sel St), rfl, z, (by rw [b0]; exact c)⟩
    rintro E W ⟨j, x, ⟨eI, eN⟩, hST, y, z, c⟩
    rw [List.drop_length] at c
    rw [jl] at c
    refine aG ?_
    have hx := sj c; subst hx
    exact ⟨_, (hST.sel St), y⟩
  rintro d3 E W ⟨M, hST, b4⟩ a4
  refine aC (aA (V (aB b4) (V (aF rfl) (aD (aG (aS ?_))))))
  have hx := sj a4; subst hx
  exact rP hST
theorem tH (I : (List Formula) → Option Int) (N : ∀ (j : Value) (u : List Formula) (r : Int) (w : World) (t : Sl aH 5 (hp w) j u), I u = some r → bW false Tryz.prog 173 [j] w (.int .i64 r)) (j : Value) (u : List Formula) (r : Int) (w : World) (t : Sl aH 5 (hp w) j u) (hm : lM I u = some r) :
    bW false Tryz.prog 173 [j] w (.int .i64 r) := by
  have hST := ST.start (dd := false) w
  unfold lM at hm
  refine cF 31 Tryz.func173 rfl (aC (aA (V (aF rfl) (aD (aG (aC (aA (V (aF rfl) (aD (aG (aC (aC (aA (V (aB rfl) ?_))))))))))))))
  refine V (eH Tryz.underlying111 rfl t) (V (aB rfl) (aD (aG (dP (fun i E W => ∃ (x : Int) (z : List (Nat × Obj)), (E 8 = .int .i64 (i : Nat) ∧ E 7 = .int .i64 (u.length : Nat)) ∧ ST false dW w W (hp w) z ∧ E 3 = (.int .i64 x) ∧ E 6 = j ∧ js I (u.drop i) x = some r) u.length t.len ⟨0, _, ⟨rfl, rfl⟩, (hST.sel St), rfl, rfl, hm⟩ (by decide) (by decide) (by decide) (fun _ _ _ h => by obtain ⟨_, _, eIN, _⟩ := h; exact eIN) ?_ ?_))))
  · rintro Z E W M ⟨x, z, ⟨eI, eN⟩, hST, D, G, g⟩
    obtain ⟨c, a7, T, Q, U⟩ := dB M
    rw [T] at g
    rw [js] at g
    refine aU (aC (aA (VQ (fN (i := (Z : Int)) (x0 := c) aH.out Tryz.underlying111 Tryz.sizeOf113 G eI t (Int.natCast_nonneg _) Q) (fun a5 ⟨_, ⟨a6, rfl, H⟩, J⟩ => V (aI rfl (bN hST.has J Tryz.isAgg113 Tryz.sizeOf113)) (VE (cA hST Tryz.zeroValue113 (fun a1 a4 hST => ?_)))))))
    obtain ⟨y, B, rfl⟩ := H.form
    refine VO (aX (.agg (C2 c.Op c.K c.Role.Owner c.Role.Word y c.Kids.length B).toArray) ((C2 c.Op c.K c.Role.Owner c.Role.Word y c.Kids.length B).toArray) hST rfl rfl Tryz.sizeOf113 (by simp [Value.cells, Value.oneCell']) nb rfl (fun a2 hST => aD (aG ?_)))
    replace hST := hST.drew
    have hS0 := hST.has.sel (Kb Sn)
    refine cU hS0 bO (X 0 rfl hS0 (aB D) (X 1 rfl hS0 (aM nL rfl) (X 2 rfl hS0 (aM ne rfl) (XH 3 rfl hS0 (fun _ hS => aI rfl (aN hS Mh rfl Tryz.isAgg9)) (X 4 rfl hS0 (iO Tryz.underlying9 rfl) (X 5 rfl hS0 (aM nL rfl) (X 6 rfl hS0 (aM oa rfl) (XH 7 rfl hS0 (fun _ hS => aI rfl (aN hS Mh rfl Tryz.isAgg9)) (X 8 rfl hS0 (iO Tryz.underlying9 rfl) (X 9 rfl hS0 (aP rfl rfl rfl) (X 10 rfl hS0 (Dd (k := .i64) (a := ((IntKind.i64.wrap (((c.Role.Owner.size : Int)) + ((c.Role.Word.size : Int)))))) (b := 16) (v := (.int .i64 ((IntKind.i64.wrap (Int.tdiv ((IntKind.i64.wrap (((c.Role.Owner.size : Int)) + ((c.Role.Word.size : Int))))) 16))))) rfl rfl (by decide) rfl) (X 11 rfl hS0 (aP rfl rfl rfl) (X 12 rfl hS0 (aM jL rfl) (XH 13 rfl hS0 (fun _ hS => aI rfl (aN hS Mh rfl Tryz.isAgg111)) ?_))))))))))))))
    refine bS g fun Y K g => XE 14 rfl (Eg hST Tryz.call173 ((N (.slice y c.Kids.length B) c.Kids _ _ (H.mono aQ.mono hST.sub_hp) K)) (fun a3 hST => ?_))
    have hS0 := hST.has.sel (Kb Sn)
    refine ⟨hS0, (X 15 rfl hS0 (aP rfl rfl rfl) (X 16 rfl hS0 (aP rfl rfl rfl) (X 17 rfl hS0 (aF rfl) (dC (by kernel_rfl) (cM (aG ?_))))))⟩
    replace hST := hST.sel (Db St)
    exact ⟨eI, ((IntKind.i64.wrap (x + ((IntKind.i64.wrap (((IntKind.i64.wrap (1 + ((IntKind.i64.wrap (Int.tdiv ((IntKind.i64.wrap (((c.Role.Owner.size : Int)) + ((c.Role.Word.size : Int))))) 16)))))) + Y)))))), _, ⟨rfl, eN⟩, (hST.sel St), rfl, G, (by rw [U]; exact g)⟩
  rintro E W ⟨x, z, ⟨eI, eN⟩, hST, D, G, g⟩
  rw [List.drop_length] at g
  rw [js] at g
  refine aG (aC (aA (V (aB D) (V (aF rfl) (aD (aG (aS ?_)))))))
  have hx := sj g; subst hx
  exact rP hST
theorem oe : ∀ (n : Nat) (a : Value) (c : List Formula) (r : Int) (w : World) (g : Sl aH 5 (hp w) a c) (_ : iH n c = some r),
    bW false Tryz.prog 173 [a] w (.int .i64 r)
  | 0 => by intros; rename_i h; simp only [iH] at h; cases h
  | n + 1 => tH (iH n) (oe n)
set_option maxHeartbeats 1000000 in
theorem mX (x : bT) (J : Value) (N : Value) (r : Int) (w : World) (y : Sl bB 15 (hp w) J x.Creds) (G : Sl cN 8 (hp w) N x.Acks) (hm : mS x = some r) :
    bW false Tryz.prog 102 [(.agg #[(.string x.Name), J, N])] w (.int .i64 r) := by
  have hST := ST.start (dd := false) w
  unfold mS at hm
  refine cF 61 Tryz.func102 rfl (aC (aA ?_))
  obtain ⟨A1, c2, rfl⟩ := y.form
  obtain ⟨A3, c4, rfl⟩ := G.form
  refine VE (cH (v := (.agg (C6 x.Name A1 x.Creds.length c2 A3 x.Acks.length c4).toArray)) hST rfl (fun W6 b5 hST => V (aF rfl) (aD (aG (aC (aA (V (aM pk rfl) (V (aI rfl (aN hST.has Mh rfl Tryz.isAgg9)) (V (iO Tryz.underlying9 rfl) (V (aF rfl) (aD (aG (aC (aC (aA ?_)))))))))))))))
  refine V (aM kZ rfl) (V (aI rfl (aN hST.has Mh rfl Tryz.isAgg107)) (V (eH Tryz.underlying107 rfl y) (V (aB rfl) (aD (aG (dP (fun i E W => ∃ (I : Int) (b1 : List (Nat × Obj)), (E 14 = .int .i64 (i : Nat) ∧ E 13 = .int .i64 (x.Creds.length : Nat)) ∧ ST false dW w W (hp w) ((b5, Obj.cells ((C6 x.Name A1 x.Creds.length c2 A3 x.Acks.length c4).toArray : Array Value) 110 (0, 0)) :: b1) ∧ E 1 = (.pointer (some ⟨b5, 0, none⟩)) ∧ E 3 = (.int .i64 I) ∧ E 12 = (.slice A1 x.Creds.length c2) ∧ iC x (x.Creds.drop i) I = some r) x.Creds.length y.len ⟨((x.Name.size : Int)), _, ⟨rfl, rfl⟩, (hST.sel St), rfl, rfl, rfl, hm⟩ (by decide) (by decide) (by decide) (fun _ _ _ h => by obtain ⟨_, _, eIN, _⟩ := h; exact eIN) ?_ ?_))))))
  · rintro d5 E W e1 ⟨I, b1, ⟨eI, eN⟩, hST, U, M, Y, H⟩
    obtain ⟨a, h7, e9, e8, f0⟩ := dB e1
    rw [e9] at H
    rw [iC] at H
    refine aU (aC (aA (VQ (fN (i := (d5 : Int)) (x0 := a) bB.out Tryz.underlying107 Tryz.sizeOf138 Y eI y (Int.natCast_nonneg _) e8) (fun j0 ⟨_, ⟨j6, j7, rfl, Q, T⟩, e2⟩ => V (aI rfl (bN hST.has e2 Tryz.isAgg138 Tryz.sizeOf138)) (VE (cA hST Tryz.zeroValue138 (fun h8 f4 hST => ?_)))))))
    obtain ⟨t, u, rfl⟩ := Q.form
    obtain ⟨g, j, rfl⟩ := T.form
    refine VO (aX (.agg (C3 a.Signed.Cred.Kind a.Signed.Cred.Head.Owner a.Signed.Cred.Head.Word a.Signed.Cred.Who a.Signed.Cred.B.Owner a.Signed.Cred.B.Word a.Signed.Cred.C.Owner a.Signed.Cred.C.Word a.Signed.Cred.Word2 t a.Signed.Tag.length u a.Release.Op a.Release.K a.Release.Role.Owner a.Release.Role.Word g a.Release.Kids.length j).toArray) ((C3 a.Signed.Cred.Kind a.Signed.Cred.Head.Owner a.Signed.Cred.Head.Word a.Signed.Cred.Who a.Signed.Cred.B.Owner a.Signed.Cred.B.Word a.Signed.Cred.C.Owner a.Signed.Cred.C.Word a.Signed.Cred.Word2 t a.Signed.Tag.length u a.Release.Op a.Release.K a.Release.Role.Owner a.Release.Role.Word g a.Release.Kids.length j).toArray) hST rfl rfl Tryz.sizeOf138 (by simp [Value.cells, Value.oneCell']) nb rfl (fun h9 hST => aD (aG ?_)))
    replace hST := hST.drew
    have hS0 := hST.has.sel (Kb Sn)
    refine cU hS0 bO (X 0 rfl hS0 (aB M) (X 1 rfl hS0 (aM qh rfl) (XH 2 rfl hS0 (fun _ hS => aI rfl (aK hS Mh (C4 a.Signed.Cred.Kind a.Signed.Cred.Head.Owner a.Signed.Cred.Head.Word a.Signed.Cred.Who a.Signed.Cred.B.Owner a.Signed.Cred.B.Word a.Signed.Cred.C.Owner a.Signed.Cred.C.Word a.Signed.Cred.Word2 t a.Signed.Tag.length u) rfl Tryz.isAgg56 Tryz.sizeOf56)) (X 5 rfl hS0 (aM uv rfl) (XH 6 rfl hS0 (fun _ hS => aI rfl (aK hS Mh (C2 a.Release.Op a.Release.K a.Release.Role.Owner a.Release.Role.Word g a.Release.Kids.length j) rfl Tryz.isAgg113 Tryz.sizeOf113)) (PJ H (fun b4 E W => ∃ (a8 : Value) (b2 : List (Nat × Obj)) (b9 : List (Nat × Obj)), ST false dW w W (hp w) ((f4, Obj.cells ((C3 a.Signed.Cred.Kind a.Signed.Cred.Head.Owner a.Signed.Cred.Head.Word a.Signed.Cred.Who a.Signed.Cred.B.Owner a.Signed.Cred.B.Word a.Signed.Cred.C.Owner a.Signed.Cred.C.Word a.Signed.Cred.Word2 t a.Signed.Tag.length u a.Release.Op a.Release.K a.Release.Role.Owner a.Release.Role.Word g a.Release.Kids.length j).toArray : Array Value) 138 (0, 0)) :: ((b5, Obj.cells ((C6 x.Name A1 x.Creds.length c2 A3 x.Acks.length c4).toArray : Array Value) 110 (0, 0)) :: (b2 ++ b9))) ∧ E 1 = (.pointer (some ⟨b5, 0, none⟩)) ∧ E 3 = (.int .i64 I) ∧ E 12 = (.slice A1 x.Creds.length c2) ∧ E 13 = (.int .i64 ((x.Creds.length : Int))) ∧ E 14 = (.int .i64 ((d5 : Int))) ∧ E 18 = (.int .i64 I) ∧ E 22 = (.int .i64 b4.1) ∧ E 25 = a8 ∧ bX 113 aH 5 (hp w) a8 b4.2 b2) (bm 13 255) 5 ?_ (fun b4 z Z => ?_)))))))
    · rintro ⟨g5, g3⟩ E W ⟨a8, b2, b9, hST, f6, i9, f7, f8, f9, g0, g1, g2, e7⟩ a6
      have hS0 := hST.has.sel (Kb Sn)
      refine bS a6 fun g4 e3 a6 => XE 8 rfl (Eg hST Tryz.call173 (((oe bR) a8 g3 _ _ (e7.sl aQ hST.sub_hp (fun b o hq => hST.at_ (Mt (Mt (Ml hq))))) e3)) (fun i0 hST => ?_) (ha := Ft g2))
      have hS0 := hST.has.sel (Kb Sn)
      refine ⟨hS0, (X 9 rfl hS0 (aP rfl rfl rfl) (X 10 rfl hS0 (aP g1 rfl rfl) (X 11 rfl hS0 (aP g0 rfl rfl) (X 12 rfl hS0 (aF rfl) (dC (by kernel_rfl) (cM (aG ?_)))))))⟩
      replace hST := hST.sel (Db (Kb (Dr St)))
      exact ⟨f9, ((IntKind.i64.wrap (I + ((IntKind.i64.wrap (g5 + ((IntKind.i64.wrap (20 * g4))))))))), _, ⟨rfl, f8⟩, (hST.sel St), f6, rfl, f7, (by rw [f0]; exact a6)⟩
    refine rx 3 7 rfl rfl (by kernel_rfl) (.inl rfl) (.inl rfl) rfl rfl (by decide) (by decide) ?_ ?_
    · refine bU (qs := #[(0, (.agg (C4 a.Signed.Cred.Kind a.Signed.Cred.Head.Owner a.Signed.Cred.Head.Word a.Signed.Cred.Who a.Signed.Cred.B.Owner a.Signed.Cred.B.Word a.Signed.Cred.C.Owner a.Signed.Cred.C.Word a.Signed.Cred.Word2 t a.Signed.Tag.length u).toArray))]) (cs := (C4 a.Signed.Cred.Kind a.Signed.Cred.Head.Owner a.Signed.Cred.Head.Word a.Signed.Cred.Who a.Signed.Cred.B.Owner a.Signed.Cred.B.Word a.Signed.Cred.C.Owner a.Signed.Cred.C.Word a.Signed.Cred.Word2 t a.Signed.Tag.length u).toArray) hST (fH rfl) (eF [(.agg (C4 a.Signed.Cred.Kind a.Signed.Cred.Head.Owner a.Signed.Cred.Head.Word a.Signed.Cred.Who a.Signed.Cred.B.Owner a.Signed.Cred.B.Word a.Signed.Cred.C.Owner a.Signed.Cred.C.Word a.Signed.Cred.Word2 t a.Signed.Tag.length u).toArray)] Tryz.underlying50 Tryz.sizeOf56 Tryz.zeroValue56 (by decide) rfl (by intro v hv; simp only [List.mem_cons, List.not_mem_nil, or_false] at hv; rcases hv with rfl <;> rfl) rfl rfl) (fun i1 b3 hST => ?_)
      have hS0 := hST.has.sel (Db (Kb Sn))
      refine ⟨hS0, (rx 4 7 rfl rfl (by kernel_rfl) (.inl rfl) (.inl rfl) rfl rfl (by decide) (by decide) ?_ ?_)⟩
      · refine bS z fun j3 e4 z => uA (args := [(.slice none 0 0), (.slice (some ⟨b3, 0, none⟩) 1 1)]) hST rfl Tryz.call35 (by exact no rfl rfl) (bW.weak (og (.slice none 0 0) ([]) (.slice (some ⟨b3, 0, none⟩) 1 1) ([a.Signed]) _ _ (Sl.nil _ _ _) ((bX.lit qf (l := [a.Signed]) (.cons (ys := C4 a.Signed.Cred.Kind a.Signed.Cred.Head.Owner a.Signed.Cred.Head.Word a.Signed.Cred.Who a.Signed.Cred.B.Owner a.Signed.Cred.B.Word a.Signed.Cred.C.Owner a.Signed.Cred.C.Word a.Signed.Cred.Word2 t a.Signed.Tag.length u) (kV.mk ⟨(.slice t a.Signed.Tag.length u), rfl, Q⟩) .nil) rfl nb rfl).sl qf hST.sub_hp (fun b o hq => (by rw [List.mem_singleton] at hq; cases hq; exact hST.at_ Mh))) e4)) (fun i2 hST => ?_)
        have hS0 := hST.has.sel (Db (Kb Sn))
        refine ⟨hS0, (XE 7 rfl (bU (qs := #[(0, (.agg (C2 a.Release.Op a.Release.K a.Release.Role.Owner a.Release.Role.Word g a.Release.Kids.length j).toArray))]) (cs := (C2 a.Release.Op a.Release.K a.Release.Role.Owner a.Release.Role.Word g a.Release.Kids.length j).toArray) hST (fH rfl) (eF [(.agg (C2 a.Release.Op a.Release.K a.Release.Role.Owner a.Release.Role.Word g a.Release.Kids.length j).toArray)] Tryz.underlying111 Tryz.sizeOf113 Tryz.zeroValue113 (by decide) rfl (by intro v hv; simp only [List.mem_cons, List.not_mem_nil, or_false] at hv; rcases hv with rfl <;> rfl) rfl rfl) (fun i3 c0 hST => ?_)))⟩
        have hS0 := hST.has.sel (Db (Db (Kb Sn)))
        refine ⟨hS0, ?_⟩
        have hx := sj z; subst hx
        replace hST := hST.row1
        refine kL (by kernel_rfl) (Z _ _ ⟨(.slice (some ⟨c0, 0, none⟩) 1 1), [(c0, Obj.cells ((C2 a.Release.Op a.Release.K a.Release.Role.Owner a.Release.Role.Word g a.Release.Kids.length j).toArray : Array Value) 113 (0, 0))], _, (hST.sel (Sb (Pr (Pb Pz)) (Sb (Pr (Pb Pz)) (Kr (Db St))))), U, M, Y, eN, eI, rfl, rfl, rfl, (bX.lit aQ (l := [a.Release]) (.cons (ys := C2 a.Release.Op a.Release.K a.Release.Role.Owner a.Release.Role.Word g a.Release.Kids.length j) (aH.mk ⟨(.slice g a.Release.Kids.length j), rfl, T⟩) .nil) rfl nb rfl)⟩)
      · refine bU (qs := #[(0, (.agg (C2 a.Release.Op a.Release.K a.Release.Role.Owner a.Release.Role.Word g a.Release.Kids.length j).toArray))]) (cs := (C2 a.Release.Op a.Release.K a.Release.Role.Owner a.Release.Role.Word g a.Release.Kids.length j).toArray) hST (fH rfl) (eF [(.agg (C2 a.Release.Op a.Release.K a.Release.Role.Owner a.Release.Role.Word g a.Release.Kids.length j).toArray)] Tryz.underlying111 Tryz.sizeOf113 Tryz.zeroValue113 (by decide) rfl (by intro v hv; simp only [List.mem_cons, List.not_mem_nil, or_false] at hv; rcases hv with rfl <;> rfl) rfl rfl) (fun i4 c1 hST => ?_)
        have hS0 := hST.has.sel (Db (Db (Kb Sn)))
        refine ⟨hS0, (bS z fun j4 e5 z => XE 4 rfl (Eg hST Tryz.call35 (bW.weak (og (.slice none 0 0) ([]) (.slice (some ⟨b3, 0, none⟩) 1 1) ([a.Signed]) _ _ (Sl.nil _ _ _) ((bX.lit qf (l := [a.Signed]) (.cons (ys := C4 a.Signed.Cred.Kind a.Signed.Cred.Head.Owner a.Signed.Cred.Head.Word a.Signed.Cred.Who a.Signed.Cred.B.Owner a.Signed.Cred.B.Word a.Signed.Cred.C.Owner a.Signed.Cred.C.Word a.Signed.Cred.Word2 t a.Signed.Tag.length u) (kV.mk ⟨(.slice t a.Signed.Tag.length u), rfl, Q⟩) .nil) rfl nb rfl).sl qf hST.sub_hp (fun b o hq => (by rw [List.mem_singleton] at hq; cases hq; exact hST.at_ (Mt Mh)))) e5)) (fun i5 hST => ?_)))⟩
        have hS0 := hST.has.sel (Db (Db (Kb Sn)))
        refine ⟨hS0, ?_⟩
        have hx := sj z; subst hx
        replace hST := hST.row1
        refine kL (by kernel_rfl) (Z _ _ ⟨(.slice (some ⟨c1, 0, none⟩) 1 1), [(c1, Obj.cells ((C2 a.Release.Op a.Release.K a.Release.Role.Owner a.Release.Role.Word g a.Release.Kids.length j).toArray : Array Value) 113 (0, 0))], _, (hST.sel (Sb (Pr (Pb Pz)) (Sb (Pr (Pb Pz)) (Kr (Db St))))), U, M, Y, eN, eI, rfl, rfl, rfl, (bX.lit aQ (l := [a.Release]) (.cons (ys := C2 a.Release.Op a.Release.K a.Release.Role.Owner a.Release.Role.Word g a.Release.Kids.length j) (aH.mk ⟨(.slice g a.Release.Kids.length j), rfl, T⟩) .nil) rfl nb rfl)⟩)
    · refine bU (qs := #[(0, (.agg (C2 a.Release.Op a.Release.K a.Release.Role.Owner a.Release.Role.Word g a.Release.Kids.length j).toArray))]) (cs := (C2 a.Release.Op a.Release.K a.Release.Role.Owner a.Release.Role.Word g a.Release.Kids.length j).toArray) hST (fH rfl) (eF [(.agg (C2 a.Release.Op a.Release.K a.Release.Role.Owner a.Release.Role.Word g a.Release.Kids.length j).toArray)] Tryz.underlying111 Tryz.sizeOf113 Tryz.zeroValue113 (by decide) rfl (by intro v hv; simp only [List.mem_cons, List.not_mem_nil, or_false] at hv; rcases hv with rfl <;> rfl) rfl rfl) (fun i6 c3 hST => ?_)
      have hS0 := hST.has.sel (Db (Kb Sn))
      refine ⟨hS0, (XE 3 rfl (bU (qs := #[(0, (.agg (C4 a.Signed.Cred.Kind a.Signed.Cred.Head.Owner a.Signed.Cred.Head.Word a.Signed.Cred.Who a.Signed.Cred.B.Owner a.Signed.Cred.B.Word a.Signed.Cred.C.Owner a.Signed.Cred.C.Word a.Signed.Cred.Word2 t a.Signed.Tag.length u).toArray))]) (cs := (C4 a.Signed.Cred.Kind a.Signed.Cred.Head.Owner a.Signed.Cred.Head.Word a.Signed.Cred.Who a.Signed.Cred.B.Owner a.Signed.Cred.B.Word a.Signed.Cred.C.Owner a.Signed.Cred.C.Word a.Signed.Cred.Word2 t a.Signed.Tag.length u).toArray) hST (fH rfl) (eF [(.agg (C4 a.Signed.Cred.Kind a.Signed.Cred.Head.Owner a.Signed.Cred.Head.Word a.Signed.Cred.Who a.Signed.Cred.B.Owner a.Signed.Cred.B.Word a.Signed.Cred.C.Owner a.Signed.Cred.C.Word a.Signed.Cred.Word2 t a.Signed.Tag.length u).toArray)] Tryz.underlying50 Tryz.sizeOf56 Tryz.zeroValue56 (by decide) rfl (by intro v hv; simp only [List.mem_cons, List.not_mem_nil, or_false] at hv; rcases hv with rfl <;> rfl) rfl rfl) (fun i7 f5 hST => ?_)))⟩
      have hS0 := hST.has.sel (Db (Db (Kb Sn)))
      refine ⟨hS0, (bS z fun j5 e6 z => XE 4 rfl (Eg hST Tryz.call35 (bW.weak (og (.slice none 0 0) ([]) (.slice (some ⟨f5, 0, none⟩) 1 1) ([a.Signed]) _ _ (Sl.nil _ _ _) ((bX.lit qf (l := [a.Signed]) (.cons (ys := C4 a.Signed.Cred.Kind a.Signed.Cred.Head.Owner a.Signed.Cred.Head.Word a.Signed.Cred.Who a.Signed.Cred.B.Owner a.Signed.Cred.B.Word a.Signed.Cred.C.Owner a.Signed.Cred.C.Word a.Signed.Cred.Word2 t a.Signed.Tag.length u) (kV.mk ⟨(.slice t a.Signed.Tag.length u), rfl, Q⟩) .nil) rfl nb rfl).sl qf hST.sub_hp (fun b o hq => (by rw [List.mem_singleton] at hq; cases hq; exact hST.at_ Mh))) e6)) (fun i8 hST => ?_)))⟩
      have hS0 := hST.has.sel (Db (Db (Kb Sn)))
      refine ⟨hS0, ?_⟩
      have hx := sj z; subst hx
      replace hST := hST.perm (Nb (Pb Pz) Nz)
      replace hST := hST.row1
      refine kL (by kernel_rfl) (Z _ _ ⟨(.slice (some ⟨c3, 0, none⟩) 1 1), [(c3, Obj.cells ((C2 a.Release.Op a.Release.K a.Release.Role.Owner a.Release.Role.Word g a.Release.Kids.length j).toArray : Array Value) 113 (0, 0))], _, (hST.sel (Sb (Pr (Pb Pz)) (Sb (Pr (Pb Pz)) (Kr (Db St))))), U, M, Y, eN, eI, rfl, rfl, rfl, (bX.lit aQ (l := [a.Release]) (.cons (ys := C2 a.Release.Op a.Release.K a.Release.Role.Owner a.Release.Role.Word g a.Release.Kids.length j) (aH.mk ⟨(.slice g a.Release.Kids.length j), rfl, T⟩) .nil) rfl nb rfl)⟩)
  rintro E W ⟨I, b1, ⟨eI, eN⟩, hST, U, M, Y, H⟩
  rw [List.drop_length] at H
  rw [iC] at H
  refine aG (aC (aC (aA (V (aM ur U) (V (aI rfl (aN hST.has Mh rfl Tryz.isAgg108)) (V (eH Tryz.underlying108 rfl G) (V (aB rfl) (aD (aG ?_)))))))))
  replace hST := hST.sel (Db St)
  refine CJ H (fun a7 E W => ∃  (b6 : List (Nat × Obj)), ST false dW w W (hp w) b6 ∧ E 3 = (.int .i64 a7)) (fun a7 c8 => ?_) ?_
  · refine dP (fun i E W => ∃ (K : Int) (a2 : List (Nat × Obj)), (E 34 = .int .i64 (i : Nat) ∧ E 33 = .int .i64 (x.Acks.length : Nat)) ∧ ST false dW w W (hp w) a2 ∧ E 3 = (.int .i64 K) ∧ E 32 = (.slice A3 x.Acks.length c4) ∧ iD (x.Acks.drop i) K = some a7) x.Acks.length G.len ⟨I, _, ⟨rfl, rfl⟩, (hST.sel St), M, rfl, c8⟩ (by decide) (by decide) (by decide) (fun _ _ _ h => by obtain ⟨_, _, eIN, _⟩ := h; exact eIN) ?_ ?_
    · rintro f1 E W c6 ⟨K, a2, ⟨eI, eN⟩, hST, a4, a5, k⟩
      obtain ⟨c, g6, d3, d2, d4⟩ := dB c6
      rw [d3] at k
      rw [iD] at k
      refine aU (aC (aA (VQ (fN (i := (f1 : Int)) (x0 := c) cN.out Tryz.underlying108 Tryz.sizeOf263 a5 eI G (Int.natCast_nonneg _) d2) (fun h3 ⟨_, ⟨h4, h5, rfl, a9, b0⟩, c9⟩ => V (aI rfl (bN hST.has c9 Tryz.isAgg263 Tryz.sizeOf263)) (VE (cA hST Tryz.zeroValue263 (fun g7 h2 hST => ?_)))))))
      obtain ⟨B, D, rfl⟩ := a9.form
      obtain ⟨a1, a3, rfl⟩ := b0.form
      refine VO (aX (.agg (C9 c.Role.Owner c.Role.Word c.Release.Op c.Release.K c.Release.Role.Owner c.Release.Role.Word B c.Release.Kids.length D a1 c.Closure.length a3).toArray) ((C9 c.Role.Owner c.Role.Word c.Release.Op c.Release.K c.Release.Role.Owner c.Release.Role.Word B c.Release.Kids.length D a1 c.Closure.length a3).toArray) hST rfl rfl Tryz.sizeOf263 (by simp [Value.cells, Value.oneCell']) nb rfl (fun g8 hST => aD (aG ?_)))
      replace hST := hST.drew
      have hS0 := hST.has.sel (Kb Sn)
      refine cU hS0 bO (X 0 rfl hS0 (aB a4) (X 1 rfl hS0 (aM Ac rfl) (X 2 rfl hS0 (aM ne rfl) (XH 3 rfl hS0 (fun _ hS => aI rfl (aN hS Mh rfl Tryz.isAgg9)) (X 4 rfl hS0 (iO Tryz.underlying9 rfl) (X 5 rfl hS0 (aM Ac rfl) (X 6 rfl hS0 (aM oa rfl) (XH 7 rfl hS0 (fun _ hS => aI rfl (aN hS Mh rfl Tryz.isAgg9)) (X 8 rfl hS0 (iO Tryz.underlying9 rfl) (X 9 rfl hS0 (aP rfl rfl rfl) (X 10 rfl hS0 (aM Al rfl) (XH 11 rfl hS0 (fun _ hS => aI rfl (aK hS Mh (C2 c.Release.Op c.Release.K c.Release.Role.Owner c.Release.Role.Word B c.Release.Kids.length D) rfl Tryz.isAgg113 Tryz.sizeOf113)) (X 16 rfl hS0 (aM zK rfl) (XH 17 rfl hS0 (fun _ hS => aI rfl (aN hS Mh rfl Tryz.isAgg22)) ?_))))))))))))))
      refine XE 12 rfl (bU (qs := #[(0, (.agg (C2 c.Release.Op c.Release.K c.Release.Role.Owner c.Release.Role.Word B c.Release.Kids.length D).toArray))]) (cs := (C2 c.Release.Op c.Release.K c.Release.Role.Owner c.Release.Role.Word B c.Release.Kids.length D).toArray) hST (fH rfl) (eF [(.agg (C2 c.Release.Op c.Release.K c.Release.Role.Owner c.Release.Role.Word B c.Release.Kids.length D).toArray)] Tryz.underlying111 Tryz.sizeOf113 Tryz.zeroValue113 (by decide) rfl (by intro v hv; simp only [List.mem_cons, List.not_mem_nil, or_false] at hv; rcases hv with rfl <;> rfl) rfl rfl) (fun g9 d7 hST => ?_))
      have hS0 := hST.has.sel (Db (Kb Sn))
      refine ⟨hS0, (bS k fun f2 d0 k => XE 13 rfl (Eg hST Tryz.call173 (((oe bR) (.slice (some ⟨d7, 0, none⟩) 1 1) ([c.Release]) _ _ ((bX.lit aQ (l := [c.Release]) (.cons (ys := C2 c.Release.Op c.Release.K c.Release.Role.Owner c.Release.Role.Word B c.Release.Kids.length D) (aH.mk ⟨(.slice B c.Release.Kids.length D), rfl, a9⟩) .nil) rfl nb rfl).sl aQ hST.sub_hp (fun b o hq => (by rw [List.mem_singleton] at hq; cases hq; exact hST.at_ Mh))) d0)) (fun h0 hST => ?_)))⟩
      have hS0 := hST.has.sel (Db (Kb Sn))
      refine ⟨hS0, (X 14 rfl hS0 (aP rfl rfl rfl) (X 15 rfl hS0 (aP rfl rfl rfl) (bS k fun f3 d1 k => XE 18 rfl (Eg hST Tryz.call21 (bW.weak (ta (.slice a1 c.Closure.length a3) c.Closure _ _ (b0.mono (Pl.mono _) hST.sub_hp) d1)) (fun h1 hST => ?_)))))⟩
      have hS0 := hST.has.sel (Db (Kb Sn))
      refine ⟨hS0, (X 19 rfl hS0 (aP rfl rfl rfl) (X 20 rfl hS0 (aP rfl rfl rfl) (X 21 rfl hS0 (aF rfl) (dC (by kernel_rfl) (cM (aG ?_))))))⟩
      replace hST := hST.sel (Db (Db St))
      exact ⟨eI, ((IntKind.i64.wrap (K + ((IntKind.i64.wrap (((IntKind.i64.wrap (((IntKind.i64.wrap (((c.Role.Owner.size : Int)) + ((c.Role.Word.size : Int))))) + ((IntKind.i64.wrap (20 * f2)))))) + f3)))))), _, ⟨rfl, eN⟩, (hST.sel St), rfl, a5, (by rw [d4]; exact k)⟩
    rintro E W ⟨K, a2, ⟨eI, eN⟩, hST, a4, a5, k⟩
    rw [List.drop_length] at k
    rw [iD] at k
    refine aG ?_
    have hx := sj k; subst hx
    exact ⟨_, (hST.sel St), a4⟩
  rintro h6 E W ⟨b6, hST, e0⟩ c7
  refine aC (aA (V (aB e0) (V (aF rfl) (aD (aG (aS ?_))))))
  have hx := sj c7; subst hx
  exact rP hST
theorem xG (a : eW) (B : Value) (D : Value) (x : Value) (z : Value) (y : Value) (J : Value) (r : Int) (w : World) (t : Sl bB 15 (hp w) B a.Owner.Creds) (u : Sl cN 8 (hp w) D a.Owner.Acks) (c : Sl bB 15 (hp w) x a.Client.Creds) (i : Sl cN 8 (hp w) z a.Client.Acks) (g : Sl aH 5 (hp w) y a.Formula.Kids) (I : Sl iN 2 (hp w) J a.Keys) (hm : mZ a = some r) :
    bW false Tryz.prog 73 [(.agg #[(.string a.Owner.Name), B, D, (.string a.Client.Name), x, z, (.int .i64 a.Formula.Op), (.int .i64 a.Formula.K), (.string a.Formula.Role.Owner), (.string a.Formula.Role.Word), y, (.int .i64 a.Plan), (.int .i64 a.Rooms.at0), (.int .i64 a.Rooms.at1), (.int .i64 a.Timeout), (.int .i64 a.Tries), (.int .i64 a.Budget), J])] w (.int .i64 r) := by
  have hST := ST.start (dd := false) w
  unfold mZ at hm
  refine cF 20 Tryz.func73 rfl (aC (aA ?_))
  obtain ⟨A1, c2, rfl⟩ := t.form
  obtain ⟨A3, c4, rfl⟩ := u.form
  obtain ⟨N, U, rfl⟩ := c.form
  obtain ⟨Q, Y, rfl⟩ := i.form
  obtain ⟨G, k, rfl⟩ := g.form
  obtain ⟨a1, a2, rfl⟩ := I.form
  refine VE (cH (v := (.agg (C1 a.Owner.Name A1 a.Owner.Creds.length c2 A3 a.Owner.Acks.length c4 a.Client.Name N a.Client.Creds.length U Q a.Client.Acks.length Y a.Formula.Op a.Formula.K a.Formula.Role.Owner a.Formula.Role.Word G a.Formula.Kids.length k a.Plan a.Rooms.at0 a.Rooms.at1 a.Timeout a.Tries a.Budget a1 a.Keys.length a2).toArray)) hST rfl (fun e8 c7 hST => V (aF rfl) (aD (aG (aC ?_)))))
  replace hST := hST.drew
  have hS0 := hST.has.sel (Kb Sn)
  refine cU hS0 bO (X 0 rfl hS0 (aM mr rfl) (XH 1 rfl hS0 (fun _ hS => aI rfl (aK hS Mh (C6 a.Owner.Name A1 a.Owner.Creds.length c2 A3 a.Owner.Acks.length c4) rfl Tryz.isAgg110 Tryz.sizeOf110)) (X 3 rfl hS0 (aM mG rfl) (XH 4 rfl hS0 (fun _ hS => aI rfl (aK hS Mh (C6 a.Client.Name N a.Client.Creds.length U Q a.Client.Acks.length Y) rfl Tryz.isAgg110 Tryz.sizeOf110)) (X 7 rfl hS0 (aM D8 rfl) (XH 8 rfl hS0 (fun _ hS => aI rfl (aK hS Mh (C2 a.Formula.Op a.Formula.K a.Formula.Role.Owner a.Formula.Role.Word G a.Formula.Kids.length k) rfl Tryz.isAgg113 Tryz.sizeOf113)) (X 13 rfl hS0 (aM Dq rfl) (XH 14 rfl hS0 (fun _ hS => aI rfl (aN hS Mh rfl Tryz.isAgg49)) (PJ hm (fun Z E W => ∃ (M : Value) (T : List (Nat × Obj)) (a7 : List (Nat × Obj)), ST false dW w W (hp w) ((c7, Obj.cells ((C1 a.Owner.Name A1 a.Owner.Creds.length c2 A3 a.Owner.Acks.length c4 a.Client.Name N a.Client.Creds.length U Q a.Client.Acks.length Y a.Formula.Op a.Formula.K a.Formula.Role.Owner a.Formula.Role.Word G a.Formula.Kids.length k a.Plan a.Rooms.at0 a.Rooms.at1 a.Timeout a.Tries a.Budget a1 a.Keys.length a2).toArray : Array Value) 116 (0, 0)) :: (T ++ a7)) ∧ E 2 = (.int .i64 0) ∧ E 9 = (.int .i64 Z.1) ∧ E 12 = M ∧ E 17 = (.slice a1 a.Keys.length a2) ∧ bX 113 aH 5 (hp w) M Z.2 T) (bm 18 25599) 6 ?_ (fun Z j K => ?_))))))))))
  · rintro ⟨e7, c5⟩ E W ⟨M, T, a7, hST, d9, c0, c1, c3, b9⟩ H
    have hS0 := hST.has.sel (Kb Sn)
    refine bS H fun e0 b1 H => XE 10 rfl (Eg hST Tryz.call173 (((oe bR) M c5 _ _ (b9.sl aQ hST.sub_hp (fun b o hq => hST.at_ (Mt (Ml hq)))) b1)) (fun c9 hST => ?_) (ha := Ft c1))
    have hS0 := hST.has.sel (Kb Sn)
    refine ⟨hS0, (X 11 rfl hS0 (aP rfl rfl rfl) (X 12 rfl hS0 (aP c0 rfl rfl) (bS H fun e1 b2 H => XE 15 rfl (Eg hST Tryz.call35 (bW.weak (og (.slice a1 a.Keys.length a2) a.Keys (.slice none 0 0) ([]) _ _ (I.mono ns.mono hST.sub_hp) (Sl.nil _ _ _) b2)) (fun d0 hST => ?_) (ha := FQ c3 rfl)))))⟩
    have hS0 := hST.has.sel (Kb Sn)
    refine ⟨hS0, (X 16 rfl hS0 (aP rfl rfl rfl) (X 17 rfl hS0 (aF rfl) (dC (by kernel_rfl) (aG ?_))))⟩
    replace hST := hST.sel (Db (Dr St))
    refine aS ?_
    have hx := sj H; subst hx
    exact rP hST
  refine rx 2 9 rfl rfl (by kernel_rfl) (.inl rfl) (.inl rfl) rfl rfl (by decide) (by decide) ?_ ?_
  · refine bS j fun e2 b3 j => uA (args := [(.agg (C6 a.Owner.Name A1 a.Owner.Creds.length c2 A3 a.Owner.Acks.length c4).toArray)]) hST rfl Tryz.call102 (by exact lQ rfl) ((mX a.Owner (.slice A1 a.Owner.Creds.length c2) (.slice A3 a.Owner.Acks.length c4) _ _ (t.mono bD.mono hST.sub_hp) (u.mono dV.mono hST.sub_hp) b3)) (fun d1 hST => ?_)
    have hS0 := hST.has.sel (Kb Sn)
    refine ⟨hS0, (rx 5 9 rfl rfl (by kernel_rfl) (.inl rfl) (.inl rfl) rfl rfl (by decide) (by decide) ?_ ?_)⟩
    · refine bS j fun e3 b4 j => uA (args := [(.agg (C6 a.Client.Name N a.Client.Creds.length U Q a.Client.Acks.length Y).toArray)]) hST rfl Tryz.call102 (by exact lQ rfl) ((mX a.Client (.slice N a.Client.Creds.length U) (.slice Q a.Client.Acks.length Y) _ _ (c.mono bD.mono hST.sub_hp) (i.mono dV.mono hST.sub_hp) b4)) (fun d2 hST => ?_)
      have hS0 := hST.has.sel (Kb Sn)
      refine ⟨hS0, (X 6 rfl hS0 (aP rfl rfl rfl) (XE 9 rfl (bU (qs := #[(0, (.agg (C2 a.Formula.Op a.Formula.K a.Formula.Role.Owner a.Formula.Role.Word G a.Formula.Kids.length k).toArray))]) (cs := (C2 a.Formula.Op a.Formula.K a.Formula.Role.Owner a.Formula.Role.Word G a.Formula.Kids.length k).toArray) hST (fH rfl) (eF [(.agg (C2 a.Formula.Op a.Formula.K a.Formula.Role.Owner a.Formula.Role.Word G a.Formula.Kids.length k).toArray)] Tryz.underlying111 Tryz.sizeOf113 Tryz.zeroValue113 (by decide) rfl (by intro v hv; simp only [List.mem_cons, List.not_mem_nil, or_false] at hv; rcases hv with rfl <;> rfl) rfl rfl) (fun d3 a8 hST => ?_))))⟩
      have hS0 := hST.has.sel (Db (Kb Sn))
      refine ⟨hS0, ?_⟩
      have hx := sj j; subst hx
      replace hST := hST.row1
      refine kL (by kernel_rfl) (K _ _ ⟨(.slice (some ⟨a8, 0, none⟩) 1 1), [(a8, Obj.cells ((C2 a.Formula.Op a.Formula.K a.Formula.Role.Owner a.Formula.Role.Word G a.Formula.Kids.length k).toArray : Array Value) 113 (0, 0))], _, (hST.sel (Sb (Pr Pz) St)), rfl, rfl, rfl, rfl, (bX.lit aQ (l := [a.Formula]) (.cons (ys := C2 a.Formula.Op a.Formula.K a.Formula.Role.Owner a.Formula.Role.Word G a.Formula.Kids.length k) (aH.mk ⟨(.slice G a.Formula.Kids.length k), rfl, g⟩) .nil) rfl nb rfl)⟩)
    · refine bU (qs := #[(0, (.agg (C2 a.Formula.Op a.Formula.K a.Formula.Role.Owner a.Formula.Role.Word G a.Formula.Kids.length k).toArray))]) (cs := (C2 a.Formula.Op a.Formula.K a.Formula.Role.Owner a.Formula.Role.Word G a.Formula.Kids.length k).toArray) hST (fH rfl) (eF [(.agg (C2 a.Formula.Op a.Formula.K a.Formula.Role.Owner a.Formula.Role.Word G a.Formula.Kids.length k).toArray)] Tryz.underlying111 Tryz.sizeOf113 Tryz.zeroValue113 (by decide) rfl (by intro v hv; simp only [List.mem_cons, List.not_mem_nil, or_false] at hv; rcases hv with rfl <;> rfl) rfl rfl) (fun d4 a9 hST => ?_)
      have hS0 := hST.has.sel (Db (Kb Sn))
      refine ⟨hS0, (bS j fun e4 b5 j => XE 5 rfl (Eg hST Tryz.call102 ((mX a.Client (.slice N a.Client.Creds.length U) (.slice Q a.Client.Acks.length Y) _ _ (c.mono bD.mono hST.sub_hp) (i.mono dV.mono hST.sub_hp) b5)) (fun d5 hST => ?_)))⟩
      have hS0 := hST.has.sel (Db (Kb Sn))
      refine ⟨hS0, (X 6 rfl hS0 (aP rfl rfl rfl) ?_)⟩
      have hx := sj j; subst hx
      replace hST := hST.row1
      refine kL (by kernel_rfl) (K _ _ ⟨(.slice (some ⟨a9, 0, none⟩) 1 1), [(a9, Obj.cells ((C2 a.Formula.Op a.Formula.K a.Formula.Role.Owner a.Formula.Role.Word G a.Formula.Kids.length k).toArray : Array Value) 113 (0, 0))], _, (hST.sel (Sb (Pr Pz) St)), rfl, rfl, rfl, rfl, (bX.lit aQ (l := [a.Formula]) (.cons (ys := C2 a.Formula.Op a.Formula.K a.Formula.Role.Owner a.Formula.Role.Word G a.Formula.Kids.length k) (aH.mk ⟨(.slice G a.Formula.Kids.length k), rfl, g⟩) .nil) rfl nb rfl)⟩)
  · refine bU (qs := #[(0, (.agg (C2 a.Formula.Op a.Formula.K a.Formula.Role.Owner a.Formula.Role.Word G a.Formula.Kids.length k).toArray))]) (cs := (C2 a.Formula.Op a.Formula.K a.Formula.Role.Owner a.Formula.Role.Word G a.Formula.Kids.length k).toArray) hST (fH rfl) (eF [(.agg (C2 a.Formula.Op a.Formula.K a.Formula.Role.Owner a.Formula.Role.Word G a.Formula.Kids.length k).toArray)] Tryz.underlying111 Tryz.sizeOf113 Tryz.zeroValue113 (by decide) rfl (by intro v hv; simp only [List.mem_cons, List.not_mem_nil, or_false] at hv; rcases hv with rfl <;> rfl) rfl rfl) (fun d6 b0 hST => ?_)
    have hS0 := hST.has.sel (Db (Kb Sn))
    refine ⟨hS0, (bS j fun e5 b6 j => XE 2 rfl (Eg hST Tryz.call102 ((mX a.Owner (.slice A1 a.Owner.Creds.length c2) (.slice A3 a.Owner.Acks.length c4) _ _ (t.mono bD.mono hST.sub_hp) (u.mono dV.mono hST.sub_hp) b6)) (fun d7 hST => ?_)))⟩
    have hS0 := hST.has.sel (Db (Kb Sn))
    refine ⟨hS0, (bS j fun e6 b7 j => XE 5 rfl (Eg hST Tryz.call102 ((mX a.Client (.slice N a.Client.Creds.length U) (.slice Q a.Client.Acks.length Y) _ _ (c.mono bD.mono hST.sub_hp) (i.mono dV.mono hST.sub_hp) b7)) (fun d8 hST => ?_)))⟩
    have hS0 := hST.has.sel (Db (Kb Sn))
    refine ⟨hS0, (X 6 rfl hS0 (aP rfl rfl rfl) ?_)⟩
    have hx := sj j; subst hx
    replace hST := hST.row1
    refine kL (by kernel_rfl) (K _ _ ⟨(.slice (some ⟨b0, 0, none⟩) 1 1), [(b0, Obj.cells ((C2 a.Formula.Op a.Formula.K a.Formula.Role.Owner a.Formula.Role.Word G a.Formula.Kids.length k).toArray : Array Value) 113 (0, 0))], _, (hST.sel (Sb (Pr Pz) St)), rfl, rfl, rfl, rfl, (bX.lit aQ (l := [a.Formula]) (.cons (ys := C2 a.Formula.Op a.Formula.K a.Formula.Role.Owner a.Formula.Role.Word G a.Formula.Kids.length k) (aH.mk ⟨(.slice G a.Formula.Kids.length k), rfl, g⟩) .nil) rfl nb rfl)⟩)
theorem pA (k : Value) (u : List Cred) (g : Cred) (r : Bool) (w : World) (j : Sl (Pl aJ) 9 (hp w) k u) (hm : kX u g = some r) :
    bW true Tryz.prog 53 [k, (.agg (aJ g).toArray)] w (.bool r) := by
  have hST := ST.start (dd := true) w
  unfold kX at hm
  refine cF 17 Tryz.func53 rfl (aC (aA (VE (cH (v := (.agg (aJ g).toArray)) hST rfl (fun Y J hST => V (aF rfl) (aD (aG (aC (aC (aA (V (aB rfl) (V (eH Tryz.underlying22 rfl j) (V (aB rfl) (aD (aG ?_)))))))))))))))
  refine dP (fun i E W => ∃  (t : List (Nat × Obj)), (E 9 = .int .i64 (i : Nat) ∧ E 8 = .int .i64 (u.length : Nat)) ∧ ST true dW w W (hp w) ((J, Obj.cells ((aJ g).toArray : Array Value) 53 (0, 0)) :: t) ∧ E 3 = (.pointer (some ⟨J, 0, none⟩)) ∧ E 7 = k ∧ ld g (u.drop i) = some r) u.length j.len ⟨_, ⟨rfl, rfl⟩, (hST.sel St), rfl, rfl, hm⟩ (by decide) (by decide) (by decide) (fun _ _ _ h => by obtain ⟨_, eIN, _⟩ := h; exact eIN) ?_ ?_
  · rintro K E W B ⟨t, ⟨eI, eN⟩, hST, x, y, a⟩
    obtain ⟨c, M, H, G, I⟩ := dB B
    rw [H] at a
    rw [ld] at a
    refine aU (aC (aA (VQ (lm (enc := aJ) (i := (K : Int)) (x0 := c) Tryz.underlying22 Tryz.sizeOf53 y eI j (Int.natCast_nonneg _) G) (fun U D => V (aI rfl (bN hST.has D Tryz.isAgg53 Tryz.sizeOf53)) (VE (cA hST Tryz.zeroValue53 (fun N T hST => VO (aX (.agg (aJ c).toArray) ((aJ c).toArray) hST rfl rfl Tryz.sizeOf53 (gC c) nb rfl (fun Q hST => aD (aG (aC (aA (V (aI rfl (aK hST.has Mh (aJ c) rfl Tryz.isAgg53 Tryz.sizeOf53)) (V (aI x (aK hST.has (Mt Mh) (aJ g) rfl Tryz.isAgg53 Tryz.sizeOf53)) (V (qc rfl rfl (kT Tryz.eqGuardType53) (nP (ov _ c g))) (aD ?_))))))))))))))))
    refine aG ?_
    replace hST := hST.sel (Db St)
    refine CI a rfl (fun z a => ?_) (fun z a => ?_)
    · refine aC (aA (V (aF rfl) (aD (aG ?_))))
      replace hST := hST.sel (Db St)
      refine aS (gA (cR (gA (cR ?_))))
      have hx := sj a; subst hx
      exact rP hST
    exact aT (cM (aG ⟨eI, _, ⟨rfl, eN⟩, (hST.sel St), x, y, (by rw [I]; exact a)⟩))
  rintro E W ⟨t, ⟨eI, eN⟩, hST, x, y, a⟩
  rw [List.drop_length] at a
  rw [ld] at a
  refine aG ?_
  replace hST := hST.sel (Db St)
  refine aC (aA (V (aF rfl) (aD (aG (aS ?_)))))
  have hx := sj a; subst hx
  exact rP hST
set_option maxHeartbeats 1000000 in
theorem tE (a : eW) (a5 : Value) (b6 : Value) (a2 : Value) (a4 : Value) (a3 : Value) (h7 : Value) (r : Bool) (w : World) (u : Sl bB 15 (hp w) a5 a.Owner.Creds) (t : Sl cN 8 (hp w) b6 a.Owner.Acks) (k : Sl bB 15 (hp w) a2 a.Client.Creds) (j : Sl cN 8 (hp w) a4 a.Client.Acks) (z : Sl aH 5 (hp w) a3 a.Formula.Kids) (Z : Sl iN 2 (hp w) h7 a.Keys) (hm : kz a = some r) :
    bW false Tryz.prog 12 [(.agg #[(.string a.Owner.Name), a5, b6, (.string a.Client.Name), a2, a4, (.int .i64 a.Formula.Op), (.int .i64 a.Formula.K), (.string a.Formula.Role.Owner), (.string a.Formula.Role.Word), a3, (.int .i64 a.Plan), (.int .i64 a.Rooms.at0), (.int .i64 a.Rooms.at1), (.int .i64 a.Timeout), (.int .i64 a.Tries), (.int .i64 a.Budget), h7])] w (.bool r) := by
  have hST := ST.start (dd := false) w
  unfold kz at hm
  refine cF 147 Tryz.func12 rfl (aC (aA ?_))
  obtain ⟨A1, c2, rfl⟩ := u.form
  obtain ⟨A3, c4, rfl⟩ := t.form
  obtain ⟨A5, c6, rfl⟩ := k.form
  obtain ⟨A7, c8, rfl⟩ := j.form
  obtain ⟨A9, U, rfl⟩ := z.form
  obtain ⟨T, Y, rfl⟩ := Z.form
  refine VE (cH (v := (.agg (C1 a.Owner.Name A1 a.Owner.Creds.length c2 A3 a.Owner.Acks.length c4 a.Client.Name A5 a.Client.Creds.length c6 A7 a.Client.Acks.length c8 a.Formula.Op a.Formula.K a.Formula.Role.Owner a.Formula.Role.Word A9 a.Formula.Kids.length U a.Plan a.Rooms.at0 a.Rooms.at1 a.Timeout a.Tries a.Budget T a.Keys.length Y).toArray)) hST rfl (fun gh b5 hST => V (aF rfl) (aD (aG (aC (aC (aA (bS hm fun go bp hm => VE (Eg hST Tryz.call72 ((xH  _ _  bp)) (fun gi hST => V (iS rfl) (aD (aG (CI hm rfl (fun bn hm => ?_) (fun bn hm => ?_))))))))))))))
  · refine aC (aA (V (aF rfl) (aD (aG ?_))))
    replace hST := hST.sel (Db St)
    refine aS (cR ?_)
    have hx := sj hm; subst hx
    exact rP hST
  refine aT (aG (aC (aC (aA (V (aI rfl (aK hST.has Mh (C1 a.Owner.Name A1 a.Owner.Creds.length c2 A3 a.Owner.Acks.length c4 a.Client.Name A5 a.Client.Creds.length c6 A7 a.Client.Acks.length c8 a.Formula.Op a.Formula.K a.Formula.Role.Owner a.Formula.Role.Word A9 a.Formula.Kids.length U a.Plan a.Rooms.at0 a.Rooms.at1 a.Timeout a.Tries a.Budget T a.Keys.length Y) rfl Tryz.isAgg116 Tryz.sizeOf116)) (bS hm fun gq bq hm => VE (Eg hST Tryz.call73 ((xG a (.slice A1 a.Owner.Creds.length c2) (.slice A3 a.Owner.Acks.length c4) (.slice A5 a.Client.Creds.length c6) (.slice A7 a.Client.Acks.length c8) (.slice A9 a.Formula.Kids.length U) (.slice T a.Keys.length Y) _ _ (u.mono bD.mono hST.sub_hp) (t.mono dV.mono hST.sub_hp) (k.mono bD.mono hST.sub_hp) (j.mono dV.mono hST.sub_hp) (z.mono aQ.mono hST.sub_hp) (Z.mono ns.mono hST.sub_hp) bq)) (fun gj hST => V (aP rfl rfl rfl) (aD (aG (CI hm rfl (fun bo hm => ?_) (fun bo hm => ?_))))))))))))
  · refine aC (aA (V (aF rfl) (aD (aG ?_))))
    replace hST := hST.sel (Db St)
    refine aS (cR ?_)
    have hx := sj hm; subst hx
    exact rP hST
  refine aT (aG (aC (aA (V (aI rfl (aK hST.has Mh (C1 a.Owner.Name A1 a.Owner.Creds.length c2 A3 a.Owner.Acks.length c4 a.Client.Name A5 a.Client.Creds.length c6 A7 a.Client.Acks.length c8 a.Formula.Op a.Formula.K a.Formula.Role.Owner a.Formula.Role.Word A9 a.Formula.Kids.length U a.Plan a.Rooms.at0 a.Rooms.at1 a.Timeout a.Tries a.Budget T a.Keys.length Y) rfl Tryz.isAgg116 Tryz.sizeOf116)) (bS hm fun k8 br hm => ?_)))))
  have hsz := hST.size
  refine VE (iu hST (List.Perm.refl _) Tryz.call74 (fun _ _ _ _ => (pO a (.slice A1 a.Owner.Creds.length c2) (.slice A3 a.Owner.Acks.length c4) (.slice A5 a.Client.Creds.length c6) (.slice A7 a.Client.Acks.length c8) (.slice A9 a.Formula.Kids.length U) (.slice T a.Keys.length Y) _ _ (u.mono bD.mono hST.sub_hp) (t.mono dV.mono hST.sub_hp) (k.mono bD.mono hST.sub_hp) (j.mono dV.mono hST.sub_hp) (z.mono aQ.mono hST.sub_hp) (Z.mono ns.mono hST.sub_hp) br)) (fun gl gr gt gf hST x hl28 hlift bk => ?_) (L0 := []))
  obtain ⟨g4, i1, g5, i2, t2, rfl, t4, t5⟩ := bk
  replace t2 := t2.symm; subst t2
  replace hST := hST.perm (Tr (Tr Tn))
  refine V (aB rfl) (V (bQ rfl rfl) (V (bQ rfl rfl) (V (aF rfl) (V (aF rfl) (aD (aG (aC (aA (V (aM mr rfl) (V (aI rfl (aK hST.has (Ma (Ma Mh)) (C6 a.Owner.Name A1 a.Owner.Creds.length c2 A3 a.Owner.Acks.length c4) rfl Tryz.isAgg110 Tryz.sizeOf110)) (V (aM mG rfl) (V (aI rfl (aK hST.has (Ma (Ma Mh)) (C6 a.Client.Name A5 a.Client.Creds.length c6 A7 a.Client.Acks.length c8) rfl Tryz.isAgg110 Tryz.sizeOf110)) (bS hm fun k3 bs hm => ?_)))))))))))))
  have hsz := hST.size
  refine VE (iu hST (List.Perm.refl _) Tryz.call79 (fun _ _ _ _ => (rp a.Owner (.slice A1 a.Owner.Creds.length c2) (.slice A3 a.Owner.Acks.length c4) a.Client (.slice A5 a.Client.Creds.length c6) (.slice A7 a.Client.Acks.length c8) _ _ (u.mono bD.mono (x.trans hST.sub_hp)) (t.mono dV.mono (x.trans hST.sub_hp)) (k.mono bD.mono (x.trans hST.sub_hp)) (j.mono dV.mono (x.trans hST.sub_hp)) bs)) (fun gn gs x8 gg hST G hl44 hlift bl => ?_) (L0 := []))
  obtain ⟨cz, ct, ay, aw, t3, rfl, p5, p6⟩ := bl
  replace t3 := t3.symm; subst t3
  replace hST := hST.perm (Tr (Tr Tn))
  refine V (aB rfl) (V (bQ rfl rfl) (V (bQ rfl rfl) (V (bQ rfl rfl) (V (aF rfl) (V (aF rfl) (V (aF rfl) (aD (aG (aC (aC (aA (V (aB rfl) (V (eP Tryz.underlying22 rfl p5) (V (aB rfl) ?_))))))))))))))
  refine aD (aG (dP (fun i E W => ∃  (r9 : List (Nat × Obj)), (E 42 = .int .i64 (i : Nat) ∧ E 41 = .int .i64 (k3.1.length : Nat)) ∧ ST false dW w W x8 ((b5, Obj.cells ((C1 a.Owner.Name A1 a.Owner.Creds.length c2 A3 a.Owner.Acks.length c4 a.Client.Name A5 a.Client.Creds.length c6 A7 a.Client.Acks.length c8 a.Formula.Op a.Formula.K a.Formula.Role.Owner a.Formula.Role.Word A9 a.Formula.Kids.length U a.Plan a.Rooms.at0 a.Rooms.at1 a.Timeout a.Tries a.Budget T a.Keys.length Y).toArray : Array Value) 116 (0, 0)) :: (ct ++ (aw ++ (i1 ++ (i2 ++ r9))))) ∧ E 1 = (.pointer (some ⟨b5, 0, none⟩)) ∧ E 3 = g4 ∧ E 4 = g5 ∧ E 6 = ay ∧ E 40 = cz ∧ fW k8 k3 a (k3.1.drop i) = some r) k3.1.length p5.len ⟨_, ⟨rfl, rfl⟩, (hST.sel (Sb (Pr (Pr (Pr (Pr Pz)))) St)), rfl, rfl, rfl, rfl, rfl, hm⟩ (by decide) (by decide) (by decide) (fun _ _ _ h => by obtain ⟨_, eIN, _⟩ := h; exact eIN) ?_ ?_))
  · rintro bt E W y6 ⟨r9, ⟨eI, eN⟩, hST, s3, o5, s4, s5, s6, N⟩
    obtain ⟨g8, dy, ak, u0, al⟩ := dB y6
    rw [ak] at N
    rw [fW] at N
    refine aU (aC (aA (VQ (jh (i := (bt : Int)) (x0 := g8) Tryz.underlying22 Tryz.sizeOf53 s6 eI p5 (Int.natCast_nonneg _) u0) (fun fi z1 => V (aI rfl (mc hST.has (fun p hq => (Mt (Ml hq))) p5 bV z1 u0 Tryz.isAgg53 Tryz.sizeOf53)) (VE (cA hST Tryz.zeroValue53 (fun er fe hST => VO (aX (.agg (aJ g8).toArray) ((aJ g8).toArray) hST rfl rfl Tryz.sizeOf53 (gC g8) nb rfl (fun es hST => aD (aG (aC (aA (V (aB o5) (V (aI rfl (aK hST.has Mh (aJ g8) rfl Tryz.isAgg53 Tryz.sizeOf53)) (bS N fun fk z3 N => VE (Eg hST Tryz.call53 (bW.weak (pA g4 k8.1 g8 _ _ (t4.sl bV (fun b o hq => hST.at_ (Mt (Mt (Ma (Ma (Ml hq))))))) z3)) (fun et hST => ?_)))))))))))))))))
    refine V (iS rfl) (aD (aG ?_))
    replace hST := hST.sel (Db St)
    refine CI N rfl (fun y3 N => ?_) (fun y3 N => ?_)
    · refine aC (aA (V (aF rfl) (aD (aG ?_))))
      replace hST := hST.sel (Db (Dr (Dr (Dr (Dr St)))))
      refine aS (gA (cR (gA (cR ?_))))
      have hx := sj N; subst hx
      exact rP hST
    exact aT (cM (aG ⟨eI, _, ⟨rfl, eN⟩, (hST.sel St), s3, o5, s4, s5, s6, (by rw [al]; exact N)⟩))
  rintro E W ⟨r9, ⟨eI, eN⟩, hST, s3, o5, s4, s5, s6, N⟩
  rw [List.drop_length] at N
  rw [fW] at N
  refine aG ?_
  replace hST := hST.sel (Kb (Dr St))
  refine aC (aC (aA (V (aB s5) (V (eP Tryz.underlying22 rfl p6) (V (aB rfl) (aD (aG (Dg N (fun u2 E W => ∃  (u6 : List (Nat × Obj)), ST false dW w W x8 ((b5, Obj.cells ((C1 a.Owner.Name A1 a.Owner.Creds.length c2 A3 a.Owner.Acks.length c4 a.Client.Name A5 a.Client.Creds.length c6 A7 a.Client.Acks.length c8 a.Formula.Op a.Formula.K a.Formula.Role.Owner a.Formula.Role.Word A9 a.Formula.Kids.length U a.Plan a.Rooms.at0 a.Rooms.at1 a.Timeout a.Tries a.Budget T a.Keys.length Y).toArray : Array Value) 116 (0, 0)) :: (i1 ++ (i2 ++ u6))) ∧ E 1 = (.pointer (some ⟨b5, 0, none⟩)) ∧ E 3 = g4 ∧ E 4 = g5) (fun u2 w1 i6 => ?_) ?_))))))))
  · refine dP (fun i E W => ∃  (m2 : List (Nat × Obj)), (E 53 = .int .i64 (i : Nat) ∧ E 52 = .int .i64 (k3.2.1.length : Nat)) ∧ ST false dW w W x8 ((b5, Obj.cells ((C1 a.Owner.Name A1 a.Owner.Creds.length c2 A3 a.Owner.Acks.length c4 a.Client.Name A5 a.Client.Creds.length c6 A7 a.Client.Acks.length c8 a.Formula.Op a.Formula.K a.Formula.Role.Owner a.Formula.Role.Word A9 a.Formula.Kids.length U a.Plan a.Rooms.at0 a.Rooms.at1 a.Timeout a.Tries a.Budget T a.Keys.length Y).toArray : Array Value) 116 (0, 0)) :: (aw ++ (i1 ++ (i2 ++ m2)))) ∧ E 1 = (.pointer (some ⟨b5, 0, none⟩)) ∧ E 3 = g4 ∧ E 4 = g5 ∧ E 51 = ay ∧ fX k8 (k3.2.1.drop i) = some u2) k3.2.1.length p6.len ⟨_, ⟨rfl, rfl⟩, (hST.sel St), s3, o5, s4, rfl, w1⟩ (by decide) (by decide) (by decide) (fun _ _ _ h => by obtain ⟨_, eIN, _⟩ := h; exact eIN) ?_ ?_
    · rintro ar E W v9 ⟨m2, ⟨eI, eN⟩, hST, o2, o3, h8, o4, I⟩
      obtain ⟨e8, cy, w9, q5, x1⟩ := dB v9
      rw [w9] at I
      rw [fX] at I
      refine aU (aC (aA (VQ (jh (i := (ar : Int)) (x0 := e8) Tryz.underlying22 Tryz.sizeOf53 o4 eI p6 (Int.natCast_nonneg _) q5) (fun dt w3 => V (aI rfl (mc hST.has (fun p hq => (Mt (Ml hq))) p6 bV w3 q5 Tryz.isAgg53 Tryz.sizeOf53)) (VE (cA hST Tryz.zeroValue53 (fun dk dp hST => VO (aX (.agg (aJ e8).toArray) ((aJ e8).toArray) hST rfl rfl Tryz.sizeOf53 (gC e8) nb rfl (fun dl hST => aD (aG (aC (aA (V (aB h8) (V (aI rfl (aK hST.has Mh (aJ e8) rfl Tryz.isAgg53 Tryz.sizeOf53)) (bS I fun dv w6 I => VE (Eg hST Tryz.call53 (bW.weak (pA g5 k8.2 e8 _ _ (t5.sl bV (fun b o hq => hST.at_ (Mt (Mt (Ma (Ma (Ml hq))))))) w6)) (fun dm hST => ?_)))))))))))))))))
      refine V (iS rfl) (aD (aG ?_))
      replace hST := hST.sel (Db St)
      refine CI I rfl (fun v7 I => ?_) (fun v7 I => ?_)
      · refine aC (aA (V (aF rfl) (aD (aG ?_))))
        replace hST := hST.sel (Db (Dr (Dr (Dr St))))
        refine aS (gA (cR (gA (cR ?_))))
        have hx := sj I; subst hx
        replace i6 : some false = some r := i6
        have hx := sj i6; subst hx
        exact rP hST
      exact aT (cM (aG ⟨eI, _, ⟨rfl, eN⟩, (hST.sel St), o2, o3, h8, o4, (by rw [x1]; exact I)⟩))
    rintro E W ⟨m2, ⟨eI, eN⟩, hST, o2, o3, h8, o4, I⟩
    rw [List.drop_length] at I
    rw [fX] at I
    refine aG ?_
    have hx := sj I; subst hx
    exact ⟨_, rfl, _, (hST.sel (Kb (Dr St))), o2, o3, h8⟩
  rintro ⟨⟩ E W ⟨u6, hST, e9, v0, v1⟩ c3
  refine aC ?_
  replace hST := hST.drew
  have hS0 := hST.has.sel (Kb Sn)
  refine cU hS0 bO (X 0 rfl hS0 (aM mr e9) (XH 1 rfl hS0 (fun _ hS => aI rfl (aK hS Mh (C6 a.Owner.Name A1 a.Owner.Creds.length c2 A3 a.Owner.Acks.length c4) rfl Tryz.isAgg110 Tryz.sizeOf110)) (X 2 rfl hS0 (aB v1) (X 3 rfl hS0 (aM mG e9) (X 4 rfl hS0 (aM pk rfl) (XH 5 rfl hS0 (fun _ hS => aI rfl (aN hS Mh rfl Tryz.isAgg9)) (X 7 rfl hS0 (aM mG e9) (XH 8 rfl hS0 (fun _ hS => aI rfl (aK hS Mh (C6 a.Client.Name A5 a.Client.Creds.length c6 A7 a.Client.Acks.length c8) rfl Tryz.isAgg110 Tryz.sizeOf110)) (X 9 rfl hS0 (aB v0) (X 10 rfl hS0 (aM mr e9) (X 11 rfl hS0 (aM pk rfl) (XH 12 rfl hS0 (fun _ hS => aI rfl (aN hS Mh rfl Tryz.isAgg9)) (bS c3 fun x2 z4 c3 => XE 6 rfl (mh hST Tryz.call80 ((mC a.Owner (.slice A1 a.Owner.Creds.length c2) (.slice A3 a.Owner.Acks.length c4) g5 k8.2 a.Client.Name _ _ (u.mono bD.mono ((x.trans G).trans hST.sub_hp)) (t.mono dV.mono ((x.trans G).trans hST.sub_hp)) (t5.sl bV (fun b o hq => hST.at_ (Mt (Ma (Ml hq))))) z4)) (fun eu x5 gd az hST B hl246 y1 => ?_)))))))))))))))
  have hS0 := hST.has.selS B (Dr (Kb Sn))
  refine ⟨hS0, (bS c3 fun x3 z5 c3 => XE 13 rfl (mh hST Tryz.call80 ((mC a.Client (.slice A5 a.Client.Creds.length c6) (.slice A7 a.Client.Acks.length c8) g4 k8.1 a.Owner.Name _ _ (k.mono bD.mono (((x.trans G).trans B).trans hST.sub_hp)) (j.mono dV.mono (((x.trans G).trans B).trans hST.sub_hp)) (t4.sl bV (fun b o hq => hST.at_ (Ma (Mt (Ml hq))))) z5)) (fun ev p7 ge s1 hST H hl255 y2 => ?_)))⟩
  have hS0 := hST.has.selS (B.trans H) (Dr (Dr (Kb Sn)))
  refine ⟨hS0, (X 14 rfl hS0 (aF rfl) (X 15 rfl hS0 (aF rfl) (dC (by kernel_rfl) (aG (aC (aA (V (aI e9 (aK hST.has (Ma (Ma Mh)) (C1 a.Owner.Name A1 a.Owner.Creds.length c2 A3 a.Owner.Acks.length c4 a.Client.Name A5 a.Client.Creds.length c6 A7 a.Client.Acks.length c8 a.Formula.Op a.Formula.K a.Formula.Role.Owner a.Formula.Role.Word A9 a.Formula.Kids.length U a.Plan a.Rooms.at0 a.Rooms.at1 a.Timeout a.Tries a.Budget T a.Keys.length Y) rfl Tryz.isAgg116 Tryz.sizeOf116)) (bS c3 fun g7 z6 c3 => ?_))))))))⟩
  have hsz := hST.size
  refine VE (iu hST (List.Perm.refl _) Tryz.call76 (fun _ _ _ _ => (pP a (.slice A1 a.Owner.Creds.length c2) (.slice A3 a.Owner.Acks.length c4) (.slice A5 a.Client.Creds.length c6) (.slice A7 a.Client.Acks.length c8) (.slice A9 a.Formula.Kids.length U) (.slice T a.Keys.length Y) _ _ (u.mono bD.mono ((((x.trans G).trans B).trans H).trans hST.sub_hp)) (t.mono dV.mono ((((x.trans G).trans B).trans H).trans hST.sub_hp)) (k.mono bD.mono ((((x.trans G).trans B).trans H).trans hST.sub_hp)) (j.mono dV.mono ((((x.trans G).trans B).trans H).trans hST.sub_hp)) (z.mono aQ.mono ((((x.trans G).trans B).trans H).trans hST.sub_hp)) (Z.mono ns.mono ((((x.trans G).trans B).trans H).trans hST.sub_hp)) z6)) (fun ew fo t9 em hST c1 hl264 hlift x9 => ?_) (L0 := []))
  obtain ⟨cr, ba, t8, s2, p3, rfl, h9, i0⟩ := x9
  replace p3 := p3.symm; subst p3
  replace hST := hST.perm (Tr (Tr Tn))
  refine V (aB rfl) (V (bQ rfl rfl) (V (bQ rfl rfl) (V (aF rfl) (V (aF rfl) (aD (aG (aC (aA (V (aI e9 (aK hST.has (Ma (Ma (Ma (Ma Mh)))) (C1 a.Owner.Name A1 a.Owner.Creds.length c2 A3 a.Owner.Acks.length c4 a.Client.Name A5 a.Client.Creds.length c6 A7 a.Client.Acks.length c8 a.Formula.Op a.Formula.K a.Formula.Role.Owner a.Formula.Role.Word A9 a.Formula.Kids.length U a.Plan a.Rooms.at0 a.Rooms.at1 a.Timeout a.Tries a.Budget T a.Keys.length Y) rfl Tryz.isAgg116 Tryz.sizeOf116)) (VE (cA hST Tryz.zeroValue116 (fun ey d6 hST => VO (aX (.agg (C1 a.Owner.Name A1 a.Owner.Creds.length c2 A3 a.Owner.Acks.length c4 a.Client.Name A5 a.Client.Creds.length c6 A7 a.Client.Acks.length c8 a.Formula.Op a.Formula.K a.Formula.Role.Owner a.Formula.Role.Word A9 a.Formula.Kids.length U a.Plan a.Rooms.at0 a.Rooms.at1 a.Timeout a.Tries a.Budget T a.Keys.length Y).toArray) ((C1 a.Owner.Name A1 a.Owner.Creds.length c2 A3 a.Owner.Acks.length c4 a.Client.Name A5 a.Client.Creds.length c6 A7 a.Client.Acks.length c8 a.Formula.Op a.Formula.K a.Formula.Role.Owner a.Formula.Role.Word A9 a.Formula.Kids.length U a.Plan a.Rooms.at0 a.Rooms.at1 a.Timeout a.Tries a.Budget T a.Keys.length Y).toArray) hST rfl rfl Tryz.sizeOf116 (by simp [Value.cells, Value.oneCell']) nb rfl (fun ez hST => aD (aG (aC ?_))))))))))))))))
  refine aC (aA (V (aB rfl) (V (eP Tryz.underlying22 rfl h9) (V (aB rfl) (aD (aG (Dg c3 (fun y E W => ∃ (p8 : Value) (p9 : Value) (q0 : Value) (q1 : Value) (q2 : Value) (q3 : Value) (a1 : aY) (u7 : List (Nat × Obj)), aW t9 a1 ∧ ST false dW w W a1 ((d6, Obj.cells (#[(.string y.1), p8, p9, (.string y.2.2.2.1), q0, q1, (.int .i64 y.2.2.2.2.2.2.1), (.int .i64 y.2.2.2.2.2.2.2.1), (.string y.2.2.2.2.2.2.2.2.1.Owner), (.string y.2.2.2.2.2.2.2.2.1.Word), q2, (.int .i64 y.2.2.2.2.2.2.2.2.2.2.1), (.int .i64 y.2.2.2.2.2.2.2.2.2.2.2.1.at0), (.int .i64 y.2.2.2.2.2.2.2.2.2.2.2.1.at1), (.int .i64 y.2.2.2.2.2.2.2.2.2.2.2.2.1), (.int .i64 y.2.2.2.2.2.2.2.2.2.2.2.2.2.1), (.int .i64 y.2.2.2.2.2.2.2.2.2.2.2.2.2.2.1), q3] : Array Value) 116 (0, 0)) :: ((b5, Obj.cells ((C1 a.Owner.Name A1 a.Owner.Creds.length c2 A3 a.Owner.Acks.length c4 a.Client.Name A5 a.Client.Creds.length c6 A7 a.Client.Acks.length c8 a.Formula.Op a.Formula.K a.Formula.Role.Owner a.Formula.Role.Word A9 a.Formula.Kids.length U a.Plan a.Rooms.at0 a.Rooms.at1 a.Timeout a.Tries a.Budget T a.Keys.length Y).toArray : Array Value) 116 (0, 0)) :: (s2 ++ (s1 ++ (i1 ++ (i2 ++ u7)))))) ∧ E 1 = (.pointer (some ⟨b5, 0, none⟩)) ∧ E 3 = g4 ∧ E 4 = g5 ∧ E 13 = p7 ∧ E 15 = t8 ∧ E 16 = (.pointer (some ⟨d6, 0, none⟩)) ∧ Sl bB 15 a1 p8 y.2.1 ∧ Sl cN 8 a1 p9 y.2.2.1 ∧ Sl bB 15 a1 q0 y.2.2.2.2.1 ∧ Sl cN 8 a1 q1 y.2.2.2.2.2.1 ∧ Sl aH 5 a1 q2 y.2.2.2.2.2.2.2.2.2.1 ∧ Sl iN 2 a1 q3 y.2.2.2.2.2.2.2.2.2.2.2.2.2.2.2) (fun y w0 i5 => ?_) ?_)))))))
  · refine dP (fun i E W => ∃ (e0 : ByteArray) (c7 : Value) (f8 : List aV) (c9 : Value) (f9 : List eS) (e1 : ByteArray) (d0 : Value) (g0 : List aV) (d1 : Value) (g1 : List eS) (e2 : Int) (e3 : Int) (b9 : Role) (d2 : Value) (g2 : List Formula) (e4 : Int) (c0 : iU) (e5 : Int) (e6 : Int) (e7 : Int) (d3 : Value) (g3 : List Key) (Q : aY) (m1 : List (Nat × Obj)), (E 84 = .int .i64 (i : Nat) ∧ E 83 = .int .i64 (g7.1.length : Nat)) ∧ aW t9 Q ∧ ST false dW w W Q ((d6, Obj.cells (#[(.string e0), c7, c9, (.string e1), d0, d1, (.int .i64 e2), (.int .i64 e3), (.string b9.Owner), (.string b9.Word), d2, (.int .i64 e4), (.int .i64 c0.at0), (.int .i64 c0.at1), (.int .i64 e5), (.int .i64 e6), (.int .i64 e7), d3] : Array Value) 116 (0, 0)) :: ((b5, Obj.cells ((C1 a.Owner.Name A1 a.Owner.Creds.length c2 A3 a.Owner.Acks.length c4 a.Client.Name A5 a.Client.Creds.length c6 A7 a.Client.Acks.length c8 a.Formula.Op a.Formula.K a.Formula.Role.Owner a.Formula.Role.Word A9 a.Formula.Kids.length U a.Plan a.Rooms.at0 a.Rooms.at1 a.Timeout a.Tries a.Budget T a.Keys.length Y).toArray : Array Value) 116 (0, 0)) :: (ba ++ (s2 ++ (s1 ++ (az ++ (i1 ++ (i2 ++ m1)))))))) ∧ E 1 = (.pointer (some ⟨b5, 0, none⟩)) ∧ E 3 = g4 ∧ E 4 = g5 ∧ E 12 = x5 ∧ E 13 = p7 ∧ E 15 = t8 ∧ E 16 = (.pointer (some ⟨d6, 0, none⟩)) ∧ E 82 = cr ∧ Sl bB 15 Q c7 f8 ∧ Sl cN 8 Q c9 f9 ∧ Sl bB 15 Q d0 g0 ∧ Sl cN 8 Q d1 g1 ∧ Sl aH 5 Q d2 g2 ∧ Sl iN 2 Q d3 g3 ∧ fV x2 (g7.1.drop i) e0 f8 f9 e1 g0 g1 e2 e3 b9 g2 e4 c0 e5 e6 e7 g3 = some y) g7.1.length h9.len ⟨a.Owner.Name, (.slice A1 a.Owner.Creds.length c2), a.Owner.Creds, (.slice A3 a.Owner.Acks.length c4), a.Owner.Acks, a.Client.Name, (.slice A5 a.Client.Creds.length c6), a.Client.Creds, (.slice A7 a.Client.Acks.length c8), a.Client.Acks, a.Formula.Op, a.Formula.K, a.Formula.Role, (.slice A9 a.Formula.Kids.length U), a.Formula.Kids, a.Plan, a.Rooms, a.Timeout, a.Tries, a.Budget, (.slice T a.Keys.length Y), a.Keys, t9, _, ⟨rfl, rfl⟩, (aW.refl _), (hST.sel (Kb (Sb (Pr (Pr (Pr (Pr Pz)))) St))), e9, v0, v1, rfl, rfl, rfl, rfl, rfl, (u.mono bD.mono ((((x.trans G).trans B).trans H).trans c1)), (t.mono dV.mono ((((x.trans G).trans B).trans H).trans c1)), (k.mono bD.mono ((((x.trans G).trans B).trans H).trans c1)), (j.mono dV.mono ((((x.trans G).trans B).trans H).trans c1)), (z.mono aQ.mono ((((x.trans G).trans B).trans H).trans c1)), (Z.mono ns.mono ((((x.trans G).trans B).trans H).trans c1)), w0⟩ (by decide) (by decide) (by decide) (fun _ _ _ h => by obtain ⟨_, _, _, _, _, _, _, _, _, _, _, _, _, _, _, _, _, _, _, _, _, _, _, _, eIN, _⟩ := h; exact eIN) ?_ ?_
    · rintro aq E W v8 ⟨e0, c7, f8, c9, f9, e1, d0, g0, d1, g1, e2, e3, b9, d2, g2, e4, c0, e5, e6, e7, d3, g3, Q, m1, ⟨eI, eN⟩, g6, hST, n5, n6, n7, n8, n9, o0, f6, o1, i7, i8, i9, j0, j3, j4, D⟩
      obtain ⟨b7, cx, w7, q4, w8⟩ := dB v8
      rw [w7] at D
      rw [fV] at D
      refine aU (aC (aA (VQ (jh (i := (aq : Int)) (x0 := b7) Tryz.underlying22 Tryz.sizeOf53 o1 eI h9 (Int.natCast_nonneg _) q4) (fun ds w2 => V (aI rfl (mc hST.has (fun p hq => (Mt (Mt (Ml hq)))) h9 bV w2 q4 Tryz.isAgg53 Tryz.sizeOf53)) (VE (cA hST Tryz.zeroValue53 (fun df dn hST => VO (aX (.agg (aJ b7).toArray) ((aJ b7).toArray) hST rfl rfl Tryz.sizeOf53 (gC b7) nb rfl (fun dg hST => aD (aG (aC (aC (aA (V (aB n8) (V (aI rfl (aK hST.has Mh (aJ b7) rfl Tryz.isAgg53 Tryz.sizeOf53)) (bS D fun du w4 D => ?_))))))))))))))))
      refine VE (Eg hST Tryz.call53 (bW.weak (pA x5 x2 b7 _ _ (y1.sl bV (fun b o hq => hST.at_ (Mt (Mt (Mt (Ma (Ma (Ma (Ml hq))))))))) w4)) (fun dh hST => V (iS rfl) (aD (aG (CI D rfl (fun v6 D => ?_) (fun v6 D => ?_))))))
      · refine aC (aA (V (aF rfl) (aD (aG ?_))))
        replace hST := hST.sel (Db (Db (Db (Dr (Dr (Dr (Dr (Dr (Dr St)))))))))
        refine aS (cR (gA (cR (gA (cR ?_)))))
        have hx := sj D; subst hx
        replace i5 : some false = some r := i5
        have hx := sj i5; subst hx
        exact rP hST
      refine aT (aG (aA (V (aI f6 (aK hST.has (Mt Mh) [(.string e0), c7, c9, (.string e1), d0, d1, (.int .i64 e2), (.int .i64 e3), (.string b9.Owner), (.string b9.Word), d2, (.int .i64 e4), (.int .i64 c0.at0), (.int .i64 c0.at1), (.int .i64 e5), (.int .i64 e6), (.int .i64 e7), d3] rfl Tryz.isAgg116 Tryz.sizeOf116)) (V (aI rfl (aK hST.has Mh (aJ b7) rfl Tryz.isAgg53 Tryz.sizeOf53)) (bS D fun c w5 D => ?_)))))
      have hsz := hST.size
      refine VE (je hST (List.Perm.refl _) Tryz.call81 (fun hH hN hsb hmm => (oh ((⟨(⟨e0, f8, f9⟩ : bT), (⟨e1, g0, g1⟩ : bT), (⟨e2, e3, b9, g2⟩ : Formula), e4, c0, e5, e6, e7, g3⟩ : eW)) c7 c9 d0 d1 d2 d3 0 b7 _ _ ⟨hH, hN, hsb⟩ (i7.mono bD.mono (aW.refl _)) (i8.mono dV.mono (aW.refl _)) (i9.mono bD.mono (aW.refl _)) (j0.mono dV.mono (aW.refl _)) (j3.mono aQ.mono (aW.refl _)) (j4.mono ns.mono (aW.refl _)) w5)) (fun di dx av db hST u4 hl1227 v5 => ?_) (L0 := []))
      obtain ⟨eg, eh, ei, ej, ek, el, j6, rfl, r2, r3, r4, r5, r6, r7⟩ := v5
      replace j6 := j6.symm; subst j6
      replace hST := hST.perm Tn
      refine V (aB rfl) (V (bQ rfl rfl) (V (bQ rfl rfl) ?_))
      obtain ⟨l5, m9, rfl⟩ := r2.form
      obtain ⟨l6, n0, rfl⟩ := r3.form
      obtain ⟨l7, n1, rfl⟩ := r4.form
      obtain ⟨l8, n2, rfl⟩ := r5.form
      obtain ⟨l9, n3, rfl⟩ := r6.form
      obtain ⟨m0, n4, rfl⟩ := r7.form
      replace hST := hST.perm (Nb (Pb Pz) Nz)
      refine VO (aX (.agg #[(.string (((c.1).Owner).Name)), (.slice l5 (((c.1).Owner).Creds).length m9), (.slice l6 (((c.1).Owner).Acks).length n0), (.string (((c.1).Client).Name)), (.slice l7 (((c.1).Client).Creds).length n1), (.slice l8 (((c.1).Client).Acks).length n2), (.int .i64 (((c.1).Formula).Op)), (.int .i64 (((c.1).Formula).K)), (.string ((((c.1).Formula).Role).Owner)), (.string ((((c.1).Formula).Role).Word)), (.slice l9 (((c.1).Formula).Kids).length n3), (.int .i64 ((c.1).Plan)), (.int .i64 (((c.1).Rooms).at0)), (.int .i64 (((c.1).Rooms).at1)), (.int .i64 ((c.1).Timeout)), (.int .i64 ((c.1).Tries)), (.int .i64 ((c.1).Budget)), (.slice m0 ((c.1).Keys).length n4)]) (#[(.string (((c.1).Owner).Name)), (.slice l5 (((c.1).Owner).Creds).length m9), (.slice l6 (((c.1).Owner).Acks).length n0), (.string (((c.1).Client).Name)), (.slice l7 (((c.1).Client).Creds).length n1), (.slice l8 (((c.1).Client).Acks).length n2), (.int .i64 (((c.1).Formula).Op)), (.int .i64 (((c.1).Formula).K)), (.string ((((c.1).Formula).Role).Owner)), (.string ((((c.1).Formula).Role).Word)), (.slice l9 (((c.1).Formula).Kids).length n3), (.int .i64 ((c.1).Plan)), (.int .i64 (((c.1).Rooms).at0)), (.int .i64 (((c.1).Rooms).at1)), (.int .i64 ((c.1).Timeout)), (.int .i64 ((c.1).Tries)), (.int .i64 ((c.1).Budget)), (.slice m0 ((c.1).Keys).length n4)]) hST f6 rfl Tryz.sizeOf116 (by simp [Value.cells, Value.oneCell']) nb rfl (fun dj hST => aD (cM (aG ?_))))
      replace hST := hST.sel (Kb (Db St))
      exact ⟨eI, (((c.1).Owner).Name), (.slice l5 (((c.1).Owner).Creds).length m9), (((c.1).Owner).Creds), (.slice l6 (((c.1).Owner).Acks).length n0), (((c.1).Owner).Acks), (((c.1).Client).Name), (.slice l7 (((c.1).Client).Creds).length n1), (((c.1).Client).Creds), (.slice l8 (((c.1).Client).Acks).length n2), (((c.1).Client).Acks), (((c.1).Formula).Op), (((c.1).Formula).K), (((c.1).Formula).Role), (.slice l9 (((c.1).Formula).Kids).length n3), (((c.1).Formula).Kids), ((c.1).Plan), ((c.1).Rooms), ((c.1).Timeout), ((c.1).Tries), ((c.1).Budget), (.slice m0 ((c.1).Keys).length n4), ((c.1).Keys), av, _, ⟨rfl, eN⟩, (g6.trans u4), (hST.sel St), n5, n6, n7, n8, n9, o0, f6, o1, r2, r3, r4, r5, r6, r7, (by rw [w8]; exact D)⟩
    rintro E W ⟨e0, c7, f8, c9, f9, e1, d0, g0, d1, g1, e2, e3, b9, d2, g2, e4, c0, e5, e6, e7, d3, g3, Q, m1, ⟨eI, eN⟩, g6, hST, n5, n6, n7, n8, n9, o0, f6, o1, i7, i8, i9, j0, j3, j4, D⟩
    rw [List.drop_length] at D
    rw [fV] at D
    refine aG ?_
    have hx := sj D; subst hx
    exact ⟨_, rfl, c7, c9, d0, d1, d2, d3, Q, _, g6, (hST.sel (Kb (Kb (Dr (Kr (Kr (Dr St))))))), n5, n6, n7, n9, o0, f6, i7, i8, i9, j0, j3, j4⟩
  rintro ⟨ch, bv, bw, ci, bx, bz, cj, ck, cl, ca, cm, cn, co, cp, cq, cb⟩ E W ⟨p8, p9, q0, q1, q2, q3, a1, u7, cu, hST, bb, bc, bd, be, bf, bg, aa, ab, ac, ad, ae, af⟩ y8
  refine aC (aC (aA (V (aB bf) (V (eP Tryz.underlying22 rfl i0) (V (aB rfl) (aD (aG (Dg y8 (fun J E W => ∃ (k4 : Value) (k5 : Value) (k6 : Value) (k7 : Value) (t6 : Value) (t7 : Value) (d4 : aY) (u8 : List (Nat × Obj)), aW a1 d4 ∧ ST false dW w W d4 ((d6, Obj.cells (#[(.string J.1), k4, k5, (.string J.2.2.2.1), k6, k7, (.int .i64 J.2.2.2.2.2.2.1), (.int .i64 J.2.2.2.2.2.2.2.1), (.string J.2.2.2.2.2.2.2.2.1.Owner), (.string J.2.2.2.2.2.2.2.2.1.Word), t6, (.int .i64 J.2.2.2.2.2.2.2.2.2.2.1), (.int .i64 J.2.2.2.2.2.2.2.2.2.2.2.1.at0), (.int .i64 J.2.2.2.2.2.2.2.2.2.2.2.1.at1), (.int .i64 J.2.2.2.2.2.2.2.2.2.2.2.2.1), (.int .i64 J.2.2.2.2.2.2.2.2.2.2.2.2.2.1), (.int .i64 J.2.2.2.2.2.2.2.2.2.2.2.2.2.2.1), t7] : Array Value) 116 (0, 0)) :: ((b5, Obj.cells ((C1 a.Owner.Name A1 a.Owner.Creds.length c2 A3 a.Owner.Acks.length c4 a.Client.Name A5 a.Client.Creds.length c6 A7 a.Client.Acks.length c8 a.Formula.Op a.Formula.K a.Formula.Role.Owner a.Formula.Role.Word A9 a.Formula.Kids.length U a.Plan a.Rooms.at0 a.Rooms.at1 a.Timeout a.Tries a.Budget T a.Keys.length Y).toArray : Array Value) 116 (0, 0)) :: (i1 ++ (i2 ++ u8)))) ∧ E 1 = (.pointer (some ⟨b5, 0, none⟩)) ∧ E 3 = g4 ∧ E 4 = g5 ∧ E 16 = (.pointer (some ⟨d6, 0, none⟩)) ∧ Sl bB 15 d4 k4 J.2.1 ∧ Sl cN 8 d4 k5 J.2.2.1 ∧ Sl bB 15 d4 k6 J.2.2.2.2.1 ∧ Sl cN 8 d4 k7 J.2.2.2.2.2.1 ∧ Sl aH 5 d4 t6 J.2.2.2.2.2.2.2.2.2.1 ∧ Sl iN 2 d4 t7 J.2.2.2.2.2.2.2.2.2.2.2.2.2.2.2) (fun J z0 o6 => ?_) ?_))))))))
  · refine dP (fun i E W => ∃ (g9 : ByteArray) (f0 : Value) (j7 : List aV) (f1 : Value) (j8 : List eS) (h0 : ByteArray) (f2 : Value) (j9 : List aV) (f3 : Value) (k0 : List eS) (h1 : Int) (h2 : Int) (d8 : Role) (f4 : Value) (k1 : List Formula) (h3 : Int) (d9 : iU) (h4 : Int) (h5 : Int) (h6 : Int) (f5 : Value) (k2 : List Key) (a6 : aY) (s0 : List (Nat × Obj)), (E 101 = .int .i64 (i : Nat) ∧ E 100 = .int .i64 (g7.2.length : Nat)) ∧ aW a1 a6 ∧ ST false dW w W a6 ((d6, Obj.cells (#[(.string g9), f0, f1, (.string h0), f2, f3, (.int .i64 h1), (.int .i64 h2), (.string d8.Owner), (.string d8.Word), f4, (.int .i64 h3), (.int .i64 d9.at0), (.int .i64 d9.at1), (.int .i64 h4), (.int .i64 h5), (.int .i64 h6), f5] : Array Value) 116 (0, 0)) :: ((b5, Obj.cells ((C1 a.Owner.Name A1 a.Owner.Creds.length c2 A3 a.Owner.Acks.length c4 a.Client.Name A5 a.Client.Creds.length c6 A7 a.Client.Acks.length c8 a.Formula.Op a.Formula.K a.Formula.Role.Owner a.Formula.Role.Word A9 a.Formula.Kids.length U a.Plan a.Rooms.at0 a.Rooms.at1 a.Timeout a.Tries a.Budget T a.Keys.length Y).toArray : Array Value) 116 (0, 0)) :: (s2 ++ (s1 ++ (i1 ++ (i2 ++ s0)))))) ∧ E 1 = (.pointer (some ⟨b5, 0, none⟩)) ∧ E 3 = g4 ∧ E 4 = g5 ∧ E 13 = p7 ∧ E 16 = (.pointer (some ⟨d6, 0, none⟩)) ∧ E 99 = t8 ∧ Sl bB 15 a6 f0 j7 ∧ Sl cN 8 a6 f1 j8 ∧ Sl bB 15 a6 f2 j9 ∧ Sl cN 8 a6 f3 k0 ∧ Sl aH 5 a6 f4 k1 ∧ Sl iN 2 a6 f5 k2 ∧ fZ x3 (g7.2.drop i) g9 j7 j8 h0 j9 k0 h1 h2 d8 k1 h3 d9 h4 h5 h6 k2 = some J) g7.2.length i0.len ⟨ch, p8, bv, p9, bw, ci, q0, bx, q1, bz, cj, ck, cl, q2, ca, cm, cn, co, cp, cq, q3, cb, a1, _, ⟨rfl, rfl⟩, (aW.refl _), (hST.sel St), bb, bc, bd, be, bg, rfl, aa, ab, ac, ad, ae, af, z0⟩ (by decide) (by decide) (by decide) (fun _ _ _ h => by obtain ⟨_, _, _, _, _, _, _, _, _, _, _, _, _, _, _, _, _, _, _, _, _, _, _, _, eIN, _⟩ := h; exact eIN) ?_ ?_
    · rintro bu E W y7 ⟨g9, f0, j7, f1, j8, h0, f2, j9, f3, k0, h1, h2, d8, f4, k1, h3, d9, h4, h5, h6, f5, k2, a6, s0, ⟨eI, eN⟩, i4, hST, s7, s8, s9, t0, i3, t1, o7, o8, o9, p0, p1, p2, K⟩
      obtain ⟨d7, dz, am, u1, an⟩ := dB y7
      rw [am] at K
      rw [fZ] at K
      refine aU (aC (aA (VQ (jh (i := (bu : Int)) (x0 := d7) Tryz.underlying22 Tryz.sizeOf53 t1 eI i0 (Int.natCast_nonneg _) u1) (fun fj z2 => V (aI rfl (mc hST.has (fun p hq => (Mt (Mt (Ml hq)))) i0 bV z2 u1 Tryz.isAgg53 Tryz.sizeOf53)) (VE (cA hST Tryz.zeroValue53 (fun fb ff hST => VO (aX (.agg (aJ d7).toArray) ((aJ d7).toArray) hST rfl rfl Tryz.sizeOf53 (gC d7) nb rfl (fun fc hST => aD (aG (aC (aC (aA (V (aB t0) (V (aI rfl (aK hST.has Mh (aJ d7) rfl Tryz.isAgg53 Tryz.sizeOf53)) (bS K fun fn z8 K => ?_))))))))))))))))
      refine VE (Eg hST Tryz.call53 (bW.weak (pA p7 x3 d7 _ _ (y2.sl bV (fun b o hq => hST.at_ (Mt (Mt (Mt (Ma (Ml hq))))))) z8)) (fun fd hST => V (iS rfl) (aD (aG (CI K rfl (fun y5 K => ?_) (fun y5 K => ?_))))))
      · refine aC (aA (V (aF rfl) (aD (aG ?_))))
        replace hST := hST.sel (Db (Db (Db (Dr (Dr (Dr (Dr St)))))))
        refine aS (cR (gA (cR (gA (cR ?_)))))
        have hx := sj K; subst hx
        replace o6 : some false = some r := o6
        have hx := sj o6; subst hx
        exact rP hST
      refine aT (aG (aA (V (aI i3 (aK hST.has (Mt Mh) [(.string g9), f0, f1, (.string h0), f2, f3, (.int .i64 h1), (.int .i64 h2), (.string d8.Owner), (.string d8.Word), f4, (.int .i64 h3), (.int .i64 d9.at0), (.int .i64 d9.at1), (.int .i64 h4), (.int .i64 h5), (.int .i64 h6), f5] rfl Tryz.isAgg116 Tryz.sizeOf116)) (V (aI rfl (aK hST.has Mh (aJ d7) rfl Tryz.isAgg53 Tryz.sizeOf53)) (bS K fun g z9 K => ?_)))))
      have hsz := hST.size
      refine VE (je hST (List.Perm.refl _) Tryz.call81 (fun hH hN hsb hmm => (oh ((⟨(⟨g9, j7, j8⟩ : bT), (⟨h0, j9, k0⟩ : bT), (⟨h1, h2, d8, k1⟩ : Formula), h3, d9, h4, h5, h6, k2⟩ : eW)) f0 f1 f2 f3 f4 f5 1 d7 _ _ ⟨hH, hN, hsb⟩ (o7.mono bD.mono (aW.refl _)) (o8.mono dV.mono (aW.refl _)) (o9.mono bD.mono (aW.refl _)) (p0.mono dV.mono (aW.refl _)) (p1.mono aQ.mono (aW.refl _)) (p2.mono ns.mono (aW.refl _)) z9)) (fun dc dw au da hST u3 hl1003 v4 => ?_) (L0 := []))
      obtain ⟨ea, eb, ec, ed, ee, ef, j5, rfl, q6, q7, q8, q9, r0, r1⟩ := v4
      replace j5 := j5.symm; subst j5
      replace hST := hST.perm Tn
      refine V (aB rfl) (V (bQ rfl rfl) (V (bQ rfl rfl) ?_))
      obtain ⟨k9, m3, rfl⟩ := q6.form
      obtain ⟨l0, m4, rfl⟩ := q7.form
      obtain ⟨l1, m5, rfl⟩ := q8.form
      obtain ⟨l2, m6, rfl⟩ := q9.form
      obtain ⟨l3, m7, rfl⟩ := r0.form
      obtain ⟨l4, m8, rfl⟩ := r1.form
      replace hST := hST.perm (Nb (Pb Pz) Nz)
      refine VO (aX (.agg #[(.string (((g.1).Owner).Name)), (.slice k9 (((g.1).Owner).Creds).length m3), (.slice l0 (((g.1).Owner).Acks).length m4), (.string (((g.1).Client).Name)), (.slice l1 (((g.1).Client).Creds).length m5), (.slice l2 (((g.1).Client).Acks).length m6), (.int .i64 (((g.1).Formula).Op)), (.int .i64 (((g.1).Formula).K)), (.string ((((g.1).Formula).Role).Owner)), (.string ((((g.1).Formula).Role).Word)), (.slice l3 (((g.1).Formula).Kids).length m7), (.int .i64 ((g.1).Plan)), (.int .i64 (((g.1).Rooms).at0)), (.int .i64 (((g.1).Rooms).at1)), (.int .i64 ((g.1).Timeout)), (.int .i64 ((g.1).Tries)), (.int .i64 ((g.1).Budget)), (.slice l4 ((g.1).Keys).length m8)]) (#[(.string (((g.1).Owner).Name)), (.slice k9 (((g.1).Owner).Creds).length m3), (.slice l0 (((g.1).Owner).Acks).length m4), (.string (((g.1).Client).Name)), (.slice l1 (((g.1).Client).Creds).length m5), (.slice l2 (((g.1).Client).Acks).length m6), (.int .i64 (((g.1).Formula).Op)), (.int .i64 (((g.1).Formula).K)), (.string ((((g.1).Formula).Role).Owner)), (.string ((((g.1).Formula).Role).Word)), (.slice l3 (((g.1).Formula).Kids).length m7), (.int .i64 ((g.1).Plan)), (.int .i64 (((g.1).Rooms).at0)), (.int .i64 (((g.1).Rooms).at1)), (.int .i64 ((g.1).Timeout)), (.int .i64 ((g.1).Tries)), (.int .i64 ((g.1).Budget)), (.slice l4 ((g.1).Keys).length m8)]) hST i3 rfl Tryz.sizeOf116 (by simp [Value.cells, Value.oneCell']) nb rfl (fun de hST => aD (cM (aG ?_))))
      replace hST := hST.sel (Kb (Db St))
      exact ⟨eI, (((g.1).Owner).Name), (.slice k9 (((g.1).Owner).Creds).length m3), (((g.1).Owner).Creds), (.slice l0 (((g.1).Owner).Acks).length m4), (((g.1).Owner).Acks), (((g.1).Client).Name), (.slice l1 (((g.1).Client).Creds).length m5), (((g.1).Client).Creds), (.slice l2 (((g.1).Client).Acks).length m6), (((g.1).Client).Acks), (((g.1).Formula).Op), (((g.1).Formula).K), (((g.1).Formula).Role), (.slice l3 (((g.1).Formula).Kids).length m7), (((g.1).Formula).Kids), ((g.1).Plan), ((g.1).Rooms), ((g.1).Timeout), ((g.1).Tries), ((g.1).Budget), (.slice l4 ((g.1).Keys).length m8), ((g.1).Keys), au, _, ⟨rfl, eN⟩, (i4.trans u3), (hST.sel St), s7, s8, s9, t0, i3, t1, q6, q7, q8, q9, r0, r1, (by rw [an]; exact K)⟩
    rintro E W ⟨g9, f0, j7, f1, j8, h0, f2, j9, f3, k0, h1, h2, d8, f4, k1, h3, d9, h4, h5, h6, f5, k2, a6, s0, ⟨eI, eN⟩, i4, hST, s7, s8, s9, t0, i3, t1, o7, o8, o9, p0, p1, p2, K⟩
    rw [List.drop_length] at K
    rw [fZ] at K
    refine aG ?_
    have hx := sj K; subst hx
    exact ⟨_, rfl, f0, f1, f2, f3, f4, f5, a6, _, i4, (hST.sel (Kb (Kb (Dr (Dr St))))), s7, s8, s9, i3, o7, o8, o9, p0, p1, p2⟩
  rintro ⟨x6, cc, cd, x7, ce, cf, fq, fs, ft, fg, fu, fv, fw, fx, fy, fh⟩ E W ⟨k4, k5, k6, k7, t6, t7, d4, u8, cv, hST, v2, bh, bi, v3, ag, ah, ai, aj, dq, dr⟩ c5
  refine aC (aC (aA (V (aM mr v2) (V (aM ur rfl) (V (aI rfl (aN hST.has (Mt Mh) rfl Tryz.isAgg108)) (V (eH Tryz.underlying108 rfl t) (V (aM mG v2) (V (aM ur rfl) (V (aI rfl (aN hST.has (Mt Mh) rfl Tryz.isAgg108)) (V (eH Tryz.underlying108 rfl j) (V (aP rfl rfl rfl) (V (aP rfl rfl rfl) (aD (aG ?_))))))))))))))
  replace hST := hST.sel (Kb (Db St))
  refine CI c5 rfl (fun y4 c5 => ?_) (fun y4 c5 => ?_)
  · refine aC (aA (V (aF rfl) (aD (aG ?_))))
    replace hST := hST.sel (Db (Dr (Dr St)))
    refine aS (cR ?_)
    have hx := sj c5; subst hx
    exact rP hST
  refine aT (aG (aC (aA (V (aM mr v3) (V (aI rfl (aK hST.has Mh [(.string x6), k4, k5] rfl Tryz.isAgg110 Tryz.sizeOf110)) (V (aM mG v3) (V (aI rfl (aK hST.has Mh [(.string x7), k6, k7] rfl Tryz.isAgg110 Tryz.sizeOf110)) (bS c5 fun fl z7 c5 => ?_))))))))
  have hsz := hST.size
  refine VE (iu hST (List.Perm.refl _) Tryz.call79 (fun _ _ _ _ => (rp ((⟨x6, cc, cd⟩ : bT)) k4 k5 ((⟨x7, ce, cf⟩ : bT)) k6 k7 _ _ (ag.mono bD.mono hST.sub_hp) (ah.mono dV.mono hST.sub_hp) (ai.mono bD.mono hST.sub_hp) (aj.mono dV.mono hST.sub_hp) z7)) (fun fa fp cs en hST cw hl794 hlift y0 => ?_) (L0 := []))
  obtain ⟨ga, eo, gb, ep, p4, rfl, ao, ap⟩ := y0
  replace p4 := p4.symm; subst p4
  replace hST := hST.perm (Tr (Tr Tn))
  refine V (aB rfl) (V (bQ rfl rfl) (V (bQ rfl rfl) (V (bQ rfl rfl) (V (aF rfl) (V (aF rfl) (aD (aG ?_)))))))
  replace hST := hST.sel (Kr (Kr (Db St)))
  refine aC (aA (V (aB rfl) (V (eP Tryz.underlying22 rfl ao) (V (aB bh) (V (eP Tryz.underlying22 rfl t4) (V (aP rfl rfl rfl) (V (aB rfl) (LJ c5 (fun x4 E W => ∃  (u9 : List (Nat × Obj)), ST false dW w W cs u9 ∧ E 146 = (.bool x4)) 6 ?_ (fun x4 f7 r8 => ?_)))))))))
  · rintro fz E W ⟨u9, hST, bj⟩ y9
    refine V (aF bj) (aD (aG (aS ?_)))
    have hx := sj y9; subst hx
    exact rP hST
  refine bC f7 (fun M f7 => ?_) (fun M f7 => ?_)
  · refine Vg rfl (cB M) (aB rfl) (Vg rfl (cB M) (eP Tryz.underlying22 rfl ap) (Vg rfl (cB M) (aB bi) (Vg rfl (cB M) (eP Tryz.underlying22 rfl t5) (Vg rfl (cB M) (aP rfl rfl rfl) (V (cD (cB M) rfl) ?_)))))
    have hx := sj f7; subst hx
    exact r8 _ _ ⟨_, (hST.sel (Dr (Dr (Dr (Dr St))))), rfl⟩
  refine Vn rfl (cB M) (Vn rfl (cB M) (Vn rfl (cB M) (Vn rfl (cB M) (Vn rfl (cB M) (V (cI (cB M) rfl) ?_)))))
  have hx := sj f7; subst hx
  exact r8 _ _ ⟨_, (hST.sel (Dr (Dr (Dr (Dr St))))), rfl⟩
end Go.Proofs.YtmlncblocfcmiaaGreat
