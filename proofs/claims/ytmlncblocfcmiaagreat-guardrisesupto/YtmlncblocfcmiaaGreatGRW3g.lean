/- a part of a proof of GuardRises -/
import Derived.Test.YtmlncblocfcmiaaGreatGRW2g
set_option linter.all false
namespace Go.Proofs.YtmlncblocfcmiaaGreat
open Go.RowKit
set_option maxRecDepth 10000
theorem Dh  (r : Bool) (w : World)  (hm : pO  = some r) :
    bO false Tryz.prog 101 [] w (.bool r) := by
  have hST := ST.start (dd := false) w
  unfold pO at hm
  refine cF 115 Tryz.func101 rfl (aD (aA (V (aG rfl) (aF (aH (aD (aA (V (bJ (qs := #[(0, (.string K4)), (1, (.string K5))]) (v := (.agg (aO GY).toArray)) (fR rfl rfl) (aW Tryz.zeroValue28 Tryz.underlying28 (DU _ Tryz.underlying28) (by kernel_rfl))) (V (bJ (qs := #[(0, (.int .i64 1)), (2, (.agg (aO GY).toArray))]) (v := (.agg wR.toArray)) (fR rfl rfl) (aW Tryz.zeroValue113 Tryz.underlying113 (tu _ Tryz.underlying113) (by kernel_rfl))) (VE (bL hST Tryz.zeroValue113 (fun W2 b1 hST => VO (bH (.agg wR.toArray) (wR.toArray) hST rfl rfl Tryz.sizeOf113 (by simp [Value.cells, Value.oneCell']) nb rfl (fun W3 hST => aF (aH (aD ?_))))))))))))))))
  refine aA (V (bJ (qs := #[(0, (.string K6)), (1, (.string K7))]) (v := (.agg (aO GD).toArray)) (fR rfl rfl) (aW Tryz.zeroValue28 Tryz.underlying28 (DU _ Tryz.underlying28) (by kernel_rfl))) (V (bJ (qs := #[(0, (.int .i64 1)), (2, (.agg (aO GD).toArray))]) (v := (.agg wG.toArray)) (fR rfl rfl) (aW Tryz.zeroValue113 Tryz.underlying113 (tu _ Tryz.underlying113) (by kernel_rfl))) (VE (bL hST Tryz.zeroValue113 (fun W5 b4 hST => VO (bH (.agg wG.toArray) (wG.toArray) hST rfl rfl Tryz.sizeOf113 (by simp [Value.cells, Value.oneCell']) nb rfl (fun W6 hST => aF (aH (aD (aA (V (bJ (qs := #[(0, (.string K1)), (1, (.string K2))]) (v := (.agg (aO rQ).toArray)) (fR rfl rfl) (aW Tryz.zeroValue28 Tryz.underlying28 (DU _ Tryz.underlying28) (by kernel_rfl))) (V (bJ (qs := #[(0, (.int .i64 1)), (1, (.agg (aO rQ).toArray)), (2, (.string K3))]) (v := (.agg (aI cI).toArray)) (eH rfl rfl rfl) (aW Tryz.zeroValue53 Tryz.underlying53 (Fp _ Tryz.underlying53) (by kernel_rfl))) (VE (bL hST Tryz.zeroValue53 (fun W8 b7 hST => VO (bH (.agg (aI cI).toArray) ((aI cI).toArray) hST rfl rfl Tryz.sizeOf53 (gY cI) nb rfl (fun W9 hST => aF (aH ?_))))))))))))))))))
  refine aD ?_
  replace hST := hST.drew
  have hS0 := hST.has.sel (Kb (Kb (Kb Sn)))
  refine cX hS0 cC (XH 0 rfl hS0 (fun _ hS => aJ rfl (aM hS Mh (aI cI) rfl Tryz.isAgg53 Tryz.sizeOf53)) (XH 3 rfl hS0 (fun _ hS => aJ rfl (aM hS (Mt Mh) wG rfl Tryz.isAgg113 Tryz.sizeOf113)) (X 6 rfl hS0 (aN oA rfl) (XH 7 rfl hS0 (fun _ hS => aJ rfl (aM hS Mh (aO rQ) rfl Tryz.isAgg28 Tryz.sizeOf28)) (XH 8 rfl hS0 (fun _ hS => aJ rfl (aM hS (Mt (Mt Mh)) wR rfl Tryz.isAgg113 Tryz.sizeOf113)) (XH 9 rfl hS0 (fun _ hS => aJ rfl (aM hS Mh (aI cI) rfl Tryz.isAgg53 Tryz.sizeOf53)) (PJ hm (fun h9 E W => ∃ (a4 : Nat) (w8 : Value) (v3 : List (Nat × Obj)) (w9 : Value) (v4 : List (Nat × Obj)) (s6 : Value) (s7 : Value) (i0 : bD) (x7 : List (Nat × Obj)), bE (hp w) i0 ∧ ST false dC w W i0 ((a4, Obj.cells (#[(.string h9.2.2.2.1), s6, s7] : Array Value) 110 (0, 0)) :: ((b7, Obj.cells ((aI cI).toArray : Array Value) 53 (0, 0)) :: ((b4, Obj.cells (wG.toArray : Array Value) 113 (0, 0)) :: ((b1, Obj.cells (wR.toArray : Array Value) 113 (0, 0)) :: (v3 ++ (v4 ++ x7)))))) ∧ E 1 = (.pointer (some ⟨b1, 0, none⟩)) ∧ E 2 = (.pointer (some ⟨b4, 0, none⟩)) ∧ E 3 = (.pointer (some ⟨b7, 0, none⟩)) ∧ E 4 = (.pointer (some ⟨a4, 0, none⟩)) ∧ E 30 = (.agg #[(.string h9.1), w8, w9]) ∧ bG 138 bF 15 i0 w8 h9.2.1 v3 ∧ bG 263 cD 8 i0 w9 h9.2.2.1 v4 ∧ Sl bF 15 i0 s6 h9.2.2.2.2.1 ∧ Fr w.heap.size s6 ∧ Sl cD 8 i0 s7 h9.2.2.2.2.2 ∧ Fr w.heap.size s7) (bm 16 32767) 1 ?_ (fun h9 t y => ?_))))))))
  · rintro ⟨Q, B, D, pj, ok, ol⟩ E W ⟨a4, w8, v3, w9, v4, s6, s7, i0, x7, t8, hST, eo, ep, v7, k1, eq, t1, t2, jl, gy, jm, gz⟩ e6
    have hS0 := hST.has.selS t8 (Db (Kb (Kb (Kb Sn))))
    obtain ⟨J, M, rfl⟩ := t1.form
    obtain ⟨K, N, rfl⟩ := t2.form
    refine XO 15 rfl (bH (.agg (C5 Q J B.length M K D.length N).toArray) ((C5 Q J B.length M K D.length N).toArray) hST k1 eq Tryz.sizeOf110 (by simp [Value.cells, Value.oneCell']) nb rfl (fun kb hST => ?_))
    have hS0 := hST.has.selS t8 (Db (Kb (Kb (Kb Sn))))
    refine ⟨hS0, (dB (by kernel_rfl) (aH (aD (aA (V (aJ k1 (aM hST.has Mh (C5 Q J B.length M K D.length N) rfl Tryz.isAgg110 Tryz.sizeOf110)) (V (aJ v7 (aM hST.has (Mt Mh) (aI cI) rfl Tryz.isAgg53 Tryz.sizeOf53)) ?_))))))⟩
    replace hST := hST.perm (Nr (Qb (Qb (Qb (Qb Qz)))) Nz)
    have ha := t1.frM hST (fun p hq => (Ml hq))
    obtain ⟨pw, hST, t9, hl1585, e8⟩ := ST.pubD bR hST t1
    replace hST := hST.perm (Nr (Qb (Qb (Qb (Qb Qz)))) Nz)
    have hb := (t2.mono dR t9).frM hST (fun p hq => (Ml hq))
    obtain ⟨px, hST, d4, hl1590, e9⟩ := ST.pubD dR hST (t2.mono dR t9)
    refine bS e6 fun k bo e6 => ?_
    have hsz := hST.size
    refine VE (lT hST (List.Perm.refl _) Tryz.call106 (fun hH hN hsb hmm => (uk ((⟨Q, B, D⟩ : cG)) (.slice J B.length M) (.slice K D.length N) cI _ _ ⟨hH, hN, hsb⟩ (e8.mono bR.mono d4) (e9.mono dR.mono (bE.refl _)) bo)) (fun kc ov py jn hST a2 hl1598 am => ?_) (L0 := []))
    obtain ⟨pu, t6, rfl, x5⟩ := am
    replace t6 := t6.symm; subst t6
    replace hST := hST.perm Tn
    refine V (aC rfl) (V (dU rfl rfl) (V (dU rfl rfl) (VE (bL hST Tryz.zeroValue113 (fun kd g1 hST => ?_)))))
    obtain ⟨d5, d9, rfl⟩ := x5.form
    refine VO (bH (.agg #[(.int .i64 ((k.1).Op)), (.int .i64 ((k.1).K)), (.string (((k.1).Role).Owner)), (.string (((k.1).Role).Word)), (.slice d5 ((k.1).Kids).length d9)]) (#[(.int .i64 ((k.1).Op)), (.int .i64 ((k.1).K)), (.string (((k.1).Role).Owner)), (.string (((k.1).Role).Word)), (.slice d5 ((k.1).Kids).length d9)]) hST rfl rfl Tryz.sizeOf113 (by simp [Value.cells, Value.oneCell']) nb rfl (fun ke hST => V (aG rfl) (aF (aH (aD (aA (V (aJ k1 (aM hST.has (Mt Mh) (C5 Q J B.length M K D.length N) rfl Tryz.isAgg110 Tryz.sizeOf110)) (V (bJ (qs := #[]) (v := (.agg (aI Im).toArray)) nZ (aW Tryz.zeroValue53 Tryz.underlying53 (Fp _ Tryz.underlying53) (by kernel_rfl))) (bS e6 fun f3 bp e6 => ?_)))))))))
    have hsz := hST.size
    refine VE (lT hST (List.Perm.refl _) Tryz.call106 (fun hH hN hsb hmm => (uk ((⟨Q, B, D⟩ : cG)) (.slice J B.length M) (.slice K D.length N) Im _ _ ⟨hH, hN, hsb⟩ (e8.mono bR.mono (d4.trans a2)) (e9.mono dR.mono a2) bp)) (fun kf ow pz jo hST a9 hl1615 an => ?_) (L0 := []))
    obtain ⟨pv, t7, rfl, dz⟩ := an
    replace t7 := t7.symm; subst t7
    replace hST := hST.perm Tn
    refine V (aC rfl) (V (dU rfl rfl) (V (dU rfl rfl) (VE (bL hST Tryz.zeroValue113 (fun kg oj hST => ?_)))))
    obtain ⟨x6, z0, rfl⟩ := dz.form
    refine VO (bH (.agg #[(.int .i64 ((f3.1).Op)), (.int .i64 ((f3.1).K)), (.string (((f3.1).Role).Owner)), (.string (((f3.1).Role).Word)), (.slice x6 ((f3.1).Kids).length z0)]) (#[(.int .i64 ((f3.1).Op)), (.int .i64 ((f3.1).K)), (.string (((f3.1).Role).Owner)), (.string (((f3.1).Role).Word)), (.slice x6 ((f3.1).Kids).length z0)]) hST rfl rfl Tryz.sizeOf113 (by simp [Value.cells, Value.oneCell']) nb rfl (fun kh hST => V (aG rfl) (aF (aH ?_))))
    replace hST := hST.sel (Db St)
    refine aD (aA (V (aG rfl) (aF (aH (aD ?_)))))
    replace hST := hST.drew
    have hS0 := hST.has.sel (Db (Db (Db (Kb (Kb Sn)))))
    refine cX hS0 cC (X 0 rfl hS0 (aC rfl) (X 1 rfl hS0 (aN qK eo) (XH 2 rfl hS0 (fun _ hS => aJ rfl (aM hS (Mt Mh) (aO GY) rfl Tryz.isAgg28 Tryz.sizeOf28)) (X 4 rfl hS0 (aC rfl) (X 5 rfl hS0 (aN qK ep) (XH 6 rfl hS0 (fun _ hS => aJ rfl (aM hS Mh (aO GD) rfl Tryz.isAgg28 Tryz.sizeOf28)) (bS e6 fun Z bq e6 => XE 3 rfl (Eg hST Tryz.call203 (bO.weak (vY GY _ _  bq)) (fun ki hST => ?_)))))))))
    have hS0 := hST.has.sel (Db (Db (Db (Kb (Kb Sn)))))
    refine ⟨hS0, (bS e6 fun a0 br e6 => XE 7 rfl (Eg hST Tryz.call203 (bO.weak (vY GD _ _  br)) (fun kj hST => ?_)))⟩
    have hS0 := hST.has.sel (Db (Db (Db (Kb (Kb Sn)))))
    refine ⟨hS0, (XE 8 rfl (aR (qs := #[(0, (.agg (aI Z).toArray)), (1, (.agg (aI a0).toArray))]) (cs := #[(.int .i64 Z.Kind), (.string Z.Head.Owner), (.string Z.Head.Word), (.string Z.Who), (.string Z.B.Owner), (.string Z.B.Word), (.string Z.C.Owner), (.string Z.C.Word), (.string Z.Word2), (.int .i64 a0.Kind), (.string a0.Head.Owner), (.string a0.Head.Word), (.string a0.Who), (.string a0.B.Owner), (.string a0.B.Word), (.string a0.C.Owner), (.string a0.C.Word), (.string a0.Word2)]) hST (fR rfl rfl) (bB [(.agg (aI Z).toArray), (.agg (aI a0).toArray)] Tryz.underlying22 Tryz.sizeOf53 Tryz.zeroValue53 (by decide) rfl (by intro v hv; simp only [List.mem_cons, List.not_mem_nil, or_false] at hv; rcases hv with rfl | rfl <;> rfl) rfl rfl) (fun kk d6 hST => ?_)))⟩
    have hS0 := hST.has.sel (Db (Db (Db (Db (Kb (Kb Sn))))))
    refine ⟨hS0, (X 9 rfl hS0 (aG rfl) (dB (by kernel_rfl) (aH ?_)))⟩
    replace hST := hST.sel (Kb (Kb (Kb (Kb (Db (Db St))))))
    refine aD ?_
    have hc : Fr w.heap.size (.slice (some ⟨d6, 0, none⟩) 2 2) := Fr.box hST Mh
    obtain ⟨j9, hST, b0, hl1653, t3⟩ := ST.pub1 (R := [(d6, Obj.cells (#[(.int .i64 Z.Kind), (.string Z.Head.Owner), (.string Z.Head.Word), (.string Z.Who), (.string Z.B.Owner), (.string Z.B.Word), (.string Z.C.Owner), (.string Z.C.Word), (.string Z.Word2), (.int .i64 a0.Kind), (.string a0.Head.Owner), (.string a0.Head.Word), (.string a0.Who), (.string a0.B.Owner), (.string a0.B.Word), (.string a0.C.Owner), (.string a0.C.Word), (.string a0.Word2)] : Array Value) 53 (0, 0))]) hST (bI.lit (l := [Z, a0]) (enc := aI) (b := d6) (m := 2) rfl (by decide) rfl rfl) bQ
    replace hST := hST.drew
    have hS0 := hST.has.sel (Kb (Kb (Kb Sn)))
    refine cX hS0 cC (X 0 rfl hS0 (aC rfl) (X 1 rfl hS0 (aQ rfl rfl rfl) (X 2 rfl hS0 (aC rfl) (PJ e6 (fun al E W => ∃  (x8 : List (Nat × Obj)), ST false dC w W j9 ((g1, Obj.cells (#[(.int .i64 ((k.1).Op)), (.int .i64 ((k.1).K)), (.string (((k.1).Role).Owner)), (.string (((k.1).Role).Word)), (.slice d5 ((k.1).Kids).length d9)] : Array Value) 113 (0, 0)) :: ((a4, Obj.cells ((C5 Q J B.length M K D.length N).toArray : Array Value) 110 (0, 0)) :: ((b7, Obj.cells ((aI cI).toArray : Array Value) 53 (0, 0)) :: x8))) ∧ E 3 = (.pointer (some ⟨b7, 0, none⟩)) ∧ E 4 = (.pointer (some ⟨a4, 0, none⟩)) ∧ E 8 = (.int .i64 f3.2) ∧ E 10 = (.slice (some ⟨d6, 0, none⟩) 2 2) ∧ E 59 = (.bool al)) (bm 64 255) 56 ?_ (fun al i5 v2 => ?_)))))
    · rintro pk E W ⟨x8, hST, z1, z2, er, z3, es⟩ bd
      have hS0 := hST.has.sel (Kb (Kb (Kb Sn)))
      refine X 8 rfl hS0 (aC es) (PJ bd (fun ak E W => ∃  (x9 : List (Nat × Obj)), ST false dC w W j9 ((g1, Obj.cells (#[(.int .i64 ((k.1).Op)), (.int .i64 ((k.1).K)), (.string (((k.1).Role).Owner)), (.string (((k.1).Role).Word)), (.slice d5 ((k.1).Kids).length d9)] : Array Value) 113 (0, 0)) :: ((a4, Obj.cells ((C5 Q J B.length M K D.length N).toArray : Array Value) 110 (0, 0)) :: ((b7, Obj.cells ((aI cI).toArray : Array Value) 53 (0, 0)) :: x9))) ∧ E 3 = (.pointer (some ⟨b7, 0, none⟩)) ∧ E 4 = (.pointer (some ⟨a4, 0, none⟩)) ∧ E 10 = (.slice (some ⟨d6, 0, none⟩) 2 2) ∧ E 63 = (.bool ak)) (bm 64 4095) 52 ?_ (fun ak i4 v1 => ?_))
      · rintro pl E W ⟨x9, hST, z4, v8, z5, et⟩ be
        have hS0 := hST.has.sel (Kb (Kb (Kb Sn)))
        refine X 12 rfl hS0 (aC et) (PJ be (fun aj E W => ∃  (y0 : List (Nat × Obj)), ST false dC w W j9 ((g1, Obj.cells (#[(.int .i64 ((k.1).Op)), (.int .i64 ((k.1).K)), (.string (((k.1).Role).Owner)), (.string (((k.1).Role).Word)), (.slice d5 ((k.1).Kids).length d9)] : Array Value) 113 (0, 0)) :: ((a4, Obj.cells ((C5 Q J B.length M K D.length N).toArray : Array Value) 110 (0, 0)) :: ((b7, Obj.cells ((aI cI).toArray : Array Value) 53 (0, 0)) :: y0))) ∧ E 3 = (.pointer (some ⟨b7, 0, none⟩)) ∧ E 4 = (.pointer (some ⟨a4, 0, none⟩)) ∧ E 10 = (.slice (some ⟨d6, 0, none⟩) 2 2) ∧ E 68 = (.bool aj)) (bm 64 131071) 47 ?_ (fun aj h3 v0 => ?_))
        · rintro pm E W ⟨y0, hST, z6, z7, z8, eu⟩ bf
          have hS0 := hST.has.sel (Kb (Kb (Kb Sn)))
          refine X 17 rfl hS0 (aC eu) (PJ bf (fun ai E W => ∃  (y1 : List (Nat × Obj)), ST false dC w W j9 ((g1, Obj.cells (#[(.int .i64 ((k.1).Op)), (.int .i64 ((k.1).K)), (.string (((k.1).Role).Owner)), (.string (((k.1).Role).Word)), (.slice d5 ((k.1).Kids).length d9)] : Array Value) 113 (0, 0)) :: ((a4, Obj.cells ((C5 Q J B.length M K D.length N).toArray : Array Value) 110 (0, 0)) :: ((b7, Obj.cells ((aI cI).toArray : Array Value) 53 (0, 0)) :: y1))) ∧ E 3 = (.pointer (some ⟨b7, 0, none⟩)) ∧ E 4 = (.pointer (some ⟨a4, 0, none⟩)) ∧ E 10 = (.slice (some ⟨d6, 0, none⟩) 2 2) ∧ E 73 = (.bool ai)) (bm 64 4194303) 42 ?_ (fun ai h2 u9 => ?_))
          · rintro pn E W ⟨y1, hST, v9, w0, z9, ev⟩ bg
            have hS0 := hST.has.sel (Kb (Kb (Kb Sn)))
            refine X 22 rfl hS0 (aC ev) (PJ bg (fun ah E W => ∃  (k2 : bD) (y2 : List (Nat × Obj)), bE j9 k2 ∧ ST false dC w W k2 ((g1, Obj.cells (#[(.int .i64 ((k.1).Op)), (.int .i64 ((k.1).K)), (.string (((k.1).Role).Owner)), (.string (((k.1).Role).Word)), (.slice d5 ((k.1).Kids).length d9)] : Array Value) 113 (0, 0)) :: ((a4, Obj.cells ((C5 Q J B.length M K D.length N).toArray : Array Value) 110 (0, 0)) :: ((b7, Obj.cells ((aI cI).toArray : Array Value) 53 (0, 0)) :: y2))) ∧ E 3 = (.pointer (some ⟨b7, 0, none⟩)) ∧ E 4 = (.pointer (some ⟨a4, 0, none⟩)) ∧ E 10 = (.slice (some ⟨d6, 0, none⟩) 2 2) ∧ E 80 = (.bool ah)) (bm 64 536870911) 35 ?_ (fun ah h1 u8 => ?_))
            · rintro po E W ⟨k2, y2, I, hST, aa, w1, w2, ew⟩ bh
              have hS0 := hST.has.selS I (Kb (Kb (Kb Sn)))
              refine X 29 rfl hS0 (aC ew) (PJ bh (fun ag E W => ∃  (k3 : bD) (y3 : List (Nat × Obj)), bE k2 k3 ∧ ST false dC w W k3 ((g1, Obj.cells (#[(.int .i64 ((k.1).Op)), (.int .i64 ((k.1).K)), (.string (((k.1).Role).Owner)), (.string (((k.1).Role).Word)), (.slice d5 ((k.1).Kids).length d9)] : Array Value) 113 (0, 0)) :: ((a4, Obj.cells ((C5 Q J B.length M K D.length N).toArray : Array Value) 110 (0, 0)) :: ((b7, Obj.cells ((aI cI).toArray : Array Value) 53 (0, 0)) :: y3))) ∧ E 3 = (.pointer (some ⟨b7, 0, none⟩)) ∧ E 4 = (.pointer (some ⟨a4, 0, none⟩)) ∧ E 10 = (.slice (some ⟨d6, 0, none⟩) 2 2) ∧ E 87 = (.bool ag)) (bm 64 68719476735) 28 ?_ (fun ag h0 u7 => ?_))
              · rintro pp E W ⟨k3, y3, U, hST, ab, w3, w4, ey⟩ bi
                have hS0 := hST.has.selS (I.trans U) (Kb (Kb (Kb Sn)))
                refine X 36 rfl hS0 (aC ey) (PJ bi (fun af E W => ∃  (k0 : bD) (y4 : List (Nat × Obj)), bE k3 k0 ∧ ST false dC w W k0 ((g1, Obj.cells (#[(.int .i64 ((k.1).Op)), (.int .i64 ((k.1).K)), (.string (((k.1).Role).Owner)), (.string (((k.1).Role).Word)), (.slice d5 ((k.1).Kids).length d9)] : Array Value) 113 (0, 0)) :: ((a4, Obj.cells ((C5 Q J B.length M K D.length N).toArray : Array Value) 110 (0, 0)) :: ((b7, Obj.cells ((aI cI).toArray : Array Value) 53 (0, 0)) :: y4))) ∧ E 3 = (.pointer (some ⟨b7, 0, none⟩)) ∧ E 4 = (.pointer (some ⟨a4, 0, none⟩)) ∧ E 10 = (.slice (some ⟨d6, 0, none⟩) 2 2) ∧ E 95 = (.bool af)) (bm 64 17592186044415) 20 ?_ (fun af e7 u6 => ?_))
                · rintro pq E W ⟨k0, y4, b2, hST, w5, w6, ez, fa⟩ bj
                  have hS0 := hST.has.selS ((I.trans U).trans b2) (Kb (Kb (Kb Sn)))
                  refine X 44 rfl hS0 (aC fa) (PJ bj (fun ae E W => ∃  (y5 : List (Nat × Obj)), ST false dC w W k0 ((g1, Obj.cells (#[(.int .i64 ((k.1).Op)), (.int .i64 ((k.1).K)), (.string (((k.1).Role).Owner)), (.string (((k.1).Role).Word)), (.slice d5 ((k.1).Kids).length d9)] : Array Value) 113 (0, 0)) :: ((a4, Obj.cells ((C5 Q J B.length M K D.length N).toArray : Array Value) 110 (0, 0)) :: ((b7, Obj.cells ((aI cI).toArray : Array Value) 53 (0, 0)) :: y5))) ∧ E 3 = (.pointer (some ⟨b7, 0, none⟩)) ∧ E 4 = (.pointer (some ⟨a4, 0, none⟩)) ∧ E 102 = (.bool ae)) (bm 64 2251799813685247) 13 ?_ (fun ae g9 u5 => ?_))
                  · rintro pr E W ⟨y5, hST, fb, w7, fc⟩ bk
                    have hS0 := hST.has.selS ((I.trans U).trans b2) (Kb (Kb (Kb Sn)))
                    refine X 51 rfl hS0 (aC fc) (PJ bk (fun ad E W => ∃  (y6 : List (Nat × Obj)), ST false dC w W k0 ((g1, Obj.cells (#[(.int .i64 ((k.1).Op)), (.int .i64 ((k.1).K)), (.string (((k.1).Role).Owner)), (.string (((k.1).Role).Word)), (.slice d5 ((k.1).Kids).length d9)] : Array Value) 113 (0, 0)) :: ((a4, Obj.cells ((C5 Q J B.length M K D.length N).toArray : Array Value) 110 (0, 0)) :: ((b7, Obj.cells ((aI cI).toArray : Array Value) 53 (0, 0)) :: y6))) ∧ E 4 = (.pointer (some ⟨a4, 0, none⟩)) ∧ E 109 = (.bool ad)) (bm 64 288230376151711743) 6 ?_ (fun ad g8 u4 => ?_))
                    · rintro ps E W ⟨y6, hST, fd, fe⟩ bl
                      have hS0 := hST.has.selS ((I.trans U).trans b2) (Kb (Kb (Kb Sn)))
                      refine X 58 rfl hS0 (aC fe) (PJ bl (fun ac E W => ∃  (y7 : List (Nat × Obj)), ST false dC w W k0 ((g1, Obj.cells (#[(.int .i64 ((k.1).Op)), (.int .i64 ((k.1).K)), (.string (((k.1).Role).Owner)), (.string (((k.1).Role).Word)), (.slice d5 ((k.1).Kids).length d9)] : Array Value) 113 (0, 0)) :: ((a4, Obj.cells ((C5 Q J B.length M K D.length N).toArray : Array Value) 110 (0, 0)) :: ((b7, Obj.cells ((aI cI).toArray : Array Value) 53 (0, 0)) :: y7))) ∧ E 114 = (.bool ac)) (bm 64 9223372036854775807) 1 ?_ (fun ac g7 u3 => ?_))
                      · rintro pt E W ⟨y7, hST, ff⟩ bn
                        have hS0 := hST.has.selS ((I.trans U).trans b2) (Kb (Kb (Kb Sn)))
                        refine X 63 rfl hS0 (aG ff) (dB (by kernel_rfl) (aH ?_))
                        replace hST := hST.sel (Db (Db (Db St)))
                        refine aU ?_
                        have hx := sj bn; subst hx
                        exact rP hST
                      refine bC g7 (fun e5 g7 => ?_) (fun e5 g7 => ?_)
                      · refine oN 59 rfl rfl (cB e5) hS0 (fun _ hS => aJ fd (aM hS (Mt Mh) (C5 Q J B.length M K D.length N) rfl Tryz.isAgg110 Tryz.sizeOf110)) (bS g7 fun om bs g7 => vm 60 rfl rfl (cB e5) (Eg hST Tryz.call204 ((CS ((⟨Q, B, D⟩ : cG)) (.slice J B.length M) (.slice K D.length N) (.pointer none) none _ _ (e8.mono bR.mono (((((((d4.trans a2).trans a9).trans b0).trans I).trans U).trans b2).trans hST.sub_hp)) (e9.mono dR.mono ((((((a2.trans a9).trans b0).trans I).trans U).trans b2).trans hST.sub_hp)) tR.nil bs)) (fun kl hST => ?_)))
                        have hS0 := hST.has.selS ((I.trans U).trans b2) (Kb (Kb (Kb Sn)))
                        refine ⟨hS0, (Xg 61 rfl rfl (cB e5) hS0 (aQ rfl rfl rfl) (X 62 rfl hS0 (bU (cB e5) rfl) ?_))⟩
                        cases g7
                        refine cV (by kernel_rfl) (u3 _ _ ⟨_, (hST.sel St), rfl⟩)
                      refine Xn 59 rfl rfl (cB e5) hS0 (Xn 60 rfl rfl (cB e5) hS0 (Xn 61 rfl rfl (cB e5) hS0 (X 62 rfl hS0 (bX (cB e5) rfl) ?_)))
                      cases g7
                      refine cV (by kernel_rfl) (u3 _ _ ⟨_, (hST.sel St), rfl⟩)
                    refine bC g8 (fun d1 g8 => ?_) (fun d1 g8 => ?_)
                    · refine oN 52 rfl rfl (cB d1) hS0 (fun _ hS => aJ w7 (aM hS (Mt Mh) (C5 Q J B.length M K D.length N) rfl Tryz.isAgg110 Tryz.sizeOf110)) (Xg 53 rfl rfl (cB d1) hS0 (aN oA fb) (oN 54 rfl rfl (cB d1) hS0 (fun _ hS => aJ rfl (aM hS (Mt (Mt Mh)) (aO rQ) rfl Tryz.isAgg28 Tryz.sizeOf28)) (bS g8 fun on bt g8 => vm 55 rfl rfl (cB d1) (Eg hST Tryz.call105 ((ww ((⟨Q, B, D⟩ : cG)) (.slice J B.length M) (.slice K D.length N) rQ (.slice none 0 0) ([]) K9 _ _ (e8.mono bR.mono (((((((d4.trans a2).trans a9).trans b0).trans I).trans U).trans b2).trans hST.sub_hp)) (e9.mono dR.mono ((((((a2.trans a9).trans b0).trans I).trans U).trans b2).trans hST.sub_hp)) (Sl.nil _ _ _) bt)) (fun km hST => ?_)))))
                      have hS0 := hST.has.selS ((I.trans U).trans b2) (Kb (Kb (Kb Sn)))
                      refine ⟨hS0, (Xg 56 rfl rfl (cB d1) hS0 (fV rfl) (X 57 rfl hS0 (bU (cB d1) rfl) ?_))⟩
                      cases g8
                      refine cV (by kernel_rfl) (u4 _ _ ⟨_, (hST.sel St), w7, rfl⟩)
                    refine Xn 52 rfl rfl (cB d1) hS0 (Xn 53 rfl rfl (cB d1) hS0 (Xn 54 rfl rfl (cB d1) hS0 (Xn 55 rfl rfl (cB d1) hS0 (Xn 56 rfl rfl (cB d1) hS0 (X 57 rfl hS0 (bX (cB d1) rfl) ?_)))))
                    cases g8
                    refine cV (by kernel_rfl) (u4 _ _ ⟨_, (hST.sel St), w7, rfl⟩)
                  refine bC g9 (fun d0 g9 => ?_) (fun d0 g9 => ?_)
                  · refine oN 45 rfl rfl (cB d0) hS0 (fun _ hS => aJ w6 (aM hS (Mt Mh) (C5 Q J B.length M K D.length N) rfl Tryz.isAgg110 Tryz.sizeOf110)) (Xg 46 rfl rfl (cB d0) hS0 (aN oA w5) (oN 47 rfl rfl (cB d0) hS0 (fun _ hS => aJ rfl (aM hS (Mt (Mt Mh)) (aO rQ) rfl Tryz.isAgg28 Tryz.sizeOf28)) (Xg 48 rfl rfl (cB d0) hS0 (aC ez) (bS g9 fun oo bu g9 => vm 49 rfl rfl (cB d0) (Eg hST Tryz.call105 ((ww ((⟨Q, B, D⟩ : cG)) (.slice J B.length M) (.slice K D.length N) rQ (.slice (some ⟨d6, 0, none⟩) 2 2) ([Z, a0]) K9 _ _ (e8.mono bR.mono (((((((d4.trans a2).trans a9).trans b0).trans I).trans U).trans b2).trans hST.sub_hp)) (e9.mono dR.mono ((((((a2.trans a9).trans b0).trans I).trans U).trans b2).trans hST.sub_hp)) (t3.mono (Pl.mono _) (((I.trans U).trans b2).trans hST.sub_hp)) bu)) (fun kn hST => ?_))))))
                    have hS0 := hST.has.selS ((I.trans U).trans b2) (Kb (Kb (Kb Sn)))
                    refine ⟨hS0, (X 50 rfl hS0 (bU (cB d0) rfl) ?_)⟩
                    cases g9
                    refine cV (by kernel_rfl) (u5 _ _ ⟨_, (hST.sel St), w5, w6, rfl⟩)
                  refine Xn 45 rfl rfl (cB d0) hS0 (Xn 46 rfl rfl (cB d0) hS0 (Xn 47 rfl rfl (cB d0) hS0 (Xn 48 rfl rfl (cB d0) hS0 (Xn 49 rfl rfl (cB d0) hS0 (X 50 rfl hS0 (bX (cB d0) rfl) ?_)))))
                  cases g9
                  refine cV (by kernel_rfl) (u5 _ _ ⟨_, (hST.sel St), w5, w6, rfl⟩)
                refine bC e7 (fun b3 e7 => ?_) (fun b3 e7 => ?_)
                · refine oN 37 rfl rfl (cB b3) hS0 (fun _ hS => aJ w3 (aM hS (Mt Mh) (C5 Q J B.length M K D.length N) rfl Tryz.isAgg110 Tryz.sizeOf110)) (Xg 38 rfl rfl (cB b3) hS0 (aC w4) (bS e7 fun _ x0 e7 => pB 39 rfl (by kernel_rfl) (.inr ⟨36, true, 88, rfl, rfl, by decide, (cB b3)⟩) rfl (by decide) (fun _ _ h => h) hS0 (FV (j := 1) Tryz.underlying22 Tryz.sizeOf53 rfl rfl (t3.mono (Pl.mono _) (I.trans U)) (rZ x0) (rX x0)) (fun fg cb => bS e7 fun op bv e7 => vm 40 rfl rfl (cB b3) (sZ hST Tryz.call80 ((ui ((⟨Q, B, D⟩ : cG)) (.slice J B.length M) (.slice K D.length N) fg ((([Z, a0]).take (Int.toNat 1))) K9 _ _ (e8.mono bR.mono ((((((d4.trans a2).trans a9).trans b0).trans I).trans U).trans hST.sub_hp)) (e9.mono dR.mono (((((a2.trans a9).trans b0).trans I).trans U).trans hST.sub_hp)) (cb.1.mono (Pl.mono _) hST.sub_hp) bv)) (fun ko ox fh jp hST u0 hl2237 ao => ?_)))))
                  have hS0 := hST.has.selS ((I.trans U).trans u0) (Dr (Kb (Kb (Kb Sn))))
                  refine ⟨hS0, (Xg 41 rfl rfl (cB b3) hS0 (nV Tryz.underlying22 rfl ao) (Xg 42 rfl rfl (cB b3) hS0 (aQ rfl rfl rfl) (X 43 rfl hS0 (bU (cB b3) rfl) ?_)))⟩
                  cases e7
                  refine cV (by kernel_rfl) (u6 _ _ ⟨fh, _, u0, (hST.sel (Dr St)), ab, w3, w4, rfl⟩)
                refine Xn 37 rfl rfl (cB b3) hS0 (Xn 38 rfl rfl (cB b3) hS0 (Xn 39 rfl rfl (cB b3) hS0 (Xn 40 rfl rfl (cB b3) hS0 (Xn 41 rfl rfl (cB b3) hS0 (Xn 42 rfl rfl (cB b3) hS0 (X 43 rfl hS0 (bX (cB b3) rfl) ?_))))))
                cases e7
                refine cV (by kernel_rfl) (u6 _ _ ⟨k3, _, (bE.refl _), (hST.sel St), ab, w3, w4, rfl⟩)
              refine bC h0 (fun c9 h0 => ?_) (fun c9 h0 => ?_)
              · refine oN 30 rfl rfl (cB c9) hS0 (fun _ hS => aJ w1 (aM hS (Mt Mh) (C5 Q J B.length M K D.length N) rfl Tryz.isAgg110 Tryz.sizeOf110)) (Xg 31 rfl rfl (cB c9) hS0 (aC w2) (bS h0 fun oq bw h0 => vm 32 rfl rfl (cB c9) (sZ hST Tryz.call80 ((ui ((⟨Q, B, D⟩ : cG)) (.slice J B.length M) (.slice K D.length N) (.slice (some ⟨d6, 0, none⟩) 2 2) ([Z, a0]) K9 _ _ (e8.mono bR.mono (((((d4.trans a2).trans a9).trans b0).trans I).trans hST.sub_hp)) (e9.mono dR.mono ((((a2.trans a9).trans b0).trans I).trans hST.sub_hp)) (t3.mono (Pl.mono _) (I.trans hST.sub_hp)) bw)) (fun kp oy fi jq hST u1 hl2250 ap => ?_))))
                have hS0 := hST.has.selS (I.trans u1) (Dr (Kb (Kb (Kb Sn))))
                refine ⟨hS0, (Xg 33 rfl rfl (cB c9) hS0 (nV Tryz.underlying22 rfl ap) (Xg 34 rfl rfl (cB c9) hS0 (aQ rfl rfl rfl) (X 35 rfl hS0 (bU (cB c9) rfl) ?_)))⟩
                cases h0
                refine cV (by kernel_rfl) (u7 _ _ ⟨fi, _, u1, (hST.sel (Dr St)), aa, w1, w2, rfl⟩)
              refine Xn 30 rfl rfl (cB c9) hS0 (Xn 31 rfl rfl (cB c9) hS0 (Xn 32 rfl rfl (cB c9) hS0 (Xn 33 rfl rfl (cB c9) hS0 (Xn 34 rfl rfl (cB c9) hS0 (X 35 rfl hS0 (bX (cB c9) rfl) ?_)))))
              cases h0
              refine cV (by kernel_rfl) (u7 _ _ ⟨k2, _, (bE.refl _), (hST.sel St), aa, w1, w2, rfl⟩)
            refine bC h1 (fun c8 h1 => ?_) (fun c8 h1 => ?_)
            · refine oN 23 rfl rfl (cB c8) hS0 (fun _ hS => aJ w0 (aM hS (Mt Mh) (C5 Q J B.length M K D.length N) rfl Tryz.isAgg110 Tryz.sizeOf110)) (oN 24 rfl rfl (cB c8) hS0 (fun _ hS => aJ v9 (aM hS (Mt (Mt Mh)) (aI cI) rfl Tryz.isAgg53 Tryz.sizeOf53)) (bS h1 fun os bx h1 => vm 25 rfl rfl (cB c8) (sZ hST Tryz.call104 ((za ((⟨Q, B, D⟩ : cG)) (.slice J B.length M) (.slice K D.length N) cI _ _ (e8.mono bR.mono ((((d4.trans a2).trans a9).trans b0).trans hST.sub_hp)) (e9.mono dR.mono (((a2.trans a9).trans b0).trans hST.sub_hp)) bx)) (fun kq oz fj jr hST u2 hl2263 aq => ?_))))
              have hS0 := hST.has.selS u2 (Dr (Kb (Kb (Kb Sn))))
              refine ⟨hS0, (Xg 26 rfl rfl (cB c8) hS0 (nV Tryz.underlying34 rfl aq) (Xg 27 rfl rfl (cB c8) hS0 (aQ rfl rfl rfl) (X 28 rfl hS0 (bU (cB c8) rfl) ?_)))⟩
              cases h1
              refine cV (by kernel_rfl) (u8 _ _ ⟨fj, _, u2, (hST.sel (Dr St)), v9, w0, z9, rfl⟩)
            refine Xn 23 rfl rfl (cB c8) hS0 (Xn 24 rfl rfl (cB c8) hS0 (Xn 25 rfl rfl (cB c8) hS0 (Xn 26 rfl rfl (cB c8) hS0 (Xn 27 rfl rfl (cB c8) hS0 (X 28 rfl hS0 (bX (cB c8) rfl) ?_)))))
            cases h1
            refine cV (by kernel_rfl) (u8 _ _ ⟨j9, _, (bE.refl _), (hST.sel St), v9, w0, z9, rfl⟩)
          refine bC h2 (fun e4 h2 => ?_) (fun e4 h2 => ?_)
          · refine Xg 18 rfl rfl (cB e4) hS0 (bJ (qs := #[]) (v := (.agg #[(.string zS), (.slice none 0 0), (.slice none 0 0)])) nZ (aW Tryz.zeroValue110 Tryz.underlying110 (iO _ Tryz.underlying110) (by kernel_rfl))) (bS h2 fun ot bz h2 => vm 19 rfl rfl (cB e4) (Eg hST Tryz.call103 ((tJ ((⟨zS, [], []⟩ : cG)) (.slice none 0 0) (.slice none 0 0) _ _ (Sl.nil _ _ _) (Sl.nil _ _ _) bz)) (fun kr hST => ?_)))
            have hS0 := hST.has.sel (Kb (Kb (Kb Sn)))
            refine ⟨hS0, (Xg 20 rfl rfl (cB e4) hS0 (aQ rfl rfl rfl) (X 21 rfl hS0 (bU (cB e4) rfl) ?_))⟩
            cases h2
            refine cV (by kernel_rfl) (u9 _ _ ⟨_, (hST.sel St), z6, z7, z8, rfl⟩)
          refine Xn 18 rfl rfl (cB e4) hS0 (Xn 19 rfl rfl (cB e4) hS0 (Xn 20 rfl rfl (cB e4) hS0 (X 21 rfl hS0 (bX (cB e4) rfl) ?_)))
          cases h2
          refine cV (by kernel_rfl) (u9 _ _ ⟨_, (hST.sel St), z6, z7, z8, rfl⟩)
        refine bC h3 (fun e3 h3 => ?_) (fun e3 h3 => ?_)
        · refine oN 13 rfl rfl (cB e3) hS0 (fun _ hS => aJ v8 (aM hS (Mt Mh) (C5 Q J B.length M K D.length N) rfl Tryz.isAgg110 Tryz.sizeOf110)) (bS h3 fun ou ca h3 => vm 14 rfl rfl (cB e3) (Eg hST Tryz.call103 ((tJ ((⟨Q, B, D⟩ : cG)) (.slice J B.length M) (.slice K D.length N) _ _ (e8.mono bR.mono ((((d4.trans a2).trans a9).trans b0).trans hST.sub_hp)) (e9.mono dR.mono (((a2.trans a9).trans b0).trans hST.sub_hp)) ca)) (fun ks hST => ?_)))
          have hS0 := hST.has.sel (Kb (Kb (Kb Sn)))
          refine ⟨hS0, (Xg 15 rfl rfl (cB e3) hS0 (aQ rfl rfl rfl) (X 16 rfl hS0 (bU (cB e3) rfl) ?_))⟩
          cases h3
          refine cV (by kernel_rfl) (v0 _ _ ⟨_, (hST.sel St), z4, v8, z5, rfl⟩)
        refine Xn 13 rfl rfl (cB e3) hS0 (Xn 14 rfl rfl (cB e3) hS0 (Xn 15 rfl rfl (cB e3) hS0 (X 16 rfl hS0 (bX (cB e3) rfl) ?_)))
        cases h3
        refine cV (by kernel_rfl) (v0 _ _ ⟨_, (hST.sel St), z4, v8, z5, rfl⟩)
      refine bC i4 (fun g6 i4 => ?_) (fun g6 i4 => ?_)
      · refine Xg 9 rfl rfl (cB g6) hS0 (aC er) (Xg 10 rfl rfl (cB g6) hS0 (aQ rfl rfl rfl) (X 11 rfl hS0 (bU (cB g6) rfl) ?_))
        cases i4
        refine cV (by kernel_rfl) (v1 _ _ ⟨_, (hST.sel St), z1, z2, z3, rfl⟩)
      refine Xn 9 rfl rfl (cB g6) hS0 (Xn 10 rfl rfl (cB g6) hS0 (X 11 rfl hS0 (bX (cB g6) rfl) ?_))
      cases i4
      refine cV (by kernel_rfl) (v1 _ _ ⟨_, (hST.sel St), z1, z2, z3, rfl⟩)
    refine bC i5 (fun d3 i5 => ?_) (fun d3 i5 => ?_)
    · refine Xg 3 rfl rfl (cB d3) hS0 (aN lK rfl) (oN 4 rfl rfl (cB d3) hS0 (fun _ hS => aJ rfl (aP hS Mh rfl Tryz.isAgg111)) (Xg 5 rfl rfl (cB d3) hS0 (dO Tryz.underlying111 rfl x5) (Xg 6 rfl rfl (cB d3) hS0 (aQ rfl rfl rfl) (X 7 rfl hS0 (bU (cB d3) rfl) ?_))))
      cases i5
      refine cV (by kernel_rfl) (v2 _ _ ⟨_, (hST.sel St), v7, k1, rfl, rfl, rfl⟩)
    refine Xn 3 rfl rfl (cB d3) hS0 (Xn 4 rfl rfl (cB d3) hS0 (Xn 5 rfl rfl (cB d3) hS0 (Xn 6 rfl rfl (cB d3) hS0 (X 7 rfl hS0 (bX (cB d3) rfl) ?_))))
    cases i5
    refine cV (by kernel_rfl) (v2 _ _ ⟨_, (hST.sel St), v7, k1, rfl, rfl, rfl⟩)
  refine we 1 10 14 (by kernel_rfl) ⟨_, _, rfl, (.inl rfl), rfl, by decide, ?_⟩ ⟨_, _, rfl, (.inl rfl), rfl, by decide, ?_⟩ ⟨_, _, rfl, (.inl rfl), rfl, by decide, ?_⟩
  · refine bS t fun c ar t => lU (enc := (bV .u8)) (z := 0) hST (fun _ => rfl) (by decide) Tryz.underlying54 dZ.1 dZ.2.1 dZ.2.2.1 dZ.2.2.2 rfl rfl rfl ar (fun kt pa js hST a1 => ?_)
    have hS0 := hST.has.sel (Dr (Kb (Kb (Kb Sn))))
    refine ⟨hS0, ?_⟩
    obtain ⟨g, i, rfl⟩ := a1.form
    refine X 2 rfl hS0 (bJ (qs := #[(0, (.agg (aI cI).toArray)), (1, (.slice g c.length i))]) (v := (.agg (C6 g c.length i).toArray)) (fR rfl rfl) (aW Tryz.zeroValue56 Tryz.underlying56 (yo _ Tryz.underlying56) (by kernel_rfl))) (X 4 rfl hS0 (bJ (qs := #[(0, (.agg (C6 g c.length i).toArray)), (1, (.agg wG.toArray))]) (v := (.agg (C1 g c.length i).toArray)) (fR rfl rfl) (aW Tryz.zeroValue138 Tryz.underlying138 (uP _ Tryz.underlying138) (by kernel_rfl))) (we 5 10 14 (by kernel_rfl) ⟨_, _, rfl, (.inl rfl), rfl, by decide, ?_⟩ ⟨_, _, rfl, (.inl rfl), rfl, by decide, ?_⟩ ⟨_, _, rfl, (.inl rfl), rfl, by decide, ?_⟩))
    · have hd := a1.frM hST (fun p hq => (Ml hq))
      obtain ⟨qb, hST, c0, hl2303, t4⟩ := ST.pub1 hST a1 (fun _ => rfl)
      refine aR (qs := #[(0, (.agg (C1 g c.length i).toArray))]) (cs := (C1 g c.length i).toArray) hST (bM rfl) (bB [(.agg (C1 g c.length i).toArray)] Tryz.underlying107 Tryz.sizeOf138 Tryz.zeroValue138 (by decide) rfl (by intro v hv; simp only [List.mem_cons, List.not_mem_nil, or_false] at hv; rcases hv with rfl <;> rfl) rfl rfl) (fun ku d7 hST => ?_)
      have hS0 := hST.has.selS c0 (Db (Kb (Kb (Kb Sn))))
      refine ⟨hS0, (kX 10 14 rfl rfl (by kernel_rfl) (.inl rfl) (.inl rfl) rfl rfl (by decide) (by decide) ?_ ?_)⟩
      · refine aR (qs := #[(0, (.agg (aI cI).toArray))]) (cs := (aI cI).toArray) hST (bM rfl) (bB [(.agg (aI cI).toArray)] Tryz.underlying22 Tryz.sizeOf53 Tryz.zeroValue53 (by decide) rfl (by intro v hv; simp only [List.mem_cons, List.not_mem_nil, or_false] at hv; rcases hv with rfl <;> rfl) rfl rfl) (fun kv a6 hST => ?_)
        have hS0 := hST.has.selS c0 (Db (Db (Kb (Kb (Kb Sn)))))
        refine ⟨hS0, (X 11 rfl hS0 (bJ (qs := #[(0, (.agg (aO rQ).toArray)), (1, (.agg wR.toArray)), (2, (.slice (some ⟨a6, 0, none⟩) 1 1))]) (v := (.agg (C2 a6).toArray)) (eH rfl rfl rfl) (aW Tryz.zeroValue263 Tryz.underlying263 (vD _ Tryz.underlying263) (by kernel_rfl))) (kX 12 14 rfl rfl (by kernel_rfl) (.inl rfl) (.inl rfl) rfl rfl (by decide) (by decide) ?_ ?_))⟩
        · have he : Fr w.heap.size (.slice (some ⟨a6, 0, none⟩) 1 1) := Fr.box hST Mh
          obtain ⟨fk, hST, i7, hl2312, cc⟩ := ST.pub1 (R := [(a6, Obj.cells ((aI cI).toArray : Array Value) 53 (0, 0))]) hST (bI.lit (l := [cI]) (enc := aI) (b := a6) (m := 1) rfl (by decide) rfl rfl) bQ
          refine aR (qs := #[(0, (.agg (C2 a6).toArray))]) (cs := (C2 a6).toArray) hST (bM rfl) (bB [(.agg (C2 a6).toArray)] Tryz.underlying108 Tryz.sizeOf263 Tryz.zeroValue263 (by decide) rfl (by intro v hv; simp only [List.mem_cons, List.not_mem_nil, or_false] at hv; rcases hv with rfl <;> rfl) rfl rfl) (fun kw o0 hST => ?_)
          have hS0 := hST.has.selS (c0.trans i7) (Db (Db (Kb (Kb (Kb Sn)))))
          refine ⟨hS0, (X 13 rfl hS0 (bJ (qs := #[(0, (.string K3)), (1, (.slice (some ⟨d7, 0, none⟩) 1 1)), (2, (.slice (some ⟨o0, 0, none⟩) 1 1))]) (v := (.agg (C8 d7 o0).toArray)) (eH rfl rfl rfl) (aW Tryz.zeroValue110 Tryz.underlying110 (iO _ Tryz.underlying110) (by kernel_rfl))) (XE 14 rfl (bL hST Tryz.zeroValue110 (fun kx ea hST => ?_))))⟩
          have hS0 := hST.has.selS (c0.trans i7) (Db (Db (Db (Kb (Kb (Kb Sn))))))
          refine ⟨hS0, ?_⟩
          cases t
          replace hST := hST.perm (Nb (Pb (Pb Pz)) Nz)
          replace hST := hST.row1
          replace hST := hST.perm (Nb (Pr (Pb Pz)) Nz)
          replace hST := hST.row1
          refine cV (by kernel_rfl) (y _ _ ⟨ea, (.slice (some ⟨d7, 0, none⟩) 1 1), [(d7, Obj.cells ((C1 g c.length i).toArray : Array Value) 138 (0, 0))], (.slice (some ⟨o0, 0, none⟩) 1 1), [(o0, Obj.cells ((C2 a6).toArray : Array Value) 263 (0, 0))], (.slice none 0 0), (.slice none 0 0), fk, _, (c0.trans i7), (hST.sel (Sb (Pr (Pr Pz)) (Sb (Pr (Pr Pz)) (Sb (Pr (Pr Pz)) (Sb (Pr (Pr Pz)) (Sr (Qr Qz) St)))))), rfl, rfl, rfl, rfl, rfl, (bG.lit bR (l := [(⟨(⟨cI, c⟩ : Signed), pN⟩ : bK)]) (.cons (ys := C1 g c.length i) (bF.mk ⟨(.slice g c.length i), (.slice none 0 0), rfl, (t4.mono (Pl.mono _) i7), (Sl.nil _ _ _)⟩) .nil) rfl nb rfl), (bG.lit dR (l := [pL]) (.cons (ys := C2 a6) (cD.mk ⟨(.slice none 0 0), (.slice (some ⟨a6, 0, none⟩) 1 1), rfl, (Sl.nil _ _ _), cc⟩) .nil) rfl nb rfl), (Sl.nil _ _ _), (Fr.nil _), (Sl.nil _ _ _), (Fr.nil _)⟩)
        · refine bL hST Tryz.zeroValue110 (fun ky eb hST => ?_)
          have hS0 := hST.has.selS c0 (Db (Db (Db (Kb (Kb (Kb Sn))))))
          refine ⟨hS0, ?_⟩
          replace hST := hST.perm (Nb (Pb Pz) Nz)
          have hf : Fr w.heap.size (.slice (some ⟨a6, 0, none⟩) 1 1) := Fr.box hST Mh
          obtain ⟨fl, hST, k4, hl2323, cd⟩ := ST.pub1 (R := [(a6, Obj.cells ((aI cI).toArray : Array Value) 53 (0, 0))]) hST (bI.lit (l := [cI]) (enc := aI) (b := a6) (m := 1) rfl (by decide) rfl rfl) bQ
          refine XE 12 rfl (aR (qs := #[(0, (.agg (C2 a6).toArray))]) (cs := (C2 a6).toArray) hST (bM rfl) (bB [(.agg (C2 a6).toArray)] Tryz.underlying108 Tryz.sizeOf263 Tryz.zeroValue263 (by decide) rfl (by intro v hv; simp only [List.mem_cons, List.not_mem_nil, or_false] at hv; rcases hv with rfl <;> rfl) rfl rfl) (fun kz o1 hST => ?_))
          have hS0 := hST.has.selS (c0.trans k4) (Db (Db (Db (Kb (Kb (Kb Sn))))))
          refine ⟨hS0, (X 13 rfl hS0 (bJ (qs := #[(0, (.string K3)), (1, (.slice (some ⟨d7, 0, none⟩) 1 1)), (2, (.slice (some ⟨o1, 0, none⟩) 1 1))]) (v := (.agg (C8 d7 o1).toArray)) (eH rfl rfl rfl) (aW Tryz.zeroValue110 Tryz.underlying110 (iO _ Tryz.underlying110) (by kernel_rfl))) ?_)⟩
          cases t
          replace hST := hST.perm (Nb (Pb (Pb Pz)) Nz)
          replace hST := hST.row1
          replace hST := hST.perm (Nb (Pr Pz) Nz)
          replace hST := hST.row1
          refine cV (by kernel_rfl) (y _ _ ⟨eb, (.slice (some ⟨d7, 0, none⟩) 1 1), [(d7, Obj.cells ((C1 g c.length i).toArray : Array Value) 138 (0, 0))], (.slice (some ⟨o1, 0, none⟩) 1 1), [(o1, Obj.cells ((C2 a6).toArray : Array Value) 263 (0, 0))], (.slice none 0 0), (.slice none 0 0), fl, _, (c0.trans k4), (hST.sel (Sb (Pr (Pr Pz)) (Sb (Pr (Pr Pz)) (Sb (Pr (Pr Pz)) (Sb (Pr (Pr Pz)) (Sr (Qr Qz) St)))))), rfl, rfl, rfl, rfl, rfl, (bG.lit bR (l := [(⟨(⟨cI, c⟩ : Signed), pN⟩ : bK)]) (.cons (ys := C1 g c.length i) (bF.mk ⟨(.slice g c.length i), (.slice none 0 0), rfl, (t4.mono (Pl.mono _) k4), (Sl.nil _ _ _)⟩) .nil) rfl nb rfl), (bG.lit dR (l := [pL]) (.cons (ys := C2 a6) (cD.mk ⟨(.slice none 0 0), (.slice (some ⟨a6, 0, none⟩) 1 1), rfl, (Sl.nil _ _ _), cd⟩) .nil) rfl nb rfl), (Sl.nil _ _ _), (Fr.nil _), (Sl.nil _ _ _), (Fr.nil _)⟩)
      · refine bL hST Tryz.zeroValue110 (fun la ec hST => ?_)
        have hS0 := hST.has.selS c0 (Db (Db (Kb (Kb (Kb Sn)))))
        refine ⟨hS0, (XE 10 rfl (aR (qs := #[(0, (.agg (aI cI).toArray))]) (cs := (aI cI).toArray) hST (bM rfl) (bB [(.agg (aI cI).toArray)] Tryz.underlying22 Tryz.sizeOf53 Tryz.zeroValue53 (by decide) rfl (by intro v hv; simp only [List.mem_cons, List.not_mem_nil, or_false] at hv; rcases hv with rfl <;> rfl) rfl rfl) (fun lb e0 hST => ?_)))⟩
        have hS0 := hST.has.selS c0 (Db (Db (Db (Kb (Kb (Kb Sn))))))
        refine ⟨hS0, (X 11 rfl hS0 (bJ (qs := #[(0, (.agg (aO rQ).toArray)), (1, (.agg wR.toArray)), (2, (.slice (some ⟨e0, 0, none⟩) 1 1))]) (v := (.agg (C2 e0).toArray)) (eH rfl rfl rfl) (aW Tryz.zeroValue263 Tryz.underlying263 (vD _ Tryz.underlying263) (by kernel_rfl))) ?_)⟩
        have hg : Fr w.heap.size (.slice (some ⟨e0, 0, none⟩) 1 1) := Fr.box hST Mh
        obtain ⟨fn, hST, k5, hl2334, ce⟩ := ST.pub1 (R := [(e0, Obj.cells ((aI cI).toArray : Array Value) 53 (0, 0))]) hST (bI.lit (l := [cI]) (enc := aI) (b := e0) (m := 1) rfl (by decide) rfl rfl) bQ
        refine XE 12 rfl (aR (qs := #[(0, (.agg (C2 e0).toArray))]) (cs := (C2 e0).toArray) hST (bM rfl) (bB [(.agg (C2 e0).toArray)] Tryz.underlying108 Tryz.sizeOf263 Tryz.zeroValue263 (by decide) rfl (by intro v hv; simp only [List.mem_cons, List.not_mem_nil, or_false] at hv; rcases hv with rfl <;> rfl) rfl rfl) (fun lc o2 hST => ?_))
        have hS0 := hST.has.selS (c0.trans k5) (Db (Db (Db (Kb (Kb (Kb Sn))))))
        refine ⟨hS0, (X 13 rfl hS0 (bJ (qs := #[(0, (.string K3)), (1, (.slice (some ⟨d7, 0, none⟩) 1 1)), (2, (.slice (some ⟨o2, 0, none⟩) 1 1))]) (v := (.agg (C8 d7 o2).toArray)) (eH rfl rfl rfl) (aW Tryz.zeroValue110 Tryz.underlying110 (iO _ Tryz.underlying110) (by kernel_rfl))) ?_)⟩
        cases t
        replace hST := hST.perm (Nb (Pb (Pb Pz)) Nz)
        replace hST := hST.row1
        replace hST := hST.perm (Nb (Pr Pz) Nz)
        replace hST := hST.row1
        refine cV (by kernel_rfl) (y _ _ ⟨ec, (.slice (some ⟨d7, 0, none⟩) 1 1), [(d7, Obj.cells ((C1 g c.length i).toArray : Array Value) 138 (0, 0))], (.slice (some ⟨o2, 0, none⟩) 1 1), [(o2, Obj.cells ((C2 e0).toArray : Array Value) 263 (0, 0))], (.slice none 0 0), (.slice none 0 0), fn, _, (c0.trans k5), (hST.sel (Sb (Pr (Pr Pz)) (Sb (Pr (Pr Pz)) (Sb (Pr (Pr Pz)) (Sb (Pr (Pr Pz)) (Sr (Qr Qz) St)))))), rfl, rfl, rfl, rfl, rfl, (bG.lit bR (l := [(⟨(⟨cI, c⟩ : Signed), pN⟩ : bK)]) (.cons (ys := C1 g c.length i) (bF.mk ⟨(.slice g c.length i), (.slice none 0 0), rfl, (t4.mono (Pl.mono _) k5), (Sl.nil _ _ _)⟩) .nil) rfl nb rfl), (bG.lit dR (l := [pL]) (.cons (ys := C2 e0) (cD.mk ⟨(.slice none 0 0), (.slice (some ⟨e0, 0, none⟩) 1 1), rfl, (Sl.nil _ _ _), ce⟩) .nil) rfl nb rfl), (Sl.nil _ _ _), (Fr.nil _), (Sl.nil _ _ _), (Fr.nil _)⟩)
    · refine aR (qs := #[(0, (.agg (aI cI).toArray))]) (cs := (aI cI).toArray) hST (bM rfl) (bB [(.agg (aI cI).toArray)] Tryz.underlying22 Tryz.sizeOf53 Tryz.zeroValue53 (by decide) rfl (by intro v hv; simp only [List.mem_cons, List.not_mem_nil, or_false] at hv; rcases hv with rfl <;> rfl) rfl rfl) (fun ld u hST => ?_)
      have hS0 := hST.has.sel (Db (Dr (Kb (Kb (Kb Sn)))))
      refine ⟨hS0, (X 11 rfl hS0 (bJ (qs := #[(0, (.agg (aO rQ).toArray)), (1, (.agg wR.toArray)), (2, (.slice (some ⟨u, 0, none⟩) 1 1))]) (v := (.agg (C2 u).toArray)) (eH rfl rfl rfl) (aW Tryz.zeroValue263 Tryz.underlying263 (vD _ Tryz.underlying263) (by kernel_rfl))) (we 5 12 14 (by kernel_rfl) ⟨_, _, rfl, (.inl rfl), rfl, by decide, ?_⟩ ⟨_, _, rfl, (.inl rfl), rfl, by decide, ?_⟩ ⟨_, _, rfl, (.inl rfl), rfl, by decide, ?_⟩))⟩
      · replace hST := hST.perm (Nr (Qb Qz) Nz)
        have hh := a1.frM hST (fun p hq => (Ml hq))
        obtain ⟨qc, hST, f4, hl2343, x1⟩ := ST.pub1 hST a1 (fun _ => rfl)
        refine aR (qs := #[(0, (.agg (C1 g c.length i).toArray))]) (cs := (C1 g c.length i).toArray) hST (bM rfl) (bB [(.agg (C1 g c.length i).toArray)] Tryz.underlying107 Tryz.sizeOf138 Tryz.zeroValue138 (by decide) rfl (by intro v hv; simp only [List.mem_cons, List.not_mem_nil, or_false] at hv; rcases hv with rfl <;> rfl) rfl rfl) (fun le h4 hST => ?_)
        have hS0 := hST.has.selS f4 (Db (Db (Kb (Kb (Kb Sn)))))
        refine ⟨hS0, (kX 12 14 rfl rfl (by kernel_rfl) (.inl rfl) (.inl rfl) rfl rfl (by decide) (by decide) ?_ ?_)⟩
        · replace hST := hST.perm (Nb (Pb Pz) Nz)
          have hi : Fr w.heap.size (.slice (some ⟨u, 0, none⟩) 1 1) := Fr.box hST Mh
          obtain ⟨fo, hST, i8, hl2350, cf⟩ := ST.pub1 (R := [(u, Obj.cells ((aI cI).toArray : Array Value) 53 (0, 0))]) hST (bI.lit (l := [cI]) (enc := aI) (b := u) (m := 1) rfl (by decide) rfl rfl) bQ
          refine aR (qs := #[(0, (.agg (C2 u).toArray))]) (cs := (C2 u).toArray) hST (bM rfl) (bB [(.agg (C2 u).toArray)] Tryz.underlying108 Tryz.sizeOf263 Tryz.zeroValue263 (by decide) rfl (by intro v hv; simp only [List.mem_cons, List.not_mem_nil, or_false] at hv; rcases hv with rfl <;> rfl) rfl rfl) (fun lf o3 hST => ?_)
          have hS0 := hST.has.selS (f4.trans i8) (Db (Db (Kb (Kb (Kb Sn)))))
          refine ⟨hS0, (X 13 rfl hS0 (bJ (qs := #[(0, (.string K3)), (1, (.slice (some ⟨h4, 0, none⟩) 1 1)), (2, (.slice (some ⟨o3, 0, none⟩) 1 1))]) (v := (.agg (C8 h4 o3).toArray)) (eH rfl rfl rfl) (aW Tryz.zeroValue110 Tryz.underlying110 (iO _ Tryz.underlying110) (by kernel_rfl))) (XE 14 rfl (bL hST Tryz.zeroValue110 (fun lg ed hST => ?_))))⟩
          have hS0 := hST.has.selS (f4.trans i8) (Db (Db (Db (Kb (Kb (Kb Sn))))))
          refine ⟨hS0, ?_⟩
          cases t
          replace hST := hST.perm (Nb (Pb (Pb Pz)) Nz)
          replace hST := hST.row1
          replace hST := hST.perm (Nb (Pr (Pb Pz)) Nz)
          replace hST := hST.row1
          refine cV (by kernel_rfl) (y _ _ ⟨ed, (.slice (some ⟨h4, 0, none⟩) 1 1), [(h4, Obj.cells ((C1 g c.length i).toArray : Array Value) 138 (0, 0))], (.slice (some ⟨o3, 0, none⟩) 1 1), [(o3, Obj.cells ((C2 u).toArray : Array Value) 263 (0, 0))], (.slice none 0 0), (.slice none 0 0), fo, _, (f4.trans i8), (hST.sel (Sb (Pr (Pr Pz)) (Sb (Pr (Pr Pz)) (Sb (Pr (Pr Pz)) (Sb (Pr (Pr Pz)) (Sr (Qr Qz) St)))))), rfl, rfl, rfl, rfl, rfl, (bG.lit bR (l := [(⟨(⟨cI, c⟩ : Signed), pN⟩ : bK)]) (.cons (ys := C1 g c.length i) (bF.mk ⟨(.slice g c.length i), (.slice none 0 0), rfl, (x1.mono (Pl.mono _) i8), (Sl.nil _ _ _)⟩) .nil) rfl nb rfl), (bG.lit dR (l := [pL]) (.cons (ys := C2 u) (cD.mk ⟨(.slice none 0 0), (.slice (some ⟨u, 0, none⟩) 1 1), rfl, (Sl.nil _ _ _), cf⟩) .nil) rfl nb rfl), (Sl.nil _ _ _), (Fr.nil _), (Sl.nil _ _ _), (Fr.nil _)⟩)
        · refine bL hST Tryz.zeroValue110 (fun lh ee hST => ?_)
          have hS0 := hST.has.selS f4 (Db (Db (Db (Kb (Kb (Kb Sn))))))
          refine ⟨hS0, ?_⟩
          replace hST := hST.perm (Nb (Pb (Pb Pz)) Nz)
          have hj : Fr w.heap.size (.slice (some ⟨u, 0, none⟩) 1 1) := Fr.box hST Mh
          obtain ⟨fp, hST, k6, hl2361, cg⟩ := ST.pub1 (R := [(u, Obj.cells ((aI cI).toArray : Array Value) 53 (0, 0))]) hST (bI.lit (l := [cI]) (enc := aI) (b := u) (m := 1) rfl (by decide) rfl rfl) bQ
          refine XE 12 rfl (aR (qs := #[(0, (.agg (C2 u).toArray))]) (cs := (C2 u).toArray) hST (bM rfl) (bB [(.agg (C2 u).toArray)] Tryz.underlying108 Tryz.sizeOf263 Tryz.zeroValue263 (by decide) rfl (by intro v hv; simp only [List.mem_cons, List.not_mem_nil, or_false] at hv; rcases hv with rfl <;> rfl) rfl rfl) (fun li o4 hST => ?_))
          have hS0 := hST.has.selS (f4.trans k6) (Db (Db (Db (Kb (Kb (Kb Sn))))))
          refine ⟨hS0, (X 13 rfl hS0 (bJ (qs := #[(0, (.string K3)), (1, (.slice (some ⟨h4, 0, none⟩) 1 1)), (2, (.slice (some ⟨o4, 0, none⟩) 1 1))]) (v := (.agg (C8 h4 o4).toArray)) (eH rfl rfl rfl) (aW Tryz.zeroValue110 Tryz.underlying110 (iO _ Tryz.underlying110) (by kernel_rfl))) ?_)⟩
          cases t
          replace hST := hST.perm (Nb (Pb (Pb Pz)) Nz)
          replace hST := hST.row1
          replace hST := hST.perm (Nb (Pr Pz) Nz)
          replace hST := hST.row1
          refine cV (by kernel_rfl) (y _ _ ⟨ee, (.slice (some ⟨h4, 0, none⟩) 1 1), [(h4, Obj.cells ((C1 g c.length i).toArray : Array Value) 138 (0, 0))], (.slice (some ⟨o4, 0, none⟩) 1 1), [(o4, Obj.cells ((C2 u).toArray : Array Value) 263 (0, 0))], (.slice none 0 0), (.slice none 0 0), fp, _, (f4.trans k6), (hST.sel (Sb (Pr (Pr Pz)) (Sb (Pr (Pr Pz)) (Sb (Pr (Pr Pz)) (Sb (Pr (Pr Pz)) (Sr (Qr Qz) St)))))), rfl, rfl, rfl, rfl, rfl, (bG.lit bR (l := [(⟨(⟨cI, c⟩ : Signed), pN⟩ : bK)]) (.cons (ys := C1 g c.length i) (bF.mk ⟨(.slice g c.length i), (.slice none 0 0), rfl, (x1.mono (Pl.mono _) k6), (Sl.nil _ _ _)⟩) .nil) rfl nb rfl), (bG.lit dR (l := [pL]) (.cons (ys := C2 u) (cD.mk ⟨(.slice none 0 0), (.slice (some ⟨u, 0, none⟩) 1 1), rfl, (Sl.nil _ _ _), cg⟩) .nil) rfl nb rfl), (Sl.nil _ _ _), (Fr.nil _), (Sl.nil _ _ _), (Fr.nil _)⟩)
      · have hk : Fr w.heap.size (.slice (some ⟨u, 0, none⟩) 1 1) := Fr.box hST Mh
        obtain ⟨qe, hST, f5, hl2368, x2⟩ := ST.pub1 (R := [(u, Obj.cells ((aI cI).toArray : Array Value) 53 (0, 0))]) hST (bI.lit (l := [cI]) (enc := aI) (b := u) (m := 1) rfl (by decide) rfl rfl) bQ
        refine aR (qs := #[(0, (.agg (C2 u).toArray))]) (cs := (C2 u).toArray) hST (bM rfl) (bB [(.agg (C2 u).toArray)] Tryz.underlying108 Tryz.sizeOf263 Tryz.zeroValue263 (by decide) rfl (by intro v hv; simp only [List.mem_cons, List.not_mem_nil, or_false] at hv; rcases hv with rfl <;> rfl) rfl rfl) (fun lj h5 hST => ?_)
        have hS0 := hST.has.selS f5 (Db (Dr (Kb (Kb (Kb Sn)))))
        refine ⟨hS0, (kX 5 14 rfl rfl (by kernel_rfl) (.inl rfl) (.inl rfl) rfl rfl (by decide) (by decide) ?_ ?_)⟩
        · replace hST := hST.perm (Nr (Qb Qz) Nz)
          have hl := a1.frM hST (fun p hq => (Ml hq))
          obtain ⟨fq, hST, i9, hl2375, ch⟩ := ST.pub1 hST a1 (fun _ => rfl)
          refine aR (qs := #[(0, (.agg (C1 g c.length i).toArray))]) (cs := (C1 g c.length i).toArray) hST (bM rfl) (bB [(.agg (C1 g c.length i).toArray)] Tryz.underlying107 Tryz.sizeOf138 Tryz.zeroValue138 (by decide) rfl (by intro v hv; simp only [List.mem_cons, List.not_mem_nil, or_false] at hv; rcases hv with rfl <;> rfl) rfl rfl) (fun lk o5 hST => ?_)
          have hS0 := hST.has.selS (f5.trans i9) (Db (Db (Kb (Kb (Kb Sn)))))
          refine ⟨hS0, (X 13 rfl hS0 (bJ (qs := #[(0, (.string K3)), (1, (.slice (some ⟨o5, 0, none⟩) 1 1)), (2, (.slice (some ⟨h5, 0, none⟩) 1 1))]) (v := (.agg (C8 o5 h5).toArray)) (eH rfl rfl rfl) (aW Tryz.zeroValue110 Tryz.underlying110 (iO _ Tryz.underlying110) (by kernel_rfl))) (XE 14 rfl (bL hST Tryz.zeroValue110 (fun ll ef hST => ?_))))⟩
          have hS0 := hST.has.selS (f5.trans i9) (Db (Db (Db (Kb (Kb (Kb Sn))))))
          refine ⟨hS0, ?_⟩
          cases t
          replace hST := hST.perm (Nb (Pb Pz) Nz)
          replace hST := hST.row1
          replace hST := hST.perm (Nb (Pr (Pb Pz)) Nz)
          replace hST := hST.row1
          refine cV (by kernel_rfl) (y _ _ ⟨ef, (.slice (some ⟨o5, 0, none⟩) 1 1), [(o5, Obj.cells ((C1 g c.length i).toArray : Array Value) 138 (0, 0))], (.slice (some ⟨h5, 0, none⟩) 1 1), [(h5, Obj.cells ((C2 u).toArray : Array Value) 263 (0, 0))], (.slice none 0 0), (.slice none 0 0), fq, _, (f5.trans i9), (hST.sel (Sb (Pr (Pr Pz)) (Sb (Pr (Pr Pz)) (Sb (Pr (Pr Pz)) (Sb (Pr (Pr Pz)) (Sr (Qr Qz) St)))))), rfl, rfl, rfl, rfl, rfl, (bG.lit bR (l := [(⟨(⟨cI, c⟩ : Signed), pN⟩ : bK)]) (.cons (ys := C1 g c.length i) (bF.mk ⟨(.slice g c.length i), (.slice none 0 0), rfl, ch, (Sl.nil _ _ _)⟩) .nil) rfl nb rfl), (bG.lit dR (l := [pL]) (.cons (ys := C2 u) (cD.mk ⟨(.slice none 0 0), (.slice (some ⟨u, 0, none⟩) 1 1), rfl, (Sl.nil _ _ _), (x2.mono (Pl.mono _) i9)⟩) .nil) rfl nb rfl), (Sl.nil _ _ _), (Fr.nil _), (Sl.nil _ _ _), (Fr.nil _)⟩)
        · refine bL hST Tryz.zeroValue110 (fun lm eg hST => ?_)
          have hS0 := hST.has.selS f5 (Db (Db (Dr (Kb (Kb (Kb Sn))))))
          refine ⟨hS0, ?_⟩
          replace hST := hST.perm (Nr (Qb (Qb Qz)) Nz)
          have hn := a1.frM hST (fun p hq => (Ml hq))
          obtain ⟨fs, hST, k7, hl2386, ci⟩ := ST.pub1 hST a1 (fun _ => rfl)
          refine XE 5 rfl (aR (qs := #[(0, (.agg (C1 g c.length i).toArray))]) (cs := (C1 g c.length i).toArray) hST (bM rfl) (bB [(.agg (C1 g c.length i).toArray)] Tryz.underlying107 Tryz.sizeOf138 Tryz.zeroValue138 (by decide) rfl (by intro v hv; simp only [List.mem_cons, List.not_mem_nil, or_false] at hv; rcases hv with rfl <;> rfl) rfl rfl) (fun ln o6 hST => ?_))
          have hS0 := hST.has.selS (f5.trans k7) (Db (Db (Db (Kb (Kb (Kb Sn))))))
          refine ⟨hS0, (X 13 rfl hS0 (bJ (qs := #[(0, (.string K3)), (1, (.slice (some ⟨o6, 0, none⟩) 1 1)), (2, (.slice (some ⟨h5, 0, none⟩) 1 1))]) (v := (.agg (C8 o6 h5).toArray)) (eH rfl rfl rfl) (aW Tryz.zeroValue110 Tryz.underlying110 (iO _ Tryz.underlying110) (by kernel_rfl))) ?_)⟩
          cases t
          replace hST := hST.row1
          replace hST := hST.perm (Nb (Pr (Pb Pz)) Nz)
          replace hST := hST.row1
          refine cV (by kernel_rfl) (y _ _ ⟨eg, (.slice (some ⟨o6, 0, none⟩) 1 1), [(o6, Obj.cells ((C1 g c.length i).toArray : Array Value) 138 (0, 0))], (.slice (some ⟨h5, 0, none⟩) 1 1), [(h5, Obj.cells ((C2 u).toArray : Array Value) 263 (0, 0))], (.slice none 0 0), (.slice none 0 0), fs, _, (f5.trans k7), (hST.sel (Sb (Pr (Pr Pz)) (Sb (Pr (Pr Pz)) (Sb (Pr (Pr Pz)) (Sb (Pr (Pr Pz)) (Sr (Qr Qz) St)))))), rfl, rfl, rfl, rfl, rfl, (bG.lit bR (l := [(⟨(⟨cI, c⟩ : Signed), pN⟩ : bK)]) (.cons (ys := C1 g c.length i) (bF.mk ⟨(.slice g c.length i), (.slice none 0 0), rfl, ci, (Sl.nil _ _ _)⟩) .nil) rfl nb rfl), (bG.lit dR (l := [pL]) (.cons (ys := C2 u) (cD.mk ⟨(.slice none 0 0), (.slice (some ⟨u, 0, none⟩) 1 1), rfl, (Sl.nil _ _ _), (x2.mono (Pl.mono _) k7)⟩) .nil) rfl nb rfl), (Sl.nil _ _ _), (Fr.nil _), (Sl.nil _ _ _), (Fr.nil _)⟩)
      · refine bL hST Tryz.zeroValue110 (fun lo y8 hST => ?_)
        have hS0 := hST.has.sel (Db (Db (Dr (Kb (Kb (Kb Sn))))))
        refine ⟨hS0, (kX 5 12 rfl rfl (by kernel_rfl) (.inl rfl) (.inl rfl) rfl rfl (by decide) (by decide) ?_ ?_)⟩
        · replace hST := hST.perm (Nr (Qb (Qb Qz)) Nz)
          have ho := a1.frM hST (fun p hq => (Ml hq))
          obtain ⟨qf, hST, k8, hl2395, cj⟩ := ST.pub1 hST a1 (fun _ => rfl)
          refine aR (qs := #[(0, (.agg (C1 g c.length i).toArray))]) (cs := (C1 g c.length i).toArray) hST (bM rfl) (bB [(.agg (C1 g c.length i).toArray)] Tryz.underlying107 Tryz.sizeOf138 Tryz.zeroValue138 (by decide) rfl (by intro v hv; simp only [List.mem_cons, List.not_mem_nil, or_false] at hv; rcases hv with rfl <;> rfl) rfl rfl) (fun lp o7 hST => ?_)
          have hS0 := hST.has.selS k8 (Db (Db (Db (Kb (Kb (Kb Sn))))))
          refine ⟨hS0, ?_⟩
          replace hST := hST.perm (Nb (Pb (Pb Pz)) Nz)
          have hr : Fr w.heap.size (.slice (some ⟨u, 0, none⟩) 1 1) := Fr.box hST Mh
          obtain ⟨ft, hST, k9, hl2402, ck⟩ := ST.pub1 (R := [(u, Obj.cells ((aI cI).toArray : Array Value) 53 (0, 0))]) hST (bI.lit (l := [cI]) (enc := aI) (b := u) (m := 1) rfl (by decide) rfl rfl) bQ
          refine XE 12 rfl (aR (qs := #[(0, (.agg (C2 u).toArray))]) (cs := (C2 u).toArray) hST (bM rfl) (bB [(.agg (C2 u).toArray)] Tryz.underlying108 Tryz.sizeOf263 Tryz.zeroValue263 (by decide) rfl (by intro v hv; simp only [List.mem_cons, List.not_mem_nil, or_false] at hv; rcases hv with rfl <;> rfl) rfl rfl) (fun lq o8 hST => ?_))
          have hS0 := hST.has.selS (k8.trans k9) (Db (Db (Db (Kb (Kb (Kb Sn))))))
          refine ⟨hS0, (X 13 rfl hS0 (bJ (qs := #[(0, (.string K3)), (1, (.slice (some ⟨o7, 0, none⟩) 1 1)), (2, (.slice (some ⟨o8, 0, none⟩) 1 1))]) (v := (.agg (C8 o7 o8).toArray)) (eH rfl rfl rfl) (aW Tryz.zeroValue110 Tryz.underlying110 (iO _ Tryz.underlying110) (by kernel_rfl))) ?_)⟩
          cases t
          replace hST := hST.perm (Nb (Pb Pz) Nz)
          replace hST := hST.row1
          replace hST := hST.perm (Nb (Pr Pz) Nz)
          replace hST := hST.row1
          refine cV (by kernel_rfl) (y _ _ ⟨y8, (.slice (some ⟨o7, 0, none⟩) 1 1), [(o7, Obj.cells ((C1 g c.length i).toArray : Array Value) 138 (0, 0))], (.slice (some ⟨o8, 0, none⟩) 1 1), [(o8, Obj.cells ((C2 u).toArray : Array Value) 263 (0, 0))], (.slice none 0 0), (.slice none 0 0), ft, _, (k8.trans k9), (hST.sel (Sb (Pr (Pr Pz)) (Sb (Pr (Pr Pz)) (Sb (Pr (Pr Pz)) (Sb (Pr (Pr Pz)) (Sr (Qr Qz) St)))))), rfl, rfl, rfl, rfl, rfl, (bG.lit bR (l := [(⟨(⟨cI, c⟩ : Signed), pN⟩ : bK)]) (.cons (ys := C1 g c.length i) (bF.mk ⟨(.slice g c.length i), (.slice none 0 0), rfl, (cj.mono (Pl.mono _) k9), (Sl.nil _ _ _)⟩) .nil) rfl nb rfl), (bG.lit dR (l := [pL]) (.cons (ys := C2 u) (cD.mk ⟨(.slice none 0 0), (.slice (some ⟨u, 0, none⟩) 1 1), rfl, (Sl.nil _ _ _), ck⟩) .nil) rfl nb rfl), (Sl.nil _ _ _), (Fr.nil _), (Sl.nil _ _ _), (Fr.nil _)⟩)
        · replace hST := hST.perm (Nb (Pb Pz) Nz)
          have hs : Fr w.heap.size (.slice (some ⟨u, 0, none⟩) 1 1) := Fr.box hST Mh
          obtain ⟨qg, hST, l0, hl2409, cl⟩ := ST.pub1 (R := [(u, Obj.cells ((aI cI).toArray : Array Value) 53 (0, 0))]) hST (bI.lit (l := [cI]) (enc := aI) (b := u) (m := 1) rfl (by decide) rfl rfl) bQ
          refine aR (qs := #[(0, (.agg (C2 u).toArray))]) (cs := (C2 u).toArray) hST (bM rfl) (bB [(.agg (C2 u).toArray)] Tryz.underlying108 Tryz.sizeOf263 Tryz.zeroValue263 (by decide) rfl (by intro v hv; simp only [List.mem_cons, List.not_mem_nil, or_false] at hv; rcases hv with rfl <;> rfl) rfl rfl) (fun lr o9 hST => ?_)
          have hS0 := hST.has.selS l0 (Db (Db (Dr (Kb (Kb (Kb Sn))))))
          refine ⟨hS0, ?_⟩
          replace hST := hST.perm (Nr (Qb (Qb Qz)) Nz)
          have ht := a1.frM hST (fun p hq => (Ml hq))
          obtain ⟨fu, hST, l1, hl2416, cm⟩ := ST.pub1 hST a1 (fun _ => rfl)
          refine XE 5 rfl (aR (qs := #[(0, (.agg (C1 g c.length i).toArray))]) (cs := (C1 g c.length i).toArray) hST (bM rfl) (bB [(.agg (C1 g c.length i).toArray)] Tryz.underlying107 Tryz.sizeOf138 Tryz.zeroValue138 (by decide) rfl (by intro v hv; simp only [List.mem_cons, List.not_mem_nil, or_false] at hv; rcases hv with rfl <;> rfl) rfl rfl) (fun ls p0 hST => ?_))
          have hS0 := hST.has.selS (l0.trans l1) (Db (Db (Db (Kb (Kb (Kb Sn))))))
          refine ⟨hS0, (X 13 rfl hS0 (bJ (qs := #[(0, (.string K3)), (1, (.slice (some ⟨p0, 0, none⟩) 1 1)), (2, (.slice (some ⟨o9, 0, none⟩) 1 1))]) (v := (.agg (C8 p0 o9).toArray)) (eH rfl rfl rfl) (aW Tryz.zeroValue110 Tryz.underlying110 (iO _ Tryz.underlying110) (by kernel_rfl))) ?_)⟩
          cases t
          replace hST := hST.row1
          replace hST := hST.perm (Nb (Pr Pz) Nz)
          replace hST := hST.row1
          refine cV (by kernel_rfl) (y _ _ ⟨y8, (.slice (some ⟨p0, 0, none⟩) 1 1), [(p0, Obj.cells ((C1 g c.length i).toArray : Array Value) 138 (0, 0))], (.slice (some ⟨o9, 0, none⟩) 1 1), [(o9, Obj.cells ((C2 u).toArray : Array Value) 263 (0, 0))], (.slice none 0 0), (.slice none 0 0), fu, _, (l0.trans l1), (hST.sel (Sb (Pr (Pr Pz)) (Sb (Pr (Pr Pz)) (Sb (Pr (Pr Pz)) (Sb (Pr (Pr Pz)) (Sr (Qr Qz) St)))))), rfl, rfl, rfl, rfl, rfl, (bG.lit bR (l := [(⟨(⟨cI, c⟩ : Signed), pN⟩ : bK)]) (.cons (ys := C1 g c.length i) (bF.mk ⟨(.slice g c.length i), (.slice none 0 0), rfl, cm, (Sl.nil _ _ _)⟩) .nil) rfl nb rfl), (bG.lit dR (l := [pL]) (.cons (ys := C2 u) (cD.mk ⟨(.slice none 0 0), (.slice (some ⟨u, 0, none⟩) 1 1), rfl, (Sl.nil _ _ _), (cl.mono (Pl.mono _) l1)⟩) .nil) rfl nb rfl), (Sl.nil _ _ _), (Fr.nil _), (Sl.nil _ _ _), (Fr.nil _)⟩)
    · refine bL hST Tryz.zeroValue110 (fun lt v5 hST => ?_)
      have hS0 := hST.has.sel (Db (Dr (Kb (Kb (Kb Sn)))))
      refine ⟨hS0, (kX 5 10 rfl rfl (by kernel_rfl) (.inl rfl) (.inl rfl) rfl rfl (by decide) (by decide) ?_ ?_)⟩
      · replace hST := hST.perm (Nr (Qb Qz) Nz)
        have hu := a1.frM hST (fun p hq => (Ml hq))
        obtain ⟨qh, hST, j0, hl2425, cn⟩ := ST.pub1 hST a1 (fun _ => rfl)
        refine aR (qs := #[(0, (.agg (C1 g c.length i).toArray))]) (cs := (C1 g c.length i).toArray) hST (bM rfl) (bB [(.agg (C1 g c.length i).toArray)] Tryz.underlying107 Tryz.sizeOf138 Tryz.zeroValue138 (by decide) rfl (by intro v hv; simp only [List.mem_cons, List.not_mem_nil, or_false] at hv; rcases hv with rfl <;> rfl) rfl rfl) (fun lu p1 hST => ?_)
        have hS0 := hST.has.selS j0 (Db (Db (Kb (Kb (Kb Sn)))))
        refine ⟨hS0, (XE 10 rfl (aR (qs := #[(0, (.agg (aI cI).toArray))]) (cs := (aI cI).toArray) hST (bM rfl) (bB [(.agg (aI cI).toArray)] Tryz.underlying22 Tryz.sizeOf53 Tryz.zeroValue53 (by decide) rfl (by intro v hv; simp only [List.mem_cons, List.not_mem_nil, or_false] at hv; rcases hv with rfl <;> rfl) rfl rfl) (fun lv e1 hST => ?_)))⟩
        have hS0 := hST.has.selS j0 (Db (Db (Db (Kb (Kb (Kb Sn))))))
        refine ⟨hS0, (X 11 rfl hS0 (bJ (qs := #[(0, (.agg (aO rQ).toArray)), (1, (.agg wR.toArray)), (2, (.slice (some ⟨e1, 0, none⟩) 1 1))]) (v := (.agg (C2 e1).toArray)) (eH rfl rfl rfl) (aW Tryz.zeroValue263 Tryz.underlying263 (vD _ Tryz.underlying263) (by kernel_rfl))) ?_)⟩
        have hw : Fr w.heap.size (.slice (some ⟨e1, 0, none⟩) 1 1) := Fr.box hST Mh
        obtain ⟨fv, hST, l2, hl2434, co⟩ := ST.pub1 (R := [(e1, Obj.cells ((aI cI).toArray : Array Value) 53 (0, 0))]) hST (bI.lit (l := [cI]) (enc := aI) (b := e1) (m := 1) rfl (by decide) rfl rfl) bQ
        refine XE 12 rfl (aR (qs := #[(0, (.agg (C2 e1).toArray))]) (cs := (C2 e1).toArray) hST (bM rfl) (bB [(.agg (C2 e1).toArray)] Tryz.underlying108 Tryz.sizeOf263 Tryz.zeroValue263 (by decide) rfl (by intro v hv; simp only [List.mem_cons, List.not_mem_nil, or_false] at hv; rcases hv with rfl <;> rfl) rfl rfl) (fun lw p2 hST => ?_))
        have hS0 := hST.has.selS (j0.trans l2) (Db (Db (Db (Kb (Kb (Kb Sn))))))
        refine ⟨hS0, (X 13 rfl hS0 (bJ (qs := #[(0, (.string K3)), (1, (.slice (some ⟨p1, 0, none⟩) 1 1)), (2, (.slice (some ⟨p2, 0, none⟩) 1 1))]) (v := (.agg (C8 p1 p2).toArray)) (eH rfl rfl rfl) (aW Tryz.zeroValue110 Tryz.underlying110 (iO _ Tryz.underlying110) (by kernel_rfl))) ?_)⟩
        cases t
        replace hST := hST.perm (Nb (Pb Pz) Nz)
        replace hST := hST.row1
        replace hST := hST.perm (Nb (Pr Pz) Nz)
        replace hST := hST.row1
        refine cV (by kernel_rfl) (y _ _ ⟨v5, (.slice (some ⟨p1, 0, none⟩) 1 1), [(p1, Obj.cells ((C1 g c.length i).toArray : Array Value) 138 (0, 0))], (.slice (some ⟨p2, 0, none⟩) 1 1), [(p2, Obj.cells ((C2 e1).toArray : Array Value) 263 (0, 0))], (.slice none 0 0), (.slice none 0 0), fv, _, (j0.trans l2), (hST.sel (Sb (Pr (Pr Pz)) (Sb (Pr (Pr Pz)) (Sb (Pr (Pr Pz)) (Sb (Pr (Pr Pz)) (Sr (Qr Qz) St)))))), rfl, rfl, rfl, rfl, rfl, (bG.lit bR (l := [(⟨(⟨cI, c⟩ : Signed), pN⟩ : bK)]) (.cons (ys := C1 g c.length i) (bF.mk ⟨(.slice g c.length i), (.slice none 0 0), rfl, (cn.mono (Pl.mono _) l2), (Sl.nil _ _ _)⟩) .nil) rfl nb rfl), (bG.lit dR (l := [pL]) (.cons (ys := C2 e1) (cD.mk ⟨(.slice none 0 0), (.slice (some ⟨e1, 0, none⟩) 1 1), rfl, (Sl.nil _ _ _), co⟩) .nil) rfl nb rfl), (Sl.nil _ _ _), (Fr.nil _), (Sl.nil _ _ _), (Fr.nil _)⟩)
      · refine aR (qs := #[(0, (.agg (aI cI).toArray))]) (cs := (aI cI).toArray) hST (bM rfl) (bB [(.agg (aI cI).toArray)] Tryz.underlying22 Tryz.sizeOf53 Tryz.zeroValue53 (by decide) rfl (by intro v hv; simp only [List.mem_cons, List.not_mem_nil, or_false] at hv; rcases hv with rfl <;> rfl) rfl rfl) (fun lx a7 hST => ?_)
        have hS0 := hST.has.sel (Db (Db (Dr (Kb (Kb (Kb Sn))))))
        refine ⟨hS0, (X 11 rfl hS0 (bJ (qs := #[(0, (.agg (aO rQ).toArray)), (1, (.agg wR.toArray)), (2, (.slice (some ⟨a7, 0, none⟩) 1 1))]) (v := (.agg (C2 a7).toArray)) (eH rfl rfl rfl) (aW Tryz.zeroValue263 Tryz.underlying263 (vD _ Tryz.underlying263) (by kernel_rfl))) (kX 5 12 rfl rfl (by kernel_rfl) (.inl rfl) (.inl rfl) rfl rfl (by decide) (by decide) ?_ ?_))⟩
        · replace hST := hST.perm (Nr (Qb (Qb Qz)) Nz)
          have hy := a1.frM hST (fun p hq => (Ml hq))
          obtain ⟨qi, hST, l3, hl2443, cp⟩ := ST.pub1 hST a1 (fun _ => rfl)
          refine aR (qs := #[(0, (.agg (C1 g c.length i).toArray))]) (cs := (C1 g c.length i).toArray) hST (bM rfl) (bB [(.agg (C1 g c.length i).toArray)] Tryz.underlying107 Tryz.sizeOf138 Tryz.zeroValue138 (by decide) rfl (by intro v hv; simp only [List.mem_cons, List.not_mem_nil, or_false] at hv; rcases hv with rfl <;> rfl) rfl rfl) (fun ly p3 hST => ?_)
          have hS0 := hST.has.selS l3 (Db (Db (Db (Kb (Kb (Kb Sn))))))
          refine ⟨hS0, ?_⟩
          replace hST := hST.perm (Nb (Pb Pz) Nz)
          have hz : Fr w.heap.size (.slice (some ⟨a7, 0, none⟩) 1 1) := Fr.box hST Mh
          obtain ⟨fw, hST, l4, hl2450, cq⟩ := ST.pub1 (R := [(a7, Obj.cells ((aI cI).toArray : Array Value) 53 (0, 0))]) hST (bI.lit (l := [cI]) (enc := aI) (b := a7) (m := 1) rfl (by decide) rfl rfl) bQ
          refine XE 12 rfl (aR (qs := #[(0, (.agg (C2 a7).toArray))]) (cs := (C2 a7).toArray) hST (bM rfl) (bB [(.agg (C2 a7).toArray)] Tryz.underlying108 Tryz.sizeOf263 Tryz.zeroValue263 (by decide) rfl (by intro v hv; simp only [List.mem_cons, List.not_mem_nil, or_false] at hv; rcases hv with rfl <;> rfl) rfl rfl) (fun lz p4 hST => ?_))
          have hS0 := hST.has.selS (l3.trans l4) (Db (Db (Db (Kb (Kb (Kb Sn))))))
          refine ⟨hS0, (X 13 rfl hS0 (bJ (qs := #[(0, (.string K3)), (1, (.slice (some ⟨p3, 0, none⟩) 1 1)), (2, (.slice (some ⟨p4, 0, none⟩) 1 1))]) (v := (.agg (C8 p3 p4).toArray)) (eH rfl rfl rfl) (aW Tryz.zeroValue110 Tryz.underlying110 (iO _ Tryz.underlying110) (by kernel_rfl))) ?_)⟩
          cases t
          replace hST := hST.perm (Nb (Pb Pz) Nz)
          replace hST := hST.row1
          replace hST := hST.perm (Nb (Pr Pz) Nz)
          replace hST := hST.row1
          refine cV (by kernel_rfl) (y _ _ ⟨v5, (.slice (some ⟨p3, 0, none⟩) 1 1), [(p3, Obj.cells ((C1 g c.length i).toArray : Array Value) 138 (0, 0))], (.slice (some ⟨p4, 0, none⟩) 1 1), [(p4, Obj.cells ((C2 a7).toArray : Array Value) 263 (0, 0))], (.slice none 0 0), (.slice none 0 0), fw, _, (l3.trans l4), (hST.sel (Sb (Pr (Pr Pz)) (Sb (Pr (Pr Pz)) (Sb (Pr (Pr Pz)) (Sb (Pr (Pr Pz)) (Sr (Qr Qz) St)))))), rfl, rfl, rfl, rfl, rfl, (bG.lit bR (l := [(⟨(⟨cI, c⟩ : Signed), pN⟩ : bK)]) (.cons (ys := C1 g c.length i) (bF.mk ⟨(.slice g c.length i), (.slice none 0 0), rfl, (cp.mono (Pl.mono _) l4), (Sl.nil _ _ _)⟩) .nil) rfl nb rfl), (bG.lit dR (l := [pL]) (.cons (ys := C2 a7) (cD.mk ⟨(.slice none 0 0), (.slice (some ⟨a7, 0, none⟩) 1 1), rfl, (Sl.nil _ _ _), cq⟩) .nil) rfl nb rfl), (Sl.nil _ _ _), (Fr.nil _), (Sl.nil _ _ _), (Fr.nil _)⟩)
        · have ia : Fr w.heap.size (.slice (some ⟨a7, 0, none⟩) 1 1) := Fr.box hST Mh
          obtain ⟨qj, hST, l5, hl2457, cr⟩ := ST.pub1 (R := [(a7, Obj.cells ((aI cI).toArray : Array Value) 53 (0, 0))]) hST (bI.lit (l := [cI]) (enc := aI) (b := a7) (m := 1) rfl (by decide) rfl rfl) bQ
          refine aR (qs := #[(0, (.agg (C2 a7).toArray))]) (cs := (C2 a7).toArray) hST (bM rfl) (bB [(.agg (C2 a7).toArray)] Tryz.underlying108 Tryz.sizeOf263 Tryz.zeroValue263 (by decide) rfl (by intro v hv; simp only [List.mem_cons, List.not_mem_nil, or_false] at hv; rcases hv with rfl <;> rfl) rfl rfl) (fun ma p5 hST => ?_)
          have hS0 := hST.has.selS l5 (Db (Db (Dr (Kb (Kb (Kb Sn))))))
          refine ⟨hS0, ?_⟩
          replace hST := hST.perm (Nr (Qb (Qb Qz)) Nz)
          have ib := a1.frM hST (fun p hq => (Ml hq))
          obtain ⟨fx, hST, l6, hl2464, ct⟩ := ST.pub1 hST a1 (fun _ => rfl)
          refine XE 5 rfl (aR (qs := #[(0, (.agg (C1 g c.length i).toArray))]) (cs := (C1 g c.length i).toArray) hST (bM rfl) (bB [(.agg (C1 g c.length i).toArray)] Tryz.underlying107 Tryz.sizeOf138 Tryz.zeroValue138 (by decide) rfl (by intro v hv; simp only [List.mem_cons, List.not_mem_nil, or_false] at hv; rcases hv with rfl <;> rfl) rfl rfl) (fun mb p6 hST => ?_))
          have hS0 := hST.has.selS (l5.trans l6) (Db (Db (Db (Kb (Kb (Kb Sn))))))
          refine ⟨hS0, (X 13 rfl hS0 (bJ (qs := #[(0, (.string K3)), (1, (.slice (some ⟨p6, 0, none⟩) 1 1)), (2, (.slice (some ⟨p5, 0, none⟩) 1 1))]) (v := (.agg (C8 p6 p5).toArray)) (eH rfl rfl rfl) (aW Tryz.zeroValue110 Tryz.underlying110 (iO _ Tryz.underlying110) (by kernel_rfl))) ?_)⟩
          cases t
          replace hST := hST.row1
          replace hST := hST.perm (Nb (Pr Pz) Nz)
          replace hST := hST.row1
          refine cV (by kernel_rfl) (y _ _ ⟨v5, (.slice (some ⟨p6, 0, none⟩) 1 1), [(p6, Obj.cells ((C1 g c.length i).toArray : Array Value) 138 (0, 0))], (.slice (some ⟨p5, 0, none⟩) 1 1), [(p5, Obj.cells ((C2 a7).toArray : Array Value) 263 (0, 0))], (.slice none 0 0), (.slice none 0 0), fx, _, (l5.trans l6), (hST.sel (Sb (Pr (Pr Pz)) (Sb (Pr (Pr Pz)) (Sb (Pr (Pr Pz)) (Sb (Pr (Pr Pz)) (Sr (Qr Qz) St)))))), rfl, rfl, rfl, rfl, rfl, (bG.lit bR (l := [(⟨(⟨cI, c⟩ : Signed), pN⟩ : bK)]) (.cons (ys := C1 g c.length i) (bF.mk ⟨(.slice g c.length i), (.slice none 0 0), rfl, ct, (Sl.nil _ _ _)⟩) .nil) rfl nb rfl), (bG.lit dR (l := [pL]) (.cons (ys := C2 a7) (cD.mk ⟨(.slice none 0 0), (.slice (some ⟨a7, 0, none⟩) 1 1), rfl, (Sl.nil _ _ _), (cr.mono (Pl.mono _) l6)⟩) .nil) rfl nb rfl), (Sl.nil _ _ _), (Fr.nil _), (Sl.nil _ _ _), (Fr.nil _)⟩)
  · refine aR (qs := #[(0, (.agg (aI cI).toArray))]) (cs := (aI cI).toArray) hST (bM rfl) (bB [(.agg (aI cI).toArray)] Tryz.underlying22 Tryz.sizeOf53 Tryz.zeroValue53 (by decide) rfl (by intro v hv; simp only [List.mem_cons, List.not_mem_nil, or_false] at hv; rcases hv with rfl <;> rfl) rfl rfl) (fun mc a hST => ?_)
    have hS0 := hST.has.sel (Db (Kb (Kb (Kb Sn))))
    refine ⟨hS0, (X 11 rfl hS0 (bJ (qs := #[(0, (.agg (aO rQ).toArray)), (1, (.agg wR.toArray)), (2, (.slice (some ⟨a, 0, none⟩) 1 1))]) (v := (.agg (C2 a).toArray)) (eH rfl rfl rfl) (aW Tryz.zeroValue263 Tryz.underlying263 (vD _ Tryz.underlying263) (by kernel_rfl))) (we 1 12 14 (by kernel_rfl) ⟨_, _, rfl, (.inl rfl), rfl, by decide, ?_⟩ ⟨_, _, rfl, (.inl rfl), rfl, by decide, ?_⟩ ⟨_, _, rfl, (.inl rfl), rfl, by decide, ?_⟩))⟩
    · refine bS t fun x au t => lU (enc := (bV .u8)) (z := 0) hST (fun _ => rfl) (by decide) Tryz.underlying54 dZ.1 dZ.2.1 dZ.2.2.1 dZ.2.2.2 rfl rfl rfl au (fun md pb jt hST d2 => ?_)
      have hS0 := hST.has.sel (Dr (Db (Kb (Kb (Kb Sn)))))
      refine ⟨hS0, ?_⟩
      obtain ⟨G, H, rfl⟩ := d2.form
      refine X 2 rfl hS0 (bJ (qs := #[(0, (.agg (aI cI).toArray)), (1, (.slice G x.length H))]) (v := (.agg (C6 G x.length H).toArray)) (fR rfl rfl) (aW Tryz.zeroValue56 Tryz.underlying56 (yo _ Tryz.underlying56) (by kernel_rfl))) (X 4 rfl hS0 (bJ (qs := #[(0, (.agg (C6 G x.length H).toArray)), (1, (.agg wG.toArray))]) (v := (.agg (C1 G x.length H).toArray)) (fR rfl rfl) (aW Tryz.zeroValue138 Tryz.underlying138 (uP _ Tryz.underlying138) (by kernel_rfl))) (we 5 12 14 (by kernel_rfl) ⟨_, _, rfl, (.inl rfl), rfl, by decide, ?_⟩ ⟨_, _, rfl, (.inl rfl), rfl, by decide, ?_⟩ ⟨_, _, rfl, (.inl rfl), rfl, by decide, ?_⟩))
      · have ic := d2.frM hST (fun p hq => (Ml hq))
        obtain ⟨qk, hST, f6, hl2481, x3⟩ := ST.pub1 hST d2 (fun _ => rfl)
        refine aR (qs := #[(0, (.agg (C1 G x.length H).toArray))]) (cs := (C1 G x.length H).toArray) hST (bM rfl) (bB [(.agg (C1 G x.length H).toArray)] Tryz.underlying107 Tryz.sizeOf138 Tryz.zeroValue138 (by decide) rfl (by intro v hv; simp only [List.mem_cons, List.not_mem_nil, or_false] at hv; rcases hv with rfl <;> rfl) rfl rfl) (fun me h6 hST => ?_)
        have hS0 := hST.has.selS f6 (Db (Db (Kb (Kb (Kb Sn)))))
        refine ⟨hS0, (kX 12 14 rfl rfl (by kernel_rfl) (.inl rfl) (.inl rfl) rfl rfl (by decide) (by decide) ?_ ?_)⟩
        · replace hST := hST.perm (Nb (Pb Pz) Nz)
          have id : Fr w.heap.size (.slice (some ⟨a, 0, none⟩) 1 1) := Fr.box hST Mh
          obtain ⟨fy, hST, j3, hl2488, cu⟩ := ST.pub1 (R := [(a, Obj.cells ((aI cI).toArray : Array Value) 53 (0, 0))]) hST (bI.lit (l := [cI]) (enc := aI) (b := a) (m := 1) rfl (by decide) rfl rfl) bQ
          refine aR (qs := #[(0, (.agg (C2 a).toArray))]) (cs := (C2 a).toArray) hST (bM rfl) (bB [(.agg (C2 a).toArray)] Tryz.underlying108 Tryz.sizeOf263 Tryz.zeroValue263 (by decide) rfl (by intro v hv; simp only [List.mem_cons, List.not_mem_nil, or_false] at hv; rcases hv with rfl <;> rfl) rfl rfl) (fun mf p7 hST => ?_)
          have hS0 := hST.has.selS (f6.trans j3) (Db (Db (Kb (Kb (Kb Sn)))))
          refine ⟨hS0, (X 13 rfl hS0 (bJ (qs := #[(0, (.string K3)), (1, (.slice (some ⟨h6, 0, none⟩) 1 1)), (2, (.slice (some ⟨p7, 0, none⟩) 1 1))]) (v := (.agg (C8 h6 p7).toArray)) (eH rfl rfl rfl) (aW Tryz.zeroValue110 Tryz.underlying110 (iO _ Tryz.underlying110) (by kernel_rfl))) (XE 14 rfl (bL hST Tryz.zeroValue110 (fun mg eh hST => ?_))))⟩
          have hS0 := hST.has.selS (f6.trans j3) (Db (Db (Db (Kb (Kb (Kb Sn))))))
          refine ⟨hS0, ?_⟩
          cases t
          replace hST := hST.perm (Nb (Pb (Pb Pz)) Nz)
          replace hST := hST.row1
          replace hST := hST.perm (Nb (Pr (Pb Pz)) Nz)
          replace hST := hST.row1
          refine cV (by kernel_rfl) (y _ _ ⟨eh, (.slice (some ⟨h6, 0, none⟩) 1 1), [(h6, Obj.cells ((C1 G x.length H).toArray : Array Value) 138 (0, 0))], (.slice (some ⟨p7, 0, none⟩) 1 1), [(p7, Obj.cells ((C2 a).toArray : Array Value) 263 (0, 0))], (.slice none 0 0), (.slice none 0 0), fy, _, (f6.trans j3), (hST.sel (Sb (Pr (Pr Pz)) (Sb (Pr (Pr Pz)) (Sb (Pr (Pr Pz)) (Sb (Pr (Pr Pz)) (Sr (Qr Qz) St)))))), rfl, rfl, rfl, rfl, rfl, (bG.lit bR (l := [(⟨(⟨cI, x⟩ : Signed), pN⟩ : bK)]) (.cons (ys := C1 G x.length H) (bF.mk ⟨(.slice G x.length H), (.slice none 0 0), rfl, (x3.mono (Pl.mono _) j3), (Sl.nil _ _ _)⟩) .nil) rfl nb rfl), (bG.lit dR (l := [pL]) (.cons (ys := C2 a) (cD.mk ⟨(.slice none 0 0), (.slice (some ⟨a, 0, none⟩) 1 1), rfl, (Sl.nil _ _ _), cu⟩) .nil) rfl nb rfl), (Sl.nil _ _ _), (Fr.nil _), (Sl.nil _ _ _), (Fr.nil _)⟩)
        · refine bL hST Tryz.zeroValue110 (fun mh ei hST => ?_)
          have hS0 := hST.has.selS f6 (Db (Db (Db (Kb (Kb (Kb Sn))))))
          refine ⟨hS0, ?_⟩
          replace hST := hST.perm (Nb (Pb (Pb Pz)) Nz)
          have ie : Fr w.heap.size (.slice (some ⟨a, 0, none⟩) 1 1) := Fr.box hST Mh
          obtain ⟨fz, hST, l7, hl2499, cv⟩ := ST.pub1 (R := [(a, Obj.cells ((aI cI).toArray : Array Value) 53 (0, 0))]) hST (bI.lit (l := [cI]) (enc := aI) (b := a) (m := 1) rfl (by decide) rfl rfl) bQ
          refine XE 12 rfl (aR (qs := #[(0, (.agg (C2 a).toArray))]) (cs := (C2 a).toArray) hST (bM rfl) (bB [(.agg (C2 a).toArray)] Tryz.underlying108 Tryz.sizeOf263 Tryz.zeroValue263 (by decide) rfl (by intro v hv; simp only [List.mem_cons, List.not_mem_nil, or_false] at hv; rcases hv with rfl <;> rfl) rfl rfl) (fun mi p8 hST => ?_))
          have hS0 := hST.has.selS (f6.trans l7) (Db (Db (Db (Kb (Kb (Kb Sn))))))
          refine ⟨hS0, (X 13 rfl hS0 (bJ (qs := #[(0, (.string K3)), (1, (.slice (some ⟨h6, 0, none⟩) 1 1)), (2, (.slice (some ⟨p8, 0, none⟩) 1 1))]) (v := (.agg (C8 h6 p8).toArray)) (eH rfl rfl rfl) (aW Tryz.zeroValue110 Tryz.underlying110 (iO _ Tryz.underlying110) (by kernel_rfl))) ?_)⟩
          cases t
          replace hST := hST.perm (Nb (Pb (Pb Pz)) Nz)
          replace hST := hST.row1
          replace hST := hST.perm (Nb (Pr Pz) Nz)
          replace hST := hST.row1
          refine cV (by kernel_rfl) (y _ _ ⟨ei, (.slice (some ⟨h6, 0, none⟩) 1 1), [(h6, Obj.cells ((C1 G x.length H).toArray : Array Value) 138 (0, 0))], (.slice (some ⟨p8, 0, none⟩) 1 1), [(p8, Obj.cells ((C2 a).toArray : Array Value) 263 (0, 0))], (.slice none 0 0), (.slice none 0 0), fz, _, (f6.trans l7), (hST.sel (Sb (Pr (Pr Pz)) (Sb (Pr (Pr Pz)) (Sb (Pr (Pr Pz)) (Sb (Pr (Pr Pz)) (Sr (Qr Qz) St)))))), rfl, rfl, rfl, rfl, rfl, (bG.lit bR (l := [(⟨(⟨cI, x⟩ : Signed), pN⟩ : bK)]) (.cons (ys := C1 G x.length H) (bF.mk ⟨(.slice G x.length H), (.slice none 0 0), rfl, (x3.mono (Pl.mono _) l7), (Sl.nil _ _ _)⟩) .nil) rfl nb rfl), (bG.lit dR (l := [pL]) (.cons (ys := C2 a) (cD.mk ⟨(.slice none 0 0), (.slice (some ⟨a, 0, none⟩) 1 1), rfl, (Sl.nil _ _ _), cv⟩) .nil) rfl nb rfl), (Sl.nil _ _ _), (Fr.nil _), (Sl.nil _ _ _), (Fr.nil _)⟩)
      · replace hST := hST.perm (Nb (Pr Pz) Nz)
        have ig : Fr w.heap.size (.slice (some ⟨a, 0, none⟩) 1 1) := Fr.box hST Mh
        obtain ⟨ql, hST, f7, hl2506, x4⟩ := ST.pub1 (R := [(a, Obj.cells ((aI cI).toArray : Array Value) 53 (0, 0))]) hST (bI.lit (l := [cI]) (enc := aI) (b := a) (m := 1) rfl (by decide) rfl rfl) bQ
        refine aR (qs := #[(0, (.agg (C2 a).toArray))]) (cs := (C2 a).toArray) hST (bM rfl) (bB [(.agg (C2 a).toArray)] Tryz.underlying108 Tryz.sizeOf263 Tryz.zeroValue263 (by decide) rfl (by intro v hv; simp only [List.mem_cons, List.not_mem_nil, or_false] at hv; rcases hv with rfl <;> rfl) rfl rfl) (fun mj h7 hST => ?_)
        have hS0 := hST.has.selS f7 (Db (Dr (Kb (Kb (Kb Sn)))))
        refine ⟨hS0, (kX 5 14 rfl rfl (by kernel_rfl) (.inl rfl) (.inl rfl) rfl rfl (by decide) (by decide) ?_ ?_)⟩
        · replace hST := hST.perm (Nr (Qb Qz) Nz)
          have ih := d2.frM hST (fun p hq => (Ml hq))
          obtain ⟨ga, hST, j4, hl2513, cw⟩ := ST.pub1 hST d2 (fun _ => rfl)
          refine aR (qs := #[(0, (.agg (C1 G x.length H).toArray))]) (cs := (C1 G x.length H).toArray) hST (bM rfl) (bB [(.agg (C1 G x.length H).toArray)] Tryz.underlying107 Tryz.sizeOf138 Tryz.zeroValue138 (by decide) rfl (by intro v hv; simp only [List.mem_cons, List.not_mem_nil, or_false] at hv; rcases hv with rfl <;> rfl) rfl rfl) (fun ml p9 hST => ?_)
          have hS0 := hST.has.selS (f7.trans j4) (Db (Db (Kb (Kb (Kb Sn)))))
          refine ⟨hS0, (X 13 rfl hS0 (bJ (qs := #[(0, (.string K3)), (1, (.slice (some ⟨p9, 0, none⟩) 1 1)), (2, (.slice (some ⟨h7, 0, none⟩) 1 1))]) (v := (.agg (C8 p9 h7).toArray)) (eH rfl rfl rfl) (aW Tryz.zeroValue110 Tryz.underlying110 (iO _ Tryz.underlying110) (by kernel_rfl))) (XE 14 rfl (bL hST Tryz.zeroValue110 (fun mn ej hST => ?_))))⟩
          have hS0 := hST.has.selS (f7.trans j4) (Db (Db (Db (Kb (Kb (Kb Sn))))))
          refine ⟨hS0, ?_⟩
          cases t
          replace hST := hST.perm (Nb (Pb Pz) Nz)
          replace hST := hST.row1
          replace hST := hST.perm (Nb (Pr (Pb Pz)) Nz)
          replace hST := hST.row1
          refine cV (by kernel_rfl) (y _ _ ⟨ej, (.slice (some ⟨p9, 0, none⟩) 1 1), [(p9, Obj.cells ((C1 G x.length H).toArray : Array Value) 138 (0, 0))], (.slice (some ⟨h7, 0, none⟩) 1 1), [(h7, Obj.cells ((C2 a).toArray : Array Value) 263 (0, 0))], (.slice none 0 0), (.slice none 0 0), ga, _, (f7.trans j4), (hST.sel (Sb (Pr (Pr Pz)) (Sb (Pr (Pr Pz)) (Sb (Pr (Pr Pz)) (Sb (Pr (Pr Pz)) (Sr (Qr Qz) St)))))), rfl, rfl, rfl, rfl, rfl, (bG.lit bR (l := [(⟨(⟨cI, x⟩ : Signed), pN⟩ : bK)]) (.cons (ys := C1 G x.length H) (bF.mk ⟨(.slice G x.length H), (.slice none 0 0), rfl, cw, (Sl.nil _ _ _)⟩) .nil) rfl nb rfl), (bG.lit dR (l := [pL]) (.cons (ys := C2 a) (cD.mk ⟨(.slice none 0 0), (.slice (some ⟨a, 0, none⟩) 1 1), rfl, (Sl.nil _ _ _), (x4.mono (Pl.mono _) j4)⟩) .nil) rfl nb rfl), (Sl.nil _ _ _), (Fr.nil _), (Sl.nil _ _ _), (Fr.nil _)⟩)
        · refine bL hST Tryz.zeroValue110 (fun mo ek hST => ?_)
          have hS0 := hST.has.selS f7 (Db (Db (Dr (Kb (Kb (Kb Sn))))))
          refine ⟨hS0, ?_⟩
          replace hST := hST.perm (Nr (Qb (Qb Qz)) Nz)
          have ii := d2.frM hST (fun p hq => (Ml hq))
          obtain ⟨gb, hST, l8, hl2524, cx⟩ := ST.pub1 hST d2 (fun _ => rfl)
          refine XE 5 rfl (aR (qs := #[(0, (.agg (C1 G x.length H).toArray))]) (cs := (C1 G x.length H).toArray) hST (bM rfl) (bB [(.agg (C1 G x.length H).toArray)] Tryz.underlying107 Tryz.sizeOf138 Tryz.zeroValue138 (by decide) rfl (by intro v hv; simp only [List.mem_cons, List.not_mem_nil, or_false] at hv; rcases hv with rfl <;> rfl) rfl rfl) (fun mp q0 hST => ?_))
          have hS0 := hST.has.selS (f7.trans l8) (Db (Db (Db (Kb (Kb (Kb Sn))))))
          refine ⟨hS0, (X 13 rfl hS0 (bJ (qs := #[(0, (.string K3)), (1, (.slice (some ⟨q0, 0, none⟩) 1 1)), (2, (.slice (some ⟨h7, 0, none⟩) 1 1))]) (v := (.agg (C8 q0 h7).toArray)) (eH rfl rfl rfl) (aW Tryz.zeroValue110 Tryz.underlying110 (iO _ Tryz.underlying110) (by kernel_rfl))) ?_)⟩
          cases t
          replace hST := hST.row1
          replace hST := hST.perm (Nb (Pr (Pb Pz)) Nz)
          replace hST := hST.row1
          refine cV (by kernel_rfl) (y _ _ ⟨ek, (.slice (some ⟨q0, 0, none⟩) 1 1), [(q0, Obj.cells ((C1 G x.length H).toArray : Array Value) 138 (0, 0))], (.slice (some ⟨h7, 0, none⟩) 1 1), [(h7, Obj.cells ((C2 a).toArray : Array Value) 263 (0, 0))], (.slice none 0 0), (.slice none 0 0), gb, _, (f7.trans l8), (hST.sel (Sb (Pr (Pr Pz)) (Sb (Pr (Pr Pz)) (Sb (Pr (Pr Pz)) (Sb (Pr (Pr Pz)) (Sr (Qr Qz) St)))))), rfl, rfl, rfl, rfl, rfl, (bG.lit bR (l := [(⟨(⟨cI, x⟩ : Signed), pN⟩ : bK)]) (.cons (ys := C1 G x.length H) (bF.mk ⟨(.slice G x.length H), (.slice none 0 0), rfl, cx, (Sl.nil _ _ _)⟩) .nil) rfl nb rfl), (bG.lit dR (l := [pL]) (.cons (ys := C2 a) (cD.mk ⟨(.slice none 0 0), (.slice (some ⟨a, 0, none⟩) 1 1), rfl, (Sl.nil _ _ _), (x4.mono (Pl.mono _) l8)⟩) .nil) rfl nb rfl), (Sl.nil _ _ _), (Fr.nil _), (Sl.nil _ _ _), (Fr.nil _)⟩)
      · refine bL hST Tryz.zeroValue110 (fun mq y9 hST => ?_)
        have hS0 := hST.has.sel (Db (Dr (Db (Kb (Kb (Kb Sn))))))
        refine ⟨hS0, (kX 5 12 rfl rfl (by kernel_rfl) (.inl rfl) (.inl rfl) rfl rfl (by decide) (by decide) ?_ ?_)⟩
        · replace hST := hST.perm (Nr (Qb Qz) Nz)
          have ij := d2.frM hST (fun p hq => (Ml hq))
          obtain ⟨qm, hST, l9, hl2533, cy⟩ := ST.pub1 hST d2 (fun _ => rfl)
          refine aR (qs := #[(0, (.agg (C1 G x.length H).toArray))]) (cs := (C1 G x.length H).toArray) hST (bM rfl) (bB [(.agg (C1 G x.length H).toArray)] Tryz.underlying107 Tryz.sizeOf138 Tryz.zeroValue138 (by decide) rfl (by intro v hv; simp only [List.mem_cons, List.not_mem_nil, or_false] at hv; rcases hv with rfl <;> rfl) rfl rfl) (fun mr q1 hST => ?_)
          have hS0 := hST.has.selS l9 (Db (Db (Db (Kb (Kb (Kb Sn))))))
          refine ⟨hS0, ?_⟩
          replace hST := hST.perm (Nb (Pb (Pb Pz)) Nz)
          have ik : Fr w.heap.size (.slice (some ⟨a, 0, none⟩) 1 1) := Fr.box hST Mh
          obtain ⟨gd, hST, m0, hl2540, cz⟩ := ST.pub1 (R := [(a, Obj.cells ((aI cI).toArray : Array Value) 53 (0, 0))]) hST (bI.lit (l := [cI]) (enc := aI) (b := a) (m := 1) rfl (by decide) rfl rfl) bQ
          refine XE 12 rfl (aR (qs := #[(0, (.agg (C2 a).toArray))]) (cs := (C2 a).toArray) hST (bM rfl) (bB [(.agg (C2 a).toArray)] Tryz.underlying108 Tryz.sizeOf263 Tryz.zeroValue263 (by decide) rfl (by intro v hv; simp only [List.mem_cons, List.not_mem_nil, or_false] at hv; rcases hv with rfl <;> rfl) rfl rfl) (fun ms q2 hST => ?_))
          have hS0 := hST.has.selS (l9.trans m0) (Db (Db (Db (Kb (Kb (Kb Sn))))))
          refine ⟨hS0, (X 13 rfl hS0 (bJ (qs := #[(0, (.string K3)), (1, (.slice (some ⟨q1, 0, none⟩) 1 1)), (2, (.slice (some ⟨q2, 0, none⟩) 1 1))]) (v := (.agg (C8 q1 q2).toArray)) (eH rfl rfl rfl) (aW Tryz.zeroValue110 Tryz.underlying110 (iO _ Tryz.underlying110) (by kernel_rfl))) ?_)⟩
          cases t
          replace hST := hST.perm (Nb (Pb Pz) Nz)
          replace hST := hST.row1
          replace hST := hST.perm (Nb (Pr Pz) Nz)
          replace hST := hST.row1
          refine cV (by kernel_rfl) (y _ _ ⟨y9, (.slice (some ⟨q1, 0, none⟩) 1 1), [(q1, Obj.cells ((C1 G x.length H).toArray : Array Value) 138 (0, 0))], (.slice (some ⟨q2, 0, none⟩) 1 1), [(q2, Obj.cells ((C2 a).toArray : Array Value) 263 (0, 0))], (.slice none 0 0), (.slice none 0 0), gd, _, (l9.trans m0), (hST.sel (Sb (Pr (Pr Pz)) (Sb (Pr (Pr Pz)) (Sb (Pr (Pr Pz)) (Sb (Pr (Pr Pz)) (Sr (Qr Qz) St)))))), rfl, rfl, rfl, rfl, rfl, (bG.lit bR (l := [(⟨(⟨cI, x⟩ : Signed), pN⟩ : bK)]) (.cons (ys := C1 G x.length H) (bF.mk ⟨(.slice G x.length H), (.slice none 0 0), rfl, (cy.mono (Pl.mono _) m0), (Sl.nil _ _ _)⟩) .nil) rfl nb rfl), (bG.lit dR (l := [pL]) (.cons (ys := C2 a) (cD.mk ⟨(.slice none 0 0), (.slice (some ⟨a, 0, none⟩) 1 1), rfl, (Sl.nil _ _ _), cz⟩) .nil) rfl nb rfl), (Sl.nil _ _ _), (Fr.nil _), (Sl.nil _ _ _), (Fr.nil _)⟩)
        · replace hST := hST.perm (Nb (Pb (Pr Pz)) Nz)
          have il : Fr w.heap.size (.slice (some ⟨a, 0, none⟩) 1 1) := Fr.box hST Mh
          obtain ⟨qn, hST, m1, hl2547, da⟩ := ST.pub1 (R := [(a, Obj.cells ((aI cI).toArray : Array Value) 53 (0, 0))]) hST (bI.lit (l := [cI]) (enc := aI) (b := a) (m := 1) rfl (by decide) rfl rfl) bQ
          refine aR (qs := #[(0, (.agg (C2 a).toArray))]) (cs := (C2 a).toArray) hST (bM rfl) (bB [(.agg (C2 a).toArray)] Tryz.underlying108 Tryz.sizeOf263 Tryz.zeroValue263 (by decide) rfl (by intro v hv; simp only [List.mem_cons, List.not_mem_nil, or_false] at hv; rcases hv with rfl <;> rfl) rfl rfl) (fun mt q3 hST => ?_)
          have hS0 := hST.has.selS m1 (Db (Db (Dr (Kb (Kb (Kb Sn))))))
          refine ⟨hS0, ?_⟩
          replace hST := hST.perm (Nr (Qb (Qb Qz)) Nz)
          have im := d2.frM hST (fun p hq => (Ml hq))
          obtain ⟨ge, hST, m2, hl2554, db⟩ := ST.pub1 hST d2 (fun _ => rfl)
          refine XE 5 rfl (aR (qs := #[(0, (.agg (C1 G x.length H).toArray))]) (cs := (C1 G x.length H).toArray) hST (bM rfl) (bB [(.agg (C1 G x.length H).toArray)] Tryz.underlying107 Tryz.sizeOf138 Tryz.zeroValue138 (by decide) rfl (by intro v hv; simp only [List.mem_cons, List.not_mem_nil, or_false] at hv; rcases hv with rfl <;> rfl) rfl rfl) (fun mu q4 hST => ?_))
          have hS0 := hST.has.selS (m1.trans m2) (Db (Db (Db (Kb (Kb (Kb Sn))))))
          refine ⟨hS0, (X 13 rfl hS0 (bJ (qs := #[(0, (.string K3)), (1, (.slice (some ⟨q4, 0, none⟩) 1 1)), (2, (.slice (some ⟨q3, 0, none⟩) 1 1))]) (v := (.agg (C8 q4 q3).toArray)) (eH rfl rfl rfl) (aW Tryz.zeroValue110 Tryz.underlying110 (iO _ Tryz.underlying110) (by kernel_rfl))) ?_)⟩
          cases t
          replace hST := hST.row1
          replace hST := hST.perm (Nb (Pr Pz) Nz)
          replace hST := hST.row1
          refine cV (by kernel_rfl) (y _ _ ⟨y9, (.slice (some ⟨q4, 0, none⟩) 1 1), [(q4, Obj.cells ((C1 G x.length H).toArray : Array Value) 138 (0, 0))], (.slice (some ⟨q3, 0, none⟩) 1 1), [(q3, Obj.cells ((C2 a).toArray : Array Value) 263 (0, 0))], (.slice none 0 0), (.slice none 0 0), ge, _, (m1.trans m2), (hST.sel (Sb (Pr (Pr Pz)) (Sb (Pr (Pr Pz)) (Sb (Pr (Pr Pz)) (Sb (Pr (Pr Pz)) (Sr (Qr Qz) St)))))), rfl, rfl, rfl, rfl, rfl, (bG.lit bR (l := [(⟨(⟨cI, x⟩ : Signed), pN⟩ : bK)]) (.cons (ys := C1 G x.length H) (bF.mk ⟨(.slice G x.length H), (.slice none 0 0), rfl, db, (Sl.nil _ _ _)⟩) .nil) rfl nb rfl), (bG.lit dR (l := [pL]) (.cons (ys := C2 a) (cD.mk ⟨(.slice none 0 0), (.slice (some ⟨a, 0, none⟩) 1 1), rfl, (Sl.nil _ _ _), (da.mono (Pl.mono _) m2)⟩) .nil) rfl nb rfl), (Sl.nil _ _ _), (Fr.nil _), (Sl.nil _ _ _), (Fr.nil _)⟩)
    · have io : Fr w.heap.size (.slice (some ⟨a, 0, none⟩) 1 1) := Fr.box hST Mh
      obtain ⟨qo, hST, c1, hl2561, t5⟩ := ST.pub1 (R := [(a, Obj.cells ((aI cI).toArray : Array Value) 53 (0, 0))]) hST (bI.lit (l := [cI]) (enc := aI) (b := a) (m := 1) rfl (by decide) rfl rfl) bQ
      refine aR (qs := #[(0, (.agg (C2 a).toArray))]) (cs := (C2 a).toArray) hST (bM rfl) (bB [(.agg (C2 a).toArray)] Tryz.underlying108 Tryz.sizeOf263 Tryz.zeroValue263 (by decide) rfl (by intro v hv; simp only [List.mem_cons, List.not_mem_nil, or_false] at hv; rcases hv with rfl <;> rfl) rfl rfl) (fun mv d8 hST => ?_)
      have hS0 := hST.has.selS c1 (Db (Kb (Kb (Kb Sn))))
      refine ⟨hS0, (kX 1 14 rfl rfl (by kernel_rfl) (.inl rfl) (.inl rfl) rfl rfl (by decide) (by decide) ?_ ?_)⟩
      · refine bS t fun b5 av t => lU (enc := (bV .u8)) (z := 0) hST (fun _ => rfl) (by decide) Tryz.underlying54 dZ.1 dZ.2.1 dZ.2.2.1 dZ.2.2.2 rfl rfl rfl av (fun mw pc ju hST i1 => ?_)
        have hS0 := hST.has.selS c1 (Dr (Db (Kb (Kb (Kb Sn)))))
        refine ⟨hS0, ?_⟩
        obtain ⟨c2, c5, rfl⟩ := i1.form
        refine X 2 rfl hS0 (bJ (qs := #[(0, (.agg (aI cI).toArray)), (1, (.slice c2 b5.length c5))]) (v := (.agg (C6 c2 b5.length c5).toArray)) (fR rfl rfl) (aW Tryz.zeroValue56 Tryz.underlying56 (yo _ Tryz.underlying56) (by kernel_rfl))) (X 4 rfl hS0 (bJ (qs := #[(0, (.agg (C6 c2 b5.length c5).toArray)), (1, (.agg wG.toArray))]) (v := (.agg (C1 c2 b5.length c5).toArray)) (fR rfl rfl) (aW Tryz.zeroValue138 Tryz.underlying138 (uP _ Tryz.underlying138) (by kernel_rfl))) (kX 5 14 rfl rfl (by kernel_rfl) (.inl rfl) (.inl rfl) rfl rfl (by decide) (by decide) ?_ ?_))
        · have ip := i1.frM hST (fun p hq => (Ml hq))
          obtain ⟨gf, hST, j5, hl2576, dc⟩ := ST.pub1 hST i1 (fun _ => rfl)
          refine aR (qs := #[(0, (.agg (C1 c2 b5.length c5).toArray))]) (cs := (C1 c2 b5.length c5).toArray) hST (bM rfl) (bB [(.agg (C1 c2 b5.length c5).toArray)] Tryz.underlying107 Tryz.sizeOf138 Tryz.zeroValue138 (by decide) rfl (by intro v hv; simp only [List.mem_cons, List.not_mem_nil, or_false] at hv; rcases hv with rfl <;> rfl) rfl rfl) (fun mx q5 hST => ?_)
          have hS0 := hST.has.selS (c1.trans j5) (Db (Db (Kb (Kb (Kb Sn)))))
          refine ⟨hS0, (X 13 rfl hS0 (bJ (qs := #[(0, (.string K3)), (1, (.slice (some ⟨q5, 0, none⟩) 1 1)), (2, (.slice (some ⟨d8, 0, none⟩) 1 1))]) (v := (.agg (C8 q5 d8).toArray)) (eH rfl rfl rfl) (aW Tryz.zeroValue110 Tryz.underlying110 (iO _ Tryz.underlying110) (by kernel_rfl))) (XE 14 rfl (bL hST Tryz.zeroValue110 (fun my el hST => ?_))))⟩
          have hS0 := hST.has.selS (c1.trans j5) (Db (Db (Db (Kb (Kb (Kb Sn))))))
          refine ⟨hS0, ?_⟩
          cases t
          replace hST := hST.perm (Nb (Pb Pz) Nz)
          replace hST := hST.row1
          replace hST := hST.perm (Nb (Pr (Pb Pz)) Nz)
          replace hST := hST.row1
          refine cV (by kernel_rfl) (y _ _ ⟨el, (.slice (some ⟨q5, 0, none⟩) 1 1), [(q5, Obj.cells ((C1 c2 b5.length c5).toArray : Array Value) 138 (0, 0))], (.slice (some ⟨d8, 0, none⟩) 1 1), [(d8, Obj.cells ((C2 a).toArray : Array Value) 263 (0, 0))], (.slice none 0 0), (.slice none 0 0), gf, _, (c1.trans j5), (hST.sel (Sb (Pr (Pr Pz)) (Sb (Pr (Pr Pz)) (Sb (Pr (Pr Pz)) (Sb (Pr (Pr Pz)) (Sr (Qr Qz) St)))))), rfl, rfl, rfl, rfl, rfl, (bG.lit bR (l := [(⟨(⟨cI, b5⟩ : Signed), pN⟩ : bK)]) (.cons (ys := C1 c2 b5.length c5) (bF.mk ⟨(.slice c2 b5.length c5), (.slice none 0 0), rfl, dc, (Sl.nil _ _ _)⟩) .nil) rfl nb rfl), (bG.lit dR (l := [pL]) (.cons (ys := C2 a) (cD.mk ⟨(.slice none 0 0), (.slice (some ⟨a, 0, none⟩) 1 1), rfl, (Sl.nil _ _ _), (t5.mono (Pl.mono _) j5)⟩) .nil) rfl nb rfl), (Sl.nil _ _ _), (Fr.nil _), (Sl.nil _ _ _), (Fr.nil _)⟩)
        · refine bL hST Tryz.zeroValue110 (fun mz em hST => ?_)
          have hS0 := hST.has.selS c1 (Db (Dr (Db (Kb (Kb (Kb Sn))))))
          refine ⟨hS0, ?_⟩
          replace hST := hST.perm (Nr (Qb Qz) Nz)
          have iq := i1.frM hST (fun p hq => (Ml hq))
          obtain ⟨gg, hST, m3, hl2587, de⟩ := ST.pub1 hST i1 (fun _ => rfl)
          refine XE 5 rfl (aR (qs := #[(0, (.agg (C1 c2 b5.length c5).toArray))]) (cs := (C1 c2 b5.length c5).toArray) hST (bM rfl) (bB [(.agg (C1 c2 b5.length c5).toArray)] Tryz.underlying107 Tryz.sizeOf138 Tryz.zeroValue138 (by decide) rfl (by intro v hv; simp only [List.mem_cons, List.not_mem_nil, or_false] at hv; rcases hv with rfl <;> rfl) rfl rfl) (fun na q6 hST => ?_))
          have hS0 := hST.has.selS (c1.trans m3) (Db (Db (Db (Kb (Kb (Kb Sn))))))
          refine ⟨hS0, (X 13 rfl hS0 (bJ (qs := #[(0, (.string K3)), (1, (.slice (some ⟨q6, 0, none⟩) 1 1)), (2, (.slice (some ⟨d8, 0, none⟩) 1 1))]) (v := (.agg (C8 q6 d8).toArray)) (eH rfl rfl rfl) (aW Tryz.zeroValue110 Tryz.underlying110 (iO _ Tryz.underlying110) (by kernel_rfl))) ?_)⟩
          cases t
          replace hST := hST.row1
          replace hST := hST.perm (Nb (Pr (Pb Pz)) Nz)
          replace hST := hST.row1
          refine cV (by kernel_rfl) (y _ _ ⟨em, (.slice (some ⟨q6, 0, none⟩) 1 1), [(q6, Obj.cells ((C1 c2 b5.length c5).toArray : Array Value) 138 (0, 0))], (.slice (some ⟨d8, 0, none⟩) 1 1), [(d8, Obj.cells ((C2 a).toArray : Array Value) 263 (0, 0))], (.slice none 0 0), (.slice none 0 0), gg, _, (c1.trans m3), (hST.sel (Sb (Pr (Pr Pz)) (Sb (Pr (Pr Pz)) (Sb (Pr (Pr Pz)) (Sb (Pr (Pr Pz)) (Sr (Qr Qz) St)))))), rfl, rfl, rfl, rfl, rfl, (bG.lit bR (l := [(⟨(⟨cI, b5⟩ : Signed), pN⟩ : bK)]) (.cons (ys := C1 c2 b5.length c5) (bF.mk ⟨(.slice c2 b5.length c5), (.slice none 0 0), rfl, de, (Sl.nil _ _ _)⟩) .nil) rfl nb rfl), (bG.lit dR (l := [pL]) (.cons (ys := C2 a) (cD.mk ⟨(.slice none 0 0), (.slice (some ⟨a, 0, none⟩) 1 1), rfl, (Sl.nil _ _ _), (t5.mono (Pl.mono _) m3)⟩) .nil) rfl nb rfl), (Sl.nil _ _ _), (Fr.nil _), (Sl.nil _ _ _), (Fr.nil _)⟩)
      · refine bL hST Tryz.zeroValue110 (fun nc en hST => ?_)
        have hS0 := hST.has.selS c1 (Db (Db (Kb (Kb (Kb Sn)))))
        refine ⟨hS0, (bS t fun f0 aw t => XE 1 rfl (lU (enc := (bV .u8)) (z := 0) hST (fun _ => rfl) (by decide) Tryz.underlying54 dZ.1 dZ.2.1 dZ.2.2.1 dZ.2.2.2 rfl rfl rfl aw (fun ne pd jv hST s8 => ?_)))⟩
        have hS0 := hST.has.selS c1 (Dr (Db (Db (Kb (Kb (Kb Sn))))))
        refine ⟨hS0, ?_⟩
        obtain ⟨f8, g2, rfl⟩ := s8.form
        refine X 2 rfl hS0 (bJ (qs := #[(0, (.agg (aI cI).toArray)), (1, (.slice f8 f0.length g2))]) (v := (.agg (C6 f8 f0.length g2).toArray)) (fR rfl rfl) (aW Tryz.zeroValue56 Tryz.underlying56 (yo _ Tryz.underlying56) (by kernel_rfl))) (X 4 rfl hS0 (bJ (qs := #[(0, (.agg (C6 f8 f0.length g2).toArray)), (1, (.agg wG.toArray))]) (v := (.agg (C1 f8 f0.length g2).toArray)) (fR rfl rfl) (aW Tryz.zeroValue138 Tryz.underlying138 (uP _ Tryz.underlying138) (by kernel_rfl))) ?_)
        have ir := s8.frM hST (fun p hq => (Ml hq))
        obtain ⟨gh, hST, m4, hl2604, df⟩ := ST.pub1 hST s8 (fun _ => rfl)
        refine XE 5 rfl (aR (qs := #[(0, (.agg (C1 f8 f0.length g2).toArray))]) (cs := (C1 f8 f0.length g2).toArray) hST (bM rfl) (bB [(.agg (C1 f8 f0.length g2).toArray)] Tryz.underlying107 Tryz.sizeOf138 Tryz.zeroValue138 (by decide) rfl (by intro v hv; simp only [List.mem_cons, List.not_mem_nil, or_false] at hv; rcases hv with rfl <;> rfl) rfl rfl) (fun nf q7 hST => ?_))
        have hS0 := hST.has.selS (c1.trans m4) (Db (Db (Db (Kb (Kb (Kb Sn))))))
        refine ⟨hS0, (X 13 rfl hS0 (bJ (qs := #[(0, (.string K3)), (1, (.slice (some ⟨q7, 0, none⟩) 1 1)), (2, (.slice (some ⟨d8, 0, none⟩) 1 1))]) (v := (.agg (C8 q7 d8).toArray)) (eH rfl rfl rfl) (aW Tryz.zeroValue110 Tryz.underlying110 (iO _ Tryz.underlying110) (by kernel_rfl))) ?_)⟩
        cases t
        replace hST := hST.row1
        replace hST := hST.perm (Nb (Pr (Pb Pz)) Nz)
        replace hST := hST.row1
        refine cV (by kernel_rfl) (y _ _ ⟨en, (.slice (some ⟨q7, 0, none⟩) 1 1), [(q7, Obj.cells ((C1 f8 f0.length g2).toArray : Array Value) 138 (0, 0))], (.slice (some ⟨d8, 0, none⟩) 1 1), [(d8, Obj.cells ((C2 a).toArray : Array Value) 263 (0, 0))], (.slice none 0 0), (.slice none 0 0), gh, _, (c1.trans m4), (hST.sel (Sb (Pr (Pr Pz)) (Sb (Pr (Pr Pz)) (Sb (Pr (Pr Pz)) (Sb (Pr (Pr Pz)) (Sr (Qr Qz) St)))))), rfl, rfl, rfl, rfl, rfl, (bG.lit bR (l := [(⟨(⟨cI, f0⟩ : Signed), pN⟩ : bK)]) (.cons (ys := C1 f8 f0.length g2) (bF.mk ⟨(.slice f8 f0.length g2), (.slice none 0 0), rfl, df, (Sl.nil _ _ _)⟩) .nil) rfl nb rfl), (bG.lit dR (l := [pL]) (.cons (ys := C2 a) (cD.mk ⟨(.slice none 0 0), (.slice (some ⟨a, 0, none⟩) 1 1), rfl, (Sl.nil _ _ _), (t5.mono (Pl.mono _) m4)⟩) .nil) rfl nb rfl), (Sl.nil _ _ _), (Fr.nil _), (Sl.nil _ _ _), (Fr.nil _)⟩)
    · refine bL hST Tryz.zeroValue110 (fun ng v6 hST => ?_)
      have hS0 := hST.has.sel (Db (Db (Kb (Kb (Kb Sn)))))
      refine ⟨hS0, (kX 1 12 rfl rfl (by kernel_rfl) (.inl rfl) (.inl rfl) rfl rfl (by decide) (by decide) ?_ ?_)⟩
      · refine bS t fun b6 ay t => lU (enc := (bV .u8)) (z := 0) hST (fun _ => rfl) (by decide) Tryz.underlying54 dZ.1 dZ.2.1 dZ.2.2.1 dZ.2.2.2 rfl rfl rfl ay (fun nh pe jw hST i2 => ?_)
        have hS0 := hST.has.sel (Dr (Db (Db (Kb (Kb (Kb Sn))))))
        refine ⟨hS0, ?_⟩
        obtain ⟨c3, c6, rfl⟩ := i2.form
        refine X 2 rfl hS0 (bJ (qs := #[(0, (.agg (aI cI).toArray)), (1, (.slice c3 b6.length c6))]) (v := (.agg (C6 c3 b6.length c6).toArray)) (fR rfl rfl) (aW Tryz.zeroValue56 Tryz.underlying56 (yo _ Tryz.underlying56) (by kernel_rfl))) (X 4 rfl hS0 (bJ (qs := #[(0, (.agg (C6 c3 b6.length c6).toArray)), (1, (.agg wG.toArray))]) (v := (.agg (C1 c3 b6.length c6).toArray)) (fR rfl rfl) (aW Tryz.zeroValue138 Tryz.underlying138 (uP _ Tryz.underlying138) (by kernel_rfl))) (kX 5 12 rfl rfl (by kernel_rfl) (.inl rfl) (.inl rfl) rfl rfl (by decide) (by decide) ?_ ?_))
        · have it := i2.frM hST (fun p hq => (Ml hq))
          obtain ⟨qp, hST, m5, hl2621, dg⟩ := ST.pub1 hST i2 (fun _ => rfl)
          refine aR (qs := #[(0, (.agg (C1 c3 b6.length c6).toArray))]) (cs := (C1 c3 b6.length c6).toArray) hST (bM rfl) (bB [(.agg (C1 c3 b6.length c6).toArray)] Tryz.underlying107 Tryz.sizeOf138 Tryz.zeroValue138 (by decide) rfl (by intro v hv; simp only [List.mem_cons, List.not_mem_nil, or_false] at hv; rcases hv with rfl <;> rfl) rfl rfl) (fun ni q8 hST => ?_)
          have hS0 := hST.has.selS m5 (Db (Db (Db (Kb (Kb (Kb Sn))))))
          refine ⟨hS0, ?_⟩
          replace hST := hST.perm (Nb (Pb (Pb Pz)) Nz)
          have iu : Fr w.heap.size (.slice (some ⟨a, 0, none⟩) 1 1) := Fr.box hST Mh
          obtain ⟨gi, hST, m6, hl2628, dh⟩ := ST.pub1 (R := [(a, Obj.cells ((aI cI).toArray : Array Value) 53 (0, 0))]) hST (bI.lit (l := [cI]) (enc := aI) (b := a) (m := 1) rfl (by decide) rfl rfl) bQ
          refine XE 12 rfl (aR (qs := #[(0, (.agg (C2 a).toArray))]) (cs := (C2 a).toArray) hST (bM rfl) (bB [(.agg (C2 a).toArray)] Tryz.underlying108 Tryz.sizeOf263 Tryz.zeroValue263 (by decide) rfl (by intro v hv; simp only [List.mem_cons, List.not_mem_nil, or_false] at hv; rcases hv with rfl <;> rfl) rfl rfl) (fun nj q9 hST => ?_))
          have hS0 := hST.has.selS (m5.trans m6) (Db (Db (Db (Kb (Kb (Kb Sn))))))
          refine ⟨hS0, (X 13 rfl hS0 (bJ (qs := #[(0, (.string K3)), (1, (.slice (some ⟨q8, 0, none⟩) 1 1)), (2, (.slice (some ⟨q9, 0, none⟩) 1 1))]) (v := (.agg (C8 q8 q9).toArray)) (eH rfl rfl rfl) (aW Tryz.zeroValue110 Tryz.underlying110 (iO _ Tryz.underlying110) (by kernel_rfl))) ?_)⟩
          cases t
          replace hST := hST.perm (Nb (Pb Pz) Nz)
          replace hST := hST.row1
          replace hST := hST.perm (Nb (Pr Pz) Nz)
          replace hST := hST.row1
          refine cV (by kernel_rfl) (y _ _ ⟨v6, (.slice (some ⟨q8, 0, none⟩) 1 1), [(q8, Obj.cells ((C1 c3 b6.length c6).toArray : Array Value) 138 (0, 0))], (.slice (some ⟨q9, 0, none⟩) 1 1), [(q9, Obj.cells ((C2 a).toArray : Array Value) 263 (0, 0))], (.slice none 0 0), (.slice none 0 0), gi, _, (m5.trans m6), (hST.sel (Sb (Pr (Pr Pz)) (Sb (Pr (Pr Pz)) (Sb (Pr (Pr Pz)) (Sb (Pr (Pr Pz)) (Sr (Qr Qz) St)))))), rfl, rfl, rfl, rfl, rfl, (bG.lit bR (l := [(⟨(⟨cI, b6⟩ : Signed), pN⟩ : bK)]) (.cons (ys := C1 c3 b6.length c6) (bF.mk ⟨(.slice c3 b6.length c6), (.slice none 0 0), rfl, (dg.mono (Pl.mono _) m6), (Sl.nil _ _ _)⟩) .nil) rfl nb rfl), (bG.lit dR (l := [pL]) (.cons (ys := C2 a) (cD.mk ⟨(.slice none 0 0), (.slice (some ⟨a, 0, none⟩) 1 1), rfl, (Sl.nil _ _ _), dh⟩) .nil) rfl nb rfl), (Sl.nil _ _ _), (Fr.nil _), (Sl.nil _ _ _), (Fr.nil _)⟩)
        · replace hST := hST.perm (Nb (Pr (Pb Pz)) Nz)
          have iv : Fr w.heap.size (.slice (some ⟨a, 0, none⟩) 1 1) := Fr.box hST Mh
          obtain ⟨qq, hST, m7, hl2635, di⟩ := ST.pub1 (R := [(a, Obj.cells ((aI cI).toArray : Array Value) 53 (0, 0))]) hST (bI.lit (l := [cI]) (enc := aI) (b := a) (m := 1) rfl (by decide) rfl rfl) bQ
          refine aR (qs := #[(0, (.agg (C2 a).toArray))]) (cs := (C2 a).toArray) hST (bM rfl) (bB [(.agg (C2 a).toArray)] Tryz.underlying108 Tryz.sizeOf263 Tryz.zeroValue263 (by decide) rfl (by intro v hv; simp only [List.mem_cons, List.not_mem_nil, or_false] at hv; rcases hv with rfl <;> rfl) rfl rfl) (fun nk r0 hST => ?_)
          have hS0 := hST.has.selS m7 (Db (Dr (Db (Kb (Kb (Kb Sn))))))
          refine ⟨hS0, ?_⟩
          replace hST := hST.perm (Nr (Qb Qz) Nz)
          have iw := i2.frM hST (fun p hq => (Ml hq))
          obtain ⟨gj, hST, m8, hl2642, dj⟩ := ST.pub1 hST i2 (fun _ => rfl)
          refine XE 5 rfl (aR (qs := #[(0, (.agg (C1 c3 b6.length c6).toArray))]) (cs := (C1 c3 b6.length c6).toArray) hST (bM rfl) (bB [(.agg (C1 c3 b6.length c6).toArray)] Tryz.underlying107 Tryz.sizeOf138 Tryz.zeroValue138 (by decide) rfl (by intro v hv; simp only [List.mem_cons, List.not_mem_nil, or_false] at hv; rcases hv with rfl <;> rfl) rfl rfl) (fun nl r1 hST => ?_))
          have hS0 := hST.has.selS (m7.trans m8) (Db (Db (Db (Kb (Kb (Kb Sn))))))
          refine ⟨hS0, (X 13 rfl hS0 (bJ (qs := #[(0, (.string K3)), (1, (.slice (some ⟨r1, 0, none⟩) 1 1)), (2, (.slice (some ⟨r0, 0, none⟩) 1 1))]) (v := (.agg (C8 r1 r0).toArray)) (eH rfl rfl rfl) (aW Tryz.zeroValue110 Tryz.underlying110 (iO _ Tryz.underlying110) (by kernel_rfl))) ?_)⟩
          cases t
          replace hST := hST.row1
          replace hST := hST.perm (Nb (Pr Pz) Nz)
          replace hST := hST.row1
          refine cV (by kernel_rfl) (y _ _ ⟨v6, (.slice (some ⟨r1, 0, none⟩) 1 1), [(r1, Obj.cells ((C1 c3 b6.length c6).toArray : Array Value) 138 (0, 0))], (.slice (some ⟨r0, 0, none⟩) 1 1), [(r0, Obj.cells ((C2 a).toArray : Array Value) 263 (0, 0))], (.slice none 0 0), (.slice none 0 0), gj, _, (m7.trans m8), (hST.sel (Sb (Pr (Pr Pz)) (Sb (Pr (Pr Pz)) (Sb (Pr (Pr Pz)) (Sb (Pr (Pr Pz)) (Sr (Qr Qz) St)))))), rfl, rfl, rfl, rfl, rfl, (bG.lit bR (l := [(⟨(⟨cI, b6⟩ : Signed), pN⟩ : bK)]) (.cons (ys := C1 c3 b6.length c6) (bF.mk ⟨(.slice c3 b6.length c6), (.slice none 0 0), rfl, dj, (Sl.nil _ _ _)⟩) .nil) rfl nb rfl), (bG.lit dR (l := [pL]) (.cons (ys := C2 a) (cD.mk ⟨(.slice none 0 0), (.slice (some ⟨a, 0, none⟩) 1 1), rfl, (Sl.nil _ _ _), (di.mono (Pl.mono _) m8)⟩) .nil) rfl nb rfl), (Sl.nil _ _ _), (Fr.nil _), (Sl.nil _ _ _), (Fr.nil _)⟩)
      · replace hST := hST.perm (Nb (Pb Pz) Nz)
        have ix : Fr w.heap.size (.slice (some ⟨a, 0, none⟩) 1 1) := Fr.box hST Mh
        obtain ⟨qr, hST, j6, hl2649, dk⟩ := ST.pub1 (R := [(a, Obj.cells ((aI cI).toArray : Array Value) 53 (0, 0))]) hST (bI.lit (l := [cI]) (enc := aI) (b := a) (m := 1) rfl (by decide) rfl rfl) bQ
        refine aR (qs := #[(0, (.agg (C2 a).toArray))]) (cs := (C2 a).toArray) hST (bM rfl) (bB [(.agg (C2 a).toArray)] Tryz.underlying108 Tryz.sizeOf263 Tryz.zeroValue263 (by decide) rfl (by intro v hv; simp only [List.mem_cons, List.not_mem_nil, or_false] at hv; rcases hv with rfl <;> rfl) rfl rfl) (fun nm r2 hST => ?_)
        have hS0 := hST.has.selS j6 (Db (Db (Kb (Kb (Kb Sn)))))
        refine ⟨hS0, (bS t fun f1 az t => XE 1 rfl (lU (enc := (bV .u8)) (z := 0) hST (fun _ => rfl) (by decide) Tryz.underlying54 dZ.1 dZ.2.1 dZ.2.2.1 dZ.2.2.2 rfl rfl rfl az (fun nn pf jx hST s9 => ?_)))⟩
        have hS0 := hST.has.selS j6 (Dr (Db (Db (Kb (Kb (Kb Sn))))))
        refine ⟨hS0, ?_⟩
        obtain ⟨f9, g3, rfl⟩ := s9.form
        refine X 2 rfl hS0 (bJ (qs := #[(0, (.agg (aI cI).toArray)), (1, (.slice f9 f1.length g3))]) (v := (.agg (C6 f9 f1.length g3).toArray)) (fR rfl rfl) (aW Tryz.zeroValue56 Tryz.underlying56 (yo _ Tryz.underlying56) (by kernel_rfl))) (X 4 rfl hS0 (bJ (qs := #[(0, (.agg (C6 f9 f1.length g3).toArray)), (1, (.agg wG.toArray))]) (v := (.agg (C1 f9 f1.length g3).toArray)) (fR rfl rfl) (aW Tryz.zeroValue138 Tryz.underlying138 (uP _ Tryz.underlying138) (by kernel_rfl))) ?_)
        have iy := s9.frM hST (fun p hq => (Ml hq))
        obtain ⟨gl, hST, m9, hl2664, dl⟩ := ST.pub1 hST s9 (fun _ => rfl)
        refine XE 5 rfl (aR (qs := #[(0, (.agg (C1 f9 f1.length g3).toArray))]) (cs := (C1 f9 f1.length g3).toArray) hST (bM rfl) (bB [(.agg (C1 f9 f1.length g3).toArray)] Tryz.underlying107 Tryz.sizeOf138 Tryz.zeroValue138 (by decide) rfl (by intro v hv; simp only [List.mem_cons, List.not_mem_nil, or_false] at hv; rcases hv with rfl <;> rfl) rfl rfl) (fun no r3 hST => ?_))
        have hS0 := hST.has.selS (j6.trans m9) (Db (Db (Db (Kb (Kb (Kb Sn))))))
        refine ⟨hS0, (X 13 rfl hS0 (bJ (qs := #[(0, (.string K3)), (1, (.slice (some ⟨r3, 0, none⟩) 1 1)), (2, (.slice (some ⟨r2, 0, none⟩) 1 1))]) (v := (.agg (C8 r3 r2).toArray)) (eH rfl rfl rfl) (aW Tryz.zeroValue110 Tryz.underlying110 (iO _ Tryz.underlying110) (by kernel_rfl))) ?_)⟩
        cases t
        replace hST := hST.row1
        replace hST := hST.perm (Nb (Pr Pz) Nz)
        replace hST := hST.row1
        refine cV (by kernel_rfl) (y _ _ ⟨v6, (.slice (some ⟨r3, 0, none⟩) 1 1), [(r3, Obj.cells ((C1 f9 f1.length g3).toArray : Array Value) 138 (0, 0))], (.slice (some ⟨r2, 0, none⟩) 1 1), [(r2, Obj.cells ((C2 a).toArray : Array Value) 263 (0, 0))], (.slice none 0 0), (.slice none 0 0), gl, _, (j6.trans m9), (hST.sel (Sb (Pr (Pr Pz)) (Sb (Pr (Pr Pz)) (Sb (Pr (Pr Pz)) (Sb (Pr (Pr Pz)) (Sr (Qr Qz) St)))))), rfl, rfl, rfl, rfl, rfl, (bG.lit bR (l := [(⟨(⟨cI, f1⟩ : Signed), pN⟩ : bK)]) (.cons (ys := C1 f9 f1.length g3) (bF.mk ⟨(.slice f9 f1.length g3), (.slice none 0 0), rfl, dl, (Sl.nil _ _ _)⟩) .nil) rfl nb rfl), (bG.lit dR (l := [pL]) (.cons (ys := C2 a) (cD.mk ⟨(.slice none 0 0), (.slice (some ⟨a, 0, none⟩) 1 1), rfl, (Sl.nil _ _ _), (dk.mono (Pl.mono _) m9)⟩) .nil) rfl nb rfl), (Sl.nil _ _ _), (Fr.nil _), (Sl.nil _ _ _), (Fr.nil _)⟩)
  · refine bL hST Tryz.zeroValue110 (fun np i6 hST => ?_)
    have hS0 := hST.has.sel (Db (Kb (Kb (Kb Sn))))
    refine ⟨hS0, (kX 1 10 rfl rfl (by kernel_rfl) (.inl rfl) (.inl rfl) rfl rfl (by decide) (by decide) ?_ ?_)⟩
    · refine bS t fun Y ba t => lU (enc := (bV .u8)) (z := 0) hST (fun _ => rfl) (by decide) Tryz.underlying54 dZ.1 dZ.2.1 dZ.2.2.1 dZ.2.2.2 rfl rfl rfl ba (fun nq pg jy hST g5 => ?_)
      have hS0 := hST.has.sel (Dr (Db (Kb (Kb (Kb Sn)))))
      refine ⟨hS0, ?_⟩
      obtain ⟨a3, a5, rfl⟩ := g5.form
      refine X 2 rfl hS0 (bJ (qs := #[(0, (.agg (aI cI).toArray)), (1, (.slice a3 Y.length a5))]) (v := (.agg (C6 a3 Y.length a5).toArray)) (fR rfl rfl) (aW Tryz.zeroValue56 Tryz.underlying56 (yo _ Tryz.underlying56) (by kernel_rfl))) (X 4 rfl hS0 (bJ (qs := #[(0, (.agg (C6 a3 Y.length a5).toArray)), (1, (.agg wG.toArray))]) (v := (.agg (C1 a3 Y.length a5).toArray)) (fR rfl rfl) (aW Tryz.zeroValue138 Tryz.underlying138 (uP _ Tryz.underlying138) (by kernel_rfl))) (kX 5 10 rfl rfl (by kernel_rfl) (.inl rfl) (.inl rfl) rfl rfl (by decide) (by decide) ?_ ?_))
      · have iz := g5.frM hST (fun p hq => (Ml hq))
        obtain ⟨qt, hST, j7, hl2681, dm⟩ := ST.pub1 hST g5 (fun _ => rfl)
        refine aR (qs := #[(0, (.agg (C1 a3 Y.length a5).toArray))]) (cs := (C1 a3 Y.length a5).toArray) hST (bM rfl) (bB [(.agg (C1 a3 Y.length a5).toArray)] Tryz.underlying107 Tryz.sizeOf138 Tryz.zeroValue138 (by decide) rfl (by intro v hv; simp only [List.mem_cons, List.not_mem_nil, or_false] at hv; rcases hv with rfl <;> rfl) rfl rfl) (fun nr r4 hST => ?_)
        have hS0 := hST.has.selS j7 (Db (Db (Kb (Kb (Kb Sn)))))
        refine ⟨hS0, (XE 10 rfl (aR (qs := #[(0, (.agg (aI cI).toArray))]) (cs := (aI cI).toArray) hST (bM rfl) (bB [(.agg (aI cI).toArray)] Tryz.underlying22 Tryz.sizeOf53 Tryz.zeroValue53 (by decide) rfl (by intro v hv; simp only [List.mem_cons, List.not_mem_nil, or_false] at hv; rcases hv with rfl <;> rfl) rfl rfl) (fun ns e2 hST => ?_)))⟩
        have hS0 := hST.has.selS j7 (Db (Db (Db (Kb (Kb (Kb Sn))))))
        refine ⟨hS0, (X 11 rfl hS0 (bJ (qs := #[(0, (.agg (aO rQ).toArray)), (1, (.agg wR.toArray)), (2, (.slice (some ⟨e2, 0, none⟩) 1 1))]) (v := (.agg (C2 e2).toArray)) (eH rfl rfl rfl) (aW Tryz.zeroValue263 Tryz.underlying263 (vD _ Tryz.underlying263) (by kernel_rfl))) ?_)⟩
        have ja : Fr w.heap.size (.slice (some ⟨e2, 0, none⟩) 1 1) := Fr.box hST Mh
        obtain ⟨gn, hST, n0, hl2690, dn⟩ := ST.pub1 (R := [(e2, Obj.cells ((aI cI).toArray : Array Value) 53 (0, 0))]) hST (bI.lit (l := [cI]) (enc := aI) (b := e2) (m := 1) rfl (by decide) rfl rfl) bQ
        refine XE 12 rfl (aR (qs := #[(0, (.agg (C2 e2).toArray))]) (cs := (C2 e2).toArray) hST (bM rfl) (bB [(.agg (C2 e2).toArray)] Tryz.underlying108 Tryz.sizeOf263 Tryz.zeroValue263 (by decide) rfl (by intro v hv; simp only [List.mem_cons, List.not_mem_nil, or_false] at hv; rcases hv with rfl <;> rfl) rfl rfl) (fun nt r5 hST => ?_))
        have hS0 := hST.has.selS (j7.trans n0) (Db (Db (Db (Kb (Kb (Kb Sn))))))
        refine ⟨hS0, (X 13 rfl hS0 (bJ (qs := #[(0, (.string K3)), (1, (.slice (some ⟨r4, 0, none⟩) 1 1)), (2, (.slice (some ⟨r5, 0, none⟩) 1 1))]) (v := (.agg (C8 r4 r5).toArray)) (eH rfl rfl rfl) (aW Tryz.zeroValue110 Tryz.underlying110 (iO _ Tryz.underlying110) (by kernel_rfl))) ?_)⟩
        cases t
        replace hST := hST.perm (Nb (Pb Pz) Nz)
        replace hST := hST.row1
        replace hST := hST.perm (Nb (Pr Pz) Nz)
        replace hST := hST.row1
        refine cV (by kernel_rfl) (y _ _ ⟨i6, (.slice (some ⟨r4, 0, none⟩) 1 1), [(r4, Obj.cells ((C1 a3 Y.length a5).toArray : Array Value) 138 (0, 0))], (.slice (some ⟨r5, 0, none⟩) 1 1), [(r5, Obj.cells ((C2 e2).toArray : Array Value) 263 (0, 0))], (.slice none 0 0), (.slice none 0 0), gn, _, (j7.trans n0), (hST.sel (Sb (Pr (Pr Pz)) (Sb (Pr (Pr Pz)) (Sb (Pr (Pr Pz)) (Sb (Pr (Pr Pz)) (Sr (Qr Qz) St)))))), rfl, rfl, rfl, rfl, rfl, (bG.lit bR (l := [(⟨(⟨cI, Y⟩ : Signed), pN⟩ : bK)]) (.cons (ys := C1 a3 Y.length a5) (bF.mk ⟨(.slice a3 Y.length a5), (.slice none 0 0), rfl, (dm.mono (Pl.mono _) n0), (Sl.nil _ _ _)⟩) .nil) rfl nb rfl), (bG.lit dR (l := [pL]) (.cons (ys := C2 e2) (cD.mk ⟨(.slice none 0 0), (.slice (some ⟨e2, 0, none⟩) 1 1), rfl, (Sl.nil _ _ _), dn⟩) .nil) rfl nb rfl), (Sl.nil _ _ _), (Fr.nil _), (Sl.nil _ _ _), (Fr.nil _)⟩)
      · refine aR (qs := #[(0, (.agg (aI cI).toArray))]) (cs := (aI cI).toArray) hST (bM rfl) (bB [(.agg (aI cI).toArray)] Tryz.underlying22 Tryz.sizeOf53 Tryz.zeroValue53 (by decide) rfl (by intro v hv; simp only [List.mem_cons, List.not_mem_nil, or_false] at hv; rcases hv with rfl <;> rfl) rfl rfl) (fun nu a8 hST => ?_)
        have hS0 := hST.has.sel (Db (Dr (Db (Kb (Kb (Kb Sn))))))
        refine ⟨hS0, (X 11 rfl hS0 (bJ (qs := #[(0, (.agg (aO rQ).toArray)), (1, (.agg wR.toArray)), (2, (.slice (some ⟨a8, 0, none⟩) 1 1))]) (v := (.agg (C2 a8).toArray)) (eH rfl rfl rfl) (aW Tryz.zeroValue263 Tryz.underlying263 (vD _ Tryz.underlying263) (by kernel_rfl))) (kX 5 12 rfl rfl (by kernel_rfl) (.inl rfl) (.inl rfl) rfl rfl (by decide) (by decide) ?_ ?_))⟩
        · replace hST := hST.perm (Nr (Qb Qz) Nz)
          have jb := g5.frM hST (fun p hq => (Ml hq))
          obtain ⟨qu, hST, n1, hl2699, dp⟩ := ST.pub1 hST g5 (fun _ => rfl)
          refine aR (qs := #[(0, (.agg (C1 a3 Y.length a5).toArray))]) (cs := (C1 a3 Y.length a5).toArray) hST (bM rfl) (bB [(.agg (C1 a3 Y.length a5).toArray)] Tryz.underlying107 Tryz.sizeOf138 Tryz.zeroValue138 (by decide) rfl (by intro v hv; simp only [List.mem_cons, List.not_mem_nil, or_false] at hv; rcases hv with rfl <;> rfl) rfl rfl) (fun nv r6 hST => ?_)
          have hS0 := hST.has.selS n1 (Db (Db (Db (Kb (Kb (Kb Sn))))))
          refine ⟨hS0, ?_⟩
          replace hST := hST.perm (Nb (Pb Pz) Nz)
          have jc : Fr w.heap.size (.slice (some ⟨a8, 0, none⟩) 1 1) := Fr.box hST Mh
          obtain ⟨go, hST, n2, hl2706, dq⟩ := ST.pub1 (R := [(a8, Obj.cells ((aI cI).toArray : Array Value) 53 (0, 0))]) hST (bI.lit (l := [cI]) (enc := aI) (b := a8) (m := 1) rfl (by decide) rfl rfl) bQ
          refine XE 12 rfl (aR (qs := #[(0, (.agg (C2 a8).toArray))]) (cs := (C2 a8).toArray) hST (bM rfl) (bB [(.agg (C2 a8).toArray)] Tryz.underlying108 Tryz.sizeOf263 Tryz.zeroValue263 (by decide) rfl (by intro v hv; simp only [List.mem_cons, List.not_mem_nil, or_false] at hv; rcases hv with rfl <;> rfl) rfl rfl) (fun nw r7 hST => ?_))
          have hS0 := hST.has.selS (n1.trans n2) (Db (Db (Db (Kb (Kb (Kb Sn))))))
          refine ⟨hS0, (X 13 rfl hS0 (bJ (qs := #[(0, (.string K3)), (1, (.slice (some ⟨r6, 0, none⟩) 1 1)), (2, (.slice (some ⟨r7, 0, none⟩) 1 1))]) (v := (.agg (C8 r6 r7).toArray)) (eH rfl rfl rfl) (aW Tryz.zeroValue110 Tryz.underlying110 (iO _ Tryz.underlying110) (by kernel_rfl))) ?_)⟩
          cases t
          replace hST := hST.perm (Nb (Pb Pz) Nz)
          replace hST := hST.row1
          replace hST := hST.perm (Nb (Pr Pz) Nz)
          replace hST := hST.row1
          refine cV (by kernel_rfl) (y _ _ ⟨i6, (.slice (some ⟨r6, 0, none⟩) 1 1), [(r6, Obj.cells ((C1 a3 Y.length a5).toArray : Array Value) 138 (0, 0))], (.slice (some ⟨r7, 0, none⟩) 1 1), [(r7, Obj.cells ((C2 a8).toArray : Array Value) 263 (0, 0))], (.slice none 0 0), (.slice none 0 0), go, _, (n1.trans n2), (hST.sel (Sb (Pr (Pr Pz)) (Sb (Pr (Pr Pz)) (Sb (Pr (Pr Pz)) (Sb (Pr (Pr Pz)) (Sr (Qr Qz) St)))))), rfl, rfl, rfl, rfl, rfl, (bG.lit bR (l := [(⟨(⟨cI, Y⟩ : Signed), pN⟩ : bK)]) (.cons (ys := C1 a3 Y.length a5) (bF.mk ⟨(.slice a3 Y.length a5), (.slice none 0 0), rfl, (dp.mono (Pl.mono _) n2), (Sl.nil _ _ _)⟩) .nil) rfl nb rfl), (bG.lit dR (l := [pL]) (.cons (ys := C2 a8) (cD.mk ⟨(.slice none 0 0), (.slice (some ⟨a8, 0, none⟩) 1 1), rfl, (Sl.nil _ _ _), dq⟩) .nil) rfl nb rfl), (Sl.nil _ _ _), (Fr.nil _), (Sl.nil _ _ _), (Fr.nil _)⟩)
        · have jd : Fr w.heap.size (.slice (some ⟨a8, 0, none⟩) 1 1) := Fr.box hST Mh
          obtain ⟨qv, hST, n3, hl2713, dr⟩ := ST.pub1 (R := [(a8, Obj.cells ((aI cI).toArray : Array Value) 53 (0, 0))]) hST (bI.lit (l := [cI]) (enc := aI) (b := a8) (m := 1) rfl (by decide) rfl rfl) bQ
          refine aR (qs := #[(0, (.agg (C2 a8).toArray))]) (cs := (C2 a8).toArray) hST (bM rfl) (bB [(.agg (C2 a8).toArray)] Tryz.underlying108 Tryz.sizeOf263 Tryz.zeroValue263 (by decide) rfl (by intro v hv; simp only [List.mem_cons, List.not_mem_nil, or_false] at hv; rcases hv with rfl <;> rfl) rfl rfl) (fun nx r8 hST => ?_)
          have hS0 := hST.has.selS n3 (Db (Dr (Db (Kb (Kb (Kb Sn))))))
          refine ⟨hS0, ?_⟩
          replace hST := hST.perm (Nr (Qb Qz) Nz)
          have je := g5.frM hST (fun p hq => (Ml hq))
          obtain ⟨gq, hST, n4, hl2720, ds⟩ := ST.pub1 hST g5 (fun _ => rfl)
          refine XE 5 rfl (aR (qs := #[(0, (.agg (C1 a3 Y.length a5).toArray))]) (cs := (C1 a3 Y.length a5).toArray) hST (bM rfl) (bB [(.agg (C1 a3 Y.length a5).toArray)] Tryz.underlying107 Tryz.sizeOf138 Tryz.zeroValue138 (by decide) rfl (by intro v hv; simp only [List.mem_cons, List.not_mem_nil, or_false] at hv; rcases hv with rfl <;> rfl) rfl rfl) (fun ny r9 hST => ?_))
          have hS0 := hST.has.selS (n3.trans n4) (Db (Db (Db (Kb (Kb (Kb Sn))))))
          refine ⟨hS0, (X 13 rfl hS0 (bJ (qs := #[(0, (.string K3)), (1, (.slice (some ⟨r9, 0, none⟩) 1 1)), (2, (.slice (some ⟨r8, 0, none⟩) 1 1))]) (v := (.agg (C8 r9 r8).toArray)) (eH rfl rfl rfl) (aW Tryz.zeroValue110 Tryz.underlying110 (iO _ Tryz.underlying110) (by kernel_rfl))) ?_)⟩
          cases t
          replace hST := hST.row1
          replace hST := hST.perm (Nb (Pr Pz) Nz)
          replace hST := hST.row1
          refine cV (by kernel_rfl) (y _ _ ⟨i6, (.slice (some ⟨r9, 0, none⟩) 1 1), [(r9, Obj.cells ((C1 a3 Y.length a5).toArray : Array Value) 138 (0, 0))], (.slice (some ⟨r8, 0, none⟩) 1 1), [(r8, Obj.cells ((C2 a8).toArray : Array Value) 263 (0, 0))], (.slice none 0 0), (.slice none 0 0), gq, _, (n3.trans n4), (hST.sel (Sb (Pr (Pr Pz)) (Sb (Pr (Pr Pz)) (Sb (Pr (Pr Pz)) (Sb (Pr (Pr Pz)) (Sr (Qr Qz) St)))))), rfl, rfl, rfl, rfl, rfl, (bG.lit bR (l := [(⟨(⟨cI, Y⟩ : Signed), pN⟩ : bK)]) (.cons (ys := C1 a3 Y.length a5) (bF.mk ⟨(.slice a3 Y.length a5), (.slice none 0 0), rfl, ds, (Sl.nil _ _ _)⟩) .nil) rfl nb rfl), (bG.lit dR (l := [pL]) (.cons (ys := C2 a8) (cD.mk ⟨(.slice none 0 0), (.slice (some ⟨a8, 0, none⟩) 1 1), rfl, (Sl.nil _ _ _), (dr.mono (Pl.mono _) n4)⟩) .nil) rfl nb rfl), (Sl.nil _ _ _), (Fr.nil _), (Sl.nil _ _ _), (Fr.nil _)⟩)
    · refine aR (qs := #[(0, (.agg (aI cI).toArray))]) (cs := (aI cI).toArray) hST (bM rfl) (bB [(.agg (aI cI).toArray)] Tryz.underlying22 Tryz.sizeOf53 Tryz.zeroValue53 (by decide) rfl (by intro v hv; simp only [List.mem_cons, List.not_mem_nil, or_false] at hv; rcases hv with rfl <;> rfl) rfl rfl) (fun nz T hST => ?_)
      have hS0 := hST.has.sel (Db (Db (Kb (Kb (Kb Sn)))))
      refine ⟨hS0, (X 11 rfl hS0 (bJ (qs := #[(0, (.agg (aO rQ).toArray)), (1, (.agg wR.toArray)), (2, (.slice (some ⟨T, 0, none⟩) 1 1))]) (v := (.agg (C2 T).toArray)) (eH rfl rfl rfl) (aW Tryz.zeroValue263 Tryz.underlying263 (vD _ Tryz.underlying263) (by kernel_rfl))) (kX 1 12 rfl rfl (by kernel_rfl) (.inl rfl) (.inl rfl) rfl rfl (by decide) (by decide) ?_ ?_))⟩
      · refine bS t fun b9 bb t => lU (enc := (bV .u8)) (z := 0) hST (fun _ => rfl) (by decide) Tryz.underlying54 dZ.1 dZ.2.1 dZ.2.2.1 dZ.2.2.2 rfl rfl rfl bb (fun oa ph jz hST i3 => ?_)
        have hS0 := hST.has.sel (Dr (Db (Db (Kb (Kb (Kb Sn))))))
        refine ⟨hS0, ?_⟩
        obtain ⟨c4, c7, rfl⟩ := i3.form
        refine X 2 rfl hS0 (bJ (qs := #[(0, (.agg (aI cI).toArray)), (1, (.slice c4 b9.length c7))]) (v := (.agg (C6 c4 b9.length c7).toArray)) (fR rfl rfl) (aW Tryz.zeroValue56 Tryz.underlying56 (yo _ Tryz.underlying56) (by kernel_rfl))) (X 4 rfl hS0 (bJ (qs := #[(0, (.agg (C6 c4 b9.length c7).toArray)), (1, (.agg wG.toArray))]) (v := (.agg (C1 c4 b9.length c7).toArray)) (fR rfl rfl) (aW Tryz.zeroValue138 Tryz.underlying138 (uP _ Tryz.underlying138) (by kernel_rfl))) (kX 5 12 rfl rfl (by kernel_rfl) (.inl rfl) (.inl rfl) rfl rfl (by decide) (by decide) ?_ ?_))
        · have jf := i3.frM hST (fun p hq => (Ml hq))
          obtain ⟨qw, hST, n5, hl2737, dt⟩ := ST.pub1 hST i3 (fun _ => rfl)
          refine aR (qs := #[(0, (.agg (C1 c4 b9.length c7).toArray))]) (cs := (C1 c4 b9.length c7).toArray) hST (bM rfl) (bB [(.agg (C1 c4 b9.length c7).toArray)] Tryz.underlying107 Tryz.sizeOf138 Tryz.zeroValue138 (by decide) rfl (by intro v hv; simp only [List.mem_cons, List.not_mem_nil, or_false] at hv; rcases hv with rfl <;> rfl) rfl rfl) (fun ob s0 hST => ?_)
          have hS0 := hST.has.selS n5 (Db (Db (Db (Kb (Kb (Kb Sn))))))
          refine ⟨hS0, ?_⟩
          replace hST := hST.perm (Nb (Pb Pz) Nz)
          have jg : Fr w.heap.size (.slice (some ⟨T, 0, none⟩) 1 1) := Fr.box hST Mh
          obtain ⟨gr, hST, n6, hl2744, du⟩ := ST.pub1 (R := [(T, Obj.cells ((aI cI).toArray : Array Value) 53 (0, 0))]) hST (bI.lit (l := [cI]) (enc := aI) (b := T) (m := 1) rfl (by decide) rfl rfl) bQ
          refine XE 12 rfl (aR (qs := #[(0, (.agg (C2 T).toArray))]) (cs := (C2 T).toArray) hST (bM rfl) (bB [(.agg (C2 T).toArray)] Tryz.underlying108 Tryz.sizeOf263 Tryz.zeroValue263 (by decide) rfl (by intro v hv; simp only [List.mem_cons, List.not_mem_nil, or_false] at hv; rcases hv with rfl <;> rfl) rfl rfl) (fun oc s1 hST => ?_))
          have hS0 := hST.has.selS (n5.trans n6) (Db (Db (Db (Kb (Kb (Kb Sn))))))
          refine ⟨hS0, (X 13 rfl hS0 (bJ (qs := #[(0, (.string K3)), (1, (.slice (some ⟨s0, 0, none⟩) 1 1)), (2, (.slice (some ⟨s1, 0, none⟩) 1 1))]) (v := (.agg (C8 s0 s1).toArray)) (eH rfl rfl rfl) (aW Tryz.zeroValue110 Tryz.underlying110 (iO _ Tryz.underlying110) (by kernel_rfl))) ?_)⟩
          cases t
          replace hST := hST.perm (Nb (Pb Pz) Nz)
          replace hST := hST.row1
          replace hST := hST.perm (Nb (Pr Pz) Nz)
          replace hST := hST.row1
          refine cV (by kernel_rfl) (y _ _ ⟨i6, (.slice (some ⟨s0, 0, none⟩) 1 1), [(s0, Obj.cells ((C1 c4 b9.length c7).toArray : Array Value) 138 (0, 0))], (.slice (some ⟨s1, 0, none⟩) 1 1), [(s1, Obj.cells ((C2 T).toArray : Array Value) 263 (0, 0))], (.slice none 0 0), (.slice none 0 0), gr, _, (n5.trans n6), (hST.sel (Sb (Pr (Pr Pz)) (Sb (Pr (Pr Pz)) (Sb (Pr (Pr Pz)) (Sb (Pr (Pr Pz)) (Sr (Qr Qz) St)))))), rfl, rfl, rfl, rfl, rfl, (bG.lit bR (l := [(⟨(⟨cI, b9⟩ : Signed), pN⟩ : bK)]) (.cons (ys := C1 c4 b9.length c7) (bF.mk ⟨(.slice c4 b9.length c7), (.slice none 0 0), rfl, (dt.mono (Pl.mono _) n6), (Sl.nil _ _ _)⟩) .nil) rfl nb rfl), (bG.lit dR (l := [pL]) (.cons (ys := C2 T) (cD.mk ⟨(.slice none 0 0), (.slice (some ⟨T, 0, none⟩) 1 1), rfl, (Sl.nil _ _ _), du⟩) .nil) rfl nb rfl), (Sl.nil _ _ _), (Fr.nil _), (Sl.nil _ _ _), (Fr.nil _)⟩)
        · replace hST := hST.perm (Nb (Pr Pz) Nz)
          have jh : Fr w.heap.size (.slice (some ⟨T, 0, none⟩) 1 1) := Fr.box hST Mh
          obtain ⟨qx, hST, n7, hl2751, dv⟩ := ST.pub1 (R := [(T, Obj.cells ((aI cI).toArray : Array Value) 53 (0, 0))]) hST (bI.lit (l := [cI]) (enc := aI) (b := T) (m := 1) rfl (by decide) rfl rfl) bQ
          refine aR (qs := #[(0, (.agg (C2 T).toArray))]) (cs := (C2 T).toArray) hST (bM rfl) (bB [(.agg (C2 T).toArray)] Tryz.underlying108 Tryz.sizeOf263 Tryz.zeroValue263 (by decide) rfl (by intro v hv; simp only [List.mem_cons, List.not_mem_nil, or_false] at hv; rcases hv with rfl <;> rfl) rfl rfl) (fun od s2 hST => ?_)
          have hS0 := hST.has.selS n7 (Db (Dr (Db (Kb (Kb (Kb Sn))))))
          refine ⟨hS0, ?_⟩
          replace hST := hST.perm (Nr (Qb Qz) Nz)
          have ji := i3.frM hST (fun p hq => (Ml hq))
          obtain ⟨gs, hST, n8, hl2758, dw⟩ := ST.pub1 hST i3 (fun _ => rfl)
          refine XE 5 rfl (aR (qs := #[(0, (.agg (C1 c4 b9.length c7).toArray))]) (cs := (C1 c4 b9.length c7).toArray) hST (bM rfl) (bB [(.agg (C1 c4 b9.length c7).toArray)] Tryz.underlying107 Tryz.sizeOf138 Tryz.zeroValue138 (by decide) rfl (by intro v hv; simp only [List.mem_cons, List.not_mem_nil, or_false] at hv; rcases hv with rfl <;> rfl) rfl rfl) (fun oe s3 hST => ?_))
          have hS0 := hST.has.selS (n7.trans n8) (Db (Db (Db (Kb (Kb (Kb Sn))))))
          refine ⟨hS0, (X 13 rfl hS0 (bJ (qs := #[(0, (.string K3)), (1, (.slice (some ⟨s3, 0, none⟩) 1 1)), (2, (.slice (some ⟨s2, 0, none⟩) 1 1))]) (v := (.agg (C8 s3 s2).toArray)) (eH rfl rfl rfl) (aW Tryz.zeroValue110 Tryz.underlying110 (iO _ Tryz.underlying110) (by kernel_rfl))) ?_)⟩
          cases t
          replace hST := hST.row1
          replace hST := hST.perm (Nb (Pr Pz) Nz)
          replace hST := hST.row1
          refine cV (by kernel_rfl) (y _ _ ⟨i6, (.slice (some ⟨s3, 0, none⟩) 1 1), [(s3, Obj.cells ((C1 c4 b9.length c7).toArray : Array Value) 138 (0, 0))], (.slice (some ⟨s2, 0, none⟩) 1 1), [(s2, Obj.cells ((C2 T).toArray : Array Value) 263 (0, 0))], (.slice none 0 0), (.slice none 0 0), gs, _, (n7.trans n8), (hST.sel (Sb (Pr (Pr Pz)) (Sb (Pr (Pr Pz)) (Sb (Pr (Pr Pz)) (Sb (Pr (Pr Pz)) (Sr (Qr Qz) St)))))), rfl, rfl, rfl, rfl, rfl, (bG.lit bR (l := [(⟨(⟨cI, b9⟩ : Signed), pN⟩ : bK)]) (.cons (ys := C1 c4 b9.length c7) (bF.mk ⟨(.slice c4 b9.length c7), (.slice none 0 0), rfl, dw, (Sl.nil _ _ _)⟩) .nil) rfl nb rfl), (bG.lit dR (l := [pL]) (.cons (ys := C2 T) (cD.mk ⟨(.slice none 0 0), (.slice (some ⟨T, 0, none⟩) 1 1), rfl, (Sl.nil _ _ _), (dv.mono (Pl.mono _) n8)⟩) .nil) rfl nb rfl), (Sl.nil _ _ _), (Fr.nil _), (Sl.nil _ _ _), (Fr.nil _)⟩)
      · have jj : Fr w.heap.size (.slice (some ⟨T, 0, none⟩) 1 1) := Fr.box hST Mh
        obtain ⟨qy, hST, j8, hl2765, dx⟩ := ST.pub1 (R := [(T, Obj.cells ((aI cI).toArray : Array Value) 53 (0, 0))]) hST (bI.lit (l := [cI]) (enc := aI) (b := T) (m := 1) rfl (by decide) rfl rfl) bQ
        refine aR (qs := #[(0, (.agg (C2 T).toArray))]) (cs := (C2 T).toArray) hST (bM rfl) (bB [(.agg (C2 T).toArray)] Tryz.underlying108 Tryz.sizeOf263 Tryz.zeroValue263 (by decide) rfl (by intro v hv; simp only [List.mem_cons, List.not_mem_nil, or_false] at hv; rcases hv with rfl <;> rfl) rfl rfl) (fun og s4 hST => ?_)
        have hS0 := hST.has.selS j8 (Db (Db (Kb (Kb (Kb Sn)))))
        refine ⟨hS0, (bS t fun f2 bc t => XE 1 rfl (lU (enc := (bV .u8)) (z := 0) hST (fun _ => rfl) (by decide) Tryz.underlying54 dZ.1 dZ.2.1 dZ.2.2.1 dZ.2.2.2 rfl rfl rfl bc (fun oh pi ka hST t0 => ?_)))⟩
        have hS0 := hST.has.selS j8 (Dr (Db (Db (Kb (Kb (Kb Sn))))))
        refine ⟨hS0, ?_⟩
        obtain ⟨g0, g4, rfl⟩ := t0.form
        refine X 2 rfl hS0 (bJ (qs := #[(0, (.agg (aI cI).toArray)), (1, (.slice g0 f2.length g4))]) (v := (.agg (C6 g0 f2.length g4).toArray)) (fR rfl rfl) (aW Tryz.zeroValue56 Tryz.underlying56 (yo _ Tryz.underlying56) (by kernel_rfl))) (X 4 rfl hS0 (bJ (qs := #[(0, (.agg (C6 g0 f2.length g4).toArray)), (1, (.agg wG.toArray))]) (v := (.agg (C1 g0 f2.length g4).toArray)) (fR rfl rfl) (aW Tryz.zeroValue138 Tryz.underlying138 (uP _ Tryz.underlying138) (by kernel_rfl))) ?_)
        have jk := t0.frM hST (fun p hq => (Ml hq))
        obtain ⟨gt, hST, n9, hl2780, dy⟩ := ST.pub1 hST t0 (fun _ => rfl)
        refine XE 5 rfl (aR (qs := #[(0, (.agg (C1 g0 f2.length g4).toArray))]) (cs := (C1 g0 f2.length g4).toArray) hST (bM rfl) (bB [(.agg (C1 g0 f2.length g4).toArray)] Tryz.underlying107 Tryz.sizeOf138 Tryz.zeroValue138 (by decide) rfl (by intro v hv; simp only [List.mem_cons, List.not_mem_nil, or_false] at hv; rcases hv with rfl <;> rfl) rfl rfl) (fun oi s5 hST => ?_))
        have hS0 := hST.has.selS (j8.trans n9) (Db (Db (Db (Kb (Kb (Kb Sn))))))
        refine ⟨hS0, (X 13 rfl hS0 (bJ (qs := #[(0, (.string K3)), (1, (.slice (some ⟨s5, 0, none⟩) 1 1)), (2, (.slice (some ⟨s4, 0, none⟩) 1 1))]) (v := (.agg (C8 s5 s4).toArray)) (eH rfl rfl rfl) (aW Tryz.zeroValue110 Tryz.underlying110 (iO _ Tryz.underlying110) (by kernel_rfl))) ?_)⟩
        cases t
        replace hST := hST.row1
        replace hST := hST.perm (Nb (Pr Pz) Nz)
        replace hST := hST.row1
        refine cV (by kernel_rfl) (y _ _ ⟨i6, (.slice (some ⟨s5, 0, none⟩) 1 1), [(s5, Obj.cells ((C1 g0 f2.length g4).toArray : Array Value) 138 (0, 0))], (.slice (some ⟨s4, 0, none⟩) 1 1), [(s4, Obj.cells ((C2 T).toArray : Array Value) 263 (0, 0))], (.slice none 0 0), (.slice none 0 0), gt, _, (j8.trans n9), (hST.sel (Sb (Pr (Pr Pz)) (Sb (Pr (Pr Pz)) (Sb (Pr (Pr Pz)) (Sb (Pr (Pr Pz)) (Sr (Qr Qz) St)))))), rfl, rfl, rfl, rfl, rfl, (bG.lit bR (l := [(⟨(⟨cI, f2⟩ : Signed), pN⟩ : bK)]) (.cons (ys := C1 g0 f2.length g4) (bF.mk ⟨(.slice g0 f2.length g4), (.slice none 0 0), rfl, dy, (Sl.nil _ _ _)⟩) .nil) rfl nb rfl), (bG.lit dR (l := [pL]) (.cons (ys := C2 T) (cD.mk ⟨(.slice none 0 0), (.slice (some ⟨T, 0, none⟩) 1 1), rfl, (Sl.nil _ _ _), (dx.mono (Pl.mono _) n9)⟩) .nil) rfl nb rfl), (Sl.nil _ _ _), (Fr.nil _), (Sl.nil _ _ _), (Fr.nil _)⟩)
theorem tw (k : Value) (u : List Cred) (r : Int) (w : World) (j : Sl (Pl aI) 9 (hp w) k u) (hm : mO u = some r) :
    bO true Tryz.prog 21 [k] w (.int .i64 r) := by
  have hST := ST.start (dd := true) w
  unfold mO at hm
  refine cF 54 Tryz.func21 rfl (aD (aA (V (aG rfl) (aF (aH (aD (aA (V (aG rfl) (aF (aH (aD (aD (aA (V (aC rfl) ?_))))))))))))))
  refine V (dO Tryz.underlying22 rfl j) (V (aC rfl) (aF (aH (dA (fun i E W => ∃ (g : Int) (t : List (Nat × Obj)), (E 8 = .int .i64 (i : Nat) ∧ E 7 = .int .i64 (u.length : Nat)) ∧ ST true dC w W (hp w) t ∧ E 3 = (.int .i64 g) ∧ E 6 = k ∧ iP (u.drop i) g = some r) u.length j.len ⟨0, _, ⟨rfl, rfl⟩, (hST.sel St), rfl, rfl, hm⟩ (by decide) (by decide) (by decide) (fun _ _ _ h => by obtain ⟨_, _, eIN, _⟩ := h; exact eIN) ?_ ?_))))
  · rintro I E W z ⟨g, t, ⟨eI, eN⟩, hST, x, y, c⟩
    obtain ⟨a, J, G, D, H⟩ := cR z
    rw [G] at c
    rw [iP] at c
    refine aY (aD (aA (VQ (lZ (enc := aI) (i := (I : Int)) (x0 := a) Tryz.underlying22 Tryz.sizeOf53 y eI j (Int.natCast_nonneg _) D) (fun Q B => V (aJ rfl (bN hST.has B Tryz.isAgg53 Tryz.sizeOf53)) (VE (bL hST Tryz.zeroValue53 (fun K N hST => VO (bH (.agg (aI a).toArray) ((aI a).toArray) hST rfl rfl Tryz.sizeOf53 (gY a) nb rfl (fun M hST => aF (aH (aA (V (aC x) (V (aN oA rfl) (V (aN qM rfl) (V (aJ rfl (aP hST.has Mh rfl Tryz.isAgg9)) (V (kF Tryz.underlying9 rfl) ?_))))))))))))))))
    refine V (aQ rfl rfl rfl) (V (aN oA rfl) (V (aN te rfl) (V (aJ rfl (aP hST.has Mh rfl Tryz.isAgg9)) (V (kF Tryz.underlying9 rfl) (V (aQ rfl rfl rfl) (V (aN xG rfl) (V (aJ rfl (aP hST.has Mh rfl Tryz.isAgg9)) (V (kF Tryz.underlying9 rfl) (V (aQ rfl rfl rfl) (V (aN kR rfl) (V (aN qM rfl) (V (aJ rfl (aP hST.has Mh rfl Tryz.isAgg9)) (V (kF Tryz.underlying9 rfl) (V (aQ rfl rfl rfl) ?_))))))))))))))
    refine V (aN kR rfl) (V (aN te rfl) (V (aJ rfl (aP hST.has Mh rfl Tryz.isAgg9)) (V (kF Tryz.underlying9 rfl) (V (aQ rfl rfl rfl) (V (aN un rfl) (V (aN qM rfl) (V (aJ rfl (aP hST.has Mh rfl Tryz.isAgg9)) (V (kF Tryz.underlying9 rfl) (V (aQ rfl rfl rfl) (V (aN un rfl) (V (aN te rfl) (V (aJ rfl (aP hST.has Mh rfl Tryz.isAgg9)) (V (kF Tryz.underlying9 rfl) (V (aQ rfl rfl rfl) ?_))))))))))))))
    refine V (aN uX rfl) (V (aJ rfl (aP hST.has Mh rfl Tryz.isAgg9)) (V (kF Tryz.underlying9 rfl) (V (aQ rfl rfl rfl) (V (aQ rfl rfl rfl) (V (aG rfl) (aF (cL (aH ?_))))))))
    replace hST := hST.sel (Db St)
    exact ⟨eI, ((IntKind.i64.wrap (g + ((IntKind.i64.wrap (((IntKind.i64.wrap (((IntKind.i64.wrap (((IntKind.i64.wrap (((IntKind.i64.wrap (((IntKind.i64.wrap (((IntKind.i64.wrap (((IntKind.i64.wrap (20 + ((a.Head.Owner.size : Int))))) + ((a.Head.Word.size : Int))))) + ((a.Who.size : Int))))) + ((a.B.Owner.size : Int))))) + ((a.B.Word.size : Int))))) + ((a.C.Owner.size : Int))))) + ((a.C.Word.size : Int))))) + ((a.Word2.size : Int)))))))), _, ⟨rfl, eN⟩, (hST.sel St), rfl, y, (by rw [H]; exact c)⟩
  rintro E W ⟨g, t, ⟨eI, eN⟩, hST, x, y, c⟩
  rw [List.drop_length] at c
  rw [iP] at c
  refine aH (aD (aA (V (aC x) (V (aG rfl) (aF (aH (aU ?_)))))))
  have hx := sj c; subst hx
  exact rP hST
theorem vu (H : Value) (Q : List Key) (u : Value) (J : List Signed) (r : Int) (w : World) (B : Sl xW 2 (hp w) H Q) (D : Sl oM 10 (hp w) u J) (hm : tH Q J = some r) :
    bO true Tryz.prog 35 [H, u] w (.int .i64 r) := by
  have hST := ST.start (dd := true) w
  unfold tH at hm
  refine cF 45 Tryz.func35 rfl (aD (aA (V (aG rfl) (aF (aH (aD (aA (V (aG rfl) (aF (aH (aD (aD (aA (V (aC rfl) ?_))))))))))))))
  refine V (dO Tryz.underlying49 rfl B) (V (aC rfl) (aF (aH (dA (fun i E W => ∃ (t : Int) (N : List (Nat × Obj)), (E 12 = .int .i64 (i : Nat) ∧ E 11 = .int .i64 (Q.length : Nat)) ∧ ST true dC w W (hp w) N ∧ E 1 = u ∧ E 5 = (.int .i64 t) ∧ E 10 = H ∧ jY J (Q.drop i) t = some r) Q.length B.len ⟨0, _, ⟨rfl, rfl⟩, (hST.sel St), rfl, rfl, rfl, hm⟩ (by decide) (by decide) (by decide) (fun _ _ _ h => by obtain ⟨_, _, eIN, _⟩ := h; exact eIN) ?_ ?_))))
  · rintro c3 E W b5 ⟨t, N, ⟨eI, eN⟩, hST, U, Y, Z, g⟩
    obtain ⟨k, d4, b9, b7, c0⟩ := cR b5
    rw [b9] at g
    rw [jY] at g
    refine aY (aD (aA (VQ (eV (i := (c3 : Int)) (x0 := k) xW.out Tryz.underlying49 Tryz.sizeOf196 Z eI B (Int.natCast_nonneg _) b7) (fun d8 ⟨_, ⟨d9, rfl, a2⟩, b6⟩ => V (aJ rfl (bN hST.has b6 Tryz.isAgg196 Tryz.sizeOf196)) (VE (bL hST Tryz.zeroValue196 (fun d5 d7 hST => ?_)))))))
    obtain ⟨b1, b2, rfl⟩ := a2.form
    refine VO (bH (.agg #[(.string k.Who), (.slice b1 k.Key.length b2)]) (#[(.string k.Who), (.slice b1 k.Key.length b2)]) hST rfl rfl Tryz.sizeOf196 (by simp [Value.cells, Value.oneCell']) nb rfl (fun d6 hST => aF (aH (aA (V (aC Y) (V (aN In rfl) (V (aJ rfl (aP hST.has Mh rfl Tryz.isAgg9)) (V (kF Tryz.underlying9 rfl) (V (aQ rfl rfl rfl) (V (aN I5 rfl) (V (aJ rfl (aP hST.has Mh rfl Tryz.isAgg54)) (V (dO Tryz.underlying54 rfl a2) (V (aQ rfl rfl rfl) (V (aQ rfl rfl rfl) (V (aG rfl) ?_)))))))))))))))
    refine aF (cL (aH ?_))
    replace hST := hST.sel (Db St)
    exact ⟨eI, ((IntKind.i64.wrap (t + ((IntKind.i64.wrap (((IntKind.i64.wrap (10 + ((k.Who.size : Int))))) + ((k.Key.length : Int)))))))), _, ⟨rfl, eN⟩, (hST.sel St), U, rfl, Z, (by rw [c0]; exact g)⟩
  rintro E W ⟨t, N, ⟨eI, eN⟩, hST, U, Y, Z, g⟩
  rw [List.drop_length] at g
  rw [jY] at g
  refine aH (aD (aD (aA (V (aC U) (V (dO Tryz.underlying50 rfl D) (V (aC rfl) (aF (aH (CJ g (fun G E W => ∃  (M : List (Nat × Obj)), ST true dC w W (hp w) M ∧ E 5 = (.int .i64 G)) (fun G a5 => ?_) ?_)))))))))
  · refine dA (fun i E W => ∃ (j : Int) (x : List (Nat × Obj)), (E 29 = .int .i64 (i : Nat) ∧ E 28 = .int .i64 (J.length : Nat)) ∧ ST true dC w W (hp w) x ∧ E 5 = (.int .i64 j) ∧ E 27 = u ∧ lE (J.drop i) j = some G) J.length D.len ⟨t, _, ⟨rfl, rfl⟩, (hST.sel St), Y, rfl, a5⟩ (by decide) (by decide) (by decide) (fun _ _ _ h => by obtain ⟨_, _, eIN, _⟩ := h; exact eIN) ?_ ?_
    · rintro c1 E W a3 ⟨j, x, ⟨eI, eN⟩, hST, y, z, c⟩
      obtain ⟨a, c4, a9, a8, b0⟩ := cR a3
      rw [a9] at c
      rw [lE] at c
      refine aY (aD (aA (VQ (eV (i := (c1 : Int)) (x0 := a) oM.out Tryz.underlying50 Tryz.sizeOf56 z eI D (Int.natCast_nonneg _) a8) (fun d0 ⟨_, ⟨d1, rfl, I⟩, a6⟩ => V (aJ rfl (bN hST.has a6 Tryz.isAgg56 Tryz.sizeOf56)) (VE (bL hST Tryz.zeroValue56 (fun c5 c9 hST => ?_)))))))
      obtain ⟨K, T, rfl⟩ := I.form
      refine VO (bH (.agg (C9 a.Cred.Kind a.Cred.Head.Owner a.Cred.Head.Word a.Cred.Who a.Cred.B.Owner a.Cred.B.Word a.Cred.C.Owner a.Cred.C.Word a.Cred.Word2 K a.Tag.length T).toArray) ((C9 a.Cred.Kind a.Cred.Head.Owner a.Cred.Head.Word a.Cred.Who a.Cred.B.Owner a.Cred.B.Word a.Cred.C.Owner a.Cred.C.Word a.Cred.Word2 K a.Tag.length T).toArray) hST rfl rfl Tryz.sizeOf56 (by simp [Value.cells, Value.oneCell']) nb rfl (fun c6 hST => aF (aH ?_)))
      replace hST := hST.drew
      have hS0 := hST.has.sel (Kb Sn)
      refine cX hS0 cC (X 0 rfl hS0 (aC y) (X 1 rfl hS0 (aN ue rfl) (XH 2 rfl hS0 (fun _ hS => aJ rfl (aM hS Mh (aI a.Cred) rfl Tryz.isAgg53 Tryz.sizeOf53)) (X 5 rfl hS0 (aN Ea rfl) (XH 6 rfl hS0 (fun _ hS => aJ rfl (aP hS Mh rfl Tryz.isAgg54)) (X 7 rfl hS0 (dO Tryz.underlying54 rfl I) (XE 3 rfl (aR (qs := #[(0, (.agg (aI a.Cred).toArray))]) (cs := (aI a.Cred).toArray) hST (bM rfl) (bB [(.agg (aI a.Cred).toArray)] Tryz.underlying22 Tryz.sizeOf53 Tryz.zeroValue53 (by decide) rfl (by intro v hv; simp only [List.mem_cons, List.not_mem_nil, or_false] at hv; rcases hv with rfl <;> rfl) rfl rfl) (fun c7 b3 hST => ?_)))))))))
      have hS0 := hST.has.sel (Db (Kb Sn))
      refine ⟨hS0, (bS c fun c2 a7 c => XE 4 rfl (Eg hST Tryz.call21 ((tw (.slice (some ⟨b3, 0, none⟩) 1 1) ([a.Cred]) _ _ (Sl.lit (enc := aI) (l := [a.Cred]) bQ rfl nb rfl (hST.at_ Mh)) a7)) (fun c8 hST => ?_)))⟩
      have hS0 := hST.has.sel (Db (Kb Sn))
      refine ⟨hS0, (X 8 rfl hS0 (aQ rfl rfl rfl) (X 9 rfl hS0 (aQ rfl rfl rfl) (X 10 rfl hS0 (aG rfl) (dB (by kernel_rfl) (cL (aH ?_))))))⟩
      replace hST := hST.sel (Db (Db St))
      exact ⟨eI, ((IntKind.i64.wrap (j + ((IntKind.i64.wrap (c2 + ((a.Tag.length : Int)))))))), _, ⟨rfl, eN⟩, (hST.sel St), rfl, z, (by rw [b0]; exact c)⟩
    rintro E W ⟨j, x, ⟨eI, eN⟩, hST, y, z, c⟩
    rw [List.drop_length] at c
    rw [lE] at c
    refine aH ?_
    cases c
    exact ⟨_, (hST.sel St), y⟩
  rintro d3 E W ⟨M, hST, b4⟩ a4
  refine aD (aA (V (aC b4) (V (aG rfl) (aF (aH (aU ?_))))))
  have hx := sj a4; subst hx
  exact rP hST
theorem zo (I : (List aB) → Option Int) (N : ∀ (j : Value) (u : List aB) (r : Int) (w : World) (t : Sl aK 5 (hp w) j u), I u = some r → bO false Tryz.prog 173 [j] w (.int .i64 r)) (j : Value) (u : List aB) (r : Int) (w : World) (t : Sl aK 5 (hp w) j u) (hm : qd I u = some r) :
    bO false Tryz.prog 173 [j] w (.int .i64 r) := by
  have hST := ST.start (dd := false) w
  unfold qd at hm
  refine cF 31 Tryz.func173 rfl (aD (aA (V (aG rfl) (aF (aH (aD (aA (V (aG rfl) (aF (aH (aD (aD (aA (V (aC rfl) ?_))))))))))))))
  refine V (dO Tryz.underlying111 rfl t) (V (aC rfl) (aF (aH (dA (fun i E W => ∃ (x : Int) (z : List (Nat × Obj)), (E 8 = .int .i64 (i : Nat) ∧ E 7 = .int .i64 (u.length : Nat)) ∧ ST false dC w W (hp w) z ∧ E 3 = (.int .i64 x) ∧ E 6 = j ∧ lC I (u.drop i) x = some r) u.length t.len ⟨0, _, ⟨rfl, rfl⟩, (hST.sel St), rfl, rfl, hm⟩ (by decide) (by decide) (by decide) (fun _ _ _ h => by obtain ⟨_, _, eIN, _⟩ := h; exact eIN) ?_ ?_))))
  · rintro Z E W M ⟨x, z, ⟨eI, eN⟩, hST, D, G, g⟩
    obtain ⟨c, a7, T, Q, U⟩ := cR M
    rw [T] at g
    rw [lC] at g
    refine aY (aD (aA (VQ (eV (i := (Z : Int)) (x0 := c) aK.out Tryz.underlying111 Tryz.sizeOf113 G eI t (Int.natCast_nonneg _) Q) (fun a5 ⟨_, ⟨a6, rfl, H⟩, J⟩ => V (aJ rfl (bN hST.has J Tryz.isAgg113 Tryz.sizeOf113)) (VE (bL hST Tryz.zeroValue113 (fun a1 a4 hST => ?_)))))))
    obtain ⟨y, B, rfl⟩ := H.form
    refine VO (bH (.agg (C3 c.Op c.K c.Role.Owner c.Role.Word y c.Kids.length B).toArray) ((C3 c.Op c.K c.Role.Owner c.Role.Word y c.Kids.length B).toArray) hST rfl rfl Tryz.sizeOf113 (by simp [Value.cells, Value.oneCell']) nb rfl (fun a2 hST => aF (aH ?_)))
    replace hST := hST.drew
    have hS0 := hST.has.sel (Kb Sn)
    refine cX hS0 cC (X 0 rfl hS0 (aC D) (X 1 rfl hS0 (aN qK rfl) (X 2 rfl hS0 (aN qM rfl) (XH 3 rfl hS0 (fun _ hS => aJ rfl (aP hS Mh rfl Tryz.isAgg9)) (X 4 rfl hS0 (kF Tryz.underlying9 rfl) (X 5 rfl hS0 (aN qK rfl) (X 6 rfl hS0 (aN te rfl) (XH 7 rfl hS0 (fun _ hS => aJ rfl (aP hS Mh rfl Tryz.isAgg9)) (X 8 rfl hS0 (kF Tryz.underlying9 rfl) (X 9 rfl hS0 (aQ rfl rfl rfl) (X 10 rfl hS0 (Ij (k := .i64) (a := ((IntKind.i64.wrap (((c.Role.Owner.size : Int)) + ((c.Role.Word.size : Int)))))) (b := 16) (v := (.int .i64 ((IntKind.i64.wrap (Int.tdiv ((IntKind.i64.wrap (((c.Role.Owner.size : Int)) + ((c.Role.Word.size : Int))))) 16))))) rfl rfl (by decide) rfl) (X 11 rfl hS0 (aQ rfl rfl rfl) (X 12 rfl hS0 (aN lK rfl) (XH 13 rfl hS0 (fun _ hS => aJ rfl (aP hS Mh rfl Tryz.isAgg111)) ?_))))))))))))))
    refine bS g fun Y K g => XE 14 rfl (Eg hST Tryz.call173 ((N (.slice y c.Kids.length B) c.Kids _ _ (H.mono aV.mono hST.sub_hp) K)) (fun a3 hST => ?_))
    have hS0 := hST.has.sel (Kb Sn)
    refine ⟨hS0, (X 15 rfl hS0 (aQ rfl rfl rfl) (X 16 rfl hS0 (aQ rfl rfl rfl) (X 17 rfl hS0 (aG rfl) (dB (by kernel_rfl) (cL (aH ?_))))))⟩
    replace hST := hST.sel (Db St)
    exact ⟨eI, ((IntKind.i64.wrap (x + ((IntKind.i64.wrap (((IntKind.i64.wrap (1 + ((IntKind.i64.wrap (Int.tdiv ((IntKind.i64.wrap (((c.Role.Owner.size : Int)) + ((c.Role.Word.size : Int))))) 16)))))) + Y)))))), _, ⟨rfl, eN⟩, (hST.sel St), rfl, G, (by rw [U]; exact g)⟩
  rintro E W ⟨x, z, ⟨eI, eN⟩, hST, D, G, g⟩
  rw [List.drop_length] at g
  rw [lC] at g
  refine aH (aD (aA (V (aC D) (V (aG rfl) (aF (aH (aU ?_)))))))
  have hx := sj g; subst hx
  exact rP hST
theorem vx : ∀ (n : Nat) (a : Value) (c : List aB) (r : Int) (w : World) (g : Sl aK 5 (hp w) a c) (_ : kZ n c = some r),
    bO false Tryz.prog 173 [a] w (.int .i64 r)
  | 0 => by intros; rename_i h; simp only [kZ] at h; cases h
  | n + 1 => zo (kZ n) (vx n)
theorem Dc (x : cG) (J : Value) (N : Value) (r : Int) (w : World) (y : Sl bF 15 (hp w) J x.Creds) (G : Sl cD 8 (hp w) N x.Acks) (hm : tF x = some r) :
    bO false Tryz.prog 102 [(.agg #[(.string x.Name), J, N])] w (.int .i64 r) := by
  have hST := ST.start (dd := false) w
  unfold tF at hm
  refine cF 61 Tryz.func102 rfl (aD (aA ?_))
  obtain ⟨A1, c2, rfl⟩ := y.form
  obtain ⟨A3, c4, rfl⟩ := G.form
  refine VE (cO (v := (.agg (C5 x.Name A1 x.Creds.length c2 A3 x.Acks.length c4).toArray)) hST rfl (fun W6 b5 hST => V (aG rfl) (aF (aH (aD (aA (V (aN Fe rfl) (V (aJ rfl (aP hST.has Mh rfl Tryz.isAgg9)) (V (kF Tryz.underlying9 rfl) (V (aG rfl) (aF (aH (aD (aD (aA ?_)))))))))))))))
  refine V (aN sE rfl) (V (aJ rfl (aP hST.has Mh rfl Tryz.isAgg107)) (V (dO Tryz.underlying107 rfl y) (V (aC rfl) (aF (aH (dA (fun i E W => ∃ (I : Int) (b1 : List (Nat × Obj)), (E 14 = .int .i64 (i : Nat) ∧ E 13 = .int .i64 (x.Creds.length : Nat)) ∧ ST false dC w W (hp w) ((b5, Obj.cells ((C5 x.Name A1 x.Creds.length c2 A3 x.Acks.length c4).toArray : Array Value) 110 (0, 0)) :: b1) ∧ E 1 = (.pointer (some ⟨b5, 0, none⟩)) ∧ E 3 = (.int .i64 I) ∧ E 12 = (.slice A1 x.Creds.length c2) ∧ jZ x (x.Creds.drop i) I = some r) x.Creds.length y.len ⟨((x.Name.size : Int)), _, ⟨rfl, rfl⟩, (hST.sel St), rfl, rfl, rfl, hm⟩ (by decide) (by decide) (by decide) (fun _ _ _ h => by obtain ⟨_, _, eIN, _⟩ := h; exact eIN) ?_ ?_))))))
  · rintro d5 E W e1 ⟨I, b1, ⟨eI, eN⟩, hST, U, M, Y, H⟩
    obtain ⟨a, h7, e9, e8, f0⟩ := cR e1
    rw [e9] at H
    rw [jZ] at H
    refine aY (aD (aA (VQ (eV (i := (d5 : Int)) (x0 := a) bF.out Tryz.underlying107 Tryz.sizeOf138 Y eI y (Int.natCast_nonneg _) e8) (fun j0 ⟨_, ⟨j6, j7, rfl, Q, T⟩, e2⟩ => V (aJ rfl (bN hST.has e2 Tryz.isAgg138 Tryz.sizeOf138)) (VE (bL hST Tryz.zeroValue138 (fun h8 f4 hST => ?_)))))))
    obtain ⟨t, u, rfl⟩ := Q.form
    obtain ⟨g, j, rfl⟩ := T.form
    refine VO (bH (.agg (C4 a.Signed.Cred.Kind a.Signed.Cred.Head.Owner a.Signed.Cred.Head.Word a.Signed.Cred.Who a.Signed.Cred.B.Owner a.Signed.Cred.B.Word a.Signed.Cred.C.Owner a.Signed.Cred.C.Word a.Signed.Cred.Word2 t a.Signed.Tag.length u a.Release.Op a.Release.K a.Release.Role.Owner a.Release.Role.Word g a.Release.Kids.length j).toArray) ((C4 a.Signed.Cred.Kind a.Signed.Cred.Head.Owner a.Signed.Cred.Head.Word a.Signed.Cred.Who a.Signed.Cred.B.Owner a.Signed.Cred.B.Word a.Signed.Cred.C.Owner a.Signed.Cred.C.Word a.Signed.Cred.Word2 t a.Signed.Tag.length u a.Release.Op a.Release.K a.Release.Role.Owner a.Release.Role.Word g a.Release.Kids.length j).toArray) hST rfl rfl Tryz.sizeOf138 (by simp [Value.cells, Value.oneCell']) nb rfl (fun h9 hST => aF (aH ?_)))
    replace hST := hST.drew
    have hS0 := hST.has.sel (Kb Sn)
    refine cX hS0 cC (X 0 rfl hS0 (aC M) (X 1 rfl hS0 (aN sL rfl) (XH 2 rfl hS0 (fun _ hS => aJ rfl (aM hS Mh (C9 a.Signed.Cred.Kind a.Signed.Cred.Head.Owner a.Signed.Cred.Head.Word a.Signed.Cred.Who a.Signed.Cred.B.Owner a.Signed.Cred.B.Word a.Signed.Cred.C.Owner a.Signed.Cred.C.Word a.Signed.Cred.Word2 t a.Signed.Tag.length u) rfl Tryz.isAgg56 Tryz.sizeOf56)) (X 5 rfl hS0 (aN Ce rfl) (XH 6 rfl hS0 (fun _ hS => aJ rfl (aM hS Mh (C3 a.Release.Op a.Release.K a.Release.Role.Owner a.Release.Role.Word g a.Release.Kids.length j) rfl Tryz.isAgg113 Tryz.sizeOf113)) (PJ H (fun b4 E W => ∃ (a8 : Value) (b2 : List (Nat × Obj)) (b9 : List (Nat × Obj)), ST false dC w W (hp w) ((f4, Obj.cells ((C4 a.Signed.Cred.Kind a.Signed.Cred.Head.Owner a.Signed.Cred.Head.Word a.Signed.Cred.Who a.Signed.Cred.B.Owner a.Signed.Cred.B.Word a.Signed.Cred.C.Owner a.Signed.Cred.C.Word a.Signed.Cred.Word2 t a.Signed.Tag.length u a.Release.Op a.Release.K a.Release.Role.Owner a.Release.Role.Word g a.Release.Kids.length j).toArray : Array Value) 138 (0, 0)) :: ((b5, Obj.cells ((C5 x.Name A1 x.Creds.length c2 A3 x.Acks.length c4).toArray : Array Value) 110 (0, 0)) :: (b2 ++ b9))) ∧ E 1 = (.pointer (some ⟨b5, 0, none⟩)) ∧ E 3 = (.int .i64 I) ∧ E 12 = (.slice A1 x.Creds.length c2) ∧ E 13 = (.int .i64 ((x.Creds.length : Int))) ∧ E 14 = (.int .i64 ((d5 : Int))) ∧ E 18 = (.int .i64 I) ∧ E 22 = (.int .i64 b4.1) ∧ E 25 = a8 ∧ bG 113 aK 5 (hp w) a8 b4.2 b2) (bm 13 255) 5 ?_ (fun b4 z Z => ?_)))))))
    · rintro ⟨g5, g3⟩ E W ⟨a8, b2, b9, hST, f6, i9, f7, f8, f9, g0, g1, g2, e7⟩ a6
      have hS0 := hST.has.sel (Kb Sn)
      refine bS a6 fun g4 e3 a6 => XE 8 rfl (Eg hST Tryz.call173 (((vx cE) a8 g3 _ _ (e7.sl aV hST.sub_hp (fun b o hq => hST.at_ (Mt (Mt (Ml hq))))) e3)) (fun i0 hST => ?_) (ha := Le g2))
      have hS0 := hST.has.sel (Kb Sn)
      refine ⟨hS0, (X 9 rfl hS0 (aQ rfl rfl rfl) (X 10 rfl hS0 (aQ g1 rfl rfl) (X 11 rfl hS0 (aQ g0 rfl rfl) (X 12 rfl hS0 (aG rfl) (dB (by kernel_rfl) (cL (aH ?_)))))))⟩
      replace hST := hST.sel (Db (Kb (Dr St)))
      exact ⟨f9, ((IntKind.i64.wrap (I + ((IntKind.i64.wrap (g5 + ((IntKind.i64.wrap (20 * g4))))))))), _, ⟨rfl, f8⟩, (hST.sel St), f6, rfl, f7, (by rw [f0]; exact a6)⟩
    refine kX 3 7 rfl rfl (by kernel_rfl) (.inl rfl) (.inl rfl) rfl rfl (by decide) (by decide) ?_ ?_
    · refine aR (qs := #[(0, (.agg (C9 a.Signed.Cred.Kind a.Signed.Cred.Head.Owner a.Signed.Cred.Head.Word a.Signed.Cred.Who a.Signed.Cred.B.Owner a.Signed.Cred.B.Word a.Signed.Cred.C.Owner a.Signed.Cred.C.Word a.Signed.Cred.Word2 t a.Signed.Tag.length u).toArray))]) (cs := (C9 a.Signed.Cred.Kind a.Signed.Cred.Head.Owner a.Signed.Cred.Head.Word a.Signed.Cred.Who a.Signed.Cred.B.Owner a.Signed.Cred.B.Word a.Signed.Cred.C.Owner a.Signed.Cred.C.Word a.Signed.Cred.Word2 t a.Signed.Tag.length u).toArray) hST (bM rfl) (bB [(.agg (C9 a.Signed.Cred.Kind a.Signed.Cred.Head.Owner a.Signed.Cred.Head.Word a.Signed.Cred.Who a.Signed.Cred.B.Owner a.Signed.Cred.B.Word a.Signed.Cred.C.Owner a.Signed.Cred.C.Word a.Signed.Cred.Word2 t a.Signed.Tag.length u).toArray)] Tryz.underlying50 Tryz.sizeOf56 Tryz.zeroValue56 (by decide) rfl (by intro v hv; simp only [List.mem_cons, List.not_mem_nil, or_false] at hv; rcases hv with rfl <;> rfl) rfl rfl) (fun i1 b3 hST => ?_)
      have hS0 := hST.has.sel (Db (Kb Sn))
      refine ⟨hS0, (kX 4 7 rfl rfl (by kernel_rfl) (.inl rfl) (.inl rfl) rfl rfl (by decide) (by decide) ?_ ?_)⟩
      · refine bS z fun j3 e4 z => EV (args := [(.slice none 0 0), (.slice (some ⟨b3, 0, none⟩) 1 1)]) hST rfl Tryz.call35 (by exact sJ rfl rfl) (bO.weak (vu (.slice none 0 0) ([]) (.slice (some ⟨b3, 0, none⟩) 1 1) ([a.Signed]) _ _ (Sl.nil _ _ _) ((bG.lit vK (l := [a.Signed]) (.cons (ys := C9 a.Signed.Cred.Kind a.Signed.Cred.Head.Owner a.Signed.Cred.Head.Word a.Signed.Cred.Who a.Signed.Cred.B.Owner a.Signed.Cred.B.Word a.Signed.Cred.C.Owner a.Signed.Cred.C.Word a.Signed.Cred.Word2 t a.Signed.Tag.length u) (oM.mk ⟨(.slice t a.Signed.Tag.length u), rfl, Q⟩) .nil) rfl nb rfl).sl vK hST.sub_hp (fun b o hq => (by rw [List.mem_singleton] at hq; cases hq; exact hST.at_ Mh))) e4)) (fun i2 hST => ?_)
        have hS0 := hST.has.sel (Db (Kb Sn))
        refine ⟨hS0, (XE 7 rfl (aR (qs := #[(0, (.agg (C3 a.Release.Op a.Release.K a.Release.Role.Owner a.Release.Role.Word g a.Release.Kids.length j).toArray))]) (cs := (C3 a.Release.Op a.Release.K a.Release.Role.Owner a.Release.Role.Word g a.Release.Kids.length j).toArray) hST (bM rfl) (bB [(.agg (C3 a.Release.Op a.Release.K a.Release.Role.Owner a.Release.Role.Word g a.Release.Kids.length j).toArray)] Tryz.underlying111 Tryz.sizeOf113 Tryz.zeroValue113 (by decide) rfl (by intro v hv; simp only [List.mem_cons, List.not_mem_nil, or_false] at hv; rcases hv with rfl <;> rfl) rfl rfl) (fun i3 c0 hST => ?_)))⟩
        have hS0 := hST.has.sel (Db (Db (Kb Sn)))
        refine ⟨hS0, ?_⟩
        cases z
        replace hST := hST.row1
        refine cV (by kernel_rfl) (Z _ _ ⟨(.slice (some ⟨c0, 0, none⟩) 1 1), [(c0, Obj.cells ((C3 a.Release.Op a.Release.K a.Release.Role.Owner a.Release.Role.Word g a.Release.Kids.length j).toArray : Array Value) 113 (0, 0))], _, (hST.sel (Sb (Pr (Pb Pz)) (Sb (Pr (Pb Pz)) (Kr (Db St))))), U, M, Y, eN, eI, rfl, rfl, rfl, (bG.lit aV (l := [a.Release]) (.cons (ys := C3 a.Release.Op a.Release.K a.Release.Role.Owner a.Release.Role.Word g a.Release.Kids.length j) (aK.mk ⟨(.slice g a.Release.Kids.length j), rfl, T⟩) .nil) rfl nb rfl)⟩)
      · refine aR (qs := #[(0, (.agg (C3 a.Release.Op a.Release.K a.Release.Role.Owner a.Release.Role.Word g a.Release.Kids.length j).toArray))]) (cs := (C3 a.Release.Op a.Release.K a.Release.Role.Owner a.Release.Role.Word g a.Release.Kids.length j).toArray) hST (bM rfl) (bB [(.agg (C3 a.Release.Op a.Release.K a.Release.Role.Owner a.Release.Role.Word g a.Release.Kids.length j).toArray)] Tryz.underlying111 Tryz.sizeOf113 Tryz.zeroValue113 (by decide) rfl (by intro v hv; simp only [List.mem_cons, List.not_mem_nil, or_false] at hv; rcases hv with rfl <;> rfl) rfl rfl) (fun i4 c1 hST => ?_)
        have hS0 := hST.has.sel (Db (Db (Kb Sn)))
        refine ⟨hS0, (bS z fun j4 e5 z => XE 4 rfl (Eg hST Tryz.call35 (bO.weak (vu (.slice none 0 0) ([]) (.slice (some ⟨b3, 0, none⟩) 1 1) ([a.Signed]) _ _ (Sl.nil _ _ _) ((bG.lit vK (l := [a.Signed]) (.cons (ys := C9 a.Signed.Cred.Kind a.Signed.Cred.Head.Owner a.Signed.Cred.Head.Word a.Signed.Cred.Who a.Signed.Cred.B.Owner a.Signed.Cred.B.Word a.Signed.Cred.C.Owner a.Signed.Cred.C.Word a.Signed.Cred.Word2 t a.Signed.Tag.length u) (oM.mk ⟨(.slice t a.Signed.Tag.length u), rfl, Q⟩) .nil) rfl nb rfl).sl vK hST.sub_hp (fun b o hq => (by rw [List.mem_singleton] at hq; cases hq; exact hST.at_ (Mt Mh)))) e5)) (fun i5 hST => ?_)))⟩
        have hS0 := hST.has.sel (Db (Db (Kb Sn)))
        refine ⟨hS0, ?_⟩
        cases z
        replace hST := hST.row1
        refine cV (by kernel_rfl) (Z _ _ ⟨(.slice (some ⟨c1, 0, none⟩) 1 1), [(c1, Obj.cells ((C3 a.Release.Op a.Release.K a.Release.Role.Owner a.Release.Role.Word g a.Release.Kids.length j).toArray : Array Value) 113 (0, 0))], _, (hST.sel (Sb (Pr (Pb Pz)) (Sb (Pr (Pb Pz)) (Kr (Db St))))), U, M, Y, eN, eI, rfl, rfl, rfl, (bG.lit aV (l := [a.Release]) (.cons (ys := C3 a.Release.Op a.Release.K a.Release.Role.Owner a.Release.Role.Word g a.Release.Kids.length j) (aK.mk ⟨(.slice g a.Release.Kids.length j), rfl, T⟩) .nil) rfl nb rfl)⟩)
    · refine aR (qs := #[(0, (.agg (C3 a.Release.Op a.Release.K a.Release.Role.Owner a.Release.Role.Word g a.Release.Kids.length j).toArray))]) (cs := (C3 a.Release.Op a.Release.K a.Release.Role.Owner a.Release.Role.Word g a.Release.Kids.length j).toArray) hST (bM rfl) (bB [(.agg (C3 a.Release.Op a.Release.K a.Release.Role.Owner a.Release.Role.Word g a.Release.Kids.length j).toArray)] Tryz.underlying111 Tryz.sizeOf113 Tryz.zeroValue113 (by decide) rfl (by intro v hv; simp only [List.mem_cons, List.not_mem_nil, or_false] at hv; rcases hv with rfl <;> rfl) rfl rfl) (fun i6 c3 hST => ?_)
      have hS0 := hST.has.sel (Db (Kb Sn))
      refine ⟨hS0, (XE 3 rfl (aR (qs := #[(0, (.agg (C9 a.Signed.Cred.Kind a.Signed.Cred.Head.Owner a.Signed.Cred.Head.Word a.Signed.Cred.Who a.Signed.Cred.B.Owner a.Signed.Cred.B.Word a.Signed.Cred.C.Owner a.Signed.Cred.C.Word a.Signed.Cred.Word2 t a.Signed.Tag.length u).toArray))]) (cs := (C9 a.Signed.Cred.Kind a.Signed.Cred.Head.Owner a.Signed.Cred.Head.Word a.Signed.Cred.Who a.Signed.Cred.B.Owner a.Signed.Cred.B.Word a.Signed.Cred.C.Owner a.Signed.Cred.C.Word a.Signed.Cred.Word2 t a.Signed.Tag.length u).toArray) hST (bM rfl) (bB [(.agg (C9 a.Signed.Cred.Kind a.Signed.Cred.Head.Owner a.Signed.Cred.Head.Word a.Signed.Cred.Who a.Signed.Cred.B.Owner a.Signed.Cred.B.Word a.Signed.Cred.C.Owner a.Signed.Cred.C.Word a.Signed.Cred.Word2 t a.Signed.Tag.length u).toArray)] Tryz.underlying50 Tryz.sizeOf56 Tryz.zeroValue56 (by decide) rfl (by intro v hv; simp only [List.mem_cons, List.not_mem_nil, or_false] at hv; rcases hv with rfl <;> rfl) rfl rfl) (fun i7 f5 hST => ?_)))⟩
      have hS0 := hST.has.sel (Db (Db (Kb Sn)))
      refine ⟨hS0, (bS z fun j5 e6 z => XE 4 rfl (Eg hST Tryz.call35 (bO.weak (vu (.slice none 0 0) ([]) (.slice (some ⟨f5, 0, none⟩) 1 1) ([a.Signed]) _ _ (Sl.nil _ _ _) ((bG.lit vK (l := [a.Signed]) (.cons (ys := C9 a.Signed.Cred.Kind a.Signed.Cred.Head.Owner a.Signed.Cred.Head.Word a.Signed.Cred.Who a.Signed.Cred.B.Owner a.Signed.Cred.B.Word a.Signed.Cred.C.Owner a.Signed.Cred.C.Word a.Signed.Cred.Word2 t a.Signed.Tag.length u) (oM.mk ⟨(.slice t a.Signed.Tag.length u), rfl, Q⟩) .nil) rfl nb rfl).sl vK hST.sub_hp (fun b o hq => (by rw [List.mem_singleton] at hq; cases hq; exact hST.at_ Mh))) e6)) (fun i8 hST => ?_)))⟩
      have hS0 := hST.has.sel (Db (Db (Kb Sn)))
      refine ⟨hS0, ?_⟩
      cases z
      replace hST := hST.perm (Nb (Pb Pz) Nz)
      replace hST := hST.row1
      refine cV (by kernel_rfl) (Z _ _ ⟨(.slice (some ⟨c3, 0, none⟩) 1 1), [(c3, Obj.cells ((C3 a.Release.Op a.Release.K a.Release.Role.Owner a.Release.Role.Word g a.Release.Kids.length j).toArray : Array Value) 113 (0, 0))], _, (hST.sel (Sb (Pr (Pb Pz)) (Sb (Pr (Pb Pz)) (Kr (Db St))))), U, M, Y, eN, eI, rfl, rfl, rfl, (bG.lit aV (l := [a.Release]) (.cons (ys := C3 a.Release.Op a.Release.K a.Release.Role.Owner a.Release.Role.Word g a.Release.Kids.length j) (aK.mk ⟨(.slice g a.Release.Kids.length j), rfl, T⟩) .nil) rfl nb rfl)⟩)
  rintro E W ⟨I, b1, ⟨eI, eN⟩, hST, U, M, Y, H⟩
  rw [List.drop_length] at H
  rw [jZ] at H
  refine aH (aD (aD (aA (V (aN vP U) (V (aJ rfl (aP hST.has Mh rfl Tryz.isAgg108)) (V (dO Tryz.underlying108 rfl G) (V (aC rfl) (aF (aH ?_)))))))))
  replace hST := hST.sel (Db St)
  refine CJ H (fun a7 E W => ∃  (b6 : List (Nat × Obj)), ST false dC w W (hp w) b6 ∧ E 3 = (.int .i64 a7)) (fun a7 c8 => ?_) ?_
  · refine dA (fun i E W => ∃ (K : Int) (a2 : List (Nat × Obj)), (E 34 = .int .i64 (i : Nat) ∧ E 33 = .int .i64 (x.Acks.length : Nat)) ∧ ST false dC w W (hp w) a2 ∧ E 3 = (.int .i64 K) ∧ E 32 = (.slice A3 x.Acks.length c4) ∧ jM (x.Acks.drop i) K = some a7) x.Acks.length G.len ⟨I, _, ⟨rfl, rfl⟩, (hST.sel St), M, rfl, c8⟩ (by decide) (by decide) (by decide) (fun _ _ _ h => by obtain ⟨_, _, eIN, _⟩ := h; exact eIN) ?_ ?_
    · rintro f1 E W c6 ⟨K, a2, ⟨eI, eN⟩, hST, a4, a5, k⟩
      obtain ⟨c, g6, d3, d2, d4⟩ := cR c6
      rw [d3] at k
      rw [jM] at k
      refine aY (aD (aA (VQ (eV (i := (f1 : Int)) (x0 := c) cD.out Tryz.underlying108 Tryz.sizeOf263 a5 eI G (Int.natCast_nonneg _) d2) (fun h3 ⟨_, ⟨h4, h5, rfl, a9, b0⟩, c9⟩ => V (aJ rfl (bN hST.has c9 Tryz.isAgg263 Tryz.sizeOf263)) (VE (bL hST Tryz.zeroValue263 (fun g7 h2 hST => ?_)))))))
      obtain ⟨B, D, rfl⟩ := a9.form
      obtain ⟨a1, a3, rfl⟩ := b0.form
      refine VO (bH (.agg (C7 c.Role.Owner c.Role.Word c.Release.Op c.Release.K c.Release.Role.Owner c.Release.Role.Word B c.Release.Kids.length D a1 c.Closure.length a3).toArray) ((C7 c.Role.Owner c.Role.Word c.Release.Op c.Release.K c.Release.Role.Owner c.Release.Role.Word B c.Release.Kids.length D a1 c.Closure.length a3).toArray) hST rfl rfl Tryz.sizeOf263 (by simp [Value.cells, Value.oneCell']) nb rfl (fun g8 hST => aF (aH ?_)))
      replace hST := hST.drew
      have hS0 := hST.has.sel (Kb Sn)
      refine cX hS0 cC (X 0 rfl hS0 (aC a4) (X 1 rfl hS0 (aN uF rfl) (X 2 rfl hS0 (aN qM rfl) (XH 3 rfl hS0 (fun _ hS => aJ rfl (aP hS Mh rfl Tryz.isAgg9)) (X 4 rfl hS0 (kF Tryz.underlying9 rfl) (X 5 rfl hS0 (aN uF rfl) (X 6 rfl hS0 (aN te rfl) (XH 7 rfl hS0 (fun _ hS => aJ rfl (aP hS Mh rfl Tryz.isAgg9)) (X 8 rfl hS0 (kF Tryz.underlying9 rfl) (X 9 rfl hS0 (aQ rfl rfl rfl) (X 10 rfl hS0 (aN zV rfl) (XH 11 rfl hS0 (fun _ hS => aJ rfl (aM hS Mh (C3 c.Release.Op c.Release.K c.Release.Role.Owner c.Release.Role.Word B c.Release.Kids.length D) rfl Tryz.isAgg113 Tryz.sizeOf113)) (X 16 rfl hS0 (aN zW rfl) (XH 17 rfl hS0 (fun _ hS => aJ rfl (aP hS Mh rfl Tryz.isAgg22)) ?_))))))))))))))
      refine XE 12 rfl (aR (qs := #[(0, (.agg (C3 c.Release.Op c.Release.K c.Release.Role.Owner c.Release.Role.Word B c.Release.Kids.length D).toArray))]) (cs := (C3 c.Release.Op c.Release.K c.Release.Role.Owner c.Release.Role.Word B c.Release.Kids.length D).toArray) hST (bM rfl) (bB [(.agg (C3 c.Release.Op c.Release.K c.Release.Role.Owner c.Release.Role.Word B c.Release.Kids.length D).toArray)] Tryz.underlying111 Tryz.sizeOf113 Tryz.zeroValue113 (by decide) rfl (by intro v hv; simp only [List.mem_cons, List.not_mem_nil, or_false] at hv; rcases hv with rfl <;> rfl) rfl rfl) (fun g9 d7 hST => ?_))
      have hS0 := hST.has.sel (Db (Kb Sn))
      refine ⟨hS0, (bS k fun f2 d0 k => XE 13 rfl (Eg hST Tryz.call173 (((vx cE) (.slice (some ⟨d7, 0, none⟩) 1 1) ([c.Release]) _ _ ((bG.lit aV (l := [c.Release]) (.cons (ys := C3 c.Release.Op c.Release.K c.Release.Role.Owner c.Release.Role.Word B c.Release.Kids.length D) (aK.mk ⟨(.slice B c.Release.Kids.length D), rfl, a9⟩) .nil) rfl nb rfl).sl aV hST.sub_hp (fun b o hq => (by rw [List.mem_singleton] at hq; cases hq; exact hST.at_ Mh))) d0)) (fun h0 hST => ?_)))⟩
      have hS0 := hST.has.sel (Db (Kb Sn))
      refine ⟨hS0, (X 14 rfl hS0 (aQ rfl rfl rfl) (X 15 rfl hS0 (aQ rfl rfl rfl) (bS k fun f3 d1 k => XE 18 rfl (Eg hST Tryz.call21 (bO.weak (tw (.slice a1 c.Closure.length a3) c.Closure _ _ (b0.mono (Pl.mono _) hST.sub_hp) d1)) (fun h1 hST => ?_)))))⟩
      have hS0 := hST.has.sel (Db (Kb Sn))
      refine ⟨hS0, (X 19 rfl hS0 (aQ rfl rfl rfl) (X 20 rfl hS0 (aQ rfl rfl rfl) (X 21 rfl hS0 (aG rfl) (dB (by kernel_rfl) (cL (aH ?_))))))⟩
      replace hST := hST.sel (Db (Db St))
      exact ⟨eI, ((IntKind.i64.wrap (K + ((IntKind.i64.wrap (((IntKind.i64.wrap (((IntKind.i64.wrap (((c.Role.Owner.size : Int)) + ((c.Role.Word.size : Int))))) + ((IntKind.i64.wrap (20 * f2)))))) + f3)))))), _, ⟨rfl, eN⟩, (hST.sel St), rfl, a5, (by rw [d4]; exact k)⟩
    rintro E W ⟨K, a2, ⟨eI, eN⟩, hST, a4, a5, k⟩
    rw [List.drop_length] at k
    rw [jM] at k
    refine aH ?_
    cases k
    exact ⟨_, (hST.sel St), a4⟩
  rintro h6 E W ⟨b6, hST, e0⟩ c7
  refine aD (aA (V (aC e0) (V (aG rfl) (aF (aH (aU ?_))))))
  have hx := sj c7; subst hx
  exact rP hST
theorem EH (k : Value) (u : List Cred) (g : Cred) (r : Bool) (w : World) (j : Sl (Pl aI) 9 (hp w) k u) (hm : th u g = some r) :
    bO true Tryz.prog 53 [k, (.agg (aI g).toArray)] w (.bool r) := by
  have hST := ST.start (dd := true) w
  unfold th at hm
  refine cF 17 Tryz.func53 rfl (aD (aA (VE (cO (v := (.agg (aI g).toArray)) hST rfl (fun Y J hST => V (aG rfl) (aF (aH (aD (aD (aA (V (aC rfl) (V (dO Tryz.underlying22 rfl j) (V (aC rfl) (aF (aH ?_)))))))))))))))
  refine dA (fun i E W => ∃  (t : List (Nat × Obj)), (E 9 = .int .i64 (i : Nat) ∧ E 8 = .int .i64 (u.length : Nat)) ∧ ST true dC w W (hp w) ((J, Obj.cells ((aI g).toArray : Array Value) 53 (0, 0)) :: t) ∧ E 3 = (.pointer (some ⟨J, 0, none⟩)) ∧ E 7 = k ∧ oT g (u.drop i) = some r) u.length j.len ⟨_, ⟨rfl, rfl⟩, (hST.sel St), rfl, rfl, hm⟩ (by decide) (by decide) (by decide) (fun _ _ _ h => by obtain ⟨_, eIN, _⟩ := h; exact eIN) ?_ ?_
  · rintro K E W B ⟨t, ⟨eI, eN⟩, hST, x, y, a⟩
    obtain ⟨c, M, H, G, I⟩ := cR B
    rw [H] at a
    rw [oT] at a
    refine aY (aD (aA (VQ (lZ (enc := aI) (i := (K : Int)) (x0 := c) Tryz.underlying22 Tryz.sizeOf53 y eI j (Int.natCast_nonneg _) G) (fun U D => V (aJ rfl (bN hST.has D Tryz.isAgg53 Tryz.sizeOf53)) (VE (bL hST Tryz.zeroValue53 (fun N T hST => VO (bH (.agg (aI c).toArray) ((aI c).toArray) hST rfl rfl Tryz.sizeOf53 (gY c) nb rfl (fun Q hST => aF (aH (aD (aA (V (aJ rfl (aM hST.has Mh (aI c) rfl Tryz.isAgg53 Tryz.sizeOf53)) (V (aJ x (aM hST.has (Mt Mh) (aI g) rfl Tryz.isAgg53 Tryz.sizeOf53)) (V (vJ rfl rfl (nM Tryz.eqGuardType53) (sR (tN _ c g))) (aF ?_))))))))))))))))
    refine aH ?_
    replace hST := hST.sel (Db St)
    refine CI a rfl (fun z a => ?_) (fun z a => ?_)
    · refine aD (aA (V (aG rfl) (aF (aH ?_))))
      replace hST := hST.sel (Db St)
      refine aU (fE (cU (fE (cU ?_))))
      have hx := sj a; subst hx
      exact rP hST
    exact aX (cL (aH ⟨eI, _, ⟨rfl, eN⟩, (hST.sel St), x, y, (by rw [I]; exact a)⟩))
  rintro E W ⟨t, ⟨eI, eN⟩, hST, x, y, a⟩
  rw [List.drop_length] at a
  rw [oT] at a
  refine aH ?_
  replace hST := hST.sel (Db St)
  refine aD (aA (V (aG rfl) (aF (aH (aU ?_)))))
  have hx := sj a; subst hx
  exact rP hST
theorem yW (a : cG) (a9 : Value) (b4 : Value) (T : Value) (a1 : List Cred) (c3 : Value) (a2 : List Cred) (r : Bool) (w : World) (g : Sl bF 15 (hp w) a9 a.Creds) (t : Sl cD 8 (hp w) b4 a.Acks) (d9 : Sl (Pl aI) 9 (hp w) T a1) (h7 : Sl (Pl aI) 9 (hp w) c3 a2) (hm : nJ a a1 a2 = some r) :
    bO false Tryz.prog 18 [(.agg #[(.string a.Name), a9, b4]), T, c3] w (.bool r) := by
  have hST := ST.start (dd := false) w
  unfold nJ at hm
  refine cF 102 Tryz.func18 rfl (aD (aA ?_))
  obtain ⟨I, J, rfl⟩ := g.form
  obtain ⟨N, Q, rfl⟩ := t.form
  refine VE (cO (v := (.agg (C5 a.Name I a.Creds.length J N a.Acks.length Q).toArray)) hST rfl (fun W6 b5 hST => V (aG rfl) (aF (aH (aD (aD (aA (bS hm fun r7 p8 hm => VE (Eg hST Tryz.call101 ((Dh  _ _  p8)) (fun W9 hST => V (fV rfl) (aF (aH (CI hm rfl (fun o4 hm => ?_) (fun o4 hm => ?_))))))))))))))
  · refine aD (aA (V (aG rfl) (aF (aH ?_))))
    replace hST := hST.sel (Db St)
    refine aU (cU ?_)
    have hx := sj hm; subst hx
    exact rP hST
  refine aX (aH (aD (aD (aA (V (aJ rfl (aM hST.has Mh (C5 a.Name I a.Creds.length J N a.Acks.length Q) rfl Tryz.isAgg110 Tryz.sizeOf110)) (bS hm fun v4 o8 hm => VE (Eg hST Tryz.call102 ((Dc a (.slice I a.Creds.length J) (.slice N a.Acks.length Q) _ _ (g.mono bR.mono hST.sub_hp) (t.mono dR.mono hST.sub_hp) o8)) (fun u7 hST => V (aQ rfl rfl rfl) (V (aC rfl) (LJ hm (fun g5 E W => ∃  (n1 : List (Nat × Obj)), ST false dC w W (hp w) ((b5, Obj.cells ((C5 a.Name I a.Creds.length J N a.Acks.length Q).toArray : Array Value) 110 (0, 0)) :: n1) ∧ E 1 = T ∧ E 2 = c3 ∧ E 3 = (.pointer (some ⟨b5, 0, none⟩)) ∧ E 32 = (.bool g5)) 7 ?_ (fun g5 G c6 => ?_)))))))))))
  · rintro v5 E W ⟨n1, hST, h4, p5, h5, p6⟩ H
    refine aF (aH (CI H p6 (fun o5 H => ?_) (fun o5 H => ?_)))
    · refine aD (aA (V (aG rfl) (aF (aH ?_))))
      replace hST := hST.sel (Db St)
      refine aU (cU ?_)
      have hx := sj H; subst hx
      exact rP hST
    refine aX (aH (aD (aA (VE (aR (qs := #[]) (cs := #[]) hST nZ (bB [] Tryz.underlying22 Tryz.sizeOf53 Tryz.zeroValue53 (by decide) rfl (by simp) rfl rfl) (fun u8 n2 hST => V (aC h4) (bS H fun v3 o6 H => VE (kG (enc := aI) (v := (.slice (some ⟨n2, 0, none⟩) 0 0)) (vs := T) (R := [(n2, Obj.cells (#[] : Array Value) 53 (0, 0))]) hST bQ (by decide) gY Tryz.underlying22 fT.1 fT.2.1 rfl fT.2.2.1 fT.2.2.2 rfl rfl (bI.lit (l := []) (enc := aI) rfl (by decide) rfl rfl) (d9.mono (Pl.mono _) hST.sub_hp) o6 (fun u9 q0 p3 hST o1 => V (aC p5) (bS H fun p9 o7 H => VE (kG (enc := aI) (v := q0) (vs := c3) (R := p3) hST bQ (by decide) gY Tryz.underlying22 fT.1 fT.2.1 rfl fT.2.2.1 fT.2.2.2 rfl rfl o1 (h7.mono (Pl.mono _) hST.sub_hp) o7 (fun v0 q1 u6 hST o2 => V (aG rfl) (aF (aH (aD ?_)))))))))))))))
    replace hST := hST.drew
    have hS0 := hST.has.sel (Dr (Kb Sn))
    refine cX hS0 cC (XH 0 rfl hS0 (fun _ hS => aJ h5 (aM hS Mh (C5 a.Name I a.Creds.length J N a.Acks.length Q) rfl Tryz.isAgg110 Tryz.sizeOf110)) (X 1 rfl hS0 (aC h4) (XH 3 rfl hS0 (fun _ hS => aJ h5 (aM hS Mh (C5 a.Name I a.Creds.length J N a.Acks.length Q) rfl Tryz.isAgg110 Tryz.sizeOf110)) (X 4 rfl hS0 (aC rfl) (bS H fun a8 o9 H => XE 2 rfl (sZ hST Tryz.call80 ((ui a (.slice I a.Creds.length J) (.slice N a.Acks.length Q) T a1 Jl _ _ (g.mono bR.mono hST.sub_hp) (t.mono dR.mono hST.sub_hp) (d9.mono (Pl.mono _) hST.sub_hp) o9)) (fun v1 e8 v6 f9 hST u hl84 Z => ?_)))))))
    have hS0 := hST.has.selS u (Dr (Dr (Kb Sn)))
    refine ⟨hS0, (bS H fun n3 p0 H => XE 5 rfl (sZ hST Tryz.call80 ((ui a (.slice I a.Creds.length J) (.slice N a.Acks.length Q) q1 p9 Jl _ _ (g.mono bR.mono (u.trans hST.sub_hp)) (t.mono dR.mono (u.trans hST.sub_hp)) (o2.sl bQ (fun b o hq => hST.at_ (Ma (Ml hq)))) p0)) (fun v2 n4 g6 p4 hST B hl93 o3 => ?_)))⟩
    have hS0 := hST.has.selS (u.trans B) (Dr (Dr (Dr (Kb Sn))))
    refine ⟨hS0, (X 6 rfl hS0 (aG rfl) (X 7 rfl hS0 (aG rfl) (dB (by kernel_rfl) (aH ?_))))⟩
    replace hST := hST.sel (Kr (Kr (Dr St)))
    refine aD (aD (aA (V (aC rfl) (V (nV Tryz.underlying22 rfl Z) (V (aC rfl) (aF (aH (dA (fun i E W => ∃  (e9 : List (Nat × Obj)), (E 46 = .int .i64 (i : Nat) ∧ E 45 = .int .i64 (a8.length : Nat)) ∧ ST false dC w W g6 ((b5, Obj.cells ((C5 a.Name I a.Creds.length J N a.Acks.length Q).toArray : Array Value) 110 (0, 0)) :: (p4 ++ (f9 ++ e9))) ∧ E 1 = T ∧ E 3 = (.pointer (some ⟨b5, 0, none⟩)) ∧ E 8 = e8 ∧ E 9 = n4 ∧ E 44 = e8 ∧ fG n3 a a1 a8 (a8.drop i) = some r) a8.length Z.len ⟨_, ⟨rfl, rfl⟩, (hST.sel (Sb (Pr (Pr Pz)) St)), h4, h5, rfl, rfl, rfl, H⟩ (by decide) (by decide) (by decide) (fun _ _ _ h => by obtain ⟨_, eIN, _⟩ := h; exact eIN) ?_ ?_))))))))
    · rintro p1 E W k7 ⟨e9, ⟨eI, eN⟩, hST, f1, d6, f2, f3, f4, j⟩
      obtain ⟨b1, r9, m2, g1, m3⟩ := cR k7
      rw [m2] at j
      rw [fG] at j
      refine aY (aD (aA (VQ (lA (i := (p1 : Int)) (x0 := b1) Tryz.underlying22 Tryz.sizeOf53 f4 eI Z (Int.natCast_nonneg _) g1) (fun t6 l4 => V (aJ rfl (rh hST.has (fun p hq => (Mt (Ma (Ml hq)))) Z bQ l4 g1 Tryz.isAgg53 Tryz.sizeOf53)) (VE (bL hST Tryz.zeroValue53 (fun s3 t3 hST => VO (bH (.agg (aI b1).toArray) ((aI b1).toArray) hST rfl rfl Tryz.sizeOf53 (gY b1) nb rfl (fun s4 hST => aF (aH (aD (aA (V (aC f3) (V (aJ rfl (aM hST.has Mh (aI b1) rfl Tryz.isAgg53 Tryz.sizeOf53)) (bS j fun t8 l6 j => VE (Eg hST Tryz.call53 (bO.weak (EH n4 n3 b1 _ _ (o3.sl bQ (fun b o hq => hST.at_ (Mt (Mt (Ml hq))))) l6)) (fun s5 hST => ?_)))))))))))))))))
      refine V (fV rfl) (aF (aH ?_))
      replace hST := hST.sel (Db St)
      refine CI j rfl (fun k4 j => ?_) (fun k4 j => ?_)
      · refine aD (aA (V (aG rfl) (aF (aH ?_))))
        replace hST := hST.sel (Db (Dr (Dr St)))
        refine aU (fE (cU (fE (cU ?_))))
        have hx := sj j; subst hx
        exact rP hST
      exact aX (cL (aH ⟨eI, _, ⟨rfl, eN⟩, (hST.sel St), f1, d6, f2, f3, f4, (by rw [m3]; exact j)⟩))
    rintro E W ⟨e9, ⟨eI, eN⟩, hST, f1, d6, f2, f3, f4, j⟩
    rw [List.drop_length] at j
    rw [fG] at j
    refine aH ?_
    replace hST := hST.sel (Kb (Dr St))
    refine aD (aD (aA (V (aJ d6 (aM hST.has Mh (C5 a.Name I a.Creds.length J N a.Acks.length Q) rfl Tryz.isAgg110 Tryz.sizeOf110)) (bS j fun t9 l7 j => VE (Eg hST Tryz.call103 ((tJ a (.slice I a.Creds.length J) (.slice N a.Acks.length Q) _ _ (g.mono bR.mono ((u.trans B).trans hST.sub_hp)) (t.mono dR.mono ((u.trans B).trans hST.sub_hp)) l7)) (fun s6 hST => V (aQ rfl rfl rfl) (aF (aH (CI j rfl (fun k5 j => ?_) (fun k5 j => ?_))))))))))
    · refine aD (aA (V (aG rfl) (aF (aH ?_))))
      replace hST := hST.sel (Db (Dr St))
      refine aU (cU ?_)
      have hx := sj j; subst hx
      exact rP hST
    refine aX (aH (aD (aD (aA (V (aC f2) (V (nV Tryz.underlying22 rfl Z) (V (aC rfl) (aF (aH (Ib j (fun f6 E W => ∃  (b3 : bD) (g9 : List (Nat × Obj)), bE g6 b3 ∧ ST false dC w W b3 ((b5, Obj.cells ((C5 a.Name I a.Creds.length J N a.Acks.length Q).toArray : Array Value) 110 (0, 0)) :: g9) ∧ E 3 = (.pointer (some ⟨b5, 0, none⟩))) (fun f6 l3 e1 => ?_) ?_))))))))))
    · refine dA (fun i E W => ∃  (b0 : bD) (c8 : List (Nat × Obj)), (E 60 = .int .i64 (i : Nat) ∧ E 59 = .int .i64 (a8.length : Nat)) ∧ bE g6 b0 ∧ ST false dC w W b0 ((b5, Obj.cells ((C5 a.Name I a.Creds.length J N a.Acks.length Q).toArray : Array Value) 110 (0, 0)) :: (f9 ++ c8)) ∧ E 1 = T ∧ E 3 = (.pointer (some ⟨b5, 0, none⟩)) ∧ E 58 = e8 ∧ gF a a1 (a8.drop i) = some f6) a8.length Z.len ⟨g6, _, ⟨rfl, rfl⟩, (bE.refl _), (hST.sel St), f1, d6, rfl, l3⟩ (by decide) (by decide) (by decide) (fun _ _ _ h => by obtain ⟨_, _, eIN, _⟩ := h; exact eIN) ?_ ?_
      · rintro f5 E W k9 ⟨b0, c8, ⟨eI, eN⟩, z, hST, g0, b6, d1, D⟩
        obtain ⟨b2, s1, m7, g2, m8⟩ := cR k9
        rw [m7] at D
        rw [gF] at D
        refine aY (aD (aA (VQ (lA (i := (f5 : Int)) (x0 := b2) Tryz.underlying22 Tryz.sizeOf53 d1 eI Z (Int.natCast_nonneg _) g2) (fun r3 i3 => V (aJ rfl (rh hST.has (fun p hq => (Mt (Ml hq))) Z bQ i3 g2 Tryz.isAgg53 Tryz.sizeOf53)) (VE (bL hST Tryz.zeroValue53 (fun q3 r1 hST => VO (bH (.agg (aI b2).toArray) ((aI b2).toArray) hST rfl rfl Tryz.sizeOf53 (gY b2) nb rfl (fun q4 hST => aF (aH (aD (aA (V (aJ b6 (aM hST.has (Mt Mh) (C5 a.Name I a.Creds.length J N a.Acks.length Q) rfl Tryz.isAgg110 Tryz.sizeOf110)) (V (aJ rfl (aM hST.has Mh (aI b2) rfl Tryz.isAgg53 Tryz.sizeOf53)) (bS D fun e3 i5 D => VE (sZ hST Tryz.call104 ((za a (.slice I a.Creds.length J) (.slice N a.Acks.length Q) b2 _ _ (g.mono bR.mono (((u.trans B).trans z).trans hST.sub_hp)) (t.mono dR.mono (((u.trans B).trans z).trans hST.sub_hp)) i5)) (fun q5 n0 e4 j7 hST a3 hl1244 a6 => ?_)))))))))))))))))
        refine V (nV Tryz.underlying34 rfl a6) (V (aC rfl) (aF (aH ?_)))
        replace hST := hST.sel (Kr (Db St))
        refine qP (Ib D (fun g4 E W => ∃  (f8 : List (Nat × Obj)), ST false dC w W e4 ((b5, Obj.cells ((C5 a.Name I a.Creds.length J N a.Acks.length Q).toArray : Array Value) 110 (0, 0)) :: (f9 ++ f8)) ∧ E 1 = T ∧ E 3 = (.pointer (some ⟨b5, 0, none⟩)) ∧ E 58 = e8 ∧ E 59 = (.int .i64 ((a8.length : Int))) ∧ E 60 = (.int .i64 ((f5 : Int)))) (fun g4 i2 c1 => ?_) ?_)
        · refine dA (fun i E W => ∃  (c9 : List (Nat × Obj)), (E 68 = .int .i64 (i : Nat) ∧ E 67 = .int .i64 (e3.length : Nat)) ∧ ST false dC w W e4 ((b5, Obj.cells ((C5 a.Name I a.Creds.length J N a.Acks.length Q).toArray : Array Value) 110 (0, 0)) :: (j7 ++ (f9 ++ c9))) ∧ E 1 = T ∧ E 3 = (.pointer (some ⟨b5, 0, none⟩)) ∧ E 58 = e8 ∧ E 59 = (.int .i64 ((a8.length : Int))) ∧ E 60 = (.int .i64 ((f5 : Int))) ∧ E 66 = n0 ∧ gH a a1 (e3.drop i) = some g4) e3.length a6.len ⟨_, ⟨rfl, rfl⟩, (hST.sel (Sb (Pr Pz) St)), g0, b6, d1, eN, eI, rfl, i2⟩ (by decide) (by decide) (by decide) (fun _ _ _ h => by obtain ⟨_, eIN, _⟩ := h; exact eIN) ?_ ?_
          · rintro m9 E W h9 ⟨c9, ⟨eI, eN⟩, hST, b7, b9, d2, d3, d4, d5, k⟩
            obtain ⟨a4, q2, i9, e6, j0⟩ := cR h9
            rw [i9] at k
            rw [gH] at k
            refine aY (aD (aA (VQ (lA (i := (m9 : Int)) (x0 := a4) Tryz.underlying34 Tryz.sizeOf28 d5 eI a6 (Int.natCast_nonneg _) e6) (fun r4 i4 => V (aJ rfl (rh hST.has (fun p hq => (Mt (Ml hq))) a6 tY i4 e6 Tryz.isAgg28 Tryz.sizeOf28)) (VE (bL hST Tryz.zeroValue28 (fun q6 r2 hST => VO (bH (.agg (aO a4).toArray) ((aO a4).toArray) hST rfl rfl Tryz.sizeOf28 (rI a4) nb rfl (fun q7 hST => aF (aH (aD (aA (V (aJ b9 (aM hST.has (Mt Mh) (C5 a.Name I a.Creds.length J N a.Acks.length Q) rfl Tryz.isAgg110 Tryz.sizeOf110)) (V (aJ rfl (aM hST.has Mh (aO a4) rfl Tryz.isAgg28 Tryz.sizeOf28)) (V (aC b7) (bS k fun r5 i6 k => ?_))))))))))))))))
            refine VE (Eg hST Tryz.call105 ((ww a (.slice I a.Creds.length J) (.slice N a.Acks.length Q) a4 T a1 Jl _ _ (g.mono bR.mono ((((u.trans B).trans z).trans a3).trans hST.sub_hp)) (t.mono dR.mono ((((u.trans B).trans z).trans a3).trans hST.sub_hp)) (d9.mono (Pl.mono _) ((((u.trans B).trans z).trans a3).trans hST.sub_hp)) i6)) (fun q8 hST => V (fV rfl) (aF (aH ?_))))
            replace hST := hST.sel (Db St)
            refine CI k rfl (fun h8 k => ?_) (fun h8 k => ?_)
            · refine aD (aA (V (aG rfl) (aF (aH ?_))))
              replace hST := hST.sel (Db (Dr (Dr St)))
              refine aU (fE (cU (fE (cU (fE (cU (fE (cU ?_))))))))
              have hx := sj k; subst hx
              replace c1 : some (Sum.inl false) = some f6 := c1
              have hx := sj c1; subst hx
              replace e1 : some false = some r := e1
              have hx := sj e1; subst hx
              exact rP hST
            exact aX (cL (aH ⟨eI, _, ⟨rfl, eN⟩, (hST.sel St), b7, b9, d2, d3, d4, d5, (by rw [j0]; exact k)⟩))
          rintro E W ⟨c9, ⟨eI, eN⟩, hST, b7, b9, d2, d3, d4, d5, k⟩
          rw [List.drop_length] at k
          rw [gH] at k
          refine aH ?_
          cases k
          exact ⟨_, rfl, _, (hST.sel (Kb (Dr St))), b7, b9, d2, d3, d4⟩
        rintro ⟨⟩ E W ⟨f8, hST, j8, j9, k0, k1, k2⟩ i1
        exact cL (aH ⟨k2, e4, _, ⟨rfl, k1⟩, (z.trans a3), (hST.sel St), j8, j9, k0, (by rw [m8]; exact i1)⟩)
      rintro E W ⟨b0, c8, ⟨eI, eN⟩, z, hST, g0, b6, d1, D⟩
      rw [List.drop_length] at D
      rw [gF] at D
      refine aH ?_
      cases D
      exact ⟨_, rfl, b0, _, z, (hST.sel (Kb (Dr St))), b6⟩
    rintro ⟨⟩ E W ⟨b3, g9, c0, hST, h6⟩ l0
    refine aD (aD (aA (V (aN sE h6) (V (aJ rfl (aP hST.has Mh rfl Tryz.isAgg107)) (V (dO Tryz.underlying107 rfl g) (V (aC rfl) (aF (aH (Ib l0 (fun j4 E W => ∃  (f7 : bD) (h0 : List (Nat × Obj)), bE b3 f7 ∧ ST false dC w W f7 h0) (fun j4 l2 e0 => ?_) ?_)))))))))
    · refine dA (fun i E W => ∃  (c5 : bD) (f0 : List (Nat × Obj)), (E 82 = .int .i64 (i : Nat) ∧ E 81 = .int .i64 (a.Creds.length : Nat)) ∧ bE b3 c5 ∧ ST false dC w W c5 ((b5, Obj.cells ((C5 a.Name I a.Creds.length J N a.Acks.length Q).toArray : Array Value) 110 (0, 0)) :: f0) ∧ E 3 = (.pointer (some ⟨b5, 0, none⟩)) ∧ E 80 = (.slice I a.Creds.length J) ∧ gE a (a.Creds.drop i) = some j4) a.Creds.length g.len ⟨b3, _, ⟨rfl, rfl⟩, (bE.refl _), (hST.sel St), h6, rfl, l2⟩ (by decide) (by decide) (by decide) (fun _ _ _ h => by obtain ⟨_, _, eIN, _⟩ := h; exact eIN) ?_ ?_
      · rintro j3 E W k8 ⟨c5, f0, ⟨eI, eN⟩, U, hST, d7, d8, M⟩
        obtain ⟨c, s0, m5, m4, m6⟩ := cR k8
        rw [m5] at M
        rw [gE] at M
        refine aY (aD (aA (VQ (eV (i := (j3 : Int)) (x0 := c) bF.out Tryz.underlying107 Tryz.sizeOf138 d8 eI (g.mono bR.mono (((u.trans B).trans c0).trans U)) (Int.natCast_nonneg _) m4) (fun t7 ⟨_, ⟨u1, u2, rfl, m0, m1⟩, l5⟩ => V (aJ rfl (bN hST.has l5 Tryz.isAgg138 Tryz.sizeOf138)) (VE (bL hST Tryz.zeroValue138 (fun s7 t4 hST => ?_)))))))
        obtain ⟨g7, h2, rfl⟩ := m0.form
        obtain ⟨g8, h3, rfl⟩ := m1.form
        refine VO (bH (.agg (C4 c.Signed.Cred.Kind c.Signed.Cred.Head.Owner c.Signed.Cred.Head.Word c.Signed.Cred.Who c.Signed.Cred.B.Owner c.Signed.Cred.B.Word c.Signed.Cred.C.Owner c.Signed.Cred.C.Word c.Signed.Cred.Word2 g7 c.Signed.Tag.length h2 c.Release.Op c.Release.K c.Release.Role.Owner c.Release.Role.Word g8 c.Release.Kids.length h3).toArray) ((C4 c.Signed.Cred.Kind c.Signed.Cred.Head.Owner c.Signed.Cred.Head.Word c.Signed.Cred.Who c.Signed.Cred.B.Owner c.Signed.Cred.B.Word c.Signed.Cred.C.Owner c.Signed.Cred.C.Word c.Signed.Cred.Word2 g7 c.Signed.Tag.length h2 c.Release.Op c.Release.K c.Release.Role.Owner c.Release.Role.Word g8 c.Release.Kids.length h3).toArray) hST rfl rfl Tryz.sizeOf138 (by simp [Value.cells, Value.oneCell']) nb rfl (fun s8 hST => aF (aH (aD (aA (V (aJ d7 (aM hST.has (Mt Mh) (C5 a.Name I a.Creds.length J N a.Acks.length Q) rfl Tryz.isAgg110 Tryz.sizeOf110)) (V (aN sL rfl) (V (aN ue rfl) (V (aJ rfl (aM hST.has Mh (aI c.Signed.Cred) rfl Tryz.isAgg53 Tryz.sizeOf53)) (bS M fun x l8 M => ?_))))))))))
        have hsz := hST.size
        refine VE (lT hST (List.Perm.refl _) Tryz.call106 (fun hH hN hsb hmm => (uk a (.slice I a.Creds.length J) (.slice N a.Acks.length Q) c.Signed.Cred _ _ ⟨hH, hN, hsb⟩ (g.mono bR.mono (((u.trans B).trans c0).trans U)) (t.mono dR.mono (((u.trans B).trans c0).trans U)) l8)) (fun s9 u3 j6 s2 hST i0 hl922 k3 => ?_) (L0 := []))
        obtain ⟨u5, e2, rfl, g3⟩ := k3
        replace e2 := e2.symm; subst e2
        replace hST := hST.perm Tn
        refine V (aC rfl) (V (dU rfl rfl) (V (dU rfl rfl) (VE (bL hST Tryz.zeroValue113 (fun t0 t5 hST => ?_)))))
        obtain ⟨c7, d0, rfl⟩ := g3.form
        refine VO (bH (.agg #[(.int .i64 ((x.1).Op)), (.int .i64 ((x.1).K)), (.string (((x.1).Role).Owner)), (.string (((x.1).Role).Word)), (.slice c7 ((x.1).Kids).length d0)]) (#[(.int .i64 ((x.1).Op)), (.int .i64 ((x.1).K)), (.string (((x.1).Role).Owner)), (.string (((x.1).Role).Word)), (.slice c7 ((x.1).Kids).length d0)]) hST rfl rfl Tryz.sizeOf113 (by simp [Value.cells, Value.oneCell']) nb rfl (fun t1 hST => V (aG rfl) (aF (aH ?_))))
        replace hST := hST.sel (Kb (Db St))
        refine aD (aA (V (aC rfl) (V (aQ rfl rfl rfl) (V (aC rfl) (LJ M (fun j5 E W => ∃  (h1 : List (Nat × Obj)), ST false dC w W j6 ((b5, Obj.cells ((C5 a.Name I a.Creds.length J N a.Acks.length Q).toArray : Array Value) 110 (0, 0)) :: h1) ∧ E 3 = (.pointer (some ⟨b5, 0, none⟩)) ∧ E 80 = (.slice I a.Creds.length J) ∧ E 81 = (.int .i64 ((a.Creds.length : Int))) ∧ E 82 = (.int .i64 ((j3 : Int))) ∧ E 100 = (.bool j5)) 4 ?_ (fun j5 Y e7 => ?_))))))
        · rintro u4 E W ⟨h1, hST, n6, n7, n8, n9, o0⟩ a7
          refine aF (aH (CI a7 o0 (fun k6 a7 => ?_) (fun k6 a7 => ?_)))
          · refine aD (aA (V (aG rfl) (aF (aH ?_))))
            replace hST := hST.sel (Db St)
            refine aU (fE (cU (fE (cU ?_))))
            have hx := sj a7; subst hx
            replace e0 : some false = some r := e0
            have hx := sj e0; subst hx
            exact rP hST
          exact aX (cL (aH ⟨n9, j6, _, ⟨rfl, n8⟩, (U.trans i0), (hST.sel St), n6, n7, (by rw [m6]; exact a7)⟩))
        refine bC Y (fun K Y => ?_) (fun K Y => ?_)
        · refine Vn rfl (cB K) (Vn rfl (cB K) (Vn rfl (cB K) (V (bU (cB K) rfl) ?_)))
          cases Y
          exact e7 _ _ ⟨_, (hST.sel (Db St)), d7, d8, eN, eI, rfl⟩
        refine Vg rfl (cB K) (aJ rfl (aM hST.has Mh [(.int .i64 ((x.1).Op)), (.int .i64 ((x.1).K)), (.string (((x.1).Role).Owner)), (.string (((x.1).Role).Word)), (.slice c7 ((x.1).Kids).length d0)] rfl Tryz.isAgg113 Tryz.sizeOf113)) (bS Y fun u0 l9 Y => oO rfl (cB K) (Eg hST Tryz.call107 ((mB x.1 (.slice c7 ((x.1).Kids).length d0) _ _ (g3.mono aV.mono hST.sub_hp) l9)) (fun t2 hST => Vg rfl (cB K) (fV rfl) (V (bX (cB K) rfl) ?_))))
        cases Y
        exact e7 _ _ ⟨_, (hST.sel (Db St)), d7, d8, eN, eI, rfl⟩
      rintro E W ⟨c5, f0, ⟨eI, eN⟩, U, hST, d7, d8, M⟩
      rw [List.drop_length] at M
      rw [gE] at M
      refine aH ?_
      cases M
      exact ⟨_, rfl, c5, _, U, (hST.sel (Db St))⟩
    rintro ⟨⟩ E W ⟨f7, h0, p7, hST⟩ l1
    refine aD (aA (V (aG rfl) (aF (aH (aU ?_)))))
    have hx := sj l1; subst hx
    exact rP hST
  refine bC G (fun y G => ?_) (fun y G => ?_)
  · refine Vn rfl (cB y) (Vn rfl (cB y) (Vn rfl (cB y) (Vn rfl (cB y) (Vn rfl (cB y) (Vn rfl (cB y) (V (bU (cB y) rfl) ?_))))))
    cases G
    exact c6 _ _ ⟨_, (hST.sel St), rfl, rfl, rfl, rfl⟩
  refine Vg rfl (cB y) (aC rfl) (bS G fun r6 i7 G => oO rfl (cB y) (Eg hST Tryz.call21 (bO.weak (tw T a1 _ _ (d9.mono (Pl.mono _) hST.sub_hp) i7)) (fun q9 hST => Vg rfl (cB y) (aC rfl) (bS G fun r8 i8 G => oO rfl (cB y) (Eg hST Tryz.call21 (bO.weak (tw c3 a2 _ _ (h7.mono (Pl.mono _) hST.sub_hp) i8)) (fun r0 hST => Vg rfl (cB y) (aQ rfl rfl rfl) (Vg rfl (cB y) (aQ rfl rfl rfl) (V (bX (cB y) rfl) ?_))))))))
  cases G
  exact c6 _ _ ⟨_, (hST.sel St), rfl, rfl, rfl, rfl⟩
end Go.Proofs.YtmlncblocfcmiaaGreat
