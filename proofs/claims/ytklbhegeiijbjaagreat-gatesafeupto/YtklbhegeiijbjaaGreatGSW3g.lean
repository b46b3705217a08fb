/- a part of a proof of GateSafe -/
import Derived.Test.YtklbhegeiijbjaaGreatGSW2g
set_option linter.all false
namespace Go.Proofs.YtklbhegeiijbjaaGreat
open Go.IntKind renaming wrap → wi0
open Go.Proofs.Tryz renaming prog → pg0
open Go.RowKit
set_option maxRecDepth 10000
open Tryz
set_option maxHeartbeats 1000000 in
theorem IP (r : Bool) (w : World) (hm : vd  = some r) :
  lV false pg0 14 [] w (.bool r) := by
 have d := ST.start (dd := false) w
 unfold vd at hm
 refine cF 148 func14 rfl (lH (lG (V (ny rfl) (me (lD (lH (lG (VE (mh (qs := #[(0, (.int .u8 107))]) (cs := [(.int .u8 107)].toArray) d (om rfl) (tY [(.int .u8 107)] bR jw jR (by decide) rfl (by intro v F; simp only [aM, cH, eY] at F; rcases F with rfl <;> rfl) rfl rfl) (fun W2 b1 d => ?_))))))))))
 have gz : Fr w.heap.size (.slice (some ⟨b1, 0, none⟩) 1 1) := Fr.box d Mh
 refine VE (Jf (l := [107]) d bR fL rfl rfl rfl (by decide) (fun W3 hC d fa hB cz => V (nT (qs := #[(0, (.string K1)), (1, (.slice (some ⟨b1, 0, none⟩) 1 1))]) (v := (.agg (Ls b1).toArray)) (sQ rfl rfl) (nq kO je (SY _ je) (by kernel_rfl))) (VE (mh (qs := #[(0, (.agg (Ls b1).toArray))]) (cs := (Ls b1).toArray) d (om rfl) (tY [(.agg (Ls b1).toArray)] jx jy kO (by decide) rfl (by intro v F; simp only [aM, cH, eY] at F; rcases F with rfl <;> rfl) rfl rfl) (fun gb b9 d => ?_)))))
 have ey : Fr w.heap.size (.slice (some ⟨b9, 0, none⟩) 1 1) := Fr.box d Mh
 obtain ⟨hn, d, du, eR, cq⟩ := ST.xi (B := [(b9, Obj.cells ((Ls b1).toArray : Array Value) 118 (0, 0))]) H0 d (mO.lit H0 (l := [(⟨K1, [107]⟩ : Key)]) (.cons (ys := Ls b1) (vV.mk ⟨(.slice (some ⟨b1, 0, none⟩) 1 1), rfl, cz⟩) .nil) rfl nb rfl)
 refine bS hm fun y8 cm hm => ?_
 have P := d.size
 refine VE (IA d (bH _) call15 (fun hH hN s aE => nm.ng (HG (.slice (some ⟨b9, 0, none⟩) 1 1) ([(⟨K1, [107]⟩ : Key)]) _ _ ⟨hH, hN, s⟩ (cq.mono H0.mono (lP.refl _)) cm)) (fun gd ha ho fx d dv eT ci => ?_) (L0 := []))
 obtain ⟨y9, j7, rfl, k1⟩ := ci
 replace j7 := j7.symm; subst j7
 replace d := d.perm Tn
 refine V (lz rfl) (V (og rfl rfl) (V (og rfl rfl) (V (ny rfl) (V (ny rfl) (me (lD (lH (lG (V (nT (qs := #[(0, (.string K1)), (1, (.string K4))]) (v := (.agg (lu K9).toArray)) (sQ rfl rfl) (nq eG dO (Mu _ dO) (by kernel_rfl))) (V (nT (qs := #[(0, (.int .i64 1)), (1, (.agg (lu K9).toArray)), (2, (.string K3))]) (v := (.agg (li tm).toArray)) (Fb rfl rfl rfl) (nq cM dP (Pe _ dP) (by kernel_rfl))) (VE (ml d cM (fun ge M d => VO (lL (.agg (li tm).toArray) ((li tm).toArray) d rfl rfl aH (oQ tm) nb rfl (fun gf d => me (lD ?_))))))))))))))))
 refine lH (lG (V (nT (qs := #[(0, (.string K1)), (1, (.string K2))]) (v := (.agg (lu K7).toArray)) (sQ rfl rfl) (nq eG dO (Mu _ dO) (by kernel_rfl))) (V (nT (qs := #[(0, (.int .i64 1)), (1, (.agg (lu K7).toArray)), (2, (.string K5))]) (v := (.agg (li zg).toArray)) (Fb rfl rfl rfl) (nq cM dP (Pe _ dP) (by kernel_rfl))) (VE (ml d cM (fun gg K d => VO (lL (.agg (li zg).toArray) ((li zg).toArray) d rfl rfl aH (oQ zg) nb rfl (fun gh d => me (lD (lH (lG (V (lz rfl) (V (lq rfl (lB d.has (Mt Mh) (li tm) rfl bP aH)) (bS hm fun a cn hm => ?_))))))))))))))
 have P := d.size
 refine VE (IA d (bH _) call53 (fun hH hN s aE => nm.ng (zO y9 y8.1 tm _ _ ⟨hH, hN, s⟩ (k1.mono ub (lP.refl _)) cn)) (fun gi hb hr fy d m3 gR cj => ?_) (L0 := []))
 obtain ⟨he, j8, rfl, k2⟩ := cj
 replace j8 := j8.symm; subst j8
 replace d := d.perm Tn
 refine V (lz rfl) (V (og rfl rfl) (V (og rfl rfl) (VE (ml d dG (fun gj Y d => ?_)))))
 obtain ⟨G, H, rfl⟩ := k2.form
 refine VO (lL (.agg #[(.int .i64 (((a.1).lf).Kind)), (.string ((((a.1).lf).Head).lh)), (.string ((((a.1).lf).Head).lp)), (.string (((a.1).lf).lM)), (.string ((((a.1).lf).B).lh)), (.string ((((a.1).lf).B).lp)), (.string ((((a.1).lf).C).lh)), (.string ((((a.1).lf).C).lp)), (.string (((a.1).lf).lN)), (.slice G ((a.1).Tag).length H)]) (#[(.int .i64 (((a.1).lf).Kind)), (.string ((((a.1).lf).Head).lh)), (.string ((((a.1).lf).Head).lp)), (.string (((a.1).lf).lM)), (.string ((((a.1).lf).B).lh)), (.string ((((a.1).lf).B).lp)), (.string ((((a.1).lf).C).lh)), (.string ((((a.1).lf).C).lp)), (.string (((a.1).lf).lN)), (.slice G ((a.1).Tag).length H)]) d rfl rfl cT (by simp [Value.cells, Value.oneCell']) nb rfl (fun gl d => V (ny rfl) (me (lD (lH (lG (V (lz rfl) (V (lq rfl (lB d.has (Mt Mh) (li zg) rfl bP aH)) (bS hm fun c co hm => ?_)))))))))
 have P := d.size
 refine VE (IA d (bH _) call53 (fun hH hN s aE => nm.ng (zO y9 y8.1 zg _ _ ⟨hH, hN, s⟩ (k1.mono ub m3) co)) (fun gn hc hs fz d h4 hy ck => ?_) (L0 := []))
 obtain ⟨hf, j9, rfl, k3⟩ := ck
 replace j9 := j9.symm; subst j9
 replace d := d.perm Tn
 refine V (lz rfl) (V (og rfl rfl) (V (og rfl rfl) (VE (ml d dG (fun go gw d => ?_)))))
 obtain ⟨L, O, rfl⟩ := k3.form
 refine VO (lL (.agg #[(.int .i64 (((c.1).lf).Kind)), (.string ((((c.1).lf).Head).lh)), (.string ((((c.1).lf).Head).lp)), (.string (((c.1).lf).lM)), (.string ((((c.1).lf).B).lh)), (.string ((((c.1).lf).B).lp)), (.string ((((c.1).lf).C).lh)), (.string ((((c.1).lf).C).lp)), (.string (((c.1).lf).lN)), (.slice L ((c.1).Tag).length O)]) (#[(.int .i64 (((c.1).lf).Kind)), (.string ((((c.1).lf).Head).lh)), (.string ((((c.1).lf).Head).lp)), (.string (((c.1).lf).lM)), (.string ((((c.1).lf).B).lh)), (.string ((((c.1).lf).B).lp)), (.string ((((c.1).lf).C).lh)), (.string ((((c.1).lf).C).lp)), (.string (((c.1).lf).lN)), (.slice L ((c.1).Tag).length O)]) d rfl rfl cT (by simp [Value.cells, Value.oneCell']) nb rfl (fun gq d => V (ny rfl) (me (lD (lH (lG (V (lq rfl (lB d.has (Mt Mh) [(.int .i64 (((a.1).lf).Kind)), (.string ((((a.1).lf).Head).lh)), (.string ((((a.1).lf).Head).lp)), (.string (((a.1).lf).lM)), (.string ((((a.1).lf).B).lh)), (.string ((((a.1).lf).B).lp)), (.string ((((a.1).lf).C).lh)), (.string ((((a.1).lf).C).lp)), (.string (((a.1).lf).lN)), (.slice G ((a.1).Tag).length H)] rfl ib cT)) (V (lA uM rfl) (V (lq rfl (lB d.has (Mt (Mt Mh)) (lu K7) rfl bO aN)) (V (nT (qs := #[(0, (.int .i64 1)), (2, (.agg (lu K7).toArray))]) (v := (.agg #[(.int .i64 1), (.int .i64 0), (.string (K7.lh)), (.string (K7.lp)), (.slice none 0 0)])) (sQ rfl rfl) (nq bI cK (BI _ cK) (by kernel_rfl))) (V (nT (qs := #[(0, (.agg #[(.int .i64 (((a.1).lf).Kind)), (.string ((((a.1).lf).Head).lh)), (.string ((((a.1).lf).Head).lp)), (.string (((a.1).lf).lM)), (.string ((((a.1).lf).B).lh)), (.string ((((a.1).lf).B).lp)), (.string ((((a.1).lf).C).lh)), (.string ((((a.1).lf).C).lp)), (.string (((a.1).lf).lN)), (.slice G ((a.1).Tag).length H)])), (1, (.agg #[(.int .i64 1), (.int .i64 0), (.string (K7.lh)), (.string (K7.lp)), (.slice none 0 0)]))]) (v := (.agg #[(.int .i64 (((a.1).lf).Kind)), (.string ((((a.1).lf).Head).lh)), (.string ((((a.1).lf).Head).lp)), (.string (((a.1).lf).lM)), (.string ((((a.1).lf).B).lh)), (.string ((((a.1).lf).B).lp)), (.string ((((a.1).lf).C).lh)), (.string ((((a.1).lf).C).lp)), (.string (((a.1).lf).lN)), (.slice G ((a.1).Tag).length H), (.int .i64 1), (.int .i64 0), (.string (K7.lh)), (.string (K7.lp)), (.slice none 0 0)])) (sQ rfl rfl) (nq gx ir (RH _ ir) (by kernel_rfl))) (VE (mh (qs := #[(0, (.agg #[(.int .i64 (((a.1).lf).Kind)), (.string ((((a.1).lf).Head).lh)), (.string ((((a.1).lf).Head).lp)), (.string (((a.1).lf).lM)), (.string ((((a.1).lf).B).lh)), (.string ((((a.1).lf).B).lp)), (.string ((((a.1).lf).C).lh)), (.string ((((a.1).lf).C).lp)), (.string (((a.1).lf).lN)), (.slice G ((a.1).Tag).length H), (.int .i64 1), (.int .i64 0), (.string (K7.lh)), (.string (K7.lp)), (.slice none 0 0)]))]) (cs := #[(.int .i64 (((a.1).lf).Kind)), (.string ((((a.1).lf).Head).lh)), (.string ((((a.1).lf).Head).lp)), (.string (((a.1).lf).lM)), (.string ((((a.1).lf).B).lh)), (.string ((((a.1).lf).B).lp)), (.string ((((a.1).lf).C).lh)), (.string ((((a.1).lf).C).lp)), (.string (((a.1).lf).lN)), (.slice G ((a.1).Tag).length H), (.int .i64 1), (.int .i64 0), (.string (K7.lh)), (.string (K7.lp)), (.slice none 0 0)]) d (om rfl) (tY [(.agg #[(.int .i64 (((a.1).lf).Kind)), (.string ((((a.1).lf).Head).lh)), (.string ((((a.1).lf).Head).lp)), (.string (((a.1).lf).lM)), (.string ((((a.1).lf).B).lh)), (.string ((((a.1).lf).B).lp)), (.string ((((a.1).lf).C).lh)), (.string ((((a.1).lf).C).lp)), (.string (((a.1).lf).lN)), (.slice G ((a.1).Tag).length H), (.int .i64 1), (.int .i64 0), (.string (K7.lh)), (.string (K7.lp)), (.slice none 0 0)])] dV dW gx (by decide) rfl (by intro v F; simp only [aM, cH, eY] at F; rcases F with rfl <;> rfl) rfl rfl) (fun gr e5 d => V (nT (qs := #[(0, (.string K3)), (1, (.slice (some ⟨e5, 0, none⟩) 1 1))]) (v := (.agg (PC e5).toArray)) (sQ rfl rfl) (nq zeroValue25 iW (TR _ iW) (by kernel_rfl))) (VE (ml d zeroValue25 (fun gs gy d => VO (lL (.agg (PC e5).toArray) ((PC e5).toArray) d rfl rfl fD (by simp [Value.cells, Value.oneCell']) nb rfl (fun gt d => ?_)))))))))))))))))))
 refine me (lD (lH (lG (V (lq rfl (lB d.has Mh (PC e5) rfl gA fD)) ?_))))
 replace d := d.perm (Nb (Pb Pz) Nz)
 have ez : Fr w.heap.size (.slice (some ⟨e5, 0, none⟩) 1 1) := Fr.box d Mh
 obtain ⟨ht, d, e6, hz, cr⟩ := ST.xi (B := [(e5, Obj.cells (#[(.int .i64 (((a.1).lf).Kind)), (.string ((((a.1).lf).Head).lh)), (.string ((((a.1).lf).Head).lp)), (.string (((a.1).lf).lM)), (.string ((((a.1).lf).B).lh)), (.string ((((a.1).lf).B).lp)), (.string ((((a.1).lf).C).lh)), (.string ((((a.1).lf).C).lp)), (.string (((a.1).lf).lN)), (.slice G ((a.1).Tag).length H), (.int .i64 1), (.int .i64 0), (.string (K7.lh)), (.string (K7.lp)), (.slice none 0 0)] : Array Value) 60 (0, 0))]) mI d (mO.lit mI (l := [(⟨a.1, (⟨1, 0, K7, []⟩ : Formula)⟩ : mg)]) (.cons (ys := [(.int .i64 (((a.1).lf).Kind)), (.string ((((a.1).lf).Head).lh)), (.string ((((a.1).lf).Head).lp)), (.string (((a.1).lf).lM)), (.string ((((a.1).lf).B).lh)), (.string ((((a.1).lf).B).lp)), (.string ((((a.1).lf).C).lh)), (.string ((((a.1).lf).C).lp)), (.string (((a.1).lf).lN)), (.slice G ((a.1).Tag).length H), (.int .i64 1), (.int .i64 0), (.string (K7.lh)), (.string (K7.lp)), (.slice none 0 0)]) (mn.mk ⟨(.slice G ((a.1).Tag).length H), (.slice none 0 0), rfl, (k2.mono (Pl.mono _) h4), (Sl.nil _ _ _)⟩) .nil) rfl nb rfl)
 refine bS hm fun k cp hm => ?_
 have P := d.size
 refine VE (IA d (bH _) call54 (fun hH hN s aE => (JL (⟨K3, [(⟨a.1, (⟨1, 0, K7, []⟩ : Formula)⟩ : mg)], []⟩ : lm) (.slice (some ⟨e5, 0, none⟩) 1 1) (.slice none 0 0) K5 1 _ _ ⟨hH, hN, s⟩ (cr.mono mI.mono (lP.refl _)) (Sl.nil _ _ _) cp)) (fun gu hd hu ga d e7 hA cl => ?_) (L0 := []))
 obtain ⟨hg, hh, hi, hj, hk, hl, k0, rfl, y2, y3, y4, y5, y6, y7⟩ := cl
 replace k0 := k0.symm; subst k0
 replace d := d.perm Tn
 refine V (lz rfl) (V (og rfl rfl) (V (og rfl rfl) (VE (ml d la (fun en j d => ?_)))))
 obtain ⟨i0, i7, rfl⟩ := y2.form
 obtain ⟨i1, i8, rfl⟩ := y3.form
 obtain ⟨i2, i9, rfl⟩ := y4.form
 obtain ⟨i3, j0, rfl⟩ := y5.form
 obtain ⟨i4, j3, rfl⟩ := y6.form
 obtain ⟨i5, j4, rfl⟩ := y7.form
 refine VO (lL (.agg #[(.string (((k.1).lm).Name)), (.slice i0 (((k.1).lm).lJ).length i7), (.slice i1 (((k.1).lm).mf).length i8), (.string ((k.1).mx)), (.int .i64 ((k.1).Room)), (.slice i2 ((k.1).lE).length i9), (.slice i3 ((k.1).Shown).length j0), (.slice i4 ((k.1).lT).length j3), (.slice i5 ((k.1).mH).length j4)]) (#[(.string (((k.1).lm).Name)), (.slice i0 (((k.1).lm).lJ).length i7), (.slice i1 (((k.1).lm).mf).length i8), (.string ((k.1).mx)), (.int .i64 ((k.1).Room)), (.slice i2 ((k.1).lE).length i9), (.slice i3 ((k.1).Shown).length j0), (.slice i4 ((k.1).lT).length j3), (.slice i5 ((k.1).mH).length j4)]) d rfl rfl fM (by simp [Value.cells, Value.oneCell']) nb rfl (fun eo d => V (ny rfl) (me (lD ?_))))
 replace d := d.ll (Kb (Db St))
 refine lH (lG (V (lq rfl (lB d.has (Mt (Mt (Mt (Mt Mh)))) (li tm) rfl bP aH)) (VE (mh (qs := #[(0, (.agg (li tm).toArray))]) (cs := (li tm).toArray) d (om rfl) (tY [(.agg (li tm).toArray)] aG aH cM (by decide) rfl (by intro v F; simp only [aM, cH, eY] at F; rcases F with rfl <;> rfl) rfl rfl) (fun ep g9 d => ?_)))))
 have dr : Fr w.heap.size (.slice (some ⟨g9, 0, none⟩) 1 1) := Fr.box d Mh
 obtain ⟨fq, d, Z, eB, ar⟩ := ST.EJ (R := [(g9, Obj.cells ((li tm).toArray : Array Value) 52 (0, 0))]) d (lR.lit (l := [tm]) (enc := li) (b := g9) (m := 1) rfl (by decide) rfl rfl) mN
 refine bS hm fun c0 an hm => ?_
 have P := d.size
 refine VE (IA d (Cb Pz Cn) call22 (fun hH hN s aE => (yT j (⟨(⟨((k.1).lm).Name, ((k.1).lm).lJ, ((k.1).lm).mf⟩ : lm), (k.1).mx, (k.1).Room, (k.1).lE, (k.1).Shown, (k.1).lT, (k.1).mH⟩ : mY) (.slice i0 (((k.1).lm).lJ).length i7) (.slice i1 (((k.1).lm).mf).length i8) (.slice i2 ((k.1).lE).length i9) (.slice i3 ((k.1).Shown).length j0) (.slice i4 ((k.1).lT).length j3) (.slice i5 ((k.1).mH).length j4) (.slice (some ⟨g9, 0, none⟩) 1 1) ([tm]) _ _ ⟨hH, hN, s⟩ (y2.mono mI.mono Z) (y3.mono nY.mono Z) (y4.mono (Pl.mono _) Z) (y5.mono (Pl.mono _) Z) (y6.mono (Pl.mono _) Z) (y7.mono (Pl.mono _) Z) (ar.mono (Pl.mono _) (lP.refl _)) an)) (fun er fc fs ek d d8 eE aa => ?_))
 obtain ⟨fp, ct, cu, cv, cw, cx, cy, h5, rfl, dw, aw, ay, az, ba, bc, bd⟩ := aa
 replace h5 := h5.symm; subst h5
 replace d := d.perm (Tb Tn)
 refine V (lz rfl) (V (og rfl rfl) (V (og rfl rfl) (V (ny rfl) (V (ny rfl) (me (lD (lH (lG (V (lz rfl) (V (lq rfl (lB d.has (Mt Mh) [(.int .i64 (((c.1).lf).Kind)), (.string ((((c.1).lf).Head).lh)), (.string ((((c.1).lf).Head).lp)), (.string (((c.1).lf).lM)), (.string ((((c.1).lf).B).lh)), (.string ((((c.1).lf).B).lp)), (.string ((((c.1).lf).C).lh)), (.string ((((c.1).lf).C).lp)), (.string (((c.1).lf).lN)), (.slice L ((c.1).Tag).length O)] rfl ib cT)) (V (lq rfl (lB d.has (Mt Mh) [(.int .i64 (((c.1).lf).Kind)), (.string ((((c.1).lf).Head).lh)), (.string ((((c.1).lf).Head).lp)), (.string (((c.1).lf).lM)), (.string ((((c.1).lf).B).lh)), (.string ((((c.1).lf).B).lp)), (.string ((((c.1).lf).C).lh)), (.string ((((c.1).lf).C).lp)), (.string (((c.1).lf).lN)), (.slice L ((c.1).Tag).length O)] rfl ib cT)) (VE (mh (qs := #[(0, (.agg #[(.int .i64 (((c.1).lf).Kind)), (.string ((((c.1).lf).Head).lh)), (.string ((((c.1).lf).Head).lp)), (.string (((c.1).lf).lM)), (.string ((((c.1).lf).B).lh)), (.string ((((c.1).lf).B).lp)), (.string ((((c.1).lf).C).lh)), (.string ((((c.1).lf).C).lp)), (.string (((c.1).lf).lN)), (.slice L ((c.1).Tag).length O)])), (1, (.agg #[(.int .i64 (((c.1).lf).Kind)), (.string ((((c.1).lf).Head).lh)), (.string ((((c.1).lf).Head).lp)), (.string (((c.1).lf).lM)), (.string ((((c.1).lf).B).lh)), (.string ((((c.1).lf).B).lp)), (.string ((((c.1).lf).C).lh)), (.string ((((c.1).lf).C).lp)), (.string (((c.1).lf).lN)), (.slice L ((c.1).Tag).length O)]))]) (cs := #[(.int .i64 (((c.1).lf).Kind)), (.string ((((c.1).lf).Head).lh)), (.string ((((c.1).lf).Head).lp)), (.string (((c.1).lf).lM)), (.string ((((c.1).lf).B).lh)), (.string ((((c.1).lf).B).lp)), (.string ((((c.1).lf).C).lh)), (.string ((((c.1).lf).C).lp)), (.string (((c.1).lf).lN)), (.slice L ((c.1).Tag).length O), (.int .i64 (((c.1).lf).Kind)), (.string ((((c.1).lf).Head).lh)), (.string ((((c.1).lf).Head).lp)), (.string (((c.1).lf).lM)), (.string ((((c.1).lf).B).lh)), (.string ((((c.1).lf).B).lp)), (.string ((((c.1).lf).C).lh)), (.string ((((c.1).lf).C).lp)), (.string (((c.1).lf).lN)), (.slice L ((c.1).Tag).length O)]) d (sQ rfl rfl) (tY [(.agg #[(.int .i64 (((c.1).lf).Kind)), (.string ((((c.1).lf).Head).lh)), (.string ((((c.1).lf).Head).lp)), (.string (((c.1).lf).lM)), (.string ((((c.1).lf).B).lh)), (.string ((((c.1).lf).B).lp)), (.string ((((c.1).lf).C).lh)), (.string ((((c.1).lf).C).lp)), (.string (((c.1).lf).lN)), (.slice L ((c.1).Tag).length O)]), (.agg #[(.int .i64 (((c.1).lf).Kind)), (.string ((((c.1).lf).Head).lh)), (.string ((((c.1).lf).Head).lp)), (.string (((c.1).lf).lM)), (.string ((((c.1).lf).B).lh)), (.string ((((c.1).lf).B).lp)), (.string ((((c.1).lf).C).lh)), (.string ((((c.1).lf).C).lp)), (.string (((c.1).lf).lN)), (.slice L ((c.1).Tag).length O)])] eV cT dG (by decide) rfl (by intro v F; simp only [aM, cH, eY] at F; rcases F with rfl | rfl <;> rfl) rfl rfl) (fun es i6 d => ?_))))))))))))))
 have ds : Fr w.heap.size (.slice (some ⟨i6, 0, none⟩) 2 2) := Fr.box d Mh
 obtain ⟨ft, d, a5, eF, au⟩ := ST.xi (B := [(i6, Obj.cells (#[(.int .i64 (((c.1).lf).Kind)), (.string ((((c.1).lf).Head).lh)), (.string ((((c.1).lf).Head).lp)), (.string (((c.1).lf).lM)), (.string ((((c.1).lf).B).lh)), (.string ((((c.1).lf).B).lp)), (.string ((((c.1).lf).C).lh)), (.string ((((c.1).lf).C).lp)), (.string (((c.1).lf).lN)), (.slice L ((c.1).Tag).length O), (.int .i64 (((c.1).lf).Kind)), (.string ((((c.1).lf).Head).lh)), (.string ((((c.1).lf).Head).lp)), (.string (((c.1).lf).lM)), (.string ((((c.1).lf).B).lh)), (.string ((((c.1).lf).B).lp)), (.string ((((c.1).lf).C).lh)), (.string ((((c.1).lf).C).lp)), (.string (((c.1).lf).lN)), (.slice L ((c.1).Tag).length O)] : Array Value) 55 (0, 0))]) qn d (mO.lit qn (l := [(⟨(c.1).lf, (c.1).Tag⟩ : Signed), (⟨(c.1).lf, (c.1).Tag⟩ : Signed)]) (.cons (ys := [(.int .i64 (((c.1).lf).Kind)), (.string ((((c.1).lf).Head).lh)), (.string ((((c.1).lf).Head).lp)), (.string (((c.1).lf).lM)), (.string ((((c.1).lf).B).lh)), (.string ((((c.1).lf).B).lp)), (.string ((((c.1).lf).C).lh)), (.string ((((c.1).lf).C).lp)), (.string (((c.1).lf).lN)), (.slice L ((c.1).Tag).length O)]) (oq.mk ⟨(.slice L ((c.1).Tag).length O), rfl, (k3.mono (Pl.mono _) (((e6.trans e7).trans Z).trans d8))⟩) (.cons (ys := [(.int .i64 (((c.1).lf).Kind)), (.string ((((c.1).lf).Head).lh)), (.string ((((c.1).lf).Head).lp)), (.string (((c.1).lf).lM)), (.string ((((c.1).lf).B).lh)), (.string ((((c.1).lf).B).lp)), (.string ((((c.1).lf).C).lh)), (.string ((((c.1).lf).C).lp)), (.string (((c.1).lf).lN)), (.slice L ((c.1).Tag).length O)]) (oq.mk ⟨(.slice L ((c.1).Tag).length O), rfl, (k3.mono (Pl.mono _) (((e6.trans e7).trans Z).trans d8))⟩) .nil)) rfl nb rfl)
 refine bS hm fun J ao hm => ?_
 have P := d.size
 refine VE (IA d (Cb Pz Cn) call20 (fun hH hN s aE => (Eb j (⟨(⟨((c0.2.2).lm).Name, ((c0.2.2).lm).lJ, ((c0.2.2).lm).mf⟩ : lm), (c0.2.2).mx, (c0.2.2).Room, (c0.2.2).lE, (c0.2.2).Shown, (c0.2.2).lT, (c0.2.2).mH⟩ : mY) ct cu cv cw cx cy y9 y8.1 (.slice (some ⟨i6, 0, none⟩) 2 2) ([(⟨(c.1).lf, (c.1).Tag⟩ : Signed), (⟨(c.1).lf, (c.1).Tag⟩ : Signed)]) _ _ ⟨hH, hN, s⟩ (aw.mono mI.mono a5) (ay.mono nY.mono a5) (az.mono (Pl.mono _) a5) (ba.mono (Pl.mono _) a5) (bc.mono (Pl.mono _) a5) (bd.mono (Pl.mono _) a5) (k1.mono ub ((((((m3.trans h4).trans e6).trans e7).trans Z).trans d8).trans a5)) (au.mono qn.mono (lP.refl _)) ao)) (fun et fd fu el d w1 eI ab => ?_))
 obtain ⟨k4, k5, k6, k7, k8, k9, h6, rfl, m4, m5, m6, m7, m8, m9⟩ := ab
 replace h6 := h6.symm; subst h6
 replace d := d.perm (Tb Tn)
 refine V (lz rfl) (V (og rfl rfl) (V (og rfl rfl) (V (ny rfl) (V (ny rfl) (me (lD ?_))))))
 replace d := d.ll (Kb (Db St))
 refine lH (lG (V (lq rfl (lB d.has Mh [(.string (((J.2.2).lm).Name)), k4, k5, (.string ((J.2.2).mx)), (.int .i64 ((J.2.2).Room)), k6, k7, k8, k9] rfl ic fM)) (bS hm fun fb ap hm => VE (tW d call55 (FK J.2.2 k4 k5 k6 k7 k8 k9 _ _ (m4.mono mI.mono d.lx) (m5.mono nY.mono d.lx) (m6.mono (Pl.mono _) d.lx) (m7.mono (Pl.mono _) d.lx) (m8.mono (Pl.mono _) d.lx) (m9.mono (Pl.mono _) d.lx) ap) (fun eu f0 fv e8 d b3 eL ad => V (ny rfl) (me (lD (lH (lG (V (lq rfl (lB d.has (Ma (Mt (Mt (Mt Mh)))) (li tm) rfl bP aH)) (VE (mh (qs := #[(0, (.agg (li tm).toArray))]) (cs := (li tm).toArray) d (om rfl) (tY [(.agg (li tm).toArray)] aG aH cM (by decide) rfl (by intro v F; simp only [aM, cH, eY] at F; rcases F with rfl <;> rfl) rfl rfl) (fun ev h0 d => ?_)))))))))))))
 have dt : Fr w.heap.size (.slice (some ⟨h0, 0, none⟩) 1 1) := Fr.box d Mh
 obtain ⟨fw, d, b4, eN, av⟩ := ST.EJ (R := [(h0, Obj.cells ((li tm).toArray : Array Value) 52 (0, 0))]) d (lR.lit (l := [tm]) (enc := li) (b := h0) (m := 1) rfl (by decide) rfl rfl) mN
 refine bS hm fun g aq hm => ?_
 have P := d.size
 refine VE (IA d (Cb (Pr Pz) Cn) call22 (fun hH hN s aE => (yT j (⟨(⟨((J.2.2).lm).Name, ((J.2.2).lm).lJ, ((J.2.2).lm).mf⟩ : lm), (J.2.2).mx, (J.2.2).Room, (J.2.2).lE, (J.2.2).Shown, (J.2.2).lT, (J.2.2).mH⟩ : mY) k4 k5 k6 k7 k8 k9 (.slice (some ⟨h0, 0, none⟩) 1 1) ([tm]) _ _ ⟨hH, hN, s⟩ (m4.mono mI.mono (b3.trans b4)) (m5.mono nY.mono (b3.trans b4)) (m6.mono (Pl.mono _) (b3.trans b4)) (m7.mono (Pl.mono _) (b3.trans b4)) (m8.mono (Pl.mono _) (b3.trans b4)) (m9.mono (Pl.mono _) (b3.trans b4)) (av.mono (Pl.mono _) (lP.refl _)) aq)) (fun ew fe a4 em d w2 eO ac => ?_))
 obtain ⟨d6, t, u, x, y, z, D, h7, rfl, n0, d9, e0, e1, d7, e2, e3⟩ := ac
 replace h7 := h7.symm; subst h7
 replace d := d.perm (Tb Tn)
 refine V (lz rfl) (V (og rfl rfl) (V (og rfl rfl) (V (ny rfl) (V (ny rfl) (me (lD (lH ?_)))))))
 replace d := d.drew
 have n := d.has.ll (Kb (Dr (Kb (Kb (Kb Sn)))))
 refine mw n lY (X 0 rfl n (lz rfl) (X 1 rfl n (mz rfl rfl rfl) (X 2 rfl n (lz rfl) (PJ hm (fun o4 E W => ∃  (o7 : List (Nat × Obj)), ST false mR w W a4 ((j, Obj.cells (#[(.string (((g.2.2).lm).Name)), t, u, (.string ((g.2.2).mx)), (.int .i64 ((g.2.2).Room)), x, y, z, D] : Array Value) 36 (0, 0)) :: ((Y, Obj.cells (#[(.int .i64 (((a.1).lf).Kind)), (.string ((((a.1).lf).Head).lh)), (.string ((((a.1).lf).Head).lp)), (.string (((a.1).lf).lM)), (.string ((((a.1).lf).B).lh)), (.string ((((a.1).lf).B).lp)), (.string ((((a.1).lf).C).lh)), (.string ((((a.1).lf).C).lp)), (.string (((a.1).lf).lN)), (.slice G ((a.1).Tag).length H)] : Array Value) 55 (0, 0)) :: ((K, Obj.cells ((li zg).toArray : Array Value) 52 (0, 0)) :: ((M, Obj.cells ((li tm).toArray : Array Value) 52 (0, 0)) :: (e8 ++ o7))))) ∧ E 0 = (.bool false) ∧ E 3 = (.pointer (some ⟨M, 0, none⟩)) ∧ E 4 = (.pointer (some ⟨K, 0, none⟩)) ∧ E 5 = (.pointer (some ⟨Y, 0, none⟩)) ∧ E 10 = (.pointer (some ⟨j, 0, none⟩)) ∧ E 11 = (.int .i64 k.2) ∧ E 13 = (.int .i64 c0.2.1) ∧ E 14 = (.int .i64 J.1) ∧ E 15 = (.int .i64 J.2.1) ∧ E 16 = f0 ∧ E 17 = d6 ∧ E 18 = (.int .i64 g.2.1) ∧ E 82 = (.bool o4)) (bm 72 63) 66 ?_ (fun o4 d5 g7 => ?_)))))
 ·rintro ff E W ⟨o7, d, p6, p7, p8, p9, q0, bp, q1, q2, q3, q4, q5, q6, bq⟩ ae
  have n := d.has.ll (Kb (Kb (Kb (Kb Sn))))
  refine X 6 rfl n (lz bq) (PJ ae (fun o3 E W => ∃  (o8 : List (Nat × Obj)), ST false mR w W a4 ((j, Obj.cells (#[(.string (((g.2.2).lm).Name)), t, u, (.string ((g.2.2).mx)), (.int .i64 ((g.2.2).Room)), x, y, z, D] : Array Value) 36 (0, 0)) :: ((Y, Obj.cells (#[(.int .i64 (((a.1).lf).Kind)), (.string ((((a.1).lf).Head).lh)), (.string ((((a.1).lf).Head).lp)), (.string (((a.1).lf).lM)), (.string ((((a.1).lf).B).lh)), (.string ((((a.1).lf).B).lp)), (.string ((((a.1).lf).C).lh)), (.string ((((a.1).lf).C).lp)), (.string (((a.1).lf).lN)), (.slice G ((a.1).Tag).length H)] : Array Value) 55 (0, 0)) :: ((K, Obj.cells ((li zg).toArray : Array Value) 52 (0, 0)) :: ((M, Obj.cells ((li tm).toArray : Array Value) 52 (0, 0)) :: (e8 ++ o8))))) ∧ E 0 = (.bool false) ∧ E 3 = (.pointer (some ⟨M, 0, none⟩)) ∧ E 4 = (.pointer (some ⟨K, 0, none⟩)) ∧ E 5 = (.pointer (some ⟨Y, 0, none⟩)) ∧ E 10 = (.pointer (some ⟨j, 0, none⟩)) ∧ E 13 = (.int .i64 c0.2.1) ∧ E 14 = (.int .i64 J.1) ∧ E 15 = (.int .i64 J.2.1) ∧ E 16 = f0 ∧ E 17 = d6 ∧ E 18 = (.int .i64 g.2.1) ∧ E 86 = (.bool o3)) (bm 72 1023) 62 ?_ (fun o3 d4 g4 => ?_))
  ·rintro fg E W ⟨o8, d, q7, q8, q9, r0, r1, bs, r2, r3, r4, r5, r6, bt⟩ af
   have n := d.has.ll (Kb (Kb (Kb (Kb Sn))))
   refine X 10 rfl n (lz bt) (PJ af (fun o2 E W => ∃  (o9 : List (Nat × Obj)), ST false mR w W a4 ((j, Obj.cells (#[(.string (((g.2.2).lm).Name)), t, u, (.string ((g.2.2).mx)), (.int .i64 ((g.2.2).Room)), x, y, z, D] : Array Value) 36 (0, 0)) :: ((Y, Obj.cells (#[(.int .i64 (((a.1).lf).Kind)), (.string ((((a.1).lf).Head).lh)), (.string ((((a.1).lf).Head).lp)), (.string (((a.1).lf).lM)), (.string ((((a.1).lf).B).lh)), (.string ((((a.1).lf).B).lp)), (.string ((((a.1).lf).C).lh)), (.string ((((a.1).lf).C).lp)), (.string (((a.1).lf).lN)), (.slice G ((a.1).Tag).length H)] : Array Value) 55 (0, 0)) :: ((K, Obj.cells ((li zg).toArray : Array Value) 52 (0, 0)) :: ((M, Obj.cells ((li tm).toArray : Array Value) 52 (0, 0)) :: (e8 ++ o9))))) ∧ E 0 = (.bool false) ∧ E 3 = (.pointer (some ⟨M, 0, none⟩)) ∧ E 4 = (.pointer (some ⟨K, 0, none⟩)) ∧ E 5 = (.pointer (some ⟨Y, 0, none⟩)) ∧ E 10 = (.pointer (some ⟨j, 0, none⟩)) ∧ E 14 = (.int .i64 J.1) ∧ E 15 = (.int .i64 J.2.1) ∧ E 16 = f0 ∧ E 17 = d6 ∧ E 18 = (.int .i64 g.2.1) ∧ E 90 = (.bool o2)) (bm 72 16383) 58 ?_ (fun o2 d3 g3 => ?_))
   ·rintro fh E W ⟨o9, d, r7, r8, r9, s0, s1, bu, s2, s3, s4, s5, bv⟩ ag
    have n := d.has.ll (Kb (Kb (Kb (Kb Sn))))
    refine X 14 rfl n (lz bv) (PJ ag (fun o1 E W => ∃  (p0 : List (Nat × Obj)), ST false mR w W a4 ((j, Obj.cells (#[(.string (((g.2.2).lm).Name)), t, u, (.string ((g.2.2).mx)), (.int .i64 ((g.2.2).Room)), x, y, z, D] : Array Value) 36 (0, 0)) :: ((Y, Obj.cells (#[(.int .i64 (((a.1).lf).Kind)), (.string ((((a.1).lf).Head).lh)), (.string ((((a.1).lf).Head).lp)), (.string (((a.1).lf).lM)), (.string ((((a.1).lf).B).lh)), (.string ((((a.1).lf).B).lp)), (.string ((((a.1).lf).C).lh)), (.string ((((a.1).lf).C).lp)), (.string (((a.1).lf).lN)), (.slice G ((a.1).Tag).length H)] : Array Value) 55 (0, 0)) :: ((K, Obj.cells ((li zg).toArray : Array Value) 52 (0, 0)) :: ((M, Obj.cells ((li tm).toArray : Array Value) 52 (0, 0)) :: (e8 ++ p0))))) ∧ E 0 = (.bool false) ∧ E 3 = (.pointer (some ⟨M, 0, none⟩)) ∧ E 4 = (.pointer (some ⟨K, 0, none⟩)) ∧ E 5 = (.pointer (some ⟨Y, 0, none⟩)) ∧ E 10 = (.pointer (some ⟨j, 0, none⟩)) ∧ E 15 = (.int .i64 J.2.1) ∧ E 16 = f0 ∧ E 17 = d6 ∧ E 18 = (.int .i64 g.2.1) ∧ E 94 = (.bool o1)) (bm 72 262143) 54 ?_ (fun o1 d2 g2 => ?_))
    ·rintro fi E W ⟨p0, d, s6, s7, s8, s9, t0, bw, t1, t2, t3, bx⟩ ah
     have n := d.has.ll (Kb (Kb (Kb (Kb Sn))))
     refine X 18 rfl n (lz bx) (PJ ah (fun o0 E W => ∃  (p1 : List (Nat × Obj)), ST false mR w W a4 ((j, Obj.cells (#[(.string (((g.2.2).lm).Name)), t, u, (.string ((g.2.2).mx)), (.int .i64 ((g.2.2).Room)), x, y, z, D] : Array Value) 36 (0, 0)) :: ((Y, Obj.cells (#[(.int .i64 (((a.1).lf).Kind)), (.string ((((a.1).lf).Head).lh)), (.string ((((a.1).lf).Head).lp)), (.string (((a.1).lf).lM)), (.string ((((a.1).lf).B).lh)), (.string ((((a.1).lf).B).lp)), (.string ((((a.1).lf).C).lh)), (.string ((((a.1).lf).C).lp)), (.string (((a.1).lf).lN)), (.slice G ((a.1).Tag).length H)] : Array Value) 55 (0, 0)) :: ((K, Obj.cells ((li zg).toArray : Array Value) 52 (0, 0)) :: ((M, Obj.cells ((li tm).toArray : Array Value) 52 (0, 0)) :: (e8 ++ p1))))) ∧ E 0 = (.bool false) ∧ E 3 = (.pointer (some ⟨M, 0, none⟩)) ∧ E 4 = (.pointer (some ⟨K, 0, none⟩)) ∧ E 5 = (.pointer (some ⟨Y, 0, none⟩)) ∧ E 10 = (.pointer (some ⟨j, 0, none⟩)) ∧ E 16 = f0 ∧ E 17 = d6 ∧ E 18 = (.int .i64 g.2.1) ∧ E 98 = (.bool o0)) (bm 72 4194303) 50 ?_ (fun o0 d1 g1 => ?_))
     ·rintro fj E W ⟨p1, d, t4, t5, t6, t7, t8, bz, t9, u0, ca⟩ ai
      have n := d.has.ll (Kb (Kb (Kb (Kb Sn))))
      refine X 22 rfl n (lz ca) (PJ ai (fun n9 E W => ∃  (p2 : List (Nat × Obj)), ST false mR w W a4 ((j, Obj.cells (#[(.string (((g.2.2).lm).Name)), t, u, (.string ((g.2.2).mx)), (.int .i64 ((g.2.2).Room)), x, y, z, D] : Array Value) 36 (0, 0)) :: ((Y, Obj.cells (#[(.int .i64 (((a.1).lf).Kind)), (.string ((((a.1).lf).Head).lh)), (.string ((((a.1).lf).Head).lp)), (.string (((a.1).lf).lM)), (.string ((((a.1).lf).B).lh)), (.string ((((a.1).lf).B).lp)), (.string ((((a.1).lf).C).lh)), (.string ((((a.1).lf).C).lp)), (.string (((a.1).lf).lN)), (.slice G ((a.1).Tag).length H)] : Array Value) 55 (0, 0)) :: ((K, Obj.cells ((li zg).toArray : Array Value) 52 (0, 0)) :: ((M, Obj.cells ((li tm).toArray : Array Value) 52 (0, 0)) :: p2)))) ∧ E 0 = (.bool false) ∧ E 3 = (.pointer (some ⟨M, 0, none⟩)) ∧ E 4 = (.pointer (some ⟨K, 0, none⟩)) ∧ E 5 = (.pointer (some ⟨Y, 0, none⟩)) ∧ E 10 = (.pointer (some ⟨j, 0, none⟩)) ∧ E 17 = d6 ∧ E 18 = (.int .i64 g.2.1) ∧ E 103 = (.bool n9)) (bm 72 134217727) 45 ?_ (fun n9 d0 g0 => ?_))
      ·rintro fk E W ⟨p2, d, u1, u2, u3, u4, u5, u6, cb, cc⟩ aj
       have n := d.has.ll (Kb (Kb (Kb (Kb Sn))))
       refine X 27 rfl n (lz cc) (PJ aj (fun n8 E W => ∃  (p3 : List (Nat × Obj)), ST false mR w W a4 ((j, Obj.cells (#[(.string (((g.2.2).lm).Name)), t, u, (.string ((g.2.2).mx)), (.int .i64 ((g.2.2).Room)), x, y, z, D] : Array Value) 36 (0, 0)) :: ((Y, Obj.cells (#[(.int .i64 (((a.1).lf).Kind)), (.string ((((a.1).lf).Head).lh)), (.string ((((a.1).lf).Head).lp)), (.string (((a.1).lf).lM)), (.string ((((a.1).lf).B).lh)), (.string ((((a.1).lf).B).lp)), (.string ((((a.1).lf).C).lh)), (.string ((((a.1).lf).C).lp)), (.string (((a.1).lf).lN)), (.slice G ((a.1).Tag).length H)] : Array Value) 55 (0, 0)) :: ((K, Obj.cells ((li zg).toArray : Array Value) 52 (0, 0)) :: ((M, Obj.cells ((li tm).toArray : Array Value) 52 (0, 0)) :: p3)))) ∧ E 0 = (.bool false) ∧ E 3 = (.pointer (some ⟨M, 0, none⟩)) ∧ E 4 = (.pointer (some ⟨K, 0, none⟩)) ∧ E 5 = (.pointer (some ⟨Y, 0, none⟩)) ∧ E 10 = (.pointer (some ⟨j, 0, none⟩)) ∧ E 17 = d6 ∧ E 107 = (.bool n8)) (bm 72 2147483647) 41 ?_ (fun n8 c9 f9 => ?_))
       ·rintro fl E W ⟨p3, d, u7, u8, u9, v0, v1, j5, cd⟩ ak
        have n := d.has.ll (Kb (Kb (Kb (Kb Sn))))
        refine X 31 rfl n (lz cd) (PJ ak (fun n7 E W => ∃  (p4 : List (Nat × Obj)), ST false mR w W a4 ((j, Obj.cells (#[(.string (((g.2.2).lm).Name)), t, u, (.string ((g.2.2).mx)), (.int .i64 ((g.2.2).Room)), x, y, z, D] : Array Value) 36 (0, 0)) :: ((Y, Obj.cells (#[(.int .i64 (((a.1).lf).Kind)), (.string ((((a.1).lf).Head).lh)), (.string ((((a.1).lf).Head).lp)), (.string (((a.1).lf).lM)), (.string ((((a.1).lf).B).lh)), (.string ((((a.1).lf).B).lp)), (.string ((((a.1).lf).C).lh)), (.string ((((a.1).lf).C).lp)), (.string (((a.1).lf).lN)), (.slice G ((a.1).Tag).length H)] : Array Value) 55 (0, 0)) :: ((K, Obj.cells ((li zg).toArray : Array Value) 52 (0, 0)) :: ((M, Obj.cells ((li tm).toArray : Array Value) 52 (0, 0)) :: p4)))) ∧ E 0 = (.bool false) ∧ E 3 = (.pointer (some ⟨M, 0, none⟩)) ∧ E 4 = (.pointer (some ⟨K, 0, none⟩)) ∧ E 5 = (.pointer (some ⟨Y, 0, none⟩)) ∧ E 10 = (.pointer (some ⟨j, 0, none⟩)) ∧ E 17 = d6 ∧ E 112 = (.bool n7)) (bm 72 68719476735) 36 ?_ (fun n7 c8 f8 => ?_))
        ·rintro fn E W ⟨p4, d, v2, v3, v4, ce, v5, cf, cg⟩ al
         have n := d.has.ll (Kb (Kb (Kb (Kb Sn))))
         refine X 36 rfl n (lz cg) (PJ al (fun n6 E W => ∃  (p5 : List (Nat × Obj)), ST false mR w W a4 ((j, Obj.cells (#[(.string (((g.2.2).lm).Name)), t, u, (.string ((g.2.2).mx)), (.int .i64 ((g.2.2).Room)), x, y, z, D] : Array Value) 36 (0, 0)) :: ((Y, Obj.cells (#[(.int .i64 (((a.1).lf).Kind)), (.string ((((a.1).lf).Head).lh)), (.string ((((a.1).lf).Head).lp)), (.string (((a.1).lf).lM)), (.string ((((a.1).lf).B).lh)), (.string ((((a.1).lf).B).lp)), (.string ((((a.1).lf).C).lh)), (.string ((((a.1).lf).C).lp)), (.string (((a.1).lf).lN)), (.slice G ((a.1).Tag).length H)] : Array Value) 55 (0, 0)) :: ((K, Obj.cells ((li zg).toArray : Array Value) 52 (0, 0)) :: ((M, Obj.cells ((li tm).toArray : Array Value) 52 (0, 0)) :: p5)))) ∧ E 0 = (.bool false) ∧ E 3 = (.pointer (some ⟨M, 0, none⟩)) ∧ E 4 = (.pointer (some ⟨K, 0, none⟩)) ∧ E 10 = (.pointer (some ⟨j, 0, none⟩)) ∧ E 119 = (.bool n6)) (bm 72 8796093022207) 29 ?_ (fun n6 a3 f7 => ?_))
         ·rintro fo E W ⟨p5, d, v6, v7, v8, j6, ch⟩ am
          have n := d.has.ll (Kb (Kb (Kb (Kb Sn))))
          refine X 43 rfl n (lz ch) (PJ am (fun n5 E W => ∃  (l0 : List (Nat × Obj)), ST false mR w W a4 ((j, Obj.cells (#[(.string (((g.2.2).lm).Name)), t, u, (.string ((g.2.2).mx)), (.int .i64 ((g.2.2).Room)), x, y, z, D] : Array Value) 36 (0, 0)) :: ((Y, Obj.cells (#[(.int .i64 (((a.1).lf).Kind)), (.string ((((a.1).lf).Head).lh)), (.string ((((a.1).lf).Head).lp)), (.string (((a.1).lf).lM)), (.string ((((a.1).lf).B).lh)), (.string ((((a.1).lf).B).lp)), (.string ((((a.1).lf).C).lh)), (.string ((((a.1).lf).C).lp)), (.string (((a.1).lf).lN)), (.slice G ((a.1).Tag).length H)] : Array Value) 55 (0, 0)) :: ((K, Obj.cells ((li zg).toArray : Array Value) 52 (0, 0)) :: ((M, Obj.cells ((li tm).toArray : Array Value) 52 (0, 0)) :: l0)))) ∧ E 0 = (.bool false) ∧ E 3 = (.pointer (some ⟨M, 0, none⟩)) ∧ E 4 = (.pointer (some ⟨K, 0, none⟩)) ∧ E 10 = (.pointer (some ⟨j, 0, none⟩)) ∧ E 125 = (.bool n5)) (bm 72 562949953421311) 23 ?_ (fun n5 c7 f6 => ?_))
          ·rintro ef E W ⟨l0, d, l7, z2, l8, h1, z3⟩ w3
           have n := d.has.ll (Kb (Kb (Kb (Kb Sn))))
           refine X 49 rfl n (lz z3) (PJ w3 (fun n4 E W => ∃  (l1 : List (Nat × Obj)), ST false mR w W a4 ((j, Obj.cells (#[(.string (((g.2.2).lm).Name)), t, u, (.string ((g.2.2).mx)), (.int .i64 ((g.2.2).Room)), x, y, z, D] : Array Value) 36 (0, 0)) :: ((Y, Obj.cells (#[(.int .i64 (((a.1).lf).Kind)), (.string ((((a.1).lf).Head).lh)), (.string ((((a.1).lf).Head).lp)), (.string (((a.1).lf).lM)), (.string ((((a.1).lf).B).lh)), (.string ((((a.1).lf).B).lp)), (.string ((((a.1).lf).C).lh)), (.string ((((a.1).lf).C).lp)), (.string (((a.1).lf).lN)), (.slice G ((a.1).Tag).length H)] : Array Value) 55 (0, 0)) :: ((K, Obj.cells ((li zg).toArray : Array Value) 52 (0, 0)) :: ((M, Obj.cells ((li tm).toArray : Array Value) 52 (0, 0)) :: l1)))) ∧ E 0 = (.bool false) ∧ E 4 = (.pointer (some ⟨K, 0, none⟩)) ∧ E 10 = (.pointer (some ⟨j, 0, none⟩)) ∧ E 130 = (.bool n4)) (bm 72 18014398509481983) 18 ?_ (fun n4 b7 f5 => ?_))
           ·rintro eg E W ⟨l1, d, l9, m0, h2, z4⟩ w4
            have n := d.has.ll (Kb (Kb (Kb (Kb Sn))))
            refine X 54 rfl n (lz z4) (PJ w4 (fun n3 E W => ∃  (l2 : List (Nat × Obj)), ST false mR w W a4 ((j, Obj.cells (#[(.string (((g.2.2).lm).Name)), t, u, (.string ((g.2.2).mx)), (.int .i64 ((g.2.2).Room)), x, y, z, D] : Array Value) 36 (0, 0)) :: ((Y, Obj.cells (#[(.int .i64 (((a.1).lf).Kind)), (.string ((((a.1).lf).Head).lh)), (.string ((((a.1).lf).Head).lp)), (.string (((a.1).lf).lM)), (.string ((((a.1).lf).B).lh)), (.string ((((a.1).lf).B).lp)), (.string ((((a.1).lf).C).lh)), (.string ((((a.1).lf).C).lp)), (.string (((a.1).lf).lN)), (.slice G ((a.1).Tag).length H)] : Array Value) 55 (0, 0)) :: ((K, Obj.cells ((li zg).toArray : Array Value) 52 (0, 0)) :: ((M, Obj.cells ((li tm).toArray : Array Value) 52 (0, 0)) :: l2)))) ∧ E 0 = (.bool false) ∧ E 4 = (.pointer (some ⟨K, 0, none⟩)) ∧ E 10 = (.pointer (some ⟨j, 0, none⟩)) ∧ E 134 = (.bool n3)) (bm 72 288230376151711743) 14 ?_ (fun n3 b6 f4 => ?_))
            ·rintro eh E W ⟨l2, d, m1, z5, h3, z6⟩ w5
             have n := d.has.ll (Kb (Kb (Kb (Kb Sn))))
             refine X 58 rfl n (lz z6) (PJ w5 (fun n2 E W => ∃  (e4 : lZ) (l3 : List (Nat × Obj)), lP a4 e4 ∧ ST false mR w W e4 ((j, Obj.cells (#[(.string (((g.2.2).lm).Name)), t, u, (.string ((g.2.2).mx)), (.int .i64 ((g.2.2).Room)), x, y, z, D] : Array Value) 36 (0, 0)) :: ((Y, Obj.cells (#[(.int .i64 (((a.1).lf).Kind)), (.string ((((a.1).lf).Head).lh)), (.string ((((a.1).lf).Head).lp)), (.string (((a.1).lf).lM)), (.string ((((a.1).lf).B).lh)), (.string ((((a.1).lf).B).lp)), (.string ((((a.1).lf).C).lh)), (.string ((((a.1).lf).C).lp)), (.string (((a.1).lf).lN)), (.slice G ((a.1).Tag).length H)] : Array Value) 55 (0, 0)) :: ((K, Obj.cells ((li zg).toArray : Array Value) 52 (0, 0)) :: ((M, Obj.cells ((li tm).toArray : Array Value) 52 (0, 0)) :: l3)))) ∧ E 0 = (.bool false) ∧ E 10 = (.pointer (some ⟨j, 0, none⟩)) ∧ E 141 = (.bool n2)) (bm 72 36893488147419103231) 7 ?_ (fun n2 a2 f3 => ?_))
             ·rintro ei E W ⟨e4, l3, T, d, m2, z7, z8⟩ w6
              have n := d.has.ox T (Kb (Kb (Kb (Kb Sn))))
              refine X 65 rfl n (lz z8) (PJ w6 (fun n1 E W => ∃  (h8 : lZ) (l4 : List (Nat × Obj)), lP e4 h8 ∧ ST false mR w W h8 ((j, Obj.cells (#[(.string (((g.2.2).lm).Name)), t, u, (.string ((g.2.2).mx)), (.int .i64 ((g.2.2).Room)), x, y, z, D] : Array Value) 36 (0, 0)) :: ((Y, Obj.cells (#[(.int .i64 (((a.1).lf).Kind)), (.string ((((a.1).lf).Head).lh)), (.string ((((a.1).lf).Head).lp)), (.string (((a.1).lf).lM)), (.string ((((a.1).lf).B).lh)), (.string ((((a.1).lf).B).lp)), (.string ((((a.1).lf).C).lh)), (.string ((((a.1).lf).C).lp)), (.string (((a.1).lf).lN)), (.slice G ((a.1).Tag).length H)] : Array Value) 55 (0, 0)) :: ((K, Obj.cells ((li zg).toArray : Array Value) 52 (0, 0)) :: ((M, Obj.cells ((li tm).toArray : Array Value) 52 (0, 0)) :: l4)))) ∧ E 0 = (.bool false) ∧ E 147 = (.bool n1)) (bm 72 2361183241434822606847) 1 ?_ (fun n1 b5 f2 => ?_))
              ·rintro ej E W ⟨h8, l4, o6, d, dq, z9⟩ w7
               have n := d.has.ox (T.trans o6) (Kb (Kb (Kb (Kb Sn))))
               refine X 71 rfl n (ny z9) (mM (by kernel_rfl) (lD ?_))
               replace d := d.ll (Db (Db (Db (Db St))))
               refine mi ?_
               have q := sj w7; subst q
               exact rP d
              refine bC b5 (fun N b5 => ?_) (fun N b5 => ?_)
              ·refine rE 66 rfl rfl (cB N) n (fun _ A => lq z7 (lB A Mh [(.string (((g.2.2).lm).Name)), t, u, (.string ((g.2.2).mx)), (.int .i64 ((g.2.2).Room)), x, y, z, D] rfl ic fM)) (bS b5 fun dy w9 b5 => wo 67 rfl rfl (cB N) (tW d call55 (FK g.2.2 t u x y z D _ _ (d9.mono mI.mono (T.trans d.lx)) (e0.mono nY.mono (T.trans d.lx)) (e1.mono (Pl.mono _) (T.trans d.lx)) (d7.mono (Pl.mono _) (T.trans d.lx)) (e2.mono (Pl.mono _) (T.trans d.lx)) (e3.mono (Pl.mono _) (T.trans d.lx)) w9) (fun dj ed bl db d f1 bo w0 => ?_)))
               have n := d.has.ox (T.trans f1) (Dr (Kb (Kb (Kb (Kb Sn)))))
               refine ⟨n, (Xg 68 rfl rfl (cB N) n (sw aG rfl w0) (Xg 69 rfl rfl (cB N) n (mz rfl rfl rfl) (X 70 rfl n (lX (cB N) rfl) ?_)))⟩
               have q := sj b5; subst q
               refine nk (by kernel_rfl) (f2 _ _ ⟨bl, _, f1, (d.ll (Dr St)), m2, rfl⟩)
              refine Xn 66 rfl rfl (cB N) n (Xn 67 rfl rfl (cB N) n (Xn 68 rfl rfl (cB N) n (Xn 69 rfl rfl (cB N) n (X 70 rfl n (lW (cB N) rfl) ?_))))
              have q := sj b5; subst q
              refine nk (by kernel_rfl) (f2 _ _ ⟨e4, _, (lP.refl _), (d.ll St), m2, rfl⟩)
             refine bC a2 (fun I a2 => ?_) (fun I a2 => ?_)
             ·refine rE 59 rfl rfl (cB I) n (fun _ A => lq h3 (lB A Mh [(.string (((g.2.2).lm).Name)), t, u, (.string ((g.2.2).mx)), (.int .i64 ((g.2.2).Room)), x, y, z, D] rfl ic fM)) (Xg 61 rfl rfl (cB I) n (lA uM z5) (rE 62 rfl rfl (cB I) n (fun _ A => lq rfl (lB A (Mt (Mt Mh)) (lu K7) rfl bO aN)) (bS a2 fun b0 x1 a2 => ?_)))
              have P := d.size
              refine wo 60 rfl rfl (cB I) (Hf d (bH _) call21 (fun _ _ _ _ => (EU g.2.2 t u x y z D _ _ (d9.mono mI.mono d.lx) (e0.mono nY.mono d.lx) (e1.mono (Pl.mono _) d.lx) (d7.mono (Pl.mono _) d.lx) (e2.mono (Pl.mono _) d.lx) (e3.mono (Pl.mono _) d.lx) x1)) (fun dk ee bn da d U cS eQ v9 => ?_) (L0 := []))
              obtain ⟨l5, z1, bf, de, bh, df, bi, dg, bj, dh, bk, di, l6, e9, rfl, x7, x8, x9, y0, y1⟩ := v9
              replace e9 := e9.symm; subst e9
              replace d := d.perm (Tb (Tb (Tb (Tr (Tr (Tr (Tr (Tr Tn))))))))
              have n := d.has.ox U (Db (Db (Db (Dr (Dr (Dr (Dr (Dr (Kb (Kb (Kb (Kb Sn))))))))))))
              refine ⟨n, (bS a2 fun dz x2 a2 => wo 63 rfl rfl (cB I) (Qy (args := [(.agg (lu K7).toArray)]) (caps := #[(.pointer (some ⟨l5, 0, none⟩)), (.pointer (some ⟨l6, 0, none⟩))]) d rfl call63 (by exact uT rfl) (lV.ng (BK K7 l5 z1 bf b0.1 bh b0.2.1 bi b0.2.2.1 bj b0.2.2.2.1 bk b0.2.2.2.2.1 b0.2.2.2.2.2.1 l6 b0.2.2.2.2.2.2.1 t (((g.2.2).lm).lJ) u (((g.2.2).lm).mf) b0.2.2.2.2.2.2.2.1 b0.2.2.2.2.2.2.2.2 x ((g.2.2).lE) y ((g.2.2).Shown) z ((g.2.2).lT) D ((g.2.2).mH) _ _ (x7.at (fun b o hq => d.at_ (Mt (Mt (Mt (Ml hq)))))) (x8.sl mN (fun b o hq => d.at_ (Mt (Mt (Mt (Ma (Ml hq))))))) (x9.at (fun b o hq => d.at_ (Mt (Mt (Mt (Ma (Ma (Ml hq)))))))) (y0.at (fun b o hq => d.at_ (Mt (Mt (Mt (Ma (Ma (Ma (Ml hq))))))))) ((y1.Co xd).mono (Pl.mono _) (nG (fun b o hq => d.at_ (Mt (Mt (Mt (Ma (Ma (Ma (Ma (Ml hq))))))))))) (At.of (d.at_ (Mt Mh)) _ rfl) (At.of (d.at_ Mh) _ rfl) (d9.mono mI.mono (U.trans d.lx)) (e0.mono nY.mono (U.trans d.lx)) (e1.mono (Pl.mono _) (U.trans d.lx)) (d7.mono (Pl.mono _) (U.trans d.lx)) (e2.mono (Pl.mono _) (U.trans d.lx)) (e3.mono (Pl.mono _) (U.trans d.lx)) (At.of (d.at_ (Mt (Mt Mh))) _ rfl) x2)) (fun dl d => ?_)))⟩
              have n := d.has.ox U (Db (Db (Db (Dr (Dr (Dr (Dr (Dr (Kb (Kb (Kb (Kb Sn))))))))))))
              refine ⟨n, (X 64 rfl n (lX (cB I) rfl) ?_)⟩
              have q := sj a2; subst q
              refine nk (by kernel_rfl) (f3 _ _ ⟨bn, _, U, (d.ll (Db (Db (Db (Dr (Dr (Dr (Dr (Dr St))))))))), m1, h3, rfl⟩)
             refine Xn 59 rfl rfl (cB I) n (Xn 60 rfl rfl (cB I) n (Xn 61 rfl rfl (cB I) n (Xn 62 rfl rfl (cB I) n (Xn 63 rfl rfl (cB I) n (X 64 rfl n (lW (cB I) rfl) ?_)))))
             have q := sj a2; subst q
             refine nk (by kernel_rfl) (f3 _ _ ⟨a4, _, (lP.refl _), (d.ll St), m1, h3, rfl⟩)
            refine bC b6 (fun b2 b6 => ?_) (fun b2 b6 => ?_)
            ·refine rE 55 rfl rfl (cB b2) n (fun _ A => lq h2 (lB A Mh [(.string (((g.2.2).lm).Name)), t, u, (.string ((g.2.2).mx)), (.int .i64 ((g.2.2).Room)), x, y, z, D] rfl ic fM)) (bS b6 fun ea x3 b6 => wo 56 rfl rfl (cB b2) (Eg d call26 (JO g.2.2 t u x y z D _ _ (d9.mono mI.mono d.lx) (e0.mono nY.mono d.lx) (e1.mono (Pl.mono _) d.lx) (d7.mono (Pl.mono _) d.lx) (e2.mono (Pl.mono _) d.lx) (e3.mono (Pl.mono _) d.lx) x3) (fun dm d => ?_)))
             have n := d.has.ll (Kb (Kb (Kb (Kb Sn))))
             refine ⟨n, (X 57 rfl n (lX (cB b2) rfl) ?_)⟩
             have q := sj b6; subst q
             refine nk (by kernel_rfl) (f4 _ _ ⟨_, (d.ll St), l9, m0, h2, rfl⟩)
            refine Xn 55 rfl rfl (cB b2) n (Xn 56 rfl rfl (cB b2) n (X 57 rfl n (lW (cB b2) rfl) ?_))
            have q := sj b6; subst q
            refine nk (by kernel_rfl) (f4 _ _ ⟨_, (d.ll St), l9, m0, h2, rfl⟩)
           refine bC b7 (fun a0 b7 => ?_) (fun a0 b7 => ?_)
           ·refine rE 50 rfl rfl (cB a0) n (fun _ A => lq h1 (lB A Mh [(.string (((g.2.2).lm).Name)), t, u, (.string ((g.2.2).mx)), (.int .i64 ((g.2.2).Room)), x, y, z, D] rfl ic fM)) (rE 51 rfl rfl (cB a0) n (fun _ A => lq z2 (lB A (Mt (Mt (Mt Mh))) (li tm) rfl bP aH)) (bS b7 fun eb x4 b7 => wo 52 rfl rfl (cB a0) (Eg d call19 (Bl g.2.2 t u x y z D tm _ _ (d9.mono mI.mono d.lx) (e0.mono nY.mono d.lx) (e1.mono (Pl.mono _) d.lx) (d7.mono (Pl.mono _) d.lx) (e2.mono (Pl.mono _) d.lx) (e3.mono (Pl.mono _) d.lx) x4) (fun dn d => ?_))))
            have n := d.has.ll (Kb (Kb (Kb (Kb Sn))))
            refine ⟨n, (X 53 rfl n (lX (cB a0) rfl) ?_)⟩
            have q := sj b7; subst q
            refine nk (by kernel_rfl) (f5 _ _ ⟨_, (d.ll St), l7, l8, h1, rfl⟩)
           refine Xn 50 rfl rfl (cB a0) n (Xn 51 rfl rfl (cB a0) n (Xn 52 rfl rfl (cB a0) n (X 53 rfl n (lW (cB a0) rfl) ?_)))
           have q := sj b7; subst q
           refine nk (by kernel_rfl) (f5 _ _ ⟨_, (d.ll St), l7, l8, h1, rfl⟩)
          refine bC c7 (fun a1 c7 => ?_) (fun a1 c7 => ?_)
          ·refine Xg 44 rfl rfl (cB a1) n (lA AQ j6) (rE 45 rfl rfl (cB a1) n (fun _ A => lq rfl (lK A Mh rfl eZ)) (Xg 46 rfl rfl (cB a1) n (mS aG rfl d7) (Xg 47 rfl rfl (cB a1) n (mz rfl rfl rfl) (X 48 rfl n (lX (cB a1) rfl) ?_))))
           have q := sj c7; subst q
           refine nk (by kernel_rfl) (f6 _ _ ⟨_, (d.ll St), v6, v7, v8, j6, rfl⟩)
          refine Xn 44 rfl rfl (cB a1) n (Xn 45 rfl rfl (cB a1) n (Xn 46 rfl rfl (cB a1) n (Xn 47 rfl rfl (cB a1) n (X 48 rfl n (lW (cB a1) rfl) ?_))))
          have q := sj c7; subst q
          refine nk (by kernel_rfl) (f6 _ _ ⟨_, (d.ll St), v6, v7, v8, j6, rfl⟩)
         refine bC a3 (fun Q a3 => ?_) (fun Q a3 => ?_)
         ·refine Xg 37 rfl rfl (cB Q) n (lz cf) (bS a3 fun o5 h9 a3 => uI 38 rfl (by kernel_rfl) (.inr ⟨36, true, 113, rfl, rfl, by decide, (cB Q)⟩) rfl (by decide) (fun _ _ h => h) n (nM (i := 0) (x0 := o5) oq.out eV cT rfl rfl n0 (mc h9) (lU h9)) (fun dx ⟨_, ⟨be, rfl, x6⟩, w8⟩ => rE 39 rfl rfl (cB Q) n (fun _ A => lq rfl (ma A w8 ib cT)) (rE 40 rfl rfl (cB Q) n (fun _ A => lq ce (lB A (Mt Mh) [(.int .i64 (((a.1).lf).Kind)), (.string ((((a.1).lf).Head).lh)), (.string ((((a.1).lf).Head).lp)), (.string (((a.1).lf).lM)), (.string ((((a.1).lf).B).lh)), (.string ((((a.1).lf).B).lp)), (.string ((((a.1).lf).C).lh)), (.string ((((a.1).lf).C).lp)), (.string (((a.1).lf).lN)), (.slice G ((a.1).Tag).length H)] rfl ib cT)) (bS a3 fun ec x5 a3 => wo 41 rfl rfl (cB Q) (Eg d call56 (lV.ng (Kn o5 be (⟨(a.1).lf, (a.1).Tag⟩ : Signed) (.slice G ((a.1).Tag).length H) _ _ (x6.mono (Pl.mono _) d.lx) (k2.mono (Pl.mono _) ((((((((((h4.trans e6).trans e7).trans Z).trans d8).trans a5).trans w1).trans b3).trans b4).trans w2).trans d.lx)) x5)) (fun dp d => ?_))))))
          have n := d.has.ll (Kb (Kb (Kb (Kb Sn))))
          refine ⟨n, (X 42 rfl n (lX (cB Q) rfl) ?_)⟩
          have q := sj a3; subst q
          refine nk (by kernel_rfl) (f7 _ _ ⟨_, (d.ll St), v2, v3, v4, v5, rfl⟩)
         refine Xn 37 rfl rfl (cB Q) n (Xn 38 rfl rfl (cB Q) n (Xn 39 rfl rfl (cB Q) n (Xn 40 rfl rfl (cB Q) n (Xn 41 rfl rfl (cB Q) n (X 42 rfl n (lW (cB Q) rfl) ?_)))))
         have q := sj a3; subst q
         refine nk (by kernel_rfl) (f7 _ _ ⟨_, (d.ll St), v2, v3, v4, v5, rfl⟩)
        refine bC c8 (fun a9 c8 => ?_) (fun a9 c8 => ?_)
        ·refine Xg 32 rfl rfl (cB a9) n (lz j5) (Xg 33 rfl rfl (cB a9) n (mS eV rfl n0) (Xg 34 rfl rfl (cB a9) n (mz rfl rfl rfl) (X 35 rfl n (lX (cB a9) rfl) ?_)))
         have q := sj c8; subst q
         refine nk (by kernel_rfl) (f8 _ _ ⟨_, (d.ll St), u7, u8, u9, v0, v1, j5, rfl⟩)
        refine Xn 32 rfl rfl (cB a9) n (Xn 33 rfl rfl (cB a9) n (Xn 34 rfl rfl (cB a9) n (X 35 rfl n (lW (cB a9) rfl) ?_)))
        have q := sj c8; subst q
        refine nk (by kernel_rfl) (f8 _ _ ⟨_, (d.ll St), u7, u8, u9, v0, v1, j5, rfl⟩)
       refine bC c9 (fun c6 c9 => ?_) (fun c6 c9 => ?_)
       ·refine Xg 28 rfl rfl (cB c6) n (lz cb) (Xg 29 rfl rfl (cB c6) n (mz rfl rfl rfl) (X 30 rfl n (lX (cB c6) rfl) ?_))
        have q := sj c9; subst q
        refine nk (by kernel_rfl) (f9 _ _ ⟨_, (d.ll St), u1, u2, u3, u4, u5, u6, rfl⟩)
       refine Xn 28 rfl rfl (cB c6) n (Xn 29 rfl rfl (cB c6) n (X 30 rfl n (lW (cB c6) rfl) ?_))
       have q := sj c9; subst q
       refine nk (by kernel_rfl) (f9 _ _ ⟨_, (d.ll St), u1, u2, u3, u4, u5, u6, rfl⟩)
      refine bC d0 (fun a8 d0 => ?_) (fun a8 d0 => ?_)
      ·refine Xg 23 rfl rfl (cB a8) n (lz bz) (Xg 24 rfl rfl (cB a8) n (sw aG rfl ad) (Xg 25 rfl rfl (cB a8) n (mz rfl rfl rfl) (X 26 rfl n (lX (cB a8) rfl) ?_)))
       have q := sj d0; subst q
       refine nk (by kernel_rfl) (g0 _ _ ⟨_, (d.ll (Kb (Kb (Kb (Kb (Dr St)))))), t4, t5, t6, t7, t8, t9, u0, rfl⟩)
      refine Xn 23 rfl rfl (cB a8) n (Xn 24 rfl rfl (cB a8) n (Xn 25 rfl rfl (cB a8) n (X 26 rfl n (lW (cB a8) rfl) ?_)))
      have q := sj d0; subst q
      refine nk (by kernel_rfl) (g0 _ _ ⟨_, (d.ll (Kb (Kb (Kb (Kb (Dr St)))))), t4, t5, t6, t7, t8, t9, u0, rfl⟩)
     refine bC d1 (fun c5 d1 => ?_) (fun c5 d1 => ?_)
     ·refine Xg 19 rfl rfl (cB c5) n (lz bw) (Xg 20 rfl rfl (cB c5) n (mz rfl rfl rfl) (X 21 rfl n (lX (cB c5) rfl) ?_))
      have q := sj d1; subst q
      refine nk (by kernel_rfl) (g1 _ _ ⟨_, (d.ll St), s6, s7, s8, s9, t0, t1, t2, t3, rfl⟩)
     refine Xn 19 rfl rfl (cB c5) n (Xn 20 rfl rfl (cB c5) n (X 21 rfl n (lW (cB c5) rfl) ?_))
     have q := sj d1; subst q
     refine nk (by kernel_rfl) (g1 _ _ ⟨_, (d.ll St), s6, s7, s8, s9, t0, t1, t2, t3, rfl⟩)
    refine bC d2 (fun c4 d2 => ?_) (fun c4 d2 => ?_)
    ·refine Xg 15 rfl rfl (cB c4) n (lz bu) (Xg 16 rfl rfl (cB c4) n (mz rfl rfl rfl) (X 17 rfl n (lX (cB c4) rfl) ?_))
     have q := sj d2; subst q
     refine nk (by kernel_rfl) (g2 _ _ ⟨_, (d.ll St), r7, r8, r9, s0, s1, s2, s3, s4, s5, rfl⟩)
    refine Xn 15 rfl rfl (cB c4) n (Xn 16 rfl rfl (cB c4) n (X 17 rfl n (lW (cB c4) rfl) ?_))
    have q := sj d2; subst q
    refine nk (by kernel_rfl) (g2 _ _ ⟨_, (d.ll St), r7, r8, r9, s0, s1, s2, s3, s4, s5, rfl⟩)
   refine bC d3 (fun c3 d3 => ?_) (fun c3 d3 => ?_)
   ·refine Xg 11 rfl rfl (cB c3) n (lz bs) (Xg 12 rfl rfl (cB c3) n (mz rfl rfl rfl) (X 13 rfl n (lX (cB c3) rfl) ?_))
    have q := sj d3; subst q
    refine nk (by kernel_rfl) (g3 _ _ ⟨_, (d.ll St), q7, q8, q9, r0, r1, r2, r3, r4, r5, r6, rfl⟩)
   refine Xn 11 rfl rfl (cB c3) n (Xn 12 rfl rfl (cB c3) n (X 13 rfl n (lW (cB c3) rfl) ?_))
   have q := sj d3; subst q
   refine nk (by kernel_rfl) (g3 _ _ ⟨_, (d.ll St), q7, q8, q9, r0, r1, r2, r3, r4, r5, r6, rfl⟩)
  refine bC d4 (fun c2 d4 => ?_) (fun c2 d4 => ?_)
  ·refine Xg 7 rfl rfl (cB c2) n (lz bp) (Xg 8 rfl rfl (cB c2) n (mz rfl rfl rfl) (X 9 rfl n (lX (cB c2) rfl) ?_))
   have q := sj d4; subst q
   refine nk (by kernel_rfl) (g4 _ _ ⟨_, (d.ll St), p6, p7, p8, p9, q0, q1, q2, q3, q4, q5, q6, rfl⟩)
  refine Xn 7 rfl rfl (cB c2) n (Xn 8 rfl rfl (cB c2) n (X 9 rfl n (lW (cB c2) rfl) ?_))
  have q := sj d4; subst q
  refine nk (by kernel_rfl) (g4 _ _ ⟨_, (d.ll St), p6, p7, p8, p9, q0, q1, q2, q3, q4, q5, q6, rfl⟩)
 refine bC d5 (fun c1 d5 => ?_) (fun c1 d5 => ?_)
 ·refine Xg 3 rfl rfl (cB c1) n (lz rfl) (Xg 4 rfl rfl (cB c1) n (mz rfl rfl rfl) (X 5 rfl n (lX (cB c1) rfl) ?_))
  have q := sj d5; subst q
  refine nk (by kernel_rfl) (g7 _ _ ⟨_, (d.ll (Kb (Sb (Pr Pz) (Sb (Pr Pz) (Sb (Pr Pz) St))))), rfl, rfl, rfl, rfl, rfl, rfl, rfl, rfl, rfl, rfl, rfl, rfl, rfl⟩)
 refine Xn 3 rfl rfl (cB c1) n (Xn 4 rfl rfl (cB c1) n (X 5 rfl n (lW (cB c1) rfl) ?_))
 have q := sj d5; subst q
 refine nk (by kernel_rfl) (g7 _ _ ⟨_, (d.ll (Kb (Sb (Pr Pz) (Sb (Pr Pz) (Sb (Pr Pz) St))))), rfl, rfl, rfl, rfl, rfl, rfl, rfl, rfl, rfl, rfl, rfl, rfl, rfl⟩)
theorem wV (k : Value) (u : List lf) (r : Int) (w : World) (j : Sl (Pl li) 9 (hp w) k u) (hm : po u = some r) :
  lV true pg0 18 [k] w (.int .i64 r) := by
 refine cG 54 func18 rfl (fun b => sg (Wa (lr (Wa (lS (Wm ?_))))))
 refine V (mS aG rfl j) (Wm (ln (mQ (fun i E W => ∃ g t, (E 8 = .int .i64 (i : Nat) ∧ E 7 = .int .i64 (u.length : Nat)) ∧ ST true mR w W (hp w) t ∧ E 3 = (.int .i64 g) ∧ E 6 = k ∧ sV (u.drop i) g = some r) u.length j.len ⟨0, _, ⟨rfl, rfl⟩, (b.ll St), rfl, rfl, hm⟩ dc dc dc (fun _ _ _ h => by obtain ⟨_, _, l, _⟩ := h; exact l) ?_ ?_)))
 ·rintro I E W z ⟨g, t, ⟨d, n⟩, b, x, y, c⟩
  obtain ⟨a, J, G, D, H⟩ := mA z
  rw [G] at c
  refine bg (VQ (qb (enc := li) (i := (I : Int)) (x0 := a) aG aH y d j (aJ _) D) (fun Q B => V (lq rfl (ma b.has B bP aH)) (VE (ml b cM (fun K N b => VO (lL (.agg (li a).toArray) ((li a).toArray) b rfl rfl aH (oQ a) nb rfl (fun M b => ln (lG (Wh x (Wf uM (Wf vh (VB b Mh rfl rfl cL (V (pK bY rfl) ?_)))))))))))))
  refine Wi rfl (Wf uM (Wf xA (VB b Mh rfl rfl cL (V (pK bY rfl) (Wi rfl (Wf Di (VB b Mh rfl rfl cL (V (pK bY rfl) (Wi rfl (Wf rr (Wf vh (VB b Mh rfl rfl cL (V (pK bY rfl) (Wi rfl ?_))))))))))))))
  refine Wf rr (Wf xA (VB b Mh rfl rfl cL (V (pK bY rfl) (Wi rfl (Wf zm (Wf vh (VB b Mh rfl rfl cL (V (pK bY rfl) (Wi rfl (Wf zm (Wf xA (VB b Mh rfl rfl cL (V (pK bY rfl) (Wi rfl ?_))))))))))))))
  refine Wf AT (VB b Mh rfl rfl cL (V (pK bY rfl) (Wi rfl (Wi rfl (Wa (me (ms (lD ?_))))))))
  replace b := b.ll (Db St)
  exact ⟨d, (wi0 .i64 (g + (wi0 .i64 ((wi0 .i64 ((wi0 .i64 ((wi0 .i64 ((wi0 .i64 ((wi0 .i64 ((wi0 .i64 ((wi0 .i64 (20 + (a.Head.lh.size : Int))) + (a.Head.lp.size : Int))) + (a.lM.size : Int))) + (a.B.lh.size : Int))) + (a.B.lp.size : Int))) + (a.C.lh.size : Int))) + (a.C.lp.size : Int))) + (a.lN.size : Int))))), _, ⟨rfl, n⟩, (b.ll St), rfl, y, (by rw [H]; exact c)⟩
 rintro E W ⟨g, t, ⟨d, n⟩, b, x, y, c⟩
 rw [aP] at c
 exact lD (sg (Wh x (Wa (lt (rQ c b)))))
theorem wP (H : Value) (Q : List Key) (u : Value) (J : List Signed) (r : Int) (w : World) (B : Sl vV 2 (hp w) H Q) (D : Sl oq 10 (hp w) u J) (hm : rD Q J = some r) :
  lV true pg0 17 [H, u] w (.int .i64 r) := by
 refine cG 45 func17 rfl (fun b => sg (Wa (lr (Wa (lS (Wm ?_))))))
 refine V (mS jx rfl B) (Wm (ln (mQ (fun i E W => ∃ t N, (E 12 = .int .i64 (i : Nat) ∧ E 11 = .int .i64 (Q.length : Nat)) ∧ ST true mR w W (hp w) N ∧ E 1 = u ∧ E 5 = (.int .i64 t) ∧ E 10 = H ∧ qC J (Q.drop i) t = some r) Q.length B.len ⟨0, _, ⟨rfl, rfl⟩, (b.ll St), rfl, rfl, rfl, hm⟩ dc dc dc (fun _ _ _ h => by obtain ⟨_, _, o, _⟩ := h; exact o) ?_ ?_)))
 ·rintro c3 E W b5 ⟨t, N, ⟨n, q⟩, b, U, Y, Z, g⟩
  obtain ⟨k, d4, b9, b7, c0⟩ := mA b5
  rw [b9] at g
  refine bg (VQ (nM (i := (c3 : Int)) (x0 := k) vV.out jx jy Z n B (aJ _) b7) (fun d8 ⟨_, ⟨d9, rfl, a2⟩, b6⟩ => V (lq rfl (ma b.has b6 isAgg118 jy)) (VE (ml b kO (fun d5 d7 b => ?_)))))
  obtain ⟨v, A, rfl⟩ := a2.form
  refine VO (lL (.agg #[(.string k.lM), (.slice v k.Key.length A)]) (#[(.string k.lM), (.slice v k.Key.length A)]) b rfl rfl jy oc nb rfl (fun d6 b => ln (lG (Wh Y (Wf Fo (VB b Mh rfl rfl cL (V (pK bY rfl) (Wi rfl (Wf Fp (VB b Mh rfl rfl gZ (V (mS bR rfl a2) (Wi rfl (Wi rfl (Wa ?_))))))))))))))
  refine me (ms (lD ?_))
  replace b := b.ll (Db St)
  exact ⟨n, (wi0 .i64 (t + (wi0 .i64 ((wi0 .i64 (10 + (k.lM.size : Int))) + (k.Key.length : Int))))), _, ⟨rfl, q⟩, (b.ll St), U, rfl, Z, (by rw [c0]; exact g)⟩
 rintro E W ⟨t, N, ⟨n, q⟩, b, U, Y, Z, g⟩
 rw [aP] at g
 refine lD (lH (sg (Wh U (V (mS eV rfl D) (Wm (ln (CJ g (fun G E W => ∃ M, ST true mR w W (hp w) M ∧ E 5 = (.int .i64 G)) (fun G a5 => ?_) ?_)))))))
 ·refine mQ (fun i E W => ∃ j x, (E 29 = .int .i64 (i : Nat) ∧ E 28 = .int .i64 (J.length : Nat)) ∧ ST true mR w W (hp w) x ∧ E 5 = (.int .i64 j) ∧ E 27 = u ∧ pN (J.drop i) j = some G) J.length D.len ⟨t, _, ⟨rfl, rfl⟩, (b.ll St), Y, rfl, a5⟩ dc dc dc (fun _ _ _ h => by obtain ⟨_, _, o, _⟩ := h; exact o) ?_ ?_
  ·rintro c1 E W a3 ⟨j, x, ⟨n, q⟩, b, y, z, c⟩
   obtain ⟨a, c4, a9, O, P⟩ := mA a3
   rw [a9] at c
   refine bg (VQ (nM (i := (c1 : Int)) (x0 := a) oq.out eV cT z n D (aJ _) O) (fun d0 ⟨_, ⟨d1, rfl, I⟩, F⟩ => V (lq rfl (ma b.has F ib cT)) (VE (ml b dG (fun c5 c9 b => ?_)))))
   obtain ⟨K, T, rfl⟩ := I.form
   let a0 := (C2 a.lf.Kind a.lf.Head.lh a.lf.Head.lp a.lf.lM a.lf.B.lh a.lf.B.lp a.lf.C.lh a.lf.C.lp a.lf.lN K a.Tag.length T)
   refine VO (lL (.agg a0.toArray) (a0.toArray) b rfl rfl cT oc nb rfl (fun c6 b => ln ?_))
   replace b := b.drew
   have d := b.has.ll (Kb Sn)
   refine mw d lY (X 0 rfl d (lz y) (X 1 rfl d (lA tF rfl) (XH 2 rfl d (fun _ s => lq rfl (lB s Mh (li a.lf) rfl bP aH)) (X 5 rfl d (lA Dg rfl) (XH 6 rfl d (fun _ s => lq rfl (lK s Mh rfl gZ)) (X 7 rfl d (mS bR rfl I) (XE 3 rfl (mh (cs := (li a.lf).toArray) b (om rfl) (oH aG aH cM) (fun c7 R b => ?_)))))))))
   have d := b.has.ll (Db (Kb Sn))
   refine ⟨d, (bS c fun c2 L c => XE 4 rfl (Eg b call18 (wV (.slice (some ⟨R, 0, none⟩) 1 1) ([a.lf]) _ _ (Sl.lit (enc := li) (l := [a.lf]) mN rfl nb rfl (b.at_ Mh)) L) (fun c8 b => ?_)))⟩
   have d := b.has.ll (Db (Kb Sn))
   refine ⟨d, (X 8 rfl d (mz rfl rfl rfl) (X 9 rfl d (mz rfl rfl rfl) (X 10 rfl d (ny rfl) (mM kr (ms (lD ?_))))))⟩
   replace b := b.ll (Db (Db St))
   exact ⟨n, (wi0 .i64 (j + (wi0 .i64 (c2 + (a.Tag.length : Int))))), _, ⟨rfl, q⟩, (b.ll St), rfl, z, (by rw [P]; exact c)⟩
  rintro E W ⟨j, x, ⟨n, q⟩, b, y, z, c⟩
  rw [aP] at c
  refine lD ?_
  obtain rfl := sj c
  exact ⟨_, (b.ll St), y⟩
 rintro d3 E W ⟨M, b, b4⟩ a4
 exact sg (Wh b4 (Wa (lt (rQ a4 b))))
theorem Fa (I : (List Formula) → Option Int) (N : ∀ (j : Value) (u : List Formula) (r : Int) (w : World) (t : Sl lj 5 (hp w) j u), I u = some r → lV false pg0 50 [j] w (.int .i64 r)) (j : Value) (u : List Formula) (r : Int) (w : World) (t : Sl lj 5 (hp w) j u) (hm : xB I u = some r) :
  lV false pg0 50 [j] w (.int .i64 r) := by
 refine cG 31 func50 rfl (fun l => sg (Wa (lr (Wa (lS (Wm ?_))))))
 refine V (mS aF rfl t) (Wm (ln (mQ (fun i E W => ∃ x z, (E 8 = .int .i64 (i : Nat) ∧ E 7 = .int .i64 (u.length : Nat)) ∧ ST false mR w W (hp w) z ∧ E 3 = (.int .i64 x) ∧ E 6 = j ∧ ta I (u.drop i) x = some r) u.length t.len ⟨0, _, ⟨rfl, rfl⟩, (l.ll St), rfl, rfl, hm⟩ dc dc dc (fun _ _ _ h => by obtain ⟨_, _, q, _⟩ := h; exact q) ?_ ?_)))
 ·rintro Z E W M ⟨x, z, ⟨o, A⟩, l, D, G, g⟩
  obtain ⟨c, O, T, Q, U⟩ := mA M
  let a0 := ((c.lg.lh.size : Int) + (c.lg.lp.size : Int))
  rw [T] at g
  refine bg (VQ (nM (i := (Z : Int)) (x0 := c) lj.out aF aC G o t (aJ _) Q) (fun a5 ⟨_, ⟨L, rfl, H⟩, J⟩ => V (lq rfl (ma l.has J bB aC)) (VE (ml l bI (fun F a4 l => ?_)))))
  obtain ⟨y, B, rfl⟩ := H.form
  let s := (C1 c.Op c.K c.lg.lh c.lg.lp y c.Kids.length B)
  refine VO (lL (.agg s.toArray) (s.toArray) l rfl rfl aC oc nb rfl (fun a2 l => ln ?_))
  replace l := l.drew
  have d := l.has.ll (Kb Sn)
  refine mw d lY (X 0 rfl d (lz D) (X 1 rfl d (lA zN rfl) (X 2 rfl d (lA vh rfl) (XH 3 rfl d (fun _ n => lq rfl (lK n Mh rfl cL)) (X 4 rfl d (pK bY rfl) (X 5 rfl d (lA zN rfl) (X 6 rfl d (lA xA rfl) (XH 7 rfl d (fun _ n => lq rfl (lK n Mh rfl cL)) (X 8 rfl d (pK bY rfl) (X 9 rfl d (mz rfl rfl rfl) (X 10 rfl d (Mx (k := .i64) (a := (wi0 .i64 a0)) (b := 16) (v := (.int .i64 (wi0 .i64 (Int.tdiv (wi0 .i64 a0) 16)))) rfl rfl dc rfl) (X 11 rfl d (mz rfl rfl rfl) (X 12 rfl d (lA uh rfl) (XH 13 rfl d (fun _ n => lq rfl (lK n Mh rfl gM)) ?_))))))))))))))
  refine bS g fun Y K g => XE 14 rfl (Eg l call50 (N (.slice y c.Kids.length B) c.Kids _ _ (H.mono lI.mono l.lx) K) (fun a3 l => ?_))
  have d := l.has.ll (Kb Sn)
  refine ⟨d, (X 15 rfl d (mz rfl rfl rfl) (X 16 rfl d (mz rfl rfl rfl) (X 17 rfl d (ny rfl) (mM kr (ms (lD ?_))))))⟩
  replace l := l.ll (Db St)
  exact ⟨o, (wi0 .i64 (x + (wi0 .i64 ((wi0 .i64 (1 + (wi0 .i64 (Int.tdiv (wi0 .i64 a0) 16)))) + Y)))), _, ⟨rfl, A⟩, (l.ll St), rfl, G, (by rw [U]; exact g)⟩
 rintro E W ⟨x, z, ⟨o, A⟩, l, D, G, g⟩
 rw [aP] at g
 exact lD (sg (Wh D (Wa (lt (rQ g l)))))
theorem Be : ∀ (n : Nat) (a : Value) (c : List Formula) (r : Int) (w : World) (g : Sl lj 5 (hp w) a c) (_ : qH n c = some r),
  lV false pg0 50 [a] w (.int .i64 r)
 | 0 => by intros; rename_i h; simp only [qH] at h; cases h
 | n + 1 => Fa (qH n) (Be n)
set_option maxHeartbeats 1000000 in
theorem IY (x : lm) (J N : Value) (r : Int) (w : World) (y : Sl mn 15 (hp w) J x.lJ) (G : Sl mW 8 (hp w) N x.mf) (hm : yO x = some r) :
  lV false pg0 10 [(.agg #[(.string x.Name), J, N])] w (.int .i64 r) := by
 refine cG 61 func10 rfl (fun d => sg ?_)
 obtain ⟨A1, c2, rfl⟩ := y.form
 obtain ⟨A3, c4, rfl⟩ := G.form
 let g6 := (C8 x.Name A1 x.lJ.length c2 A3 x.mf.length c4)
 refine VE (mG d rfl (fun W6 P d => Wa (lr (Wf NF (VB d Mh rfl rfl cL (V (pK bY rfl) (Wa (lS ?_))))))))
 refine Wf zo (VB d Mh rfl rfl ko (V (mS dV rfl y) (Wm (ln (mQ (fun i E W => ∃ I b1, (E 14 = .int .i64 (i : Nat) ∧ E 13 = .int .i64 (x.lJ.length : Nat)) ∧ ST false mR w W (hp w) ((P, Ol g6 25) :: b1) ∧ E 1 = (.pointer (some ⟨P, 0, none⟩)) ∧ E 3 = (.int .i64 I) ∧ E 12 = (.slice A1 x.lJ.length c2) ∧ sW x (x.lJ.drop i) I = some r) x.lJ.length y.len ⟨(x.Name.size : Int), _, ⟨rfl, rfl⟩, (d.ll St), rfl, rfl, rfl, hm⟩ dc dc dc (fun _ _ _ h => by obtain ⟨_, _, F, _⟩ := h; exact F) ?_ ?_)))))
 ·rintro d5 E W e1 ⟨I, b1, ⟨v, L⟩, d, U, M, Y, H⟩
  obtain ⟨a, h9, e9, e8, f0⟩ := mA e1
  rw [e9] at H
  refine bg (VQ (nM (i := (d5 : Int)) (x0 := a) mn.out dV dW Y v y (aJ _) e8) (fun j4 ⟨_, ⟨j8, j9, rfl, Q, T⟩, e2⟩ => V (lq rfl (ma d.has e2 kp dW)) (VE (ml d gx (fun i0 f4 d => ?_)))))
  obtain ⟨t, u, rfl⟩ := Q.form
  let g5 : Value := (.slice t a.Signed.Tag.length u)
  let b8 := (C2 a.Signed.lf.Kind a.Signed.lf.Head.lh a.Signed.lf.Head.lp a.Signed.lf.lM a.Signed.lf.B.lh a.Signed.lf.B.lp a.Signed.lf.C.lh a.Signed.lf.C.lp a.Signed.lf.lN t a.Signed.Tag.length u)
  obtain ⟨g, j, rfl⟩ := T.form
  let d9 : Value := (.slice g a.ly.Kids.length j)
  let A := (C1 a.ly.Op a.ly.K a.ly.lg.lh a.ly.lg.lp g a.ly.Kids.length j)
  let a0 := (C3 a.Signed.lf.Kind a.Signed.lf.Head.lh a.Signed.lf.Head.lp a.Signed.lf.lM a.Signed.lf.B.lh a.Signed.lf.B.lp a.Signed.lf.C.lh a.Signed.lf.C.lp a.Signed.lf.lN t a.Signed.Tag.length u a.ly.Op a.ly.K a.ly.lg.lh a.ly.lg.lp g a.ly.Kids.length j)
  refine VO (lL (.agg a0.toArray) (a0.toArray) d rfl rfl dW oc nb rfl (fun i1 d => ln ?_))
  replace d := d.drew
  have n := d.has.ll (Kb Sn)
  refine mw n lY (X 0 rfl n (lz M) (X 1 rfl n (lA xF rfl) (XH 2 rfl n (fun _ s => lq rfl (lB s Mh b8 rfl ib cT)) (X 5 rfl n (lA J0 rfl) (XH 6 rfl n (fun _ s => lq rfl (lB s Mh A rfl bB aC)) (PJ H (fun b4 E W => ∃ O b2 b9, ST false mR w W (hp w) ((f4, Ol a0 60) :: ((P, Ol g6 25) :: (b2 ++ b9))) ∧ E 1 = (.pointer (some ⟨P, 0, none⟩)) ∧ E 3 = (.int .i64 I) ∧ E 12 = (.slice A1 x.lJ.length c2) ∧ E 13 = (.int .i64 (x.lJ.length : Int)) ∧ E 14 = (.int .i64 (d5 : Int)) ∧ E 18 = (.int .i64 I) ∧ E 22 = (.int .i64 b4.1) ∧ E 25 = O ∧ mO 58 lj 5 (hp w) O b4.2 b2) (bm 13 255) 5 ?_ (fun b4 z Z => ?_)))))))
  ·rintro ⟨g7, g3⟩ E W ⟨O, b2, b9, d, f6, j3, f7, f8, f9, g0, g1, g2, e7⟩ R
   refine bS R fun g4 e3 R => XE 8 rfl (Eg d call50 ((Be mq) O g3 _ _ (e7.sl lI d.lx (fun b o q => d.at_ (Mt (Mt (Ml q))))) e3) (fun i2 d => ?_) (ha := Um g2))
   have n := d.has.ll (Kb Sn)
   refine ⟨n, (X 9 rfl n (mz rfl rfl rfl) (X 10 rfl n (mz g1 rfl rfl) (X 11 rfl n (mz g0 rfl rfl) (X 12 rfl n (ny rfl) (mM kr (ms (lD ?_)))))))⟩
   replace d := d.ll (Db (Kb (Dr St)))
   exact ⟨f9, (wi0 .i64 (I + (wi0 .i64 (g7 + (wi0 .i64 (20 * g4)))))), _, ⟨rfl, f8⟩, (d.ll St), f6, rfl, f7, (by rw [f0]; exact R)⟩
  refine Hc 3 7 rfl rfl kr (.inl rfl) (.inl rfl) rfl rfl dc dc ?_ ?_
  ·refine mh (cs := b8.toArray) d (om rfl) (oH eV cT dG) (fun i3 b3 d => ?_)
   let d8 : Value := (.slice (some ⟨b3, 0, none⟩) 1 1)
   have n := d.has.ll (Db (Kb Sn))
   refine ⟨n, (Hc 4 7 rfl rfl kr (.inl rfl) (.inl rfl) rfl rfl dc dc ?_ ?_)⟩
   ·refine bS z fun j5 e4 z => Lr (args := [(.slice none 0 0), d8]) d rfl call17 (by exact xv rfl rfl) (lV.ng (wP (.slice none 0 0) ([]) d8 ([a.Signed]) _ _ (Sl.nil _ _ _) ((mO.lit qn (l := [a.Signed]) (.cons (ys := C2 a.Signed.lf.Kind a.Signed.lf.Head.lh a.Signed.lf.Head.lp a.Signed.lf.lM a.Signed.lf.B.lh a.Signed.lf.B.lp a.Signed.lf.C.lh a.Signed.lf.C.lp a.Signed.lf.lN t a.Signed.Tag.length u) (oq.mk ⟨g5, rfl, Q⟩) .nil) rfl nb rfl).sl qn d.lx (fun b o q => (by rw [bE] at q; cases q; exact d.at_ Mh))) e4)) (fun i4 d => ?_)
    have n := d.has.ll (Db (Kb Sn))
    refine ⟨n, (XE 7 rfl (mh (cs := A.toArray) d (om rfl) (oH aF aC bI) (fun i5 c0 d => ?_)))⟩
    have n := d.has.ll (Db (Db (Kb Sn)))
    refine ⟨n, ?_⟩
    obtain rfl := sj z
    replace d := d.Gt
    refine nk kr (Z _ _ ⟨(.slice (some ⟨c0, 0, none⟩) 1 1), [(c0, Ol A 58)], _, (d.ll (Sb (Pr (Pb Pz)) (Sb (Pr (Pb Pz)) (Kr (Db St))))), U, M, Y, L, v, rfl, rfl, rfl, (mO.lit lI (l := [a.ly]) (.cons (ys := C1 a.ly.Op a.ly.K a.ly.lg.lh a.ly.lg.lp g a.ly.Kids.length j) (lj.mk ⟨d9, rfl, T⟩) .nil) rfl nb rfl)⟩)
   ·refine mh (cs := A.toArray) d (om rfl) (oH aF aC bI) (fun i6 c1 d => ?_)
    have n := d.has.ll (Db (Db (Kb Sn)))
    refine ⟨n, (bS z fun j6 e5 z => XE 4 rfl (Eg d call17 (lV.ng (wP (.slice none 0 0) ([]) d8 ([a.Signed]) _ _ (Sl.nil _ _ _) ((mO.lit qn (l := [a.Signed]) (.cons (ys := C2 a.Signed.lf.Kind a.Signed.lf.Head.lh a.Signed.lf.Head.lp a.Signed.lf.lM a.Signed.lf.B.lh a.Signed.lf.B.lp a.Signed.lf.C.lh a.Signed.lf.C.lp a.Signed.lf.lN t a.Signed.Tag.length u) (oq.mk ⟨g5, rfl, Q⟩) .nil) rfl nb rfl).sl qn d.lx (fun b o q => (by rw [bE] at q; cases q; exact d.at_ (Mt Mh)))) e5)) (fun i7 d => ?_)))⟩
    have n := d.has.ll (Db (Db (Kb Sn)))
    refine ⟨n, ?_⟩
    obtain rfl := sj z
    replace d := d.Gt
    refine nk kr (Z _ _ ⟨(.slice (some ⟨c1, 0, none⟩) 1 1), [(c1, Ol A 58)], _, (d.ll (Sb (Pr (Pb Pz)) (Sb (Pr (Pb Pz)) (Kr (Db St))))), U, M, Y, L, v, rfl, rfl, rfl, (mO.lit lI (l := [a.ly]) (.cons (ys := C1 a.ly.Op a.ly.K a.ly.lg.lh a.ly.lg.lp g a.ly.Kids.length j) (lj.mk ⟨d9, rfl, T⟩) .nil) rfl nb rfl)⟩)
  ·refine mh (cs := A.toArray) d (om rfl) (oH aF aC bI) (fun i8 c3 d => ?_)
   have n := d.has.ll (Db (Kb Sn))
   refine ⟨n, (XE 3 rfl (mh (cs := b8.toArray) d (om rfl) (oH eV cT dG) (fun i9 f5 d => ?_)))⟩
   have n := d.has.ll (Db (Db (Kb Sn)))
   refine ⟨n, (bS z fun j7 e6 z => XE 4 rfl (Eg d call17 (lV.ng (wP (.slice none 0 0) ([]) (.slice (some ⟨f5, 0, none⟩) 1 1) ([a.Signed]) _ _ (Sl.nil _ _ _) ((mO.lit qn (l := [a.Signed]) (.cons (ys := C2 a.Signed.lf.Kind a.Signed.lf.Head.lh a.Signed.lf.Head.lp a.Signed.lf.lM a.Signed.lf.B.lh a.Signed.lf.B.lp a.Signed.lf.C.lh a.Signed.lf.C.lp a.Signed.lf.lN t a.Signed.Tag.length u) (oq.mk ⟨g5, rfl, Q⟩) .nil) rfl nb rfl).sl qn d.lx (fun b o q => (by rw [bE] at q; cases q; exact d.at_ Mh))) e6)) (fun j0 d => ?_)))⟩
   have n := d.has.ll (Db (Db (Kb Sn)))
   refine ⟨n, ?_⟩
   obtain rfl := sj z
   replace d := d.perm (Nb (Pb Pz) Nz)
   replace d := d.Gt
   refine nk kr (Z _ _ ⟨(.slice (some ⟨c3, 0, none⟩) 1 1), [(c3, Ol A 58)], _, (d.ll (Sb (Pr (Pb Pz)) (Sb (Pr (Pb Pz)) (Kr (Db St))))), U, M, Y, L, v, rfl, rfl, rfl, (mO.lit lI (l := [a.ly]) (.cons (ys := C1 a.ly.Op a.ly.K a.ly.lg.lh a.ly.lg.lp g a.ly.Kids.length j) (lj.mk ⟨d9, rfl, T⟩) .nil) rfl nb rfl)⟩)
 rintro E W ⟨I, b1, ⟨v, L⟩, d, U, M, Y, H⟩
 rw [aP] at H
 refine lD (lH (sg (V (lA EP U) (VB d Mh rfl rfl isAgg23 (V (mS cZ rfl G) (Wm (ln ?_)))))))
 replace d := d.ll (Db St)
 refine CJ H (fun a7 E W => ∃ b6, ST false mR w W (hp w) b6 ∧ E 3 = (.int .i64 a7)) (fun a7 c8 => ?_) ?_
 ·refine mQ (fun i E W => ∃ K a2, (E 34 = .int .i64 (i : Nat) ∧ E 33 = .int .i64 (x.mf.length : Nat)) ∧ ST false mR w W (hp w) a2 ∧ E 3 = (.int .i64 K) ∧ E 32 = (.slice A3 x.mf.length c4) ∧ te (x.mf.drop i) K = some a7) x.mf.length G.len ⟨I, _, ⟨rfl, rfl⟩, (d.ll St), M, rfl, c8⟩ dc dc dc (fun _ _ _ h => by obtain ⟨_, _, F, _⟩ := h; exact F) ?_ ?_
  ·rintro f1 E W c6 ⟨K, a2, ⟨v, L⟩, d, a4, a5, k⟩
   obtain ⟨c, g8, d3, d2, d4⟩ := mA c6
   rw [d3] at k
   refine bg (VQ (nM (i := (f1 : Int)) (x0 := c) mW.out cZ eK a5 v G (aJ _) d2) (fun h5 ⟨_, ⟨h6, h7, rfl, a9, b0⟩, c9⟩ => V (lq rfl (ma d.has c9 lc eK)) (VE (ml d jj (fun g9 h4 d => ?_)))))
   obtain ⟨B, D, rfl⟩ := a9.form
   let d6 := (C1 c.ly.Op c.ly.K c.ly.lg.lh c.ly.lg.lp B c.ly.Kids.length D)
   obtain ⟨a1, a3, rfl⟩ := b0.form
   let c5 := (C5 c.lg.lh c.lg.lp c.ly.Op c.ly.K c.ly.lg.lh c.ly.lg.lp B c.ly.Kids.length D a1 c.ns.length a3)
   refine VO (lL (.agg c5.toArray) (c5.toArray) d rfl rfl eK oc nb rfl (fun h0 d => ln ?_))
   replace d := d.drew
   have n := d.has.ll (Kb Sn)
   refine mw n lY (X 0 rfl n (lz a4) (X 1 rfl n (lA Ez rfl) (X 2 rfl n (lA vh rfl) (XH 3 rfl n (fun _ s => lq rfl (lK s Mh rfl cL)) (X 4 rfl n (pK bY rfl) (X 5 rfl n (lA Ez rfl) (X 6 rfl n (lA xA rfl) (XH 7 rfl n (fun _ s => lq rfl (lK s Mh rfl cL)) (X 8 rfl n (pK bY rfl) (X 9 rfl n (mz rfl rfl rfl) (X 10 rfl n (lA Ku rfl) (XH 11 rfl n (fun _ s => lq rfl (lB s Mh d6 rfl bB aC)) (X 16 rfl n (lA HE rfl) (XH 17 rfl n (fun _ s => lq rfl (lK s Mh rfl eZ)) ?_))))))))))))))
   refine XE 12 rfl (mh (cs := d6.toArray) d (om rfl) (oH aF aC bI) (fun h1 d7 d => ?_))
   have n := d.has.ll (Db (Kb Sn))
   refine ⟨n, (bS k fun f2 d0 k => XE 13 rfl (Eg d call50 ((Be mq) (.slice (some ⟨d7, 0, none⟩) 1 1) ([c.ly]) _ _ ((mO.lit lI (l := [c.ly]) (.cons (ys := C1 c.ly.Op c.ly.K c.ly.lg.lh c.ly.lg.lp B c.ly.Kids.length D) (lj.mk ⟨(.slice B c.ly.Kids.length D), rfl, a9⟩) .nil) rfl nb rfl).sl lI d.lx (fun b o q => (by rw [bE] at q; cases q; exact d.at_ Mh))) d0) (fun h2 d => ?_)))⟩
   have n := d.has.ll (Db (Kb Sn))
   refine ⟨n, (X 14 rfl n (mz rfl rfl rfl) (X 15 rfl n (mz rfl rfl rfl) (bS k fun f3 d1 k => XE 18 rfl (Eg d call18 (lV.ng (wV (.slice a1 c.ns.length a3) c.ns _ _ (b0.mono (Pl.mono _) d.lx) d1)) (fun h3 d => ?_)))))⟩
   have n := d.has.ll (Db (Kb Sn))
   refine ⟨n, (X 19 rfl n (mz rfl rfl rfl) (X 20 rfl n (mz rfl rfl rfl) (X 21 rfl n (ny rfl) (mM kr (ms (lD ?_))))))⟩
   replace d := d.ll (Db (Db St))
   exact ⟨v, (wi0 .i64 (K + (wi0 .i64 ((wi0 .i64 ((wi0 .i64 ((c.lg.lh.size : Int) + (c.lg.lp.size : Int))) + (wi0 .i64 (20 * f2)))) + f3)))), _, ⟨rfl, L⟩, (d.ll St), rfl, a5, (by rw [d4]; exact k)⟩
  rintro E W ⟨K, a2, ⟨v, L⟩, d, a4, a5, k⟩
  rw [aP] at k
  refine lD ?_
  obtain rfl := sj k
  exact ⟨_, (d.ll St), a4⟩
 rintro h8 E W ⟨b6, d, e0⟩ c7
 exact sg (Wh e0 (Wa (lt (rQ c7 d))))
theorem I4 (a : mY) (g k x H z G : Value) (r : Int) (w : World) (c : Sl mn 15 (hp w) g a.lm.lJ) (j : Sl mW 8 (hp w) k a.lm.mf) (u : Sl (Pl li) 9 (hp w) x a.lE) (D : Sl (Pl li) 9 (hp w) H a.Shown) (y : Sl (Pl lu) 2 (hp w) z a.lT) (B : Sl (Pl lu) 2 (hp w) G a.mH) (hm : yJ a = some r) :
  lV false pg0 16 [(.agg #[(.string a.lm.Name), g, k, (.string a.mx), (.int .i64 a.Room), x, H, z, G])] w (.int .i64 r) := by
 refine cG 45 func16 rfl (fun b => sg ?_)
 obtain ⟨A1, c2, rfl⟩ := c.form
 obtain ⟨A3, s, rfl⟩ := j.form
 obtain ⟨A5, c6, rfl⟩ := u.form
 obtain ⟨A7, c8, rfl⟩ := D.form
 obtain ⟨A9, a5, rfl⟩ := y.form
 obtain ⟨a3, L, rfl⟩ := B.form
 refine VE (mG b rfl (fun e0 e7 b => Wa (ln (lH ?_))))
 replace b := b.drew
 have d := b.has.ll (Kb Sn)
 refine mw d lY (X 0 rfl d (lA zK rfl) (XH 1 rfl d (fun _ n => lq rfl (lB n Mh (C8 a.lm.Name A1 a.lm.lJ.length c2 A3 a.lm.mf.length s) rfl gA fD)) (X 3 rfl d (lA HB rfl) (XH 4 rfl d (fun _ n => lq rfl (lK n Mh rfl cL)) (X 5 rfl d (pK bY rfl) (X 7 rfl d (lA zP rfl) (XH 8 rfl d (fun _ n => lq rfl (lK n Mh rfl eZ)) (X 11 rfl d (lA AQ rfl) (XH 12 rfl d (fun _ n => lq rfl (lK n Mh rfl eZ)) (bS hm fun d0 b4 hm => XE 2 rfl (Eg b call10 (IY a.lm (.slice A1 a.lm.lJ.length c2) (.slice A3 a.lm.mf.length s) _ _ (c.mono mI.mono b.lx) (j.mono nY.mono b.lx) b4) (fun e1 b => ?_))))))))))))
 have d := b.has.ll (Kb Sn)
 refine ⟨d, (X 6 rfl d (mz rfl rfl rfl) (bS hm fun d1 b5 hm => XE 9 rfl (Eg b call18 (lV.ng (wV (.slice A5 a.lE.length c6) a.lE _ _ (u.mono (Pl.mono _) b.lx) b5)) (fun e2 b => ?_))))⟩
 have d := b.has.ll (Kb Sn)
 refine ⟨d, (X 10 rfl d (mz rfl rfl rfl) (bS hm fun d2 b6 hm => XE 13 rfl (Eg b call18 (lV.ng (wV (.slice A7 a.Shown.length c8) a.Shown _ _ (D.mono (Pl.mono _) b.lx) b6)) (fun e3 b => ?_))))⟩
 have d := b.has.ll (Kb Sn)
 refine ⟨d, (X 14 rfl d (mz rfl rfl rfl) (X 15 rfl d (ny rfl) (mM kr (lD (lH (lH ?_))))))⟩
 replace b := b.drew
 have d := b.has.ll (Kb Sn)
 refine mw d lY (X 1 rfl d (lA JZ rfl) (XH 2 rfl d (fun _ n => lq rfl (lK n Mh rfl isAgg34)) (X 4 rfl d (lA J8 rfl) (XH 5 rfl d (fun _ n => lq rfl (lK n Mh rfl isAgg34)) (X 8 rfl d (lz rfl) (XE 0 rfl (mh (cs := #[]) b sC (tY [] bK aN eG dc rfl (by simp) rfl rfl) (fun e4 a4 b => ?_))))))))
 have d := b.has.ll (Db (Kb Sn))
 refine ⟨d, (bS hm fun e8 P hm => XE 3 rfl (pq (enc := lu) (v := (.slice (some ⟨a4, 0, none⟩) 0 0)) (vs := (.slice A9 a.lT.length a5)) (R := [(a4, Ob #[] 50)]) b oU dc ra bK rM.1 rM.2.1 rfl rM.2.2.1 rM.2.2.2 rfl rfl (lR.lit (l := []) (enc := lu) rfl dc rfl rfl) (y.mono (Pl.mono _) b.lx) P (fun e5 d3 c3 b O => ?_)))⟩
 have d := b.has.ll (Dr (Kb Sn))
 refine ⟨d, (bS hm fun U b3 hm => XE 6 rfl (pq (enc := lu) (v := d3) (vs := (.slice a3 a.mH.length L)) (R := c3) b oU dc ra bK rM.1 rM.2.1 rfl rM.2.2.1 rM.2.2.2 rfl rfl O (B.mono (Pl.mono _) b.lx) b3 (fun e6 d4 c5 b K => ?_)))⟩
 have d := b.has.ll (Dr (Kb Sn))
 refine ⟨d, (X 7 rfl d (sw bK rfl K) (mM kr (lD ?_)))⟩
 replace b := b.ll (Kr (Db St))
 refine mQ (fun i E W => ∃ J M, (E 29 = .int .i64 (i : Nat) ∧ E 28 = .int .i64 (U.length : Nat)) ∧ ST false mR w W (hp w) (c5 ++ M) ∧ E 3 = (.int .i64 J) ∧ E 27 = d4 ∧ tg (U.drop i) J = some r) U.length K.len ⟨(wi0 .i64 ((wi0 .i64 ((wi0 .i64 (d0 + (a.mx.size : Int))) + d1)) + d2)), _, ⟨rfl, rfl⟩, (b.ll St), rfl, rfl, hm⟩ dc dc dc (fun _ _ _ h => by obtain ⟨_, _, q, _⟩ := h; exact q) ?_ ?_
 ·rintro b7 E W Y ⟨J, M, ⟨o, A⟩, b, N, Q, t⟩
  obtain ⟨I, d5, F, T, a2⟩ := mA Y
  rw [F] at t
  refine bg (VQ (oY (i := (b7 : Int)) (x0 := I) bK aN Q o K (aJ _) T) (fun d9 Z => V (lq rfl (rI b.has (fun p hq => (Ml hq)) K oU Z T bO aN)) (VE (ml b eG (fun d6 d8 b => VO (lL (.agg (lu I).toArray) ((lu I).toArray) b rfl rfl aN (ra I) nb rfl (fun d7 b => ln (lG (Wh N (Wf vh (VB b Mh rfl rfl cL (V (pK bY rfl) (Wi rfl ?_)))))))))))))
  refine Wf xA (VB b Mh rfl rfl cL (V (pK bY rfl) (Wi rfl (Wi rfl (Wa (me (ms (lD ?_))))))))
  replace b := b.ll (Db St)
  exact ⟨o, (wi0 .i64 (J + (wi0 .i64 ((wi0 .i64 (5 + (I.lh.size : Int))) + (I.lp.size : Int))))), _, ⟨rfl, A⟩, (b.ll St), rfl, Q, (by rw [a2]; exact t)⟩
 rintro E W ⟨J, M, ⟨o, A⟩, b, N, Q, t⟩
 rw [aP] at t
 refine lD ?_
 replace b := b.ll (Dr St)
 exact sg (Wh N (Wa (lt (rQ t b))))
set_option maxHeartbeats 1000000 in
theorem Gl (j : mY) (d5 e4 g3 i8 h7 i7 p4 : Value) (a1 : List Key) (L : Value) (a2 : List uZ) (r : Bool) (w : World) (b5 : Sl mn 15 (hp w) d5 j.lm.lJ) (b6 : Sl mW 8 (hp w) e4 j.lm.mf) (d1 : Sl (Pl li) 9 (hp w) g3 j.lE) (g0 : Sl (Pl li) 9 (hp w) i8 j.Shown) (e5 : Sl (Pl lu) 2 (hp w) h7 j.lT) (f9 : Sl (Pl lu) 2 (hp w) i7 j.mH) (w2 : Sl vV 2 (hp w) p4 a1) (r2 : Sl uv 3 (hp w) L a2) (hm : wA j a1 a2 = some r) :
  lV false pg0 4 [(.agg #[(.string j.lm.Name), d5, e4, (.string j.mx), (.int .i64 j.Room), g3, i8, h7, i7]), p4, L] w (.bool r) := by
 refine cG 132 func4 rfl (fun d => sg ?_)
 obtain ⟨A1, c2, rfl⟩ := b5.form
 obtain ⟨A3, c4, rfl⟩ := b6.form
 obtain ⟨A5, c6, rfl⟩ := d1.form
 obtain ⟨A7, c8, rfl⟩ := g0.form
 obtain ⟨A9, m7, rfl⟩ := e5.form
 obtain ⟨m6, m8, rfl⟩ := f9.form
 let a0 := (C4 j.lm.Name A1 j.lm.lJ.length c2 A3 j.lm.mf.length c4 j.mx j.Room A5 j.lE.length c6 A7 j.Shown.length c8 A9 j.lT.length m7 m6 j.mH.length m8)
 refine VE (mG d rfl (fun gq U d => Wa (lS (bS hm fun gu dp hm => VE (Eg d call14 (IP  _ _  dp) (fun gr d => V (ot rfl) (ln (CI hm rfl (fun dl hm => ?_) (fun dl hm => ?_)))))))))
 ·refine sg (Wa (ln ?_))
  replace d := d.ll (Db St)
  refine mi (mo ?_)
  obtain rfl := sj hm
  exact rP d
 refine kg (Wm (bS hm fun ba dq hm => ?_))
 refine VE (eD d (bH _) call15 (fun hh => nm.ng (HG p4 a1 _ _ hh (w2.mono H0.mono (lP.refl _)) dq)) ?_ (L0 := []))
 rintro _ gy u4 go d Z eo ⟨f1, r3, rfl, ds⟩
 obtain rfl := r3.symm
 refine Wm (Wx rfl (Wx rfl (Wa (Wa (lS (VA d Mh a0 ic fM (bS hm fun gw dr hm => VE (Eg d call16 (I4 j (.slice A1 j.lm.lJ.length c2) (.slice A3 j.lm.mf.length c4) (.slice A5 j.lE.length c6) (.slice A7 j.Shown.length c8) (.slice A9 j.lT.length m7) (.slice m6 j.mH.length m8) _ _ (b5.mono mI.mono (Z.trans d.lx)) (b6.mono nY.mono (Z.trans d.lx)) (d1.mono (Pl.mono _) (Z.trans d.lx)) (g0.mono (Pl.mono _) (Z.trans d.lx)) (e5.mono (Pl.mono _) (Z.trans d.lx)) (f9.mono (Pl.mono _) (Z.trans d.lx)) dr) (fun gt d => Wi rfl (Wm ?_))))))))))
 refine LJ hm (fun u2 E W => ∃ df, ST false mR w W u4 ((U, Ol a0 36) :: df) ∧ E 2 = L ∧ E 3 = (.pointer (some ⟨U, 0, none⟩)) ∧ E 7 = f1 ∧ E 8 = (.int .i64 ba.2) ∧ E 37 = (.bool u2)) 4 ?_ (fun u2 d4 n2 => ?_)
 ·let b8 : Value := (.pointer (some ⟨U, 0, none⟩))
  rintro gz E W ⟨df, d, dh, di, dj, dv, dw⟩ dn
  refine Wh dw (LJ dn (fun u1 E W => ∃ dg, ST false mR w W u4 ((U, Ol a0 36) :: dg) ∧ E 2 = L ∧ E 3 = b8 ∧ E 7 = f1 ∧ E 41 = (.bool u1)) 3 ?_ (fun u1 g8 n1 => ?_))
  ·rintro hb E W ⟨dg, d, dx, dy, dz, ea⟩ l5
   refine ln (CI l5 ea (fun dm l5 => ?_) (fun dm l5 => ?_))
   ·refine sg (Wa (ln ?_))
    replace d := d.ll (Db St)
    refine mi (mo ?_)
    obtain rfl := sj l5
    exact rP d
   refine kS (Wh dx (V (mS underlying38 rfl r2) (Wm (ln (mQ (fun i E W => ∃ a3 H Y J a9 a4 a5 K b0 M b1 N b2 Q b3 F n3, (E 44 = .int .i64 (i : Nat) ∧ E 43 = .int .i64 (a2.length : Nat)) ∧ lP u4 F ∧ ST false mR w W F ((U, Ob #[(.string a3), H, J, (.string a4), (.int .i64 a5), K, M, N, Q] 36) :: n3) ∧ E 3 = b8 ∧ E 7 = f1 ∧ E 42 = L ∧ Sl mn 15 F H Y ∧ Sl mW 8 F J a9 ∧ Sl (Pl li) 9 F K b0 ∧ Sl (Pl li) 9 F M b1 ∧ Sl (Pl lu) 2 F N b2 ∧ Sl (Pl lu) 2 F Q b3 ∧ rc ba (a2.drop i) i a3 Y a9 a4 a5 b0 b1 b2 b3 = some r) a2.length r2.len ⟨j.lm.Name, (.slice A1 j.lm.lJ.length c2), j.lm.lJ, (.slice A3 j.lm.mf.length c4), j.lm.mf, j.mx, j.Room, (.slice A5 j.lE.length c6), j.lE, (.slice A7 j.Shown.length c8), j.Shown, (.slice A9 j.lT.length m7), j.lT, (.slice m6 j.mH.length m8), j.mH, u4, _, ⟨rfl, rfl⟩, (lP.refl _), (d.ll St), dy, dz, rfl, (b5.mono mI.mono Z), (b6.mono nY.mono Z), (d1.mono (Pl.mono _) Z), (g0.mono (Pl.mono _) Z), (e5.mono (Pl.mono _) Z), (f9.mono (Pl.mono _) Z), l5⟩ dc dc dc (fun _ _ _ h => by obtain ⟨_, _, _, _, _, _, _, _, _, _, _, _, _, _, _, _, _, A, _⟩ := h; exact A) ?_ ?_)))))
   ·rintro d0 E W w9 ⟨a3, H, Y, J, a9, a4, a5, K, b0, M, b1, N, b2, Q, b3, F, n3, ⟨s, O⟩, h0, d, n7, n8, j4, c0, e6, e7, e8, e9, f0, d2⟩
    let u8 := (#[(.string a3), H, J, (.string a4), (.int .i64 a5), K, M, N, Q] : Array Value)
    let j1 := (⟨(⟨a3, Y, a9⟩ : lm), a4, a5, b0, b1, b2, b3⟩ : mY)
    obtain ⟨t, eb, z9, z8, aa⟩ := mA w9
    rw [z9] at d2
    refine bg (Wh s (VQ (nM (i := (d0 : Int)) (x0 := t) uv.out underlying38 sizeOf47 j4 s (r2.mono OI.mono (Z.trans h0)) (aJ _) z8) (fun fl ⟨_, ⟨fy, fz, rfl, l9, m0⟩, y1⟩ => V (lq rfl (ma d.has y1 isAgg47 sizeOf47)) (VE (ml d zeroValue47 (fun ej g9 d => Wa ?_))))))
    let v7 : Value := (.pointer (some ⟨g9, 0, none⟩))
    let u7 : Value := (.int .i64 (d0 : Int))
    let h9 : Value := (.int .i64 (a2.length : Int))
    obtain ⟨f2, f7, rfl⟩ := l9.form
    let v1 : Value := (.slice f2 t.S.length f7)
    obtain ⟨f3, f8, rfl⟩ := m0.form
    let v2 : Value := (.slice f3 t.C.length f8)
    let u6 := (#[(.int .i64 t.Kind), v1, v2] : Array Value)
    refine VO (lL (.agg #[(.int .i64 t.Kind), v1, v2]) (#[(.int .i64 t.Kind), v1, v2]) d rfl rfl sizeOf47 oc nb rfl (fun ek d => ln (lH (lH ?_))))
    replace d := d.drew
    have n := d.has.ll (Kb Sn)
    refine mw n lY (X 0 rfl n (lz rfl) (X 1 rfl n (mz rfl rfl rfl) (X 2 rfl n (lz rfl) (PJ d2 (fun u0 E W => ∃ r7, ST false mR w W F ((g9, Obj.cells u6 47 (0, 0)) :: ((U, Obj.cells u8 36 (0, 0)) :: r7)) ∧ E 3 = b8 ∧ E 7 = f1 ∧ E 10 = v7 ∧ E 42 = L ∧ E 43 = h9 ∧ E 44 = u7 ∧ E 60 = (.bool u0)) (bm 12 4095) 0 ?_ (fun u0 b9 n0 => ?_)))))
    ·rintro gi E W ⟨r7, d, t1, bf, bh, bi, bj, bk, bl⟩ g4
     refine mM kr (lD (CI g4 bl (fun w3 g4 => ?_) (fun w3 g4 => ?_)))
     ·refine sg (Wa (ln ?_))
      replace d := d.ll (Db (Db St))
      refine mi (mo (nE (mo (nE (mo ?_)))))
      obtain rfl := sj g4
      exact rP d
     refine kg (Wa (lS (V (lA zK t1) (Wf zo (VB d (Mt Mh) rfl rfl ko (V (mS dV rfl c0) (Wm ?_)))))))
     refine ln (CJ g4 (fun p3 E W => ∃ d7 d6 r8, ST false mR w W F ((g9, Obj.cells u6 47 (0, 0)) :: ((U, Obj.cells u8 36 (0, 0)) :: (d6 ++ r8))) ∧ E 3 = b8 ∧ E 7 = f1 ∧ E 10 = v7 ∧ E 11 = d7 ∧ E 42 = L ∧ E 43 = h9 ∧ E 44 = u7 ∧ lR 52 li 9 d7 p3 d6) (fun p3 y0 => ?_) ?_)
     ·refine mQ (fun i E W => ∃ g2 i6 f4 n6, (E 65 = .int .i64 (i : Nat) ∧ E 64 = .int .i64 (Y.length : Nat)) ∧ ST false mR w W F ((g9, Obj.cells u6 47 (0, 0)) :: ((U, Obj.cells u8 36 (0, 0)) :: (f4 ++ n6))) ∧ E 3 = b8 ∧ E 7 = f1 ∧ E 10 = v7 ∧ E 11 = g2 ∧ E 42 = L ∧ E 43 = h9 ∧ E 44 = u7 ∧ E 63 = H ∧ lR 52 li 9 g2 i6 f4 ∧ qc a3 Y a9 a4 a5 b0 b1 b2 b3 (Y.drop i) i6 = some p3) Y.length c0.len ⟨(.slice none 0 0), ([]), [], _, ⟨rfl, rfl⟩, (d.ll St), t1, bf, bh, rfl, bi, bj, bk, rfl, (lR.nil _ _ _), y0⟩ dc dc dc (fun _ _ _ h => by obtain ⟨_, _, _, _, A, _⟩ := h; exact A) ?_ ?_
      ·rintro ct E W x3 ⟨g2, i6, f4, n6, ⟨s, O⟩, d, i3, k3, k4, k5, k6, k7, k8, k9, i5, B⟩
       obtain ⟨c, ee, ah, ag, q8⟩ := mA x3
       rw [ah] at B
       refine bg (VQ (nM (i := (ct : Int)) (x0 := c) mn.out dV dW k9 s c0 (aJ _) ag) (fun fp ⟨_, ⟨gg, gh, rfl, z6, z7⟩, y4⟩ => V (lq rfl (ma d.has y4 kp dW)) (VE (ml d gx (fun ez fk d => ?_)))))
       obtain ⟨r5, s9, rfl⟩ := z6.form
       obtain ⟨r6, t0, rfl⟩ := z7.form
       let g5 := (C3 c.Signed.lf.Kind c.Signed.lf.Head.lh c.Signed.lf.Head.lp c.Signed.lf.lM c.Signed.lf.B.lh c.Signed.lf.B.lp c.Signed.lf.C.lh c.Signed.lf.C.lp c.Signed.lf.lN r5 c.Signed.Tag.length s9 c.ly.Op c.ly.K c.ly.lg.lh c.ly.lg.lp r6 c.ly.Kids.length t0)
       refine VO (lL (.agg g5.toArray) (g5.toArray) d rfl rfl dW oc nb rfl (fun fa d => lr (V (lq i3 (lB d.has (Mt (Mt Mh)) [(.string a3), H, J, (.string a4), (.int .i64 a5), K, M, N, Q] rfl ic fM)) (Wf xF (Wf tF (VA d Mh (li c.Signed.lf) bP aH (bS B fun fu z1 B => VE (Eg d call19 (Bl j1 H J K M N Q c.Signed.lf _ _ (c0.mono mI.mono d.lx) (e6.mono nY.mono d.lx) (e7.mono (Pl.mono _) d.lx) (e8.mono (Pl.mono _) d.lx) (e9.mono (Pl.mono _) d.lx) (f0.mono (Pl.mono _) d.lx) z1) (fun fb d => ln (CI B rfl (fun w7 B => ?_) (fun w7 B => ?_)))))))))))
       ·refine lG (Wh k5 (Wf xF (Wf tF (VA d Mh (li c.Signed.lf) bP aH (VE (mh (cs := (li c.Signed.lf).toArray) d (om rfl) (oH aG aH cM) (fun fc be d => ?_)))))))
        replace d := d.perm (Nr (Qb (Qb (Qb (Qb Qz)))) Nz)
        refine bS B fun cu w8 B => VE (pq (enc := li) (v := g2) (vs := (.slice (some ⟨be, 0, none⟩) 1 1)) (R := f4) d mN dc oQ aG nZ.1 nZ.2.1 rfl nZ.2.2.1 nZ.2.2.2 rfl rfl i5 (Sl.lit (enc := li) (l := [c.Signed.lf]) mN rfl nb rfl (d.at_ (Ma Mh))) w8 (fun fd cv bc d w1 => Wa (me (ms (lD ?_)))))
        replace d := d.ll (Kr (Db (Db St)))
        exact ⟨s, cv, cu, bc, _, ⟨rfl, O⟩, (d.ll (Sb (Pr Pz) (Sb (Pr Pz) St))), i3, k3, k4, rfl, k6, k7, k8, k9, w1, (by rw [q8]; exact B)⟩
       refine mX (ms (lD ?_))
       replace d := d.ll (Db St)
       exact ⟨s, g2, i6, f4, _, ⟨rfl, O⟩, (d.ll St), i3, k3, k4, k5, k6, k7, k8, k9, i5, (by rw [q8]; exact B)⟩
      rintro E W ⟨g2, i6, f4, n6, ⟨s, O⟩, d, i3, k3, k4, k5, k6, k7, k8, k9, i5, B⟩
      rw [aP] at B
      refine lD ?_
      obtain rfl := sj B
      exact ⟨g2, f4, _, (d.ll St), i3, k3, k4, k5, k6, k7, k8, i5⟩
     rintro o6 E W ⟨d7, d6, r8, d, i1, n9, o0, t2, t3, t4, t5, i4⟩ x4
     refine lH (NX x4 (fun c1 E W => ∃ d8 d9 e0 e1 e2 e3 b4 r9, lP F b4 ∧ ST false mR w W b4 ((U, Ob #[(.string c1.1), d8, d9, (.string c1.2.2.2.1), (.int .i64 c1.2.2.2.2.1), e0, e1, e2, e3] 36) :: (d6 ++ r9)) ∧ E 3 = b8 ∧ E 7 = f1 ∧ E 11 = d7 ∧ E 42 = L ∧ E 43 = h9 ∧ E 44 = u7 ∧ Sl mn 15 b4 d8 c1.2.1 ∧ Sl mW 8 b4 d9 c1.2.2.1 ∧ Sl (Pl li) 9 b4 e0 c1.2.2.2.2.2.1 ∧ Sl (Pl li) 9 b4 e1 c1.2.2.2.2.2.2.1 ∧ Sl (Pl lu) 2 b4 e2 c1.2.2.2.2.2.2.2.1 ∧ Sl (Pl lu) 2 b4 e3 c1.2.2.2.2.2.2.2.2) (fun c1 a8 l7 => ?_) ?_)
     ·refine sg (V (lA Rk o0) (VB d Mh rfl rfl dD (V (Mx (k := .i64) (a := t.Kind) (b := 1) (v := (.int .i64 (wi0 .i64 (BitVec.ofInt (IntKind.bits .i64) t.Kind &&& BitVec.ofInt (IntKind.bits .i64) 1).toNat))) rfl rfl dc rfl) (Wi rfl (ln (CI a8 rfl (fun w5 a8 => ?_) (fun w5 a8 => ?_)))))))
      ·refine lG (Wh n9 (V (lA N3 o0) (VB d Mh rfl rfl isAgg45 (bS a8 fun fs y6 a8 => ?_))))
       refine VE (eD d (Cb (Pb Pz) Cn) call20 (fun hh => (Eb U j1 H J K M N Q f1 ba.1 v1 t.S _ _ hh (c0.mono mI.mono (lP.refl _)) (e6.mono nY.mono (lP.refl _)) (e7.mono (Pl.mono _) (lP.refl _)) (e8.mono (Pl.mono _) (lP.refl _)) (e9.mono (Pl.mono _) (lP.refl _)) (f0.mono (Pl.mono _) (lP.refl _)) (ds.mono ub h0) (l9.mono qn.mono (lP.refl _)) y6)) ?_ (ha := Uh i1 rfl rfl))
       rintro _ ga de ef d v6 aE ⟨cw, cx, cy, cz, da, db, m1, rfl, ai, aj, ak, al, am, an⟩
       obtain rfl := m1.symm
       replace d := d.perm (Tb Tn)
       refine ln ?_
       obtain rfl := sj a8
       exact ⟨_, rfl, cw, cx, cy, cz, da, db, de, _, v6, (d.ll (Kb (Db St))), i1, n9, t2, t3, t4, t5, ai, aj, ak, al, am, an⟩
      refine sg (V (lq i1 (lB d.has (Mt Mh) [(.string a3), H, J, (.string a4), (.int .i64 a5), K, M, N, Q] rfl ic fM)) (bS a8 fun g y7 a8 => ?_))
      let v0 := (#[(.string g.2.2.2.2.2.2.1), H, J, (.string g.2.2.2.2.2.2.2.1), (.int .i64 g.2.2.2.2.2.2.2.2), K, M, N, Q] : Array Value)
      refine VE (Hf d (bH _) call21 (fun _ _ _ _ => (EU j1 H J K M N Q _ _ (c0.mono mI.mono d.lx) (e6.mono nY.mono d.lx) (e7.mono (Pl.mono _) d.lx) (e8.mono (Pl.mono _) d.lx) (e9.mono (Pl.mono _) d.lx) (f0.mono (Pl.mono _) d.lx) y7)) (fun ep gb gn eg d z cS du v8 => ?_) (L0 := []))
      obtain ⟨f5, i0, p5, s3, p6, s4, p7, s5, p8, s6, p9, s7, f6, m2, rfl, ao, ap, aq, ar, au⟩ := v8
      let w0 := (#[(.pointer (some ⟨i0, 0, none⟩))] : Array Value)
      let v9 := (#[p5, p6, p7, p8, p9, (.int .i64 g.2.2.2.2.2.1)] : Array Value)
      let j2 : Value := (.func (.func 63) #[] #[(.pointer (some ⟨f5, 0, none⟩)), (.pointer (some ⟨f6, 0, none⟩))])
      replace m2 := m2.symm; subst m2
      replace d := d.perm (Tb (Tb (Tb (Tr (Tr (Tr (Tr (Tr Tn))))))))
      refine Wa (lr (V (lA Nl o0) (VB d (Mt (Mt (Mt (Ma (Ma (Ma (Ma (Ma Mh)))))))) rfl rfl eZ (bS a8 fun I y8 a8 => ?_))))
      refine VE (eD d (Cb (Pb (Pb (Pb (Pr (Pr (Pr (Pr (Pr (Pb Pz))))))))) Cn) call22 (fun hh => (yT U j1 H J K M N Q v2 t.C _ _ hh (c0.mono mI.mono z) (e6.mono nY.mono z) (e7.mono (Pl.mono _) z) (e8.mono (Pl.mono _) z) (e9.mono (Pl.mono _) z) (f0.mono (Pl.mono _) z) (m0.mono (Pl.mono _) z) y8)) ?_ (ha := Ua i1 rfl))
      rintro _ gd q0 eh d c5 dk ⟨u3, h5, h6, l0, l1, l2, l3, m3, rfl, m5, q9, r0, av, aw, ay, az⟩
      let g6 := (#[(.string (((I.2.2).lm).Name)), h5, h6, (.string ((I.2.2).mx)), (.int .i64 ((I.2.2).Room)), l0, l1, l2, l3] : Array Value)
      obtain rfl := m3.symm
      replace d := d.perm (Tb Tn)
      refine Wm (Wx rfl (Wx rfl (Wa (Wa (ln ?_)))))
      replace d := d.ll (Kb (Kb (Kb (Kb (Kr (Kr (Kr (Kr (Kr (Db St))))))))))
      refine sg (Wm (V (mS eV rfl m5) (Wm (ln (NX a8 (fun t8 E W => ∃ l4 s1, lP q0 l4 ∧ ST false mR w W l4 ((U, Obj.cells g6 36 (0, 0)) :: (d6 ++ s1)) ∧ E 3 = b8 ∧ E 7 = f1 ∧ E 11 = d7 ∧ E 42 = L ∧ E 43 = h9 ∧ E 44 = u7) (fun t8 x9 l8 => ?_) ?_)))))
      ·refine mQ (fun i E W => ∃ i9 n5, (E 99 = .int .i64 (i : Nat) ∧ E 98 = .int .i64 (I.1.length : Nat)) ∧ lP q0 i9 ∧ ST false mR w W i9 ((U, Obj.cells g6 36 (0, 0)) :: ((f5, Obj.cells w0 132 (0, 0)) :: ((i0, Obj.cells v9 189 (0, 0)) :: ((f6, Obj.cells v0 36 (0, 0)) :: (s3 ++ (s4 ++ (s5 ++ (s6 ++ (s7 ++ (d6 ++ n5)))))))))) ∧ E 3 = b8 ∧ E 7 = f1 ∧ E 11 = d7 ∧ E 14 = j2 ∧ E 42 = L ∧ E 43 = h9 ∧ E 44 = u7 ∧ E 97 = u3 ∧ rb I g Y a9 b0 b1 b2 b3 (I.1.drop i) = some t8) I.1.length m5.len ⟨q0, _, ⟨rfl, rfl⟩, (lP.refl _), (d.ll St), i1, n9, t2, rfl, t3, t4, t5, rfl, x9⟩ dc dc dc (fun _ _ _ h => by obtain ⟨_, _, A, _⟩ := h; exact A) ?_ ?_
       ·rintro t6 E W x2 ⟨i9, n5, ⟨s, O⟩, D, d, i2, j6, j7, j8, j9, k0, k1, k2, b7⟩
        obtain ⟨y, ed, ae, ad, af⟩ := mA x2
        rw [ae] at b7
        refine bg (VQ (nM (i := (t6 : Int)) (x0 := y) oq.out eV cT k2 s (m5.mono qn.mono D) (aJ _) ad) (fun fo ⟨_, ⟨ge, rfl, z5⟩, y3⟩ => V (lq rfl (ma d.has y3 ib cT)) (VE (ml d dG (fun es fi d => ?_)))))
        obtain ⟨r4, s8, rfl⟩ := z5.form
        let u9 := (C2 y.lf.Kind y.lf.Head.lh y.lf.Head.lp y.lf.lM y.lf.B.lh y.lf.B.lp y.lf.C.lh y.lf.C.lp y.lf.lN r4 y.Tag.length s8)
        refine VO (lL (.agg u9.toArray) (u9.toArray) d rfl rfl cT oc nb rfl (fun et d => lr (V (lA zK i2) (VA d (Mt Mh) [(.string (((I.2.2).lm).Name)), h5, h6] gA fD (Wf tF (VA d Mh (li y.lf) bP aH (bS b7 fun G y9 b7 => ?_)))))))
        let bd : Value := (.string (((G.1).lg).lp))
        let bb : Value := (.string (((G.1).lg).lh))
        refine VE (eD d (bH _) call23 (fun hh => (Bq ((I.2.2).lm) h5 h6 y.lf _ _ hh (q9.mono mI.mono D) (r0.mono nY.mono D) y9)) ?_ (L0 := []))
        rintro _ gf u5 ei d c9 dt ⟨gl, m4, rfl, r1⟩
        obtain rfl := m4.symm
        refine Wm (Wx rfl (Wx rfl (VE (ml d bI (fun ev fj d => ?_)))))
        obtain ⟨j0, j3, rfl⟩ := r1.form
        let v3 : Value := (.slice j0 ((G.1).Kids).length j3)
        refine VO (lL (.agg #[(.int .i64 ((G.1).Op)), (.int .i64 ((G.1).K)), bb, bd, v3]) (#[(.int .i64 ((G.1).Op)), (.int .i64 ((G.1).K)), bb, bd, v3]) d rfl rfl aC oc nb rfl (fun ew d => Wa (ln ?_)))
        replace d := d.ll (Kb (Db St))
        refine sg (Wm (Wi rfl (Wm (LJ b7 (fun t9 E W => ∃ s2, ST false mR w W u5 ((U, Obj.cells g6 36 (0, 0)) :: ((f5, Obj.cells w0 132 (0, 0)) :: ((i0, Obj.cells v9 189 (0, 0)) :: ((f6, Obj.cells v0 36 (0, 0)) :: (s3 ++ (s4 ++ (s5 ++ (s6 ++ (s7 ++ (d6 ++ s2)))))))))) ∧ E 3 = b8 ∧ E 7 = f1 ∧ E 11 = d7 ∧ E 14 = j2 ∧ E 42 = L ∧ E 43 = h9 ∧ E 44 = u7 ∧ E 97 = u3 ∧ E 98 = (.int .i64 (I.1.length : Int)) ∧ E 99 = (.int .i64 (t6 : Int)) ∧ E 118 = (.bool t9)) 5 ?_ (fun t9 d3 m9 => ?_)))))
        ·rintro gj E W ⟨s2, d, cg, ch, ci, cj, ck, cl, cm, cn, co, cp, cq⟩ g7
         refine ln (CI g7 cq (fun w6 g7 => ?_) (fun w6 g7 => ?_))
         ·refine sg (Wa (ln ?_))
          replace d := d.ll (Db (Db (Db (Db (Dr (Dr (Dr (Dr (Dr (Dr St))))))))))
          refine mi (nE (mo (nE (mo (nE (mo (nE (mo ?_))))))))
          obtain rfl := sj g7
          replace l8 : some (Sum.inl false) = some c1 := l8
          obtain rfl := sj l8
          replace l7 : some false = some r := l7
          obtain rfl := sj l7
          exact rP d
         exact mX (ms (lD ⟨cp, u5, _, ⟨rfl, co⟩, (D.trans c9), (d.ll St), cg, ch, ci, cj, ck, cl, cm, cn, (by rw [af]; exact g7)⟩))
        refine bC d3 (fun a7 d3 => ?_) (fun a7 d3 => ?_)
        ·refine un a7 (un a7 (un a7 (un a7 (V (lX (cB a7) rfl) ?_))))
         obtain rfl := sj d3
         exact m9 _ _ ⟨_, (d.ll (Db St)), i2, j6, j7, j8, j9, k0, k1, k2, O, s, rfl⟩
        refine ug a7 (lq rfl (lB d.has Mh [(.int .i64 ((G.1).Op)), (.int .i64 ((G.1).K)), bb, bd, v3] rfl bB aC)) (ug a7 (lz j8) (bS d3 fun ft z0 d3 => vC a7 (Eg d call24 (Ai G.1 v3 j2 (fun (x : lg) => qF x g.1 g.2.1 g.2.2.1 g.2.2.2.1 g.2.2.2.2.1 g.2.2.2.2.2.1 g.2.2.2.2.2.2.1 Y a9 g.2.2.2.2.2.2.2.1 g.2.2.2.2.2.2.2.2 b0 b1 b2 b3) _ _ (r1.mono lI.mono d.lx) ⟨63, #[], #[(.pointer (some ⟨f5, 0, none⟩)), (.pointer (some ⟨f6, 0, none⟩))], rfl, call63, fun W x r P hm => (BK x f5 i0 p5 g.1 p6 g.2.1 p7 g.2.2.1 p8 g.2.2.2.1 p9 g.2.2.2.2.1 g.2.2.2.2.2.1 f6 g.2.2.2.2.2.2.1 H Y J a9 g.2.2.2.2.2.2.2.1 g.2.2.2.2.2.2.2.2 K b0 M b1 N b2 Q b3 r W (ao.at (fun b o q => P _ _ ((fun b o q => d.at_ (Mt (Mt (Mt (Mt (Mt (Ml q))))))) b o q))) (ap.sl mN (fun b o q => P _ _ ((fun b o q => d.at_ (Mt (Mt (Mt (Mt (Mt (Ma (Ml q)))))))) b o q))) (aq.at (fun b o q => P _ _ ((fun b o q => d.at_ (Mt (Mt (Mt (Mt (Mt (Ma (Ma (Ml q))))))))) b o q))) (ar.at (fun b o q => P _ _ ((fun b o q => d.at_ (Mt (Mt (Mt (Mt (Mt (Ma (Ma (Ma (Ml q)))))))))) b o q))) ((au.Co xd).mono (Pl.mono _) (nG (fun b o q => P _ _ ((fun b o q => d.at_ (Mt (Mt (Mt (Mt (Mt (Ma (Ma (Ma (Ma (Ml q))))))))))) b o q)))) (At.of (P _ _ (d.at_ (Mt (Mt (Mt Mh))))) _ rfl) (At.of (P _ _ (d.at_ (Mt (Mt Mh)))) _ rfl) (c0.mono mI.mono (((((z.trans c5).trans D).trans c9).trans d.lx).trans P)) (e6.mono nY.mono (((((z.trans c5).trans D).trans c9).trans d.lx).trans P)) (e7.mono (Pl.mono _) (((((z.trans c5).trans D).trans c9).trans d.lx).trans P)) (e8.mono (Pl.mono _) (((((z.trans c5).trans D).trans c9).trans d.lx).trans P)) (e9.mono (Pl.mono _) (((((z.trans c5).trans D).trans c9).trans d.lx).trans P)) (f0.mono (Pl.mono _) (((((z.trans c5).trans D).trans c9).trans d.lx).trans P)) (At.of (P _ _ (d.at_ (Mt (Mt (Mt (Mt Mh)))))) _ rfl) hm).ng⟩ z0) (fun ey d => ug a7 (ot rfl) (V (lW (cB a7) rfl) ?_)))))
        obtain rfl := sj d3
        exact m9 _ _ ⟨_, (d.ll (Db St)), i2, j6, j7, j8, j9, k0, k1, k2, O, s, rfl⟩
       rintro E W ⟨i9, n5, ⟨s, O⟩, D, d, i2, j6, j7, j8, j9, k0, k1, k2, b7⟩
       rw [aP] at b7
       refine lD ?_
       obtain rfl := sj b7
       exact ⟨_, rfl, i9, _, D, (d.ll (Kb (Db (Db (Db (Dr (Dr (Dr (Dr (Dr St)))))))))), i2, j6, j7, j9, k0, k1⟩
      rintro ⟨⟩ E W ⟨l4, s1, c7, d, ca, cb, cc, cd, ce, cf⟩ x8
      obtain rfl := sj x8
      exact ⟨_, rfl, h5, h6, l0, l1, l2, l3, l4, _, ((z.trans c5).trans c7), (d.ll St), ca, cb, cc, cd, ce, cf, (q9.mono mI.mono c7), (r0.mono nY.mono c7), (av.mono (Pl.mono _) c7), (aw.mono (Pl.mono _) c7), (ay.mono (Pl.mono _) c7), (az.mono (Pl.mono _) c7)⟩
     rintro ⟨h1, o7, o8, h2, h3, o9, p0, p1, p2⟩ E W ⟨d8, d9, e0, e1, e2, e3, b4, r9, v5, d, bn, bo, bp, bq, bs, bt, q1, q2, q3, q4, q5, q6⟩ x5
     let v4 := (#[(.string h1), d8, d9, (.string h2), (.int .i64 h3), e0, e1, e2, e3] : Array Value)
     refine sg (Wh bp (V (sw aG rfl i4) (Wm (ln (vO (NX x5 (fun t7 E W => ∃ s0, ST false mR w W b4 ((U, Obj.cells v4 36 (0, 0)) :: s0) ∧ E 3 = b8 ∧ E 7 = f1 ∧ E 42 = L ∧ E 43 = h9 ∧ E 44 = u7) (fun t7 x7 l6 => ?_) ?_))))))
     ·refine mQ (fun i E W => ∃ n4, (E 122 = .int .i64 (i : Nat) ∧ E 121 = .int .i64 (o6.length : Nat)) ∧ ST false mR w W b4 ((U, Obj.cells v4 36 (0, 0)) :: (d6 ++ n4)) ∧ E 3 = b8 ∧ E 7 = f1 ∧ E 42 = L ∧ E 43 = h9 ∧ E 44 = u7 ∧ E 120 = d7 ∧ qX h1 o7 o8 h2 h3 o9 p0 p1 p2 (o6.drop i) = some t7) o6.length i4.len ⟨_, ⟨rfl, rfl⟩, (d.ll St), bn, bo, bq, bs, bt, rfl, x7⟩ dc dc dc (fun _ _ _ h => by obtain ⟨_, A, _⟩ := h; exact A) ?_ ?_
      ·rintro cr E W x1 ⟨n4, ⟨s, O⟩, d, j5, o1, o2, o3, o4, o5, T⟩
       obtain ⟨h4, ec, ab, q7, ac⟩ := mA x1
       rw [ab] at T
       refine bg (VQ (oY (i := (cr : Int)) (x0 := h4) aG aH o5 s i4 (aJ _) q7) (fun fn y2 => V (lq rfl (rI d.has (fun p q => (Mt (Ml q))) i4 mN y2 q7 bP aH)) (VE (ml d cM (fun el fh d => VO (lL (.agg (li h4).toArray) ((li h4).toArray) d rfl rfl aH (oQ h4) nb rfl (fun em d => lr (V (lq j5 (lB d.has (Mt Mh) [(.string h1), d8, d9, (.string h2), (.int .i64 h3), e0, e1, e2, e3] rfl ic fM)) (VA d Mh (li h4) bP aH (bS T fun fq y5 T => VE (Eg d call19 (Bl (⟨(⟨h1, o7, o8⟩ : lm), h2, h3, o9, p0, p1, p2⟩ : mY) d8 d9 e0 e1 e2 e3 h4 _ _ (q1.mono mI.mono d.lx) (q2.mono nY.mono d.lx) (q3.mono (Pl.mono _) d.lx) (q4.mono (Pl.mono _) d.lx) (q5.mono (Pl.mono _) d.lx) (q6.mono (Pl.mono _) d.lx) y5) (fun en d => ?_))))))))))))
       refine V (ot rfl) (ln ?_)
       replace d := d.ll (Db St)
       refine CI T rfl (fun w4 T => ?_) (fun w4 T => ?_)
       ·refine sg (Wa (ln ?_))
        replace d := d.ll (Db (Dr St))
        refine mi (nE (mo (nE (mo (nE (mo (nE (mo ?_))))))))
        obtain rfl := sj T
        replace l6 : some false = some r := l6
        obtain rfl := sj l6
        exact rP d
       exact mX (ms (lD ⟨s, _, ⟨rfl, O⟩, (d.ll St), j5, o1, o2, o3, o4, o5, (by rw [ac]; exact T)⟩))
      rintro E W ⟨n4, ⟨s, O⟩, d, j5, o1, o2, o3, o4, o5, T⟩
      rw [aP] at T
      refine lD ?_
      obtain rfl := sj T
      exact ⟨_, rfl, _, (d.ll (Kb (Dr St))), j5, o1, o2, o3, o4⟩
     rintro ⟨⟩ E W ⟨s0, d, bu, bv, bw, bx, bz⟩ x6
     exact ms (lD ⟨bz, h1, d8, o7, d9, o8, h2, h3, e0, o9, e1, p0, e2, p1, e3, p2, b4, _, ⟨rfl, bx⟩, (h0.trans v5), (d.ll St), bu, bv, bw, q1, q2, q3, q4, q5, q6, (by rw [aa]; exact x6)⟩)
    refine bC b9 (fun u b9 => ?_) (fun u b9 => ?_)
    ·refine Xn 3 rfl rfl (cB u) n (Xn 4 rfl rfl (cB u) n (Xn 5 rfl rfl (cB u) n (Xn 6 rfl rfl (cB u) n (Xn 7 rfl rfl (cB u) n (Xn 8 rfl rfl (cB u) n (Xn 9 rfl rfl (cB u) n (Xn 10 rfl rfl (cB u) n (X 11 rfl n (lX (cB u) rfl) ?_))))))))
     obtain rfl := sj b9
     refine nk kr (n0 _ _ ⟨_, (d.ll St), n7, n8, rfl, j4, O, s, rfl⟩)
    refine Xg 3 rfl rfl (cB u) n (lA N3 rfl) (rE 4 rfl rfl (cB u) n (fun _ hS => lq rfl (lK hS Mh rfl isAgg45)) (Xg 6 rfl rfl (cB u) n (lA Nl rfl) (rE 7 rfl rfl (cB u) n (fun _ hS => lq rfl (lK hS Mh rfl eZ)) (bS b9 fun fv z2 b9 => wo 5 rfl rfl (cB u) (Eg d call17 (lV.ng (wP (.slice none 0 0) ([]) v1 t.S _ _ (Sl.nil _ _ _) (l9.mono qn.mono d.lx) z2)) (fun fe d => ?_))))))
    have n := d.has.ll (Kb Sn)
    refine ⟨n, (bS b9 fun fw z3 b9 => wo 8 rfl rfl (cB u) (Eg d call18 (lV.ng (wV v2 t.C _ _ (m0.mono (Pl.mono _) d.lx) z3)) (fun ff d => ?_)))⟩
    have n := d.has.ll (Kb Sn)
    refine ⟨n, (Xg 9 rfl rfl (cB u) n (mz rfl rfl rfl) (Xg 10 rfl rfl (cB u) n (mz rfl rfl rfl) (X 11 rfl n (lW (cB u) rfl) ?_)))⟩
    obtain rfl := sj b9
    refine nk kr (n0 _ _ ⟨_, (d.ll St), n7, n8, rfl, j4, O, s, rfl⟩)
   rintro E W ⟨a3, H, Y, J, a9, a4, a5, K, b0, M, b1, N, b2, Q, b3, F, n3, ⟨s, O⟩, h0, d, n7, n8, j4, c0, e6, e7, e8, e9, f0, d2⟩
   rw [aP] at d2
   refine lD ?_
   replace d := d.ll (Db St)
   exact sg (Wa (lt (rQ d2 d)))
  refine bC g8 (fun h8 g8 => ?_) (fun h8 g8 => ?_)
  ·refine un h8 (un h8 (V (lX (cB h8) rfl) ?_))
   obtain rfl := sj g8
   exact n1 _ _ ⟨_, (d.ll St), dh, di, dj, rfl⟩
  refine ug h8 (lz dv) (ug h8 (mz rfl rfl rfl) (V (lW (cB h8) rfl) ?_))
  obtain rfl := sj g8
  exact n1 _ _ ⟨_, (d.ll St), dh, di, dj, rfl⟩
 refine bC d4 (fun g1 d4 => ?_) (fun g1 d4 => ?_)
 ·refine un g1 (un g1 (un g1 (V (lX (cB g1) rfl) ?_)))
  obtain rfl := sj d4
  exact n2 _ _ ⟨_, (d.ll St), rfl, rfl, rfl, rfl, rfl⟩
 refine ug g1 (lz rfl) (bS d4 fun fx z4 d4 => vC g1 (Eg d call17 (lV.ng (wP p4 a1 (.slice none 0 0) ([]) _ _ (w2.mono H0.mono (Z.trans d.lx)) (Sl.nil _ _ _) z4)) (fun fg d => ug g1 (mz rfl rfl rfl) (V (lW (cB g1) rfl) ?_))))
 obtain rfl := sj d4
 exact n2 _ _ ⟨_, (d.ll St), rfl, rfl, rfl, rfl, rfl⟩
end Go.Proofs.YtklbhegeiijbjaaGreat
