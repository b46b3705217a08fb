/- a part of a proof of ThriftSpares -/
import Derived.Test.YtklbhegeiijbjaaGreatTSW2p
set_option linter.all false
namespace Go.Proofs.YtklbhegeiijbjaaGreat
open Go.RowKit
set_option maxRecDepth 10000
open Tryz
theorem AU (a2 : Nat) (u : mW) (a c g k i j a9 : Value) (O : List lC) (r : (zA × Int × mW)) (w : World) {μ0 : mF} (h0 : po μ0 ((a2, Ob #[(.string u.lF.Name), a, c, (.string u.na), (.int .i64 u.Room), g, k, i, j] 36) :: []) w) (t : Sl mx 15 μ0 a u.lF.lX) (x : Sl mV 8 μ0 c u.lF.ml) (B : Sl (Pl lD) 9 μ0 g u.lQ) (K : Sl (Pl lD) 9 μ0 k u.Shown) (I : Sl (Pl lE) 2 μ0 i u.mg) (J : Sl (Pl lE) 2 μ0 j u.mj) (d7 : Sl (Pl lE) 2 μ0 a9 O) (hm : tk u O = some r) :
  nM false Tryz.prog 28 [(.pointer (some ⟨a2, 0, none⟩)), a9] w μ0 ((a2, Ob #[(.string u.lF.Name), a, c, (.string u.na), (.int .i64 u.Room), g, k, i, j] 36) :: []) (fun v L1 μ1 => ∃ y1 y3 y5 y7 y9 d0 d1 d2, v = (.tuple #[(.agg #[(.int .i64 ((r.1).Kind)), (.int .i64 ((r.1).uM)), (.int .i64 ((r.1).E)), (.string ((r.1).Name)), y1, y3]), (.int .i64 (r.2.1))]) ∧ L1 = ((a2, Ob #[(.string (((r.2.2).lF).Name)), y5, y7, (.string ((r.2.2).na)), (.int .i64 ((r.2.2).Room)), y9, d0, d1, d2] 36) :: []) ∧ Sl (Pl lE) 2 μ1 y1 ((r.1).qo) ∧ Sl nV 10 μ1 y3 ((r.1).pR) ∧ Sl mx 15 μ1 y5 (((r.2.2).lF).lX) ∧ Sl mV 8 μ1 y7 (((r.2.2).lF).ml) ∧ Sl (Pl lD) 9 μ1 y9 ((r.2.2).lQ) ∧ Sl (Pl lD) 9 μ1 d0 ((r.2.2).Shown) ∧ Sl (Pl lE) 2 μ1 d1 ((r.2.2).mg) ∧ Sl (Pl lE) 2 μ1 d2 ((r.2.2).mj)) := by
 refine vA h0 44 func28 rfl (fun d => sg (VE (mz d fH (fun W2 b1 d => V (oL rfl) (lS (V (lO rfl) (V (tN lf rfl rfl) (ln (qi rfl ?_)))))))))
 refine kg (V (lO rfl) (V (nN rfl) (VA d (Mt Mh) [(.string u.lF.Name), a, c, (.string u.na), (.int .i64 u.Room), g, k, i, j] dU cZ (V (lO rfl) (bS hm fun Y e7 hm => VE (pF d call85 (FK u a c g k i j a9 O _ _ (t.mono mH.mono d.lJ) (x.mono nK.mono d.lJ) (B.mono (Pl.mono _) d.lJ) (K.mono (Pl.mono _) d.lJ) (I.mono (Pl.mono _) d.lJ) (J.mono (Pl.mono _) d.lJ) (d7.mono (Pl.mono _) d.lJ) e7) (fun W5 v9 aa g3 d y A P => V (oL rfl) (lr ?_))))))))
 refine V (lO rfl) (V (lO rfl) (V (nN rfl) (VA d (Ma (Mt Mh)) [(.string u.lF.Name), a, c, (.string u.na), (.int .i64 u.Room), g, k, i, j] dU cZ (bS hm fun e8 d9 hm => VE (pF d call77 (Bg u a c g k i j _ _ (t.mono mH.mono (y.trans d.lJ)) (x.mono nK.mono (y.trans d.lJ)) (B.mono (Pl.mono _) (y.trans d.lJ)) (K.mono (Pl.mono _) (y.trans d.lJ)) (I.mono (Pl.mono _) (y.trans d.lJ)) (J.mono (Pl.mono _) (y.trans d.lJ)) d9) (fun g9 f0 i1 g4 d D h d5 => ?_))))))
 obtain ⟨i2, d, G, m, e3⟩ := ST.zp d d5 nj
 refine bS hm fun z e0 hm => ?_
 refine VE (eD d (Cb (Pr (Pb Pz)) Cn) call22 (fun hh => (HU a2 (⟨(⟨u.lF.Name, u.lF.lX, u.lF.ml⟩ : lF), u.na, u.Room, u.lQ, u.Shown, u.mg, u.mj⟩ : mW) a c g k i j f0 e8 _ _ hh (t.mono mH.mono ((y.trans D).trans G)) (x.mono nK.mono ((y.trans D).trans G)) (B.mono (Pl.mono _) ((y.trans D).trans G)) (K.mono (Pl.mono _) ((y.trans D).trans G)) (I.mono (Pl.mono _) ((y.trans D).trans G)) (J.mono (Pl.mono _) ((y.trans D).trans G)) (e3.mono (Pl.mono _) (mn.refl _)) e0)) ?_)
 rintro _ h8 i3 g2 d b3 n ⟨i0, W, c6, c7, c8, c9, f4, a7, rfl, b7, b9, c0, c1, c2, c3, R⟩
 obtain rfl := a7.symm
 replace d := d.perm (Tb Tn)
 refine V (lO rfl) (V (wG rfl rfl) (V (wG rfl rfl) (V (oL rfl) (V (oL rfl) (lS (V (lO rfl) (V (mU rfl rfl rfl) (ln (CI hm rfl (fun d8 hm => ?_) (fun d8 hm => ?_))))))))))
 ·refine sg (V (nZ (v := (.agg Gx.toArray)) sL (nB fH eB (OE _ eB) kr)) (V (lO rfl) ?_))
  replace d := d.perm (Nb (Pb (Pr Pz)) Nz)
  refine VO (mh (.agg Gx.toArray) (Gx.toArray) d rfl rfl fJ oc nb rfl (fun h2 d => V (oL rfl) (ln ?_)))
  replace d := d.lG (Kb (Kb (Dr St)))
  refine mB (mQ ?_)
  obtain rfl := sj hm
  exact sK (v0 := (.agg Gx.toArray)) (v1 := (.int .i64 z.2.1)) rfl rfl (lP d.has Mh Gx rfl lg fJ) rfl ⟨_, _, _, rfl, (d.ol (Db (Kb Sn))), (((y.trans D).trans G).trans b3), (((A.trans h).trans m).trans n), (ST.nm d (oK.mem (Db (Kb Sn)))), (.slice none 0 0), (.slice none 0 0), W, c6, c7, c8, c9, f4, rfl, rfl, (Sl.nil _ _ _), (Sl.nil _ _ _), b9, c0, c1, c2, c3, R⟩
 refine kg (V (lO rfl) (V (lO rfl) (V (nN rfl) (V (lN Dh rfl) (VB d Mh rfl rfl fN (V (lO rfl) ?_))))))
 obtain ⟨b0, b2, rfl⟩ := R.form
 obtain ⟨T, U, rfl⟩ := P.form
 refine VE (mN (cs := #[(.slice b0 ((z.2.2).mj).length b2), (.slice T Y.length U)]) d (rA rfl rfl) (oR ir iN zeroValue34) (fun h3 e6 d => bS hm fun e9 e1 hm => VE (pF d call87 (nC.nz (xN (.slice (some ⟨e6, 0, none⟩) 2 2) ([(z.2.2).mj, Y]) _ _ (Ep.lit (l := [(z.2.2).mj, Y]) (vs := [(.slice b0 ((z.2.2).mj).length b2), (.slice T Y.length U)]) rfl nb (d.at_ Mh) (.cons (R.mono (Pl.mono _) d.lJ) (.cons (P.sl nI (fun b o hq => d.at_ (Mt (Mt (Ml hq))))) .nil))) e1)) (fun h4 f1 i4 g7 d M q d6 => bS hm fun c4 e2 hm => VE (pF d lx (vq f1 e9 _ _ (d6.sl nI (fun b o hq => d.at_ (Ml hq))) e2) (fun h5 h9 i5 g8 d N s b6 => V (nN rfl) (V (lN Dh rfl) ?_)))))))
 obtain ⟨b4, b5, rfl⟩ := b6.form
 let a4 : Value := (.slice b4 c4.length b5)
 replace d := d.perm (Nb (Pr (Pr (Pb Pz))) Nz)
 refine VO (mh a4 (#[(.string (((z.2.2).lF).Name)), W, c6, (.string ((z.2.2).na)), (.int .i64 ((z.2.2).Room)), c7, c8, c9, a4]) d rfl rfl iN oc nb rfl (fun h6 d => ln ?_))
 replace d := d.lG (Kb (Kr (Dr (Db St))))
 refine sg (V (lO rfl) (V (lO rfl) ?_))
 obtain ⟨Z, a3, rfl⟩ := b7.form
 let a0 := (Vy T Y.length U Z z.1.length a3)
 refine V (nZ (v := (.agg a0.toArray)) (ES rfl rfl rfl) (nB fH eB (OE _ eB) kr)) ?_
 replace d := d.perm (Nb (Pb (Pr (Pr Pz))) Nz)
 refine VO (mh (.agg a0.toArray) (a0.toArray) d rfl rfl fJ oc nb rfl (fun h7 d => V (oL rfl) (lt ?_)))
 obtain rfl := sj hm
 refine sK (v0 := (.agg a0.toArray)) (v1 := (.int .i64 0)) rfl rfl (lP d.has Mh a0 rfl lg fJ) rfl ?_
 replace d := d.perm (Nr (Qb (Qb (Qr Qz))) Nz)
 obtain ⟨i6, d, Q, F, e4⟩ := ST.zp d P nI
 replace d := d.perm (Nr (Qb (Qb Qz)) Nz)
 obtain ⟨i7, d, H, L, e5⟩ := ST.zp d b6 nI
 exact ⟨_, _, _, rfl, (d.ol (Db (Kb Sn))), (((((((y.trans D).trans G).trans b3).trans M).trans N).trans Q).trans H), (((((((A.trans h).trans m).trans n).trans q).trans s).trans F).trans L), (ST.nm d (oK.mem (Db (Kb Sn)))), (.slice T Y.length U), (.slice Z z.1.length a3), W, c6, c7, c8, c9, a4, rfl, rfl, (e4.mono (Pl.mono _) H), (b7.mono qw.mono (((M.trans N).trans Q).trans H)), (b9.mono mH.mono (((M.trans N).trans Q).trans H)), (c0.mono nK.mono (((M.trans N).trans Q).trans H)), (c1.mono (Pl.mono _) (((M.trans N).trans Q).trans H)), (c2.mono (Pl.mono _) (((M.trans N).trans Q).trans H)), (c3.mono (Pl.mono _) (((M.trans N).trans Q).trans H)), e5⟩
theorem Hq (a : Value) (g : List lC) (r : (zA × Int)) (w : World) {c : mF} (u : po c [] w) (x : Sl (Pl lE) 2 c a g) (hm : zm g = some r) :
  nM true Tryz.prog 28 [(.pointer none), a] w c [] (fun v t k => ∃ i j, v = (.tuple #[(.agg #[(.int .i64 ((r.1).Kind)), (.int .i64 ((r.1).uM)), (.int .i64 ((r.1).E)), (.string ((r.1).Name)), i, j]), (.int .i64 (r.2))]) ∧ t = [] ∧ Sl (Pl lE) 2 k i ((r.1).qo) ∧ Sl nV 10 k j ((r.1).pR)) := by
 refine vA u 44 func28 rfl (fun b => sg (VE (mz b fH (fun y B b => Wa (lS (Wm (V (tN lf rfl rfl) (ln (vr rfl ?_)))))))))
 refine sg (V (nZ (v := (.agg Gx.toArray)) sL (nB fH eB (OE _ eB) kr)) (VO (mh (.agg Gx.toArray) (Gx.toArray) b rfl rfl fJ oc nb rfl (fun z b => Wa (lt (mQ ?_))))))
 obtain rfl := sj hm
 exact sK (v0 := (.agg Gx.toArray)) (v1 := (.int .i64 1)) rfl rfl (lP b.has Mh Gx rfl lg fJ) rfl ⟨_, _, _, rfl, (b.ol Sn), (mn.refl _), Lo.refl, (ST.nm b (oK.mem Sn)), (.slice none 0 0), (.slice none 0 0), rfl, rfl, (Sl.nil _ _ _), (Sl.nil _ _ _)⟩
set_option maxHeartbeats 1000000 in
theorem KH (r : Bool) (w : World) (hm : xO  = some r) :
  mw false Tryz.prog 25 [] w (.bool r) := by
 refine cG 133 func25 rfl (fun d => sg (Wa (lr (V (nZ (v := (.agg (lE K7).toArray)) (rA rfl rfl) (nB dF dD (Oh _ dD) kr)) (V (nZ (v := (.agg (lD Kc).toArray)) (ES rfl rfl rfl) (nB cM dL (Rf _ dL) kr)) (VE (mz d cM (fun W2 b1 d => VO (mh (.agg (lD Kc).toArray) ((lD Kc).toArray) d rfl rfl aI (pb Kc) nb rfl (fun W3 d => ln (me ?_)))))))))))
 refine mc (V (nZ (v := (.agg (lE K9).toArray)) (rA rfl rfl) (nB dF dD (Oh _ dD) kr)) (V (nZ (v := (.agg AY.toArray)) (rA rfl rfl) (nB bI cK (CL _ cK) kr)) (VE (mz d bI (fun W5 s d => VO (mh (.agg AY.toArray) (AY.toArray) d rfl rfl aD oc nb rfl (fun W6 d => ln (me ?_))))))))
 replace d := d.drew
 have n := d.has.lG (Kb (Kb Sn))
 refine mO n mu (XH 0 rfl n (fun _ o => lK rfl (lP o (Mt Mh) (lD Kc) rfl bH aI)) (XH 3 rfl n (fun _ o => lK rfl (lP o Mh AY rfl aZ aD)) (PJ hm (fun d2 E W => ∃ n5 o0 n4 m3 m4 m5 e8 s4, mn (hp w) e8 ∧ ST false mX w W e8 ((n5, Ob #[(.string d2.2.2.2.1), m4, m5] 25) :: ((s, Ol AY 58) :: ((b1, Ol (lD Kc) 52) :: (n4 ++ s4)))) ∧ E 1 = (.pointer (some ⟨b1, 0, none⟩)) ∧ E 2 = (.pointer (some ⟨s, 0, none⟩)) ∧ E 3 = (.pointer (some ⟨n5, 0, none⟩)) ∧ E 25 = (.agg #[(.string d2.1), o0, m3]) ∧ nl 60 mx 15 e8 o0 d2.2.1 n4 ∧ Sl mV 8 e8 m3 d2.2.2.1 ∧ Fr w.heap.size m3 ∧ Sl mx 15 e8 m4 d2.2.2.2.2.1 ∧ Fr w.heap.size m4 ∧ Sl mV 8 e8 m5 d2.2.2.2.2.2 ∧ Fr w.heap.size m5) (bm 9 255) 1 ?_ (fun d2 c6 f3 => ?_))))
 ·rintro ⟨m6, h4, h5, gd, fs, ft⟩ E W ⟨n5, o0, n4, m3, m4, m5, e8, s4, n3, d, bx, n6, t8, bz, k5, p0, dt, dz, du, ea, dv⟩ y
  obtain ⟨j7, k0, rfl⟩ := k5.form
  obtain ⟨j8, k1, rfl⟩ := p0.form
  let gm := (C7 m6 j7 h4.length k0 j8 h5.length k1)
  refine XO 8 rfl (mh (.agg gm.toArray) (gm.toArray) d t8 bz eX oc nb rfl (fun eu d => ?_))
  have n := d.has.pC n3 (Db (Kb (Kb Sn)))
  refine ⟨n, (nc kr (lU (sg (V (lK t8 (lP d.has Mh gm rfl gI eX)) ?_))))⟩
  replace d := d.perm (Nr (Qb (Qb (Qb Qz))) Nz)
  have dw := k5.Lt d (fun p hq => (Ml hq))
  obtain ⟨hh, d, y7, hA, bl⟩ := ST.zq mH d k5
  refine bS y fun g bc y => ?_
  let hx : Value := (.int .i64 ((g.1).Room))
  let hw : Value := (.string (((g.1).lF).Name))
  refine VE (NI d (bE _) call54 (fun hH hN q aE => (LI (⟨m6, h4, h5⟩ : lF) (.slice j7 h4.length k0) (.slice j8 h5.length k1) K5 9 _ _ ⟨hH, hN, q⟩ (bl.mono mH.mono (mn.refl _)) (p0.mono nK.mono y7) bc)) (fun ev fx hi eo d cx hB ah => ?_) (L0 := []))
  obtain ⟨gs, gt, gu, gw, gy, gz, k6, rfl, l1, l2, l3, l4, l5, l6⟩ := ah
  replace k6 := k6.symm; subst k6
  replace d := d.perm Tn
  refine Wm (Wx rfl (Wx rfl (VE (mz d lu (fun ew j d => ?_)))))
  let g6 : Value := (.pointer (some ⟨j, 0, none⟩))
  obtain ⟨f8, g4, rfl⟩ := l1.form
  let bb : Value := (.slice f8 (((g.1).lF).lX).length g4)
  obtain ⟨f9, g7, rfl⟩ := l2.form
  let ct : Value := (.slice f9 (((g.1).lF).ml).length g7)
  obtain ⟨g0, g8, rfl⟩ := l3.form
  let dd : Value := (.slice g0 ((g.1).lQ).length g8)
  obtain ⟨g1, g9, rfl⟩ := l4.form
  let eq : Value := (.slice g1 ((g.1).Shown).length g9)
  obtain ⟨g2, h0, rfl⟩ := l5.form
  let en : Value := (.slice g2 ((g.1).mg).length h0)
  obtain ⟨g3, h1, rfl⟩ := l6.form
  let fm : Value := (.slice g3 ((g.1).mj).length h1)
  refine VO (mh (.agg #[hw, bb, ct, (.string ((g.1).na)), hx, dd, eq, en, fm]) (#[hw, bb, ct, (.string ((g.1).na)), hx, dd, eq, en, fm]) d rfl rfl cZ oc nb rfl (fun ey d => Wa (ln ?_)))
  replace d := d.lG (Kb (Db St))
  refine sg (VA d Mh [hw, bb, ct, (.string ((g.1).na)), hx, dd, eq, en, fm] dU cZ (bS y fun fu bd y => VE (Eg d call74 (FN g.1 bb ct dd eq en fm (.slice none 0 0) ([]) _ _ (l1.mono mH.mono d.lJ) (l2.mono nK.mono d.lJ) (l3.mono (Pl.mono _) d.lJ) (l4.mono (Pl.mono _) d.lJ) (l5.mono (Pl.mono _) d.lJ) (l6.mono (Pl.mono _) d.lJ) (Sl.nil _ _ _) bd) (fun ez d => Wa (lr (V (lN vX bx) (VA d (Mt (Mt Mh)) (lE K7) bB aH (VE (mN (cs := (lE K7).toArray) d (oX rfl) (oR aM aH dF) (fun fa j9 d => ?_))))))))))
  have dx : Fr w.heap.size (.slice (some ⟨j9, 0, none⟩) 1 1) := Fr.box d Mh
  obtain ⟨hj, d, c7, hC, bn⟩ := ST.zp (R := [(j9, Ol (lE K7) 50)]) d (my.lit (l := [K7]) (enc := lE) (b := j9) (m := 1) rfl dc rfl rfl) nI
  refine bS y fun h6 be y => ?_
  refine VE (NI d (Cb Pz Cn) call75 (fun hH hN q aE => (IP j (⟨(⟨((g.1).lF).Name, ((g.1).lF).lX, ((g.1).lF).ml⟩ : lF), (g.1).na, (g.1).Room, (g.1).lQ, (g.1).Shown, (g.1).mg, (g.1).mj⟩ : mW) bb ct dd eq en fm (.slice (some ⟨j9, 0, none⟩) 1 1) ([K7]) _ _ ⟨hH, hN, q⟩ (l1.mono mH.mono c7) (l2.mono nK.mono c7) (l3.mono (Pl.mono _) c7) (l4.mono (Pl.mono _) c7) (l5.mono (Pl.mono _) c7) (l6.mono (Pl.mono _) c7) (bn.mono (Pl.mono _) (mn.refl _)) be)) (fun fb fy hk ep d cy hD ai => ?_))
  obtain ⟨o1, o2, o3, o4, o5, o6, k7, rfl, p1, p2, p3, p4, p5, p6⟩ := ai
  replace k7 := k7.symm; subst k7
  replace d := d.perm (Tb Tn)
  refine ln ?_
  replace d := d.lG (Kb (Kb (Db St)))
  refine sg (VA d Mh [(.string (((h6).lF).Name)), o1, o2, (.string ((h6).na)), (.int .i64 ((h6).Room)), o3, o4, o5, o6] dU cZ (bS y fun fv bf y => VE (pF d call76 (EF h6 o1 o2 o3 o4 o5 o6 _ _ (p1.mono mH.mono d.lJ) (p2.mono nK.mono d.lJ) (p3.mono (Pl.mono _) d.lJ) (p4.mono (Pl.mono _) d.lJ) (p5.mono (Pl.mono _) d.lJ) (p6.mono (Pl.mono _) d.lJ) bf) (fun fc z8 hl A d c8 hE k4 => Wa (lr (bS y fun c bh y => ?_))))))
  let hz : Value := (.int .i64 ((c.1).uM))
  let hy : Value := (.int .i64 ((c.1).Kind))
  refine VE (NI d (Cb (Pr Pz) Cn) call28 (fun hH hN q aE => (AU j h6 o1 o2 o3 o4 o5 o6 (.slice none 0 0) ([]) _ _ ⟨hH, hN, q⟩ (p1.mono mH.mono c8) (p2.mono nK.mono c8) (p3.mono (Pl.mono _) c8) (p4.mono (Pl.mono _) c8) (p5.mono (Pl.mono _) c8) (p6.mono (Pl.mono _) c8) (Sl.nil _ _ _) bh)) (fun fd fz hn er d cz hF aj => ?_))
  obtain ⟨ha, hb, m7, m8, hc, m9, n0, n1, k8, rfl, p7, p8, p9, q0, eb, q1, q2, q3⟩ := aj
  replace k8 := k8.symm; subst k8
  replace d := d.perm (Tb Tn)
  refine Wm (Wx rfl (Wx rfl (VE (mz d fH (fun fe N d => ?_)))))
  let gc : Value := (.pointer (some ⟨N, 0, none⟩))
  obtain ⟨Z, a3, rfl⟩ := p7.form
  let hv : Value := (.slice Z ((c.1).qo).length a3)
  obtain ⟨a0, a4, rfl⟩ := p8.form
  let gv : Value := (.slice a0 ((c.1).pR).length a4)
  let d3 := (#[hy, hz, (.int .i64 ((c.1).E)), (.string ((c.1).Name)), hv, gv] : Array Value)
  refine VO (mh (.agg #[hy, hz, (.int .i64 ((c.1).E)), (.string ((c.1).Name)), hv, gv]) (#[hy, hz, (.int .i64 ((c.1).E)), (.string ((c.1).Name)), hv, gv]) d rfl rfl fJ oc nb rfl (fun ff d => Wa (lr (V (lN xW n6) (VA d (Mt (Mt (Ma Mh))) (lE K9) bB aH (V (nZ (v := (.agg (lD Lw).toArray)) (ES rfl rfl rfl) (nB cM dL (Rf _ dL) kr)) (VE (mN (cs := (lD Lw).toArray) d (oX rfl) (oR aJ aI cM) (fun fg d4 d => Wf EE ?_)))))))))
  let j2 : Value := (.slice (some ⟨d4, 0, none⟩) 1 1)
  replace d := d.perm (Nb (Pb (Pb Pz)) Nz)
  refine VO (mh j2 (#[(.string (((c.2.2).lF).Name)), m7, m8, (.string ((c.2.2).na)), (.int .i64 ((c.2.2).Room)), j2, m9, n0, n1]) d rfl rfl iA oc nb rfl (fun fh d => lr (VA d Mh [(.string (((c.2.2).lF).Name)), m7, m8, (.string ((c.2.2).na)), (.int .i64 ((c.2.2).Room)), j2, m9, n0, n1] dU cZ (bS y fun fw bi y => VE (pF d call77 (Bg (⟨(c.2.2).lF, (c.2.2).na, (c.2.2).Room, [Lw], (c.2.2).Shown, (c.2.2).mg, (c.2.2).mj⟩ : mW) m7 m8 j2 m9 n0 n1 _ _ (p9.mono mH.mono d.lJ) (q0.mono nK.mono d.lJ) (Sl.lit (enc := lD) (l := [Lw]) nj rfl nb rfl (d.at_ (Mt Mh))) (q1.mono (Pl.mono _) d.lJ) (q2.mono (Pl.mono _) d.lJ) (q3.mono (Pl.mono _) d.lJ) bi) (fun fi f4 ho f1 d d6 hG am => Wa (lr ?_)))))))
  replace d := d.perm (Nb (Pr (Pb Pz)) Nz)
  have dy : Fr w.heap.size j2 := Fr.box d Mh
  obtain ⟨hr, d, d7, hI, bo⟩ := ST.zp (R := [(d4, Ol (lD Lw) 52)]) d (my.lit (l := [Lw]) (enc := lD) (b := d4) (m := 1) rfl dc rfl rfl) nj
  refine bS y fun a bj y => ?_
  let ib : Value := (.int .i64 ((a.1).uM))
  let ia : Value := (.int .i64 ((a.1).Kind))
  let gx : Value := (.string ((a.2.2).na))
  let gp : Value := (.int .i64 ((a.2.2).Room))
  let gk : Value := (.string (((a.2.2).lF).Name))
  refine VE (NI d (Cb (Pr Pz) Cn) call28 (fun hH hN q aE => (AU j (⟨(⟨((c.2.2).lF).Name, ((c.2.2).lF).lX, ((c.2.2).lF).ml⟩ : lF), (c.2.2).na, (c.2.2).Room, [Lw], (c.2.2).Shown, (c.2.2).mg, (c.2.2).mj⟩ : mW) m7 m8 j2 m9 n0 n1 (.slice none 0 0) ([]) _ _ ⟨hH, hN, q⟩ (p9.mono mH.mono (d6.trans d7)) (q0.mono nK.mono (d6.trans d7)) (bo.mono (Pl.mono _) (mn.refl _)) (q1.mono (Pl.mono _) (d6.trans d7)) (q2.mono (Pl.mono _) (d6.trans d7)) (q3.mono (Pl.mono _) (d6.trans d7)) (Sl.nil _ _ _) bj)) (fun fj ga hs es d da hJ ak => ?_))
  obtain ⟨hd, he, G, H, I, J, K, M, k9, rfl, q4, q5, l7, l8, l9, m0, m1, m2⟩ := ak
  let g5 := (#[gk, G, H, gx, gp, I, J, K, M] : Array Value)
  replace k9 := k9.symm; subst k9
  replace d := d.perm (Tb Tn)
  refine Wm (Wx rfl (Wx rfl (VE (mz d fH (fun fk t d => ?_)))))
  let j1 : Value := (.pointer (some ⟨t, 0, none⟩))
  obtain ⟨a1, a5, rfl⟩ := q4.form
  let ht : Value := (.slice a1 ((a.1).qo).length a5)
  obtain ⟨a2, a6, rfl⟩ := q5.form
  let hu : Value := (.slice a2 ((a.1).pR).length a6)
  let b8 := (#[ia, ib, (.int .i64 ((a.1).E)), (.string ((a.1).Name)), ht, hu] : Array Value)
  refine VO (mh (.agg #[ia, ib, (.int .i64 ((a.1).E)), (.string ((a.1).Name)), ht, hu]) (#[ia, ib, (.int .i64 ((a.1).E)), (.string ((a.1).Name)), ht, hu]) d rfl rfl fJ oc nb rfl (fun fl d => Wa (lr (bS y fun x bk y => ?_))))
  refine VE (NI d (bE _) call28 (fun hH hN q aE => nM.nz (Hq (.slice none 0 0) ([]) _ _ ⟨hH, hN, q⟩ (Sl.nil _ _ _) bk)) (fun fn gb F et d k hK al => ?_) (L0 := []))
  obtain ⟨hf, hg, l0, rfl, bp, bq⟩ := al
  replace l0 := l0.symm; subst l0
  replace d := d.perm Tn
  refine Wm (Wx rfl (Wx rfl (VE (mz d fH (fun fo fq d => ?_)))))
  obtain ⟨s2, t6, rfl⟩ := bp.form
  obtain ⟨s3, t7, rfl⟩ := bq.form
  refine VO (mh (.agg #[(.int .i64 ((x.1).Kind)), (.int .i64 ((x.1).uM)), (.int .i64 ((x.1).E)), (.string ((x.1).Name)), (.slice s2 ((x.1).qo).length t6), (.slice s3 ((x.1).pR).length t7)]) (#[(.int .i64 ((x.1).Kind)), (.int .i64 ((x.1).uM)), (.int .i64 ((x.1).E)), (.string ((x.1).Name)), (.slice s2 ((x.1).qo).length t6), (.slice s3 ((x.1).pR).length t7)]) d rfl rfl fJ oc nb rfl (fun fp d => Wa (ln ?_)))
  replace d := d.lG (Db St)
  refine me ?_
  replace d := d.drew
  have n := d.has.lG (Kb (Kb (Dr (Kb (Kr (Kb Sn))))))
  refine mO n mu (X 0 rfl n (lO rfl) (X 1 rfl n (mU rfl rfl rfl) (X 2 rfl n (lO rfl) (PJ y (fun r9 E W => ∃ s5, ST false mX w W F ((t, Obj.cells b8 78 (0, 0)) :: ((j, Obj.cells g5 36 (0, 0)) :: ((N, Obj.cells d3 78 (0, 0)) :: ((s, Ol AY 58) :: (f1 ++ (A ++ s5)))))) ∧ E 2 = (.pointer (some ⟨s, 0, none⟩)) ∧ E 4 = g6 ∧ E 7 = z8 ∧ E 8 = gc ∧ E 9 = (.int .i64 c.2.1) ∧ E 10 = f4 ∧ E 11 = j1 ∧ E 12 = (.int .i64 a.2.1) ∧ E 14 = (.int .i64 x.2) ∧ E 62 = (.bool r9)) (bm 76 31) 71 ?_ (fun r9 e7 j6 => ?_)))))
  ·rintro ge E W ⟨s5, d, t9, u0, n7, u1, u2, u3, u4, u5, u6, ca⟩ an
   have n := d.has.lG (Kb (Kb (Kb (Sr (Qb (Qr Qz)) (Kb Sn)))))
   refine X 5 rfl n (lO ca) (PJ an (fun r8 E W => ∃ s6, ST false mX w W F ((t, Obj.cells b8 78 (0, 0)) :: ((j, Obj.cells g5 36 (0, 0)) :: ((N, Obj.cells d3 78 (0, 0)) :: ((s, Ol AY 58) :: (f1 ++ (A ++ s6)))))) ∧ E 2 = (.pointer (some ⟨s, 0, none⟩)) ∧ E 4 = g6 ∧ E 7 = z8 ∧ E 8 = gc ∧ E 9 = (.int .i64 c.2.1) ∧ E 10 = f4 ∧ E 11 = j1 ∧ E 12 = (.int .i64 a.2.1) ∧ E 14 = (.int .i64 x.2) ∧ E 67 = (.bool r8)) (bm 76 1023) 66 ?_ (fun r8 e6 j5 => ?_))
   ·rintro gf E W ⟨s6, d, cb, u7, cc, u8, u9, v0, v1, v2, v3, cd⟩ ao
    have n := d.has.lG (Kb (Kb (Kb (Sr (Qb (Qr Qz)) (Kb Sn)))))
    refine X 10 rfl n (lO cd) (PJ ao (fun r7 E W => ∃ s7, ST false mX w W F ((t, Obj.cells b8 78 (0, 0)) :: ((j, Obj.cells g5 36 (0, 0)) :: ((N, Obj.cells d3 78 (0, 0)) :: ((s, Ol AY 58) :: (f1 ++ (A ++ s7)))))) ∧ E 4 = g6 ∧ E 8 = gc ∧ E 9 = (.int .i64 c.2.1) ∧ E 10 = f4 ∧ E 11 = j1 ∧ E 12 = (.int .i64 a.2.1) ∧ E 14 = (.int .i64 x.2) ∧ E 75 = (.bool r7)) (bm 76 262143) 58 ?_ (fun r7 c5 j4 => ?_))
    ·rintro gg E W ⟨s7, d, v4, v5, ce, v6, v7, v8, v9, cf⟩ ap
     have n := d.has.lG (Kb (Kb (Kb (Sr (Qb (Qr Qz)) (Kb Sn)))))
     refine X 18 rfl n (lO cf) (PJ ap (fun r6 E W => ∃ s8, ST false mX w W F ((t, Obj.cells b8 78 (0, 0)) :: ((j, Obj.cells g5 36 (0, 0)) :: ((N, Obj.cells d3 78 (0, 0)) :: ((s, Ol AY 58) :: (f1 ++ (A ++ s8)))))) ∧ E 4 = g6 ∧ E 8 = gc ∧ E 10 = f4 ∧ E 11 = j1 ∧ E 12 = (.int .i64 a.2.1) ∧ E 14 = (.int .i64 x.2) ∧ E 79 = (.bool r6)) (bm 76 4194303) 54 ?_ (fun r6 e5 j3 => ?_))
     ·rintro gh E W ⟨s8, d, w0, n8, w1, w2, w3, w4, cg⟩ aq
      have n := d.has.lG (Kb (Kb (Kb (Sr (Qb (Qr Qz)) (Kb Sn)))))
      refine X 22 rfl n (lO cg) (PJ aq (fun r5 E W => ∃ s9, ST false mX w W F ((t, Obj.cells b8 78 (0, 0)) :: ((j, Obj.cells g5 36 (0, 0)) :: ((N, Obj.cells d3 78 (0, 0)) :: ((s, Ol AY 58) :: (f1 ++ (A ++ s9)))))) ∧ E 4 = g6 ∧ E 8 = gc ∧ E 10 = f4 ∧ E 11 = j1 ∧ E 12 = (.int .i64 a.2.1) ∧ E 14 = (.int .i64 x.2) ∧ E 85 = (.bool r5)) (bm 76 268435455) 48 ?_ (fun r5 e4 j0 => ?_))
      ·rintro gi E W ⟨s9, d, w5, ch, w6, w7, w8, w9, ci⟩ ar
       have n := d.has.lG (Kb (Kb (Kb (Sr (Qb (Qr Qz)) (Kb Sn)))))
       refine X 28 rfl n (lO ci) (PJ ar (fun r4 E W => ∃ t0, ST false mX w W F ((t, Obj.cells b8 78 (0, 0)) :: ((j, Obj.cells g5 36 (0, 0)) :: ((N, Obj.cells d3 78 (0, 0)) :: ((s, Ol AY 58) :: (f1 ++ (A ++ t0)))))) ∧ E 4 = g6 ∧ E 10 = f4 ∧ E 11 = j1 ∧ E 12 = (.int .i64 a.2.1) ∧ E 14 = (.int .i64 x.2) ∧ E 91 = (.bool r4)) (bm 76 17179869183) 42 ?_ (fun r4 e3 i9 => ?_))
       ·rintro gj E W ⟨t0, d, x1, cj, x2, x3, x4, ck⟩ au
        have n := d.has.lG (Kb (Kb (Kb (Sr (Qb (Qr Qz)) (Kb Sn)))))
        refine X 34 rfl n (lO ck) (PJ au (fun r3 E W => ∃ t1, ST false mX w W F ((t, Obj.cells b8 78 (0, 0)) :: ((j, Obj.cells g5 36 (0, 0)) :: ((N, Obj.cells d3 78 (0, 0)) :: ((s, Ol AY 58) :: (A ++ t1))))) ∧ E 4 = g6 ∧ E 11 = j1 ∧ E 12 = (.int .i64 a.2.1) ∧ E 14 = (.int .i64 x.2) ∧ E 96 = (.bool r3)) (bm 76 549755813887) 37 ?_ (fun r3 e2 i8 => ?_))
        ·rintro gl E W ⟨t1, d, x5, x6, cl, x7, cm⟩ av
         have n := d.has.lG (Kb (Kb (Kb (Sr (Qb Qz) (Kb Sn)))))
         refine X 39 rfl n (lO cm) (PJ av (fun r2 E W => ∃ t2, ST false mX w W F ((t, Obj.cells b8 78 (0, 0)) :: ((j, Obj.cells g5 36 (0, 0)) :: ((N, Obj.cells d3 78 (0, 0)) :: ((s, Ol AY 58) :: (A ++ t2))))) ∧ E 4 = g6 ∧ E 11 = j1 ∧ E 14 = (.int .i64 x.2) ∧ E 100 = (.bool r2)) (bm 76 8796093022207) 33 ?_ (fun r2 e1 i7 => ?_))
         ·rintro gn E W ⟨t2, d, x8, n9, x9, cn⟩ aw
          have n := d.has.lG (Kb (Kb (Kb (Sr (Qb Qz) (Kb Sn)))))
          refine X 43 rfl n (lO cn) (PJ aw (fun r1 E W => ∃ t3, ST false mX w W F ((t, Obj.cells b8 78 (0, 0)) :: ((j, Obj.cells g5 36 (0, 0)) :: ((N, Obj.cells d3 78 (0, 0)) :: ((s, Ol AY 58) :: (A ++ t3))))) ∧ E 4 = g6 ∧ E 11 = j1 ∧ E 14 = (.int .i64 x.2) ∧ E 106 = (.bool r1)) (bm 76 562949953421311) 27 ?_ (fun r1 e0 i6 => ?_))
          ·rintro go E W ⟨t3, d, y0, co, y1, cp⟩ ay
           have n := d.has.lG (Kb (Kb (Kb (Sr (Qb Qz) (Kb Sn)))))
           refine X 49 rfl n (lO cp) (PJ ay (fun r0 E W => ∃ t4, ST false mX w W F ((t, Obj.cells b8 78 (0, 0)) :: ((j, Obj.cells g5 36 (0, 0)) :: ((N, Obj.cells d3 78 (0, 0)) :: ((s, Ol AY 58) :: (A ++ t4))))) ∧ E 4 = g6 ∧ E 14 = (.int .i64 x.2) ∧ E 112 = (.bool r0)) (bm 76 36028797018963967) 21 ?_ (fun r0 d9 i5 => ?_))
           ·rintro gq E W ⟨t4, d, y2, cq, cr⟩ az
            have n := d.has.lG (Kb (Kb (Kb (Sr (Qb Qz) (Kb Sn)))))
            refine X 55 rfl n (lO cr) (PJ az (fun q9 E W => ∃ t5, ST false mX w W F ((t, Obj.cells b8 78 (0, 0)) :: ((j, Obj.cells g5 36 (0, 0)) :: ((N, Obj.cells d3 78 (0, 0)) :: ((s, Ol AY 58) :: (A ++ t5))))) ∧ E 4 = g6 ∧ E 116 = (.bool q9)) (bm 76 576460752303423487) 17 ?_ (fun q9 d8 i4 => ?_))
            ·rintro gr E W ⟨t5, d, k2, ac⟩ ba
             have n := d.has.lG (Kb (Kb (Kb (Sr (Qb Qz) (Kb Sn)))))
             refine X 59 rfl n (lO ac) (PJ ba (fun q8 E W => ∃ o7, ST false mX w W F ((t, Obj.cells b8 78 (0, 0)) :: ((j, Obj.cells g5 36 (0, 0)) :: ((N, Obj.cells d3 78 (0, 0)) :: ((s, Ol AY 58) :: (A ++ o7))))) ∧ E 4 = g6 ∧ E 120 = (.bool q8)) (bm 76 9223372036854775807) 13 ?_ (fun q8 c4 i3 => ?_))
             ·rintro ek E W ⟨o7, d, k3, ad⟩ y8
              have n := d.has.lG (Kb (Kb (Kb (Sr (Qb Qz) (Kb Sn)))))
              refine X 63 rfl n (lO ad) (PJ y8 (fun q7 E W => ∃ f0 o8, mn F f0 ∧ ST false mX w W f0 ((t, Obj.cells b8 78 (0, 0)) :: ((j, Obj.cells g5 36 (0, 0)) :: ((N, Obj.cells d3 78 (0, 0)) :: ((s, Ol AY 58) :: (A ++ o8))))) ∧ E 4 = g6 ∧ E 126 = (.bool q7)) (bm 76 590295810358705651711) 7 ?_ (fun q7 c3 i2 => ?_))
              ·rintro el E W ⟨f0, o8, Y, d, ae, af⟩ y9
               have n := d.has.pC Y (Kb (Kb (Kb (Sr (Qb Qz) (Kb Sn)))))
               refine X 69 rfl n (lO af) (PJ y9 (fun q6 E W => ∃ n2 o9, mn f0 n2 ∧ ST false mX w W n2 ((t, Obj.cells b8 78 (0, 0)) :: ((j, Obj.cells g5 36 (0, 0)) :: ((N, Obj.cells d3 78 (0, 0)) :: ((s, Ol AY 58) :: (A ++ o9))))) ∧ E 132 = (.bool q6)) (bm 76 37778931862957161709567) 1 ?_ (fun q6 c2 i1 => ?_))
               ·rintro em E W ⟨n2, o9, s1, d, ag⟩ z0
                have n := d.has.pC (Y.trans s1) (Kb (Kb (Kb (Sr (Qb Qz) (Kb Sn)))))
                refine X 75 rfl n (oL ag) (nc kr (lU ?_))
                exact mB (rQ z0 d)
               refine bC c2 (fun U c2 => ?_) (fun U c2 => ?_)
               ·refine sc 70 rfl rfl (cB U) n (fun _ o => lK ae (lP o (Mt Mh) [gk, G, H, gx, gp, I, J, K, M] rfl dU cZ)) (bS c2 fun ed z2 c2 => As 71 rfl rfl (cB U) (pF d call27 (yY a.2.2 G H I J K M _ _ (l7.mono mH.mono ((k.trans Y).trans d.lJ)) (l8.mono nK.mono ((k.trans Y).trans d.lJ)) (l9.mono (Pl.mono _) ((k.trans Y).trans d.lJ)) (m0.mono (Pl.mono _) ((k.trans Y).trans d.lJ)) (m1.mono (Pl.mono _) ((k.trans Y).trans d.lJ)) (m2.mono (Pl.mono _) ((k.trans Y).trans d.lJ)) z2) (fun dh eg bs db d h7 cS y3 => ?_)))
                have n := d.has.pC (Y.trans h7) (Dr (Kb (Kb (Kb (Sr (Qb Qz) (Kb Sn))))))
                refine ⟨n, (Xg 72 rfl rfl (cB U) n (qb aJ rfl y3) (Xg 73 rfl rfl (cB U) n (mU rfl rfl rfl) (X 74 rfl n (mo (cB U) rfl) ?_)))⟩
                obtain rfl := sj c2
                refine nE kr (i1 _ _ ⟨bs, _, h7, (d.lG (Dr St)), rfl⟩)
               refine Xn 70 rfl rfl (cB U) n (Xn 71 rfl rfl (cB U) n (Xn 72 rfl rfl (cB U) n (Xn 73 rfl rfl (cB U) n (X 74 rfl n (mq (cB U) rfl) ?_))))
               obtain rfl := sj c2
               refine nE kr (i1 _ _ ⟨f0, _, (mn.refl _), (d.lG St), rfl⟩)
              refine bC c3 (fun T c3 => ?_) (fun T c3 => ?_)
              ·refine sc 64 rfl rfl (cB T) n (fun _ o => lK k3 (lP o (Mt Mh) [gk, G, H, gx, gp, I, J, K, M] rfl dU cZ)) (bS c3 fun ee z3 c3 => As 65 rfl rfl (cB T) (pF d call78 (FP a.2.2 G H I J K M _ _ (l7.mono mH.mono (k.trans d.lJ)) (l8.mono nK.mono (k.trans d.lJ)) (l9.mono (Pl.mono _) (k.trans d.lJ)) (m0.mono (Pl.mono _) (k.trans d.lJ)) (m1.mono (Pl.mono _) (k.trans d.lJ)) (m2.mono (Pl.mono _) (k.trans d.lJ)) z3) (fun di eh bt de d h8 eI y4 => ?_)))
               have n := d.has.pC h8 (Dr (Kb (Kb (Kb (Sr (Qb Qz) (Kb Sn))))))
               refine ⟨n, (Xg 66 rfl rfl (cB T) n (qb aJ rfl y4) (Xg 67 rfl rfl (cB T) n (mU rfl rfl rfl) (X 68 rfl n (mo (cB T) rfl) ?_)))⟩
               obtain rfl := sj c3
               refine nE kr (i2 _ _ ⟨bt, _, h8, (d.lG (Dr St)), k3, rfl⟩)
              refine Xn 64 rfl rfl (cB T) n (Xn 65 rfl rfl (cB T) n (Xn 66 rfl rfl (cB T) n (Xn 67 rfl rfl (cB T) n (X 68 rfl n (mq (cB T) rfl) ?_))))
              obtain rfl := sj c3
              refine nE kr (i2 _ _ ⟨F, _, (mn.refl _), (d.lG St), k3, rfl⟩)
             refine bC c4 (fun c1 c4 => ?_) (fun c1 c4 => ?_)
             ·refine sc 60 rfl rfl (cB c1) n (fun _ o => lK k2 (lP o (Mt Mh) [gk, G, H, gx, gp, I, J, K, M] rfl dU cZ)) (bS c4 fun ef z4 c4 => As 61 rfl rfl (cB c1) (Eg d call74 (FN a.2.2 G H I J K M (.slice none 0 0) ([]) _ _ (l7.mono mH.mono (k.trans d.lJ)) (l8.mono nK.mono (k.trans d.lJ)) (l9.mono (Pl.mono _) (k.trans d.lJ)) (m0.mono (Pl.mono _) (k.trans d.lJ)) (m1.mono (Pl.mono _) (k.trans d.lJ)) (m2.mono (Pl.mono _) (k.trans d.lJ)) (Sl.nil _ _ _) z4) (fun dj d => ?_)))
              have n := d.has.lG (Kb (Kb (Kb (Sr (Qb Qz) (Kb Sn)))))
              refine ⟨n, (X 62 rfl n (mo (cB c1) rfl) ?_)⟩
              obtain rfl := sj c4
              refine nE kr (i3 _ _ ⟨_, (d.lG St), k2, rfl⟩)
             refine Xn 60 rfl rfl (cB c1) n (Xn 61 rfl rfl (cB c1) n (X 62 rfl n (mq (cB c1) rfl) ?_))
             obtain rfl := sj c4
             refine nE kr (i3 _ _ ⟨_, (d.lG St), k2, rfl⟩)
            refine bC d8 (fun d1 d8 => ?_) (fun d1 d8 => ?_)
            ·refine Xg 56 rfl rfl (cB d1) n (lO cq) (Xg 57 rfl rfl (cB d1) n (mU rfl rfl rfl) (X 58 rfl n (mo (cB d1) rfl) ?_))
             obtain rfl := sj d8
             refine nE kr (i4 _ _ ⟨_, (d.lG St), y2, rfl⟩)
            refine Xn 56 rfl rfl (cB d1) n (Xn 57 rfl rfl (cB d1) n (X 58 rfl n (mq (cB d1) rfl) ?_))
            obtain rfl := sj d8
            refine nE kr (i4 _ _ ⟨_, (d.lG St), y2, rfl⟩)
           refine bC d9 (fun P d9 => ?_) (fun P d9 => ?_)
           ·refine Xg 50 rfl rfl (cB P) n (lN BJ co) (sc 51 rfl rfl (cB P) n (fun _ o => lK rfl (ma o Mh rfl fN)) (Xg 52 rfl rfl (cB P) n (nh aM rfl q4) (Xg 53 rfl rfl (cB P) n (mU rfl rfl rfl) (X 54 rfl n (mo (cB P) rfl) ?_))))
            obtain rfl := sj d9
            refine nE kr (i5 _ _ ⟨_, (d.lG St), y0, y1, rfl⟩)
           refine Xn 50 rfl rfl (cB P) n (Xn 51 rfl rfl (cB P) n (Xn 52 rfl rfl (cB P) n (Xn 53 rfl rfl (cB P) n (X 54 rfl n (mq (cB P) rfl) ?_))))
           obtain rfl := sj d9
           refine nE kr (i5 _ _ ⟨_, (d.lG St), y0, y1, rfl⟩)
          refine bC e0 (fun O e0 => ?_) (fun O e0 => ?_)
          ·refine Xg 44 rfl rfl (cB O) n (lN BT n9) (sc 45 rfl rfl (cB O) n (fun _ o => lK rfl (ma o Mh rfl lA)) (Xg 46 rfl rfl (cB O) n (nh dE rfl q5) (Xg 47 rfl rfl (cB O) n (mU rfl rfl rfl) (X 48 rfl n (mo (cB O) rfl) ?_))))
           obtain rfl := sj e0
           refine nE kr (i6 _ _ ⟨_, (d.lG St), x8, n9, x9, rfl⟩)
          refine Xn 44 rfl rfl (cB O) n (Xn 45 rfl rfl (cB O) n (Xn 46 rfl rfl (cB O) n (Xn 47 rfl rfl (cB O) n (X 48 rfl n (mq (cB O) rfl) ?_))))
          obtain rfl := sj e0
          refine nE kr (i6 _ _ ⟨_, (d.lG St), x8, n9, x9, rfl⟩)
         refine bC e1 (fun d0 e1 => ?_) (fun d0 e1 => ?_)
         ·refine Xg 40 rfl rfl (cB d0) n (lO cl) (Xg 41 rfl rfl (cB d0) n (mU rfl rfl rfl) (X 42 rfl n (mo (cB d0) rfl) ?_))
          obtain rfl := sj e1
          refine nE kr (i7 _ _ ⟨_, (d.lG St), x5, x6, x7, rfl⟩)
         refine Xn 40 rfl rfl (cB d0) n (Xn 41 rfl rfl (cB d0) n (X 42 rfl n (mq (cB d0) rfl) ?_))
         obtain rfl := sj e1
         refine nE kr (i7 _ _ ⟨_, (d.lG St), x5, x6, x7, rfl⟩)
        refine bC e2 (fun c0 e2 => ?_) (fun c0 e2 => ?_)
        ·refine Xg 35 rfl rfl (cB c0) n (lO cj) (Xg 36 rfl rfl (cB c0) n (qb aJ rfl am) (Xg 37 rfl rfl (cB c0) n (mU rfl rfl rfl) (X 38 rfl n (mo (cB c0) rfl) ?_)))
         obtain rfl := sj e2
         refine nE kr (i8 _ _ ⟨_, (d.lG (Kb (Kb (Kb (Kb (Dr St)))))), x1, x2, x3, x4, rfl⟩)
        refine Xn 35 rfl rfl (cB c0) n (Xn 36 rfl rfl (cB c0) n (Xn 37 rfl rfl (cB c0) n (X 38 rfl n (mq (cB c0) rfl) ?_)))
        obtain rfl := sj e2
        refine nE kr (i8 _ _ ⟨_, (d.lG (Kb (Kb (Kb (Kb (Dr St)))))), x1, x2, x3, x4, rfl⟩)
       refine bC e3 (fun a9 e3 => ?_) (fun a9 e3 => ?_)
       ·refine Xg 29 rfl rfl (cB a9) n (lN BT ch) (sc 30 rfl rfl (cB a9) n (fun _ o => lK rfl (ma o (Mt (Mt Mh)) rfl lA)) (Xg 31 rfl rfl (cB a9) n (nh dE rfl p8) (Xg 32 rfl rfl (cB a9) n (mU rfl rfl rfl) (X 33 rfl n (mo (cB a9) rfl) ?_))))
        obtain rfl := sj e3
        refine nE kr (i9 _ _ ⟨_, (d.lG St), w5, w6, w7, w8, w9, rfl⟩)
       refine Xn 29 rfl rfl (cB a9) n (Xn 30 rfl rfl (cB a9) n (Xn 31 rfl rfl (cB a9) n (Xn 32 rfl rfl (cB a9) n (X 33 rfl n (mq (cB a9) rfl) ?_))))
       obtain rfl := sj e3
       refine nE kr (i9 _ _ ⟨_, (d.lG St), w5, w6, w7, w8, w9, rfl⟩)
      refine bC e4 (fun L e4 => ?_) (fun L e4 => ?_)
      ·refine Xg 23 rfl rfl (cB L) n (lN BJ n8) (sc 24 rfl rfl (cB L) n (fun _ o => lK rfl (ma o (Mt (Mt Mh)) rfl fN)) (Xg 25 rfl rfl (cB L) n (nh aM rfl p7) (Xg 26 rfl rfl (cB L) n (mU rfl rfl rfl) (X 27 rfl n (mo (cB L) rfl) ?_))))
       obtain rfl := sj e4
       refine nE kr (j0 _ _ ⟨_, (d.lG St), w0, n8, w1, w2, w3, w4, rfl⟩)
      refine Xn 23 rfl rfl (cB L) n (Xn 24 rfl rfl (cB L) n (Xn 25 rfl rfl (cB L) n (Xn 26 rfl rfl (cB L) n (X 27 rfl n (mq (cB L) rfl) ?_))))
      obtain rfl := sj e4
      refine nE kr (j0 _ _ ⟨_, (d.lG St), w0, n8, w1, w2, w3, w4, rfl⟩)
     refine bC e5 (fun c9 e5 => ?_) (fun c9 e5 => ?_)
     ·refine Xg 19 rfl rfl (cB c9) n (lO ce) (Xg 20 rfl rfl (cB c9) n (mU rfl rfl rfl) (X 21 rfl n (mo (cB c9) rfl) ?_))
      obtain rfl := sj e5
      refine nE kr (j3 _ _ ⟨_, (d.lG St), v4, v5, v6, v7, v8, v9, rfl⟩)
     refine Xn 19 rfl rfl (cB c9) n (Xn 20 rfl rfl (cB c9) n (X 21 rfl n (mq (cB c9) rfl) ?_))
     obtain rfl := sj e5
     refine nE kr (j3 _ _ ⟨_, (d.lG St), v4, v5, v6, v7, v8, v9, rfl⟩)
    refine bC c5 (fun Q c5 => ?_) (fun Q c5 => ?_)
    ·refine Xg 11 rfl rfl (cB Q) n (lO cc) (bS c5 fun s0 h3 c5 => uP 12 rfl kr (.inr ⟨10, true, 68, rfl, rfl, by decide, (cB Q)⟩) rfl dc (fun _ _ h => h) n (pu (i := 0) (x0 := s0) aM aH rfl rfl k4 (mE h3) (mA h3)) (fun ec z1 => sc 13 rfl rfl (cB Q) n (fun _ o => lK rfl (rz o (fun p hq => (Mt (Mt (Mt (Ml hq))))) k4 nI z1 (mA h3) bB aH)) (Xg 14 rfl rfl (cB Q) n (lN xW cb) (sc 15 rfl rfl (cB Q) n (fun _ o => lK rfl (lP o (Mt (Mt (Mt (Ma Mh)))) (lE K9) rfl bB aH)) (Xg 16 rfl rfl (cB Q) n (yU rfl rfl (qt gK) (vL (vg _ s0 K9))) (X 17 rfl n (mo (cB Q) rfl) ?_))))))
     obtain rfl := sj c5
     refine nE kr (j4 _ _ ⟨_, (d.lG St), u7, u8, u9, v0, v1, v2, v3, rfl⟩)
    refine Xn 11 rfl rfl (cB Q) n (Xn 12 rfl rfl (cB Q) n (Xn 13 rfl rfl (cB Q) n (Xn 14 rfl rfl (cB Q) n (Xn 15 rfl rfl (cB Q) n (Xn 16 rfl rfl (cB Q) n (X 17 rfl n (mq (cB Q) rfl) ?_))))))
    obtain rfl := sj c5
    refine nE kr (j4 _ _ ⟨_, (d.lG St), u7, u8, u9, v0, v1, v2, v3, rfl⟩)
   refine bC e6 (fun b9 e6 => ?_) (fun b9 e6 => ?_)
   ·refine Xg 6 rfl rfl (cB b9) n (lO n7) (Xg 7 rfl rfl (cB b9) n (qb aM rfl k4) (Xg 8 rfl rfl (cB b9) n (mU rfl rfl rfl) (X 9 rfl n (mo (cB b9) rfl) ?_)))
    obtain rfl := sj e6
    refine nE kr (j5 _ _ ⟨_, (d.lG St), t9, u0, n7, u1, u2, u3, u4, u5, u6, rfl⟩)
   refine Xn 6 rfl rfl (cB b9) n (Xn 7 rfl rfl (cB b9) n (Xn 8 rfl rfl (cB b9) n (X 9 rfl n (mq (cB b9) rfl) ?_)))
   obtain rfl := sj e6
   refine nE kr (j5 _ _ ⟨_, (d.lG St), t9, u0, n7, u1, u2, u3, u4, u5, u6, rfl⟩)
  refine bC e7 (fun e9 e7 => ?_) (fun e9 e7 => ?_)
  ·refine Xg 3 rfl rfl (cB e9) n (lO rfl) (X 4 rfl n (mo (cB e9) rfl) ?_)
   obtain rfl := sj e7
   refine nE kr (j6 _ _ ⟨_, (d.lG (Kb (Kb (Sb (Pr Pz) (Sb (Pr (Pr Pz)) St))))), n6, rfl, rfl, rfl, rfl, rfl, rfl, rfl, rfl, rfl⟩)
  refine Xn 3 rfl rfl (cB e9) n (X 4 rfl n (mq (cB e9) rfl) ?_)
  obtain rfl := sj e7
  refine nE kr (j6 _ _ ⟨_, (d.lG (Kb (Kb (Sb (Pr Pz) (Sb (Pr (Pr Pz)) St))))), n6, rfl, rfl, rfl, rfl, rfl, rfl, rfl, rfl, rfl⟩)
 refine Gt 1 7 rfl rfl kr (.inl rfl) (.inl rfl) rfl rfl dc dc ?_ ?_
 ·refine bS c6 fun u y5 c6 => Hv (enc := (nr .u8)) (z := 0) d (fun _ => rfl) dc cN rh.1 rh.2.1 rh.2.2.1 rh.2.2.2 rfl rfl rfl y5 (fun dk ei df d d5 => ?_)
  let ic := (⟨(⟨Kc, u⟩ : Signed), Va⟩ : mG)
  have n := d.has.lG (Dr (Kb (Kb Sn)))
  refine ⟨n, ?_⟩
  obtain ⟨B, D, rfl⟩ := d5.form
  refine X 2 rfl n (nZ (v := (.agg (U5 B u.length D).toArray)) (rA rfl rfl) (nB dW fE (Oo _ fE) kr)) (X 4 rfl n (nZ (v := (.agg (C5 B u.length D).toArray)) (rA rfl rfl) (nB eZ gH (QH _ gH) kr)) (Gt 5 7 rfl rfl kr (.inl rfl) (.inl rfl) rfl rfl dc dc ?_ ?_))
  ·have cu := d5.Lt d (fun p hq => (Ml hq))
   obtain ⟨bu, d, f2, eN, z5⟩ := ST.zp d d5 (fun _ => rfl)
   refine mN (cs := (C5 B u.length D).toArray) d (oX rfl) (oR dN dQ eZ) (fun dl f5 d => ?_)
   have n := d.has.pC f2 (Db (Kb (Kb Sn)))
   refine ⟨n, (X 6 rfl n (nZ (v := (.agg #[(.string K4), (.slice (some ⟨f5, 0, none⟩) 1 1), (.slice none 0 0)])) (rA rfl rfl) (nB jE fL (Q0 _ fL) kr)) (XE 7 rfl (mz d jE (fun dm z9 d => ?_))))⟩
   have n := d.has.pC f2 (Db (Db (Kb (Kb Sn))))
   refine ⟨n, ?_⟩
   obtain rfl := sj c6
   replace d := d.perm (Nb (Pb Pz) Nz)
   replace d := d.GG
   refine nE kr (f3 _ _ ⟨z9, (.slice (some ⟨f5, 0, none⟩) 1 1), [(f5, Ol (C5 B u.length D) 60)], (.slice none 0 0), (.slice none 0 0), (.slice none 0 0), bu, _, f2, (d.lG (Sb (Pr Pz) (Sb (Pr Pz) (Sb (Pr Pz) St)))), rfl, rfl, rfl, rfl, (nl.lit mH (l := [ic]) (.cons (ys := C5 B u.length D) (mx.mk ⟨(.slice B u.length D), (.slice none 0 0), rfl, z5, (Sl.nil _ _ _)⟩) .nil) rfl nb rfl), (Sl.nil _ _ _), (Fr.nil _), (Sl.nil _ _ _), (Fr.nil _), (Sl.nil _ _ _), (Fr.nil _)⟩)
  ·refine mz d jE (fun dn aa d => ?_)
   have n := d.has.lG (Db (Dr (Kb (Kb Sn))))
   refine ⟨n, ?_⟩
   replace d := d.perm (Nr (Qb Qz) Nz)
   have cv := d5.Lt d (fun p hq => (Ml hq))
   obtain ⟨bv, d, h9, eR, z6⟩ := ST.zp d d5 (fun _ => rfl)
   refine XE 5 rfl (mN (cs := (C5 B u.length D).toArray) d (oX rfl) (oR dN dQ eZ) (fun dp f6 d => ?_))
   have n := d.has.pC h9 (Db (Db (Kb (Kb Sn))))
   refine ⟨n, (X 6 rfl n (nZ (v := (.agg #[(.string K4), (.slice (some ⟨f6, 0, none⟩) 1 1), (.slice none 0 0)])) (rA rfl rfl) (nB jE fL (Q0 _ fL) kr)) ?_)⟩
   obtain rfl := sj c6
   replace d := d.GG
   refine nE kr (f3 _ _ ⟨aa, (.slice (some ⟨f6, 0, none⟩) 1 1), [(f6, Ol (C5 B u.length D) 60)], (.slice none 0 0), (.slice none 0 0), (.slice none 0 0), bv, _, h9, (d.lG (Sb (Pr Pz) (Sb (Pr Pz) (Sb (Pr Pz) St)))), rfl, rfl, rfl, rfl, (nl.lit mH (l := [ic]) (.cons (ys := C5 B u.length D) (mx.mk ⟨(.slice B u.length D), (.slice none 0 0), rfl, z6, (Sl.nil _ _ _)⟩) .nil) rfl nb rfl), (Sl.nil _ _ _), (Fr.nil _), (Sl.nil _ _ _), (Fr.nil _), (Sl.nil _ _ _), (Fr.nil _)⟩)
 ·refine mz d jE (fun dq ab d => ?_)
  have n := d.has.lG (Db (Kb (Kb Sn)))
  refine ⟨n, (bS c6 fun b3 y6 c6 => XE 1 rfl (Hv (enc := (nr .u8)) (z := 0) d (fun _ => rfl) dc cN rh.1 rh.2.1 rh.2.2.1 rh.2.2.2 rfl rfl rfl y6 (fun dr ej dg d h2 => ?_)))⟩
  have n := d.has.lG (Dr (Db (Kb (Kb Sn))))
  refine ⟨n, ?_⟩
  obtain ⟨b6, b7, rfl⟩ := h2.form
  refine X 2 rfl n (nZ (v := (.agg (U5 b6 b3.length b7).toArray)) (rA rfl rfl) (nB dW fE (Oo _ fE) kr)) (X 4 rfl n (nZ (v := (.agg (C5 b6 b3.length b7).toArray)) (rA rfl rfl) (nB eZ gH (QH _ gH) kr)) ?_)
  have cw := h2.Lt d (fun p hq => (Ml hq))
  obtain ⟨bw, d, i0, gR, z7⟩ := ST.zp d h2 (fun _ => rfl)
  refine XE 5 rfl (mN (cs := (C5 b6 b3.length b7).toArray) d (oX rfl) (oR dN dQ eZ) (fun ds f7 d => ?_))
  have n := d.has.pC i0 (Db (Db (Kb (Kb Sn))))
  refine ⟨n, (X 6 rfl n (nZ (v := (.agg #[(.string K4), (.slice (some ⟨f7, 0, none⟩) 1 1), (.slice none 0 0)])) (rA rfl rfl) (nB jE fL (Q0 _ fL) kr)) ?_)⟩
  obtain rfl := sj c6
  replace d := d.GG
  refine nE kr (f3 _ _ ⟨ab, (.slice (some ⟨f7, 0, none⟩) 1 1), [(f7, Ol (C5 b6 b3.length b7) 60)], (.slice none 0 0), (.slice none 0 0), (.slice none 0 0), bw, _, i0, (d.lG (Sb (Pr Pz) (Sb (Pr Pz) (Sb (Pr Pz) St)))), rfl, rfl, rfl, rfl, (nl.lit mH (l := [(⟨(⟨Kc, b3⟩ : Signed), Va⟩ : mG)]) (.cons (ys := C5 b6 b3.length b7) (mx.mk ⟨(.slice b6 b3.length b7), (.slice none 0 0), rfl, z7, (Sl.nil _ _ _)⟩) .nil) rfl nb rfl), (Sl.nil _ _ _), (Fr.nil _), (Sl.nil _ _ _), (Fr.nil _), (Sl.nil _ _ _), (Fr.nil _)⟩)
theorem zQ (k : Value) (u : List lB) (r : Int) (w : World) (j : Sl (Pl lD) 9 (hp w) k u) (hm : sv u = some r) :
  mw true Tryz.prog 18 [k] w (.int .i64 r) := by
 refine cG 54 func18 rfl (fun b => sg (Wa (lr (Wa (lS (Wm ?_))))))
 refine V (nh aJ rfl j) (Wm (ln (mY (fun i E W => ∃ g t, (E 8 = .int .i64 (i : Nat) ∧ E 7 = .int .i64 (u.length : Nat)) ∧ ST true mX w W (hp w) t ∧ E 3 = (.int .i64 g) ∧ E 6 = k ∧ uj (u.drop i) g = some r) u.length j.len ⟨0, _, ⟨rfl, rfl⟩, (b.lG St), rfl, rfl, hm⟩ dc dc dc (fun _ _ _ h => by obtain ⟨_, _, l, _⟩ := h; exact l) ?_ ?_)))
 ·rintro I E W z ⟨g, t, ⟨d, m⟩, b, x, y, c⟩
  obtain ⟨a, J, G, D, H⟩ := mM z
  rw [G] at c
  refine bg (VQ (pg (enc := lD) (i := (I : Int)) (x0 := a) aJ aI y d j (aG _) D) (fun Q B => V (lK rfl (ms b.has B bH aI)) (VE (mz b cM (fun K N b => VO (mh (.agg (lD a).toArray) ((lD a).toArray) b rfl rfl aI (pb a) nb rfl (fun M b => ln (mc (Wh x (Wf vX (Wf xe (VB b Mh rfl rfl bZ (V (qJ bU rfl) ?_)))))))))))))
  refine Wi rfl (Wf vX (Wf xQ (VB b Mh rfl rfl bZ (V (qJ bU rfl) (Wi rfl (Wf Eu (VB b Mh rfl rfl bZ (V (qJ bU rfl) (Wi rfl (Wf so (Wf xe (VB b Mh rfl rfl bZ (V (qJ bU rfl) (Wi rfl ?_))))))))))))))
  refine Wf so (Wf xQ (VB b Mh rfl rfl bZ (V (qJ bU rfl) (Wi rfl (Wf Az (Wf xe (VB b Mh rfl rfl bZ (V (qJ bU rfl) (Wi rfl (Wf Az (Wf xQ (VB b Mh rfl rfl bZ (V (qJ bU rfl) (Wi rfl ?_))))))))))))))
  refine Wf AV (VB b Mh rfl rfl bZ (V (qJ bU rfl) (Wi rfl (Wi rfl (Wa (mD (mL (lU ?_))))))))
  replace b := b.lG (Db St)
  exact ⟨d, (IntKind.i64.wrap (g + (IntKind.i64.wrap ((IntKind.i64.wrap ((IntKind.i64.wrap ((IntKind.i64.wrap ((IntKind.i64.wrap ((IntKind.i64.wrap ((IntKind.i64.wrap ((IntKind.i64.wrap (20 + (a.Head.lI.size : Int))) + (a.Head.lM.size : Int))) + (a.mS.size : Int))) + (a.B.lI.size : Int))) + (a.B.lM.size : Int))) + (a.C.lI.size : Int))) + (a.C.lM.size : Int))) + (a.mK.size : Int))))), _, ⟨rfl, m⟩, (b.lG St), rfl, y, (by rw [H]; exact c)⟩
 rintro E W ⟨g, t, ⟨d, m⟩, b, x, y, c⟩
 rw [aK] at c
 exact lU (sg (Wh x (Wa (lt (rQ c b)))))
theorem BY (H : Value) (Q : List Key) (u : Value) (J : List Signed) (r : Int) (w : World) (B : Sl Ez 2 (hp w) H Q) (D : Sl nV 10 (hp w) u J) (hm : Ac Q J = some r) :
  mw true Tryz.prog 17 [H, u] w (.int .i64 r) := by
 refine cG 45 func17 rfl (fun b => sg (Wa (lr (Wa (lS (Wm ?_))))))
 refine V (nh underlying37 rfl B) (Wm (ln (mY (fun i E W => ∃ t N, (E 12 = .int .i64 (i : Nat) ∧ E 11 = .int .i64 (Q.length : Nat)) ∧ ST true mX w W (hp w) N ∧ E 1 = u ∧ E 5 = (.int .i64 t) ∧ E 10 = H ∧ xH J (Q.drop i) t = some r) Q.length B.len ⟨0, _, ⟨rfl, rfl⟩, (b.lG St), rfl, rfl, rfl, hm⟩ dc dc dc (fun _ _ _ h => by obtain ⟨_, _, n, _⟩ := h; exact n) ?_ ?_)))
 ·rintro c3 E W b5 ⟨t, N, ⟨m, o⟩, b, U, Y, Z, g⟩
  obtain ⟨k, d4, b9, b7, c0⟩ := mM b5
  rw [b9] at g
  refine bg (VQ (od (i := (c3 : Int)) (x0 := k) Ez.out underlying37 sizeOf118 Z m B (aG _) b7) (fun d8 ⟨_, ⟨d9, rfl, a2⟩, b6⟩ => V (lK rfl (ms b.has b6 isAgg118 sizeOf118)) (VE (mz b zeroValue118 (fun d5 d7 b => ?_)))))
  obtain ⟨s, v, rfl⟩ := a2.form
  refine VO (mh (.agg #[(.string k.mS), (.slice s k.Key.length v)]) (#[(.string k.mS), (.slice s k.Key.length v)]) b rfl rfl sizeOf118 oc nb rfl (fun d6 b => ln (mc (Wh Y (Wf Sj (VB b Mh rfl rfl bZ (V (qJ bU rfl) (Wi rfl (Wf Sv (VB b Mh rfl rfl jv (V (nh cN rfl a2) (Wi rfl (Wi rfl (Wa ?_))))))))))))))
  refine mD (mL (lU ?_))
  replace b := b.lG (Db St)
  exact ⟨m, (IntKind.i64.wrap (t + (IntKind.i64.wrap ((IntKind.i64.wrap (10 + (k.mS.size : Int))) + (k.Key.length : Int))))), _, ⟨rfl, o⟩, (b.lG St), U, rfl, Z, (by rw [c0]; exact g)⟩
 rintro E W ⟨t, N, ⟨m, o⟩, b, U, Y, Z, g⟩
 rw [aK] at g
 refine lU (me (sg (Wh U (V (nh dE rfl D) (Wm (ln (CJ g (fun G E W => ∃ M, ST true mX w W (hp w) M ∧ E 5 = (.int .i64 G)) (fun G a5 => ?_) ?_)))))))
 ·refine mY (fun i E W => ∃ j x, (E 29 = .int .i64 (i : Nat) ∧ E 28 = .int .i64 (J.length : Nat)) ∧ ST true mX w W (hp w) x ∧ E 5 = (.int .i64 j) ∧ E 27 = u ∧ vW (J.drop i) j = some G) J.length D.len ⟨t, _, ⟨rfl, rfl⟩, (b.lG St), Y, rfl, a5⟩ dc dc dc (fun _ _ _ h => by obtain ⟨_, _, n, _⟩ := h; exact n) ?_ ?_
  ·rintro c1 E W a3 ⟨j, x, ⟨m, o⟩, b, y, z, c⟩
   obtain ⟨a, c4, a9, L, O⟩ := mM a3
   rw [a9] at c
   refine bg (VQ (od (i := (c1 : Int)) (x0 := a) nV.out dE dH z m D (aG _) L) (fun d0 ⟨_, ⟨d1, rfl, I⟩, A⟩ => V (lK rfl (ms b.has A jx dH)) (VE (mz b dW (fun c5 c9 b => ?_)))))
   obtain ⟨K, T, rfl⟩ := I.form
   let a0 := (C3 a.lB.Kind a.lB.Head.lI a.lB.Head.lM a.lB.mS a.lB.B.lI a.lB.B.lM a.lB.C.lI a.lB.C.lM a.lB.mK K a.Tag.length T)
   refine VO (mh (.agg a0.toArray) (a0.toArray) b rfl rfl dH oc nb rfl (fun c6 b => ln ?_))
   replace b := b.drew
   have d := b.has.lG (Kb Sn)
   refine mO d mu (X 0 rfl d (lO y) (X 1 rfl d (lN tj rfl) (XH 2 rfl d (fun _ q => lK rfl (lP q Mh (lD a.lB) rfl bH aI)) (X 5 rfl d (lN En rfl) (XH 6 rfl d (fun _ q => lK rfl (ma q Mh rfl jv)) (X 7 rfl d (nh cN rfl I) (XE 3 rfl (mN (cs := (lD a.lB).toArray) b (oX rfl) (oR aJ aI cM) (fun c7 P b => ?_)))))))))
   have d := b.has.lG (Db (Kb Sn))
   refine ⟨d, (bS c fun c2 F c => XE 4 rfl (Eg b call18 (zQ (.slice (some ⟨P, 0, none⟩) 1 1) ([a.lB]) _ _ (Sl.lit (enc := lD) (l := [a.lB]) nj rfl nb rfl (b.at_ Mh)) F) (fun c8 b => ?_)))⟩
   have d := b.has.lG (Db (Kb Sn))
   refine ⟨d, (X 8 rfl d (mU rfl rfl rfl) (X 9 rfl d (mU rfl rfl rfl) (X 10 rfl d (oL rfl) (nc kr (mL (lU ?_))))))⟩
   replace b := b.lG (Db (Db St))
   exact ⟨m, (IntKind.i64.wrap (j + (IntKind.i64.wrap (c2 + (a.Tag.length : Int))))), _, ⟨rfl, o⟩, (b.lG St), rfl, z, (by rw [O]; exact c)⟩
  rintro E W ⟨j, x, ⟨m, o⟩, b, y, z, c⟩
  rw [aK] at c
  refine lU ?_
  obtain rfl := sj c
  exact ⟨_, (b.lG St), y⟩
 rintro d3 E W ⟨M, b, R⟩ a4
 exact sg (Wh R (Wa (lt (rQ a4 b))))
theorem GY (I : (List Formula) → Option Int) (N : ∀ (j : Value) (u : List Formula) (r : Int) (w : World) (t : Sl lH 5 (hp w) j u), I u = some r → mw false Tryz.prog 50 [j] w (.int .i64 r)) (j : Value) (u : List Formula) (r : Int) (w : World) (t : Sl lH 5 (hp w) j u) (hm : yy I u = some r) :
  mw false Tryz.prog 50 [j] w (.int .i64 r) := by
 refine cG 31 func50 rfl (fun l => sg (Wa (lr (Wa (lS (Wm ?_))))))
 refine V (nh aF rfl t) (Wm (ln (mY (fun i E W => ∃ x z, (E 8 = .int .i64 (i : Nat) ∧ E 7 = .int .i64 (u.length : Nat)) ∧ ST false mX w W (hp w) z ∧ E 3 = (.int .i64 x) ∧ E 6 = j ∧ uo I (u.drop i) x = some r) u.length t.len ⟨0, _, ⟨rfl, rfl⟩, (l.lG St), rfl, rfl, hm⟩ dc dc dc (fun _ _ _ h => by obtain ⟨_, _, o, _⟩ := h; exact o) ?_ ?_)))
 ·rintro Z E W M ⟨x, z, ⟨n, s⟩, l, D, G, g⟩
  obtain ⟨c, L, T, Q, U⟩ := mM M
  let a0 := ((c.lC.lI.size : Int) + (c.lC.lM.size : Int))
  rw [T] at g
  refine bg (VQ (od (i := (Z : Int)) (x0 := c) lH.out aF aD G n t (aG _) Q) (fun a5 ⟨_, ⟨F, rfl, H⟩, J⟩ => V (lK rfl (ms l.has J aZ aD)) (VE (mz l bI (fun A a4 l => ?_)))))
  obtain ⟨y, B, rfl⟩ := H.form
  let q := (C1 c.Op c.K c.lC.lI c.lC.lM y c.Kids.length B)
  refine VO (mh (.agg q.toArray) (q.toArray) l rfl rfl aD oc nb rfl (fun a2 l => ln ?_))
  replace l := l.drew
  have d := l.has.lG (Kb Sn)
  refine mO d mu (X 0 rfl d (lO D) (X 1 rfl d (lN xW rfl) (X 2 rfl d (lN xe rfl) (XH 3 rfl d (fun _ m => lK rfl (ma m Mh rfl bZ)) (X 4 rfl d (qJ bU rfl) (X 5 rfl d (lN xW rfl) (X 6 rfl d (lN xQ rfl) (XH 7 rfl d (fun _ m => lK rfl (ma m Mh rfl bZ)) (X 8 rfl d (qJ bU rfl) (X 9 rfl d (mU rfl rfl rfl) (X 10 rfl d (RD (k := .i64) (a := (IntKind.i64.wrap a0)) (b := 16) (v := (.int .i64 (IntKind.i64.wrap (Int.tdiv (IntKind.i64.wrap a0) 16)))) rfl rfl dc rfl) (X 11 rfl d (mU rfl rfl rfl) (X 12 rfl d (lN uO rfl) (XH 13 rfl d (fun _ m => lK rfl (ma m Mh rfl gP)) ?_))))))))))))))
  refine bS g fun Y K g => XE 14 rfl (Eg l call50 (N (.slice y c.Kids.length B) c.Kids _ _ (H.mono mf.mono l.lJ) K) (fun a3 l => ?_))
  have d := l.has.lG (Kb Sn)
  refine ⟨d, (X 15 rfl d (mU rfl rfl rfl) (X 16 rfl d (mU rfl rfl rfl) (X 17 rfl d (oL rfl) (nc kr (mL (lU ?_))))))⟩
  replace l := l.lG (Db St)
  exact ⟨n, (IntKind.i64.wrap (x + (IntKind.i64.wrap ((IntKind.i64.wrap (1 + (IntKind.i64.wrap (Int.tdiv (IntKind.i64.wrap a0) 16)))) + Y)))), _, ⟨rfl, s⟩, (l.lG St), rfl, G, (by rw [U]; exact g)⟩
 rintro E W ⟨x, z, ⟨n, s⟩, l, D, G, g⟩
 rw [aK] at g
 exact lU (sg (Wh D (Wa (lt (rQ g l)))))
theorem Ca : ∀ (n : Nat) (a : Value) (c : List Formula) (r : Int) (w : World) (g : Sl lH 5 (hp w) a c) (_ : rF n c = some r),
  mw false Tryz.prog 50 [a] w (.int .i64 r)
 | 0 => by intros; rename_i h; simp only [rF] at h; cases h
 | n + 1 => GY (rF n) (Ca n)
set_option maxHeartbeats 1000000 in
theorem KI (x : lF) (J N : Value) (r : Int) (w : World) (y : Sl mx 15 (hp w) J x.lX) (G : Sl mV 8 (hp w) N x.ml) (hm : Ab x = some r) :
  mw false Tryz.prog 10 [(.agg #[(.string x.Name), J, N])] w (.int .i64 r) := by
 refine cG 61 func10 rfl (fun d => sg ?_)
 obtain ⟨A1, c2, rfl⟩ := y.form
 obtain ⟨A3, c4, rfl⟩ := G.form
 let g6 := (C7 x.Name A1 x.lX.length c2 A3 x.ml.length c4)
 refine VE (mI d rfl (fun W6 O d => Wa (lr (Wf Pn (VB d Mh rfl rfl bZ (V (qJ bU rfl) (Wa (lS ?_))))))))
 refine Wf AD (VB d Mh rfl rfl kH (V (nh dN rfl y) (Wm (ln (mY (fun i E W => ∃ I b1, (E 14 = .int .i64 (i : Nat) ∧ E 13 = .int .i64 (x.lX.length : Nat)) ∧ ST false mX w W (hp w) ((O, Ol g6 25) :: b1) ∧ E 1 = (.pointer (some ⟨O, 0, none⟩)) ∧ E 3 = (.int .i64 I) ∧ E 12 = (.slice A1 x.lX.length c2) ∧ uk x (x.lX.drop i) I = some r) x.lX.length y.len ⟨(x.Name.size : Int), _, ⟨rfl, rfl⟩, (d.lG St), rfl, rfl, rfl, hm⟩ dc dc dc (fun _ _ _ h => by obtain ⟨_, _, A, _⟩ := h; exact A) ?_ ?_)))))
 ·rintro d5 E W e1 ⟨I, b1, ⟨s, F⟩, d, U, M, Y, H⟩
  obtain ⟨a, h9, e9, e8, f0⟩ := mM e1
  rw [e9] at H
  refine bg (VQ (od (i := (d5 : Int)) (x0 := a) mx.out dN dQ Y s y (aG _) e8) (fun j4 ⟨_, ⟨j8, j9, rfl, Q, T⟩, e2⟩ => V (lK rfl (ms d.has e2 kJ dQ)) (VE (mz d eZ (fun i0 f4 d => ?_)))))
  obtain ⟨t, u, rfl⟩ := Q.form
  let g5 : Value := (.slice t a.Signed.Tag.length u)
  let b8 := (C3 a.Signed.lB.Kind a.Signed.lB.Head.lI a.Signed.lB.Head.lM a.Signed.lB.mS a.Signed.lB.B.lI a.Signed.lB.B.lM a.Signed.lB.C.lI a.Signed.lB.C.lM a.Signed.lB.mK t a.Signed.Tag.length u)
  obtain ⟨g, j, rfl⟩ := T.form
  let d9 : Value := (.slice g a.lL.Kids.length j)
  let v := (C1 a.lL.Op a.lL.K a.lL.lC.lI a.lL.lC.lM g a.lL.Kids.length j)
  let a0 := (C4 a.Signed.lB.Kind a.Signed.lB.Head.lI a.Signed.lB.Head.lM a.Signed.lB.mS a.Signed.lB.B.lI a.Signed.lB.B.lM a.Signed.lB.C.lI a.Signed.lB.C.lM a.Signed.lB.mK t a.Signed.Tag.length u a.lL.Op a.lL.K a.lL.lC.lI a.lL.lC.lM g a.lL.Kids.length j)
  refine VO (mh (.agg a0.toArray) (a0.toArray) d rfl rfl dQ oc nb rfl (fun i1 d => ln ?_))
  replace d := d.drew
  have m := d.has.lG (Kb Sn)
  refine mO m mu (X 0 rfl m (lO M) (X 1 rfl m (lN yE rfl) (XH 2 rfl m (fun _ q => lK rfl (lP q Mh b8 rfl jx dH)) (X 5 rfl m (lN LZ rfl) (XH 6 rfl m (fun _ q => lK rfl (lP q Mh v rfl aZ aD)) (PJ H (fun b4 E W => ∃ L b2 b9, ST false mX w W (hp w) ((f4, Ol a0 60) :: ((O, Ol g6 25) :: (b2 ++ b9))) ∧ E 1 = (.pointer (some ⟨O, 0, none⟩)) ∧ E 3 = (.int .i64 I) ∧ E 12 = (.slice A1 x.lX.length c2) ∧ E 13 = (.int .i64 (x.lX.length : Int)) ∧ E 14 = (.int .i64 (d5 : Int)) ∧ E 18 = (.int .i64 I) ∧ E 22 = (.int .i64 b4.1) ∧ E 25 = L ∧ nl 58 lH 5 (hp w) L b4.2 b2) (bm 13 255) 5 ?_ (fun b4 z Z => ?_)))))))
  ·rintro ⟨g7, g3⟩ E W ⟨L, b2, b9, d, f6, j3, f7, f8, f9, g0, g1, g2, e7⟩ P
   refine bS P fun g4 e3 P => XE 8 rfl (Eg d call50 ((Ca mR) L g3 _ _ (e7.sl mf d.lJ (fun b o n => d.at_ (Mt (Mt (Ml n))))) e3) (fun i2 d => ?_) (ha := VY g2))
   have m := d.has.lG (Kb Sn)
   refine ⟨m, (X 9 rfl m (mU rfl rfl rfl) (X 10 rfl m (mU g1 rfl rfl) (X 11 rfl m (mU g0 rfl rfl) (X 12 rfl m (oL rfl) (nc kr (mL (lU ?_)))))))⟩
   replace d := d.lG (Db (Kb (Dr St)))
   exact ⟨f9, (IntKind.i64.wrap (I + (IntKind.i64.wrap (g7 + (IntKind.i64.wrap (20 * g4)))))), _, ⟨rfl, f8⟩, (d.lG St), f6, rfl, f7, (by rw [f0]; exact P)⟩
  refine Gt 3 7 rfl rfl kr (.inl rfl) (.inl rfl) rfl rfl dc dc ?_ ?_
  ·refine mN (cs := b8.toArray) d (oX rfl) (oR dE dH dW) (fun i3 b3 d => ?_)
   let d8 : Value := (.slice (some ⟨b3, 0, none⟩) 1 1)
   have m := d.has.lG (Db (Kb Sn))
   refine ⟨m, (Gt 4 7 rfl rfl kr (.inl rfl) (.inl rfl) rfl rfl dc dc ?_ ?_)⟩
   ·refine bS z fun j5 e4 z => Np (args := [(.slice none 0 0), d8]) d rfl call17 (by exact xM rfl rfl) (mw.nz (BY (.slice none 0 0) ([]) d8 ([a.Signed]) _ _ (Sl.nil _ _ _) ((nl.lit qw (l := [a.Signed]) (.cons (ys := C3 a.Signed.lB.Kind a.Signed.lB.Head.lI a.Signed.lB.Head.lM a.Signed.lB.mS a.Signed.lB.B.lI a.Signed.lB.B.lM a.Signed.lB.C.lI a.Signed.lB.C.lM a.Signed.lB.mK t a.Signed.Tag.length u) (nV.mk ⟨g5, rfl, Q⟩) .nil) rfl nb rfl).sl qw d.lJ (fun b o n => (by rw [bF] at n; cases n; exact d.at_ Mh))) e4)) (fun i4 d => ?_)
    have m := d.has.lG (Db (Kb Sn))
    refine ⟨m, (XE 7 rfl (mN (cs := v.toArray) d (oX rfl) (oR aF aD bI) (fun i5 c0 d => ?_)))⟩
    have m := d.has.lG (Db (Db (Kb Sn)))
    refine ⟨m, ?_⟩
    obtain rfl := sj z
    replace d := d.GG
    refine nE kr (Z _ _ ⟨(.slice (some ⟨c0, 0, none⟩) 1 1), [(c0, Ol v 58)], _, (d.lG (Sb (Pr (Pb Pz)) (Sb (Pr (Pb Pz)) (Kr (Db St))))), U, M, Y, F, s, rfl, rfl, rfl, (nl.lit mf (l := [a.lL]) (.cons (ys := C1 a.lL.Op a.lL.K a.lL.lC.lI a.lL.lC.lM g a.lL.Kids.length j) (lH.mk ⟨d9, rfl, T⟩) .nil) rfl nb rfl)⟩)
   ·refine mN (cs := v.toArray) d (oX rfl) (oR aF aD bI) (fun i6 c1 d => ?_)
    have m := d.has.lG (Db (Db (Kb Sn)))
    refine ⟨m, (bS z fun j6 e5 z => XE 4 rfl (Eg d call17 (mw.nz (BY (.slice none 0 0) ([]) d8 ([a.Signed]) _ _ (Sl.nil _ _ _) ((nl.lit qw (l := [a.Signed]) (.cons (ys := C3 a.Signed.lB.Kind a.Signed.lB.Head.lI a.Signed.lB.Head.lM a.Signed.lB.mS a.Signed.lB.B.lI a.Signed.lB.B.lM a.Signed.lB.C.lI a.Signed.lB.C.lM a.Signed.lB.mK t a.Signed.Tag.length u) (nV.mk ⟨g5, rfl, Q⟩) .nil) rfl nb rfl).sl qw d.lJ (fun b o n => (by rw [bF] at n; cases n; exact d.at_ (Mt Mh)))) e5)) (fun i7 d => ?_)))⟩
    have m := d.has.lG (Db (Db (Kb Sn)))
    refine ⟨m, ?_⟩
    obtain rfl := sj z
    replace d := d.GG
    refine nE kr (Z _ _ ⟨(.slice (some ⟨c1, 0, none⟩) 1 1), [(c1, Ol v 58)], _, (d.lG (Sb (Pr (Pb Pz)) (Sb (Pr (Pb Pz)) (Kr (Db St))))), U, M, Y, F, s, rfl, rfl, rfl, (nl.lit mf (l := [a.lL]) (.cons (ys := C1 a.lL.Op a.lL.K a.lL.lC.lI a.lL.lC.lM g a.lL.Kids.length j) (lH.mk ⟨d9, rfl, T⟩) .nil) rfl nb rfl)⟩)
  ·refine mN (cs := v.toArray) d (oX rfl) (oR aF aD bI) (fun i8 c3 d => ?_)
   have m := d.has.lG (Db (Kb Sn))
   refine ⟨m, (XE 3 rfl (mN (cs := b8.toArray) d (oX rfl) (oR dE dH dW) (fun i9 f5 d => ?_)))⟩
   have m := d.has.lG (Db (Db (Kb Sn)))
   refine ⟨m, (bS z fun j7 e6 z => XE 4 rfl (Eg d call17 (mw.nz (BY (.slice none 0 0) ([]) (.slice (some ⟨f5, 0, none⟩) 1 1) ([a.Signed]) _ _ (Sl.nil _ _ _) ((nl.lit qw (l := [a.Signed]) (.cons (ys := C3 a.Signed.lB.Kind a.Signed.lB.Head.lI a.Signed.lB.Head.lM a.Signed.lB.mS a.Signed.lB.B.lI a.Signed.lB.B.lM a.Signed.lB.C.lI a.Signed.lB.C.lM a.Signed.lB.mK t a.Signed.Tag.length u) (nV.mk ⟨g5, rfl, Q⟩) .nil) rfl nb rfl).sl qw d.lJ (fun b o n => (by rw [bF] at n; cases n; exact d.at_ Mh))) e6)) (fun j0 d => ?_)))⟩
   have m := d.has.lG (Db (Db (Kb Sn)))
   refine ⟨m, ?_⟩
   obtain rfl := sj z
   replace d := d.perm (Nb (Pb Pz) Nz)
   replace d := d.GG
   refine nE kr (Z _ _ ⟨(.slice (some ⟨c3, 0, none⟩) 1 1), [(c3, Ol v 58)], _, (d.lG (Sb (Pr (Pb Pz)) (Sb (Pr (Pb Pz)) (Kr (Db St))))), U, M, Y, F, s, rfl, rfl, rfl, (nl.lit mf (l := [a.lL]) (.cons (ys := C1 a.lL.Op a.lL.K a.lL.lC.lI a.lL.lC.lM g a.lL.Kids.length j) (lH.mk ⟨d9, rfl, T⟩) .nil) rfl nb rfl)⟩)
 rintro E W ⟨I, b1, ⟨s, F⟩, d, U, M, Y, H⟩
 rw [aK] at H
 refine lU (me (sg (V (lN Es U) (VB d Mh rfl rfl isAgg23 (V (nh cO rfl G) (Wm (ln ?_)))))))
 replace d := d.lG (Db St)
 refine CJ H (fun R E W => ∃ b6, ST false mX w W (hp w) b6 ∧ E 3 = (.int .i64 R)) (fun R c8 => ?_) ?_
 ·refine mY (fun i E W => ∃ K a2, (E 34 = .int .i64 (i : Nat) ∧ E 33 = .int .i64 (x.ml.length : Nat)) ∧ ST false mX w W (hp w) a2 ∧ E 3 = (.int .i64 K) ∧ E 32 = (.slice A3 x.ml.length c4) ∧ ur (x.ml.drop i) K = some R) x.ml.length G.len ⟨I, _, ⟨rfl, rfl⟩, (d.lG St), M, rfl, c8⟩ dc dc dc (fun _ _ _ h => by obtain ⟨_, _, A, _⟩ := h; exact A) ?_ ?_
  ·rintro f1 E W c6 ⟨K, a2, ⟨s, F⟩, d, a4, a5, k⟩
   obtain ⟨c, g8, d3, d2, d4⟩ := mM c6
   rw [d3] at k
   refine bg (VQ (od (i := (f1 : Int)) (x0 := c) mV.out cO dP a5 s G (aG _) d2) (fun h5 ⟨_, ⟨h6, h7, rfl, a9, b0⟩, c9⟩ => V (lK rfl (ms d.has c9 kG dP)) (VE (mz d iB (fun g9 h4 d => ?_)))))
   obtain ⟨B, D, rfl⟩ := a9.form
   let d6 := (C1 c.lL.Op c.lL.K c.lL.lC.lI c.lL.lC.lM B c.lL.Kids.length D)
   obtain ⟨a1, a3, rfl⟩ := b0.form
   let c5 := (C6 c.lC.lI c.lC.lM c.lL.Op c.lL.K c.lL.lC.lI c.lL.lC.lM B c.lL.Kids.length D a1 c.nn.length a3)
   refine VO (mh (.agg c5.toArray) (c5.toArray) d rfl rfl dP oc nb rfl (fun h0 d => ln ?_))
   replace d := d.drew
   have m := d.has.lG (Kb Sn)
   refine mO m mu (X 0 rfl m (lO a4) (X 1 rfl m (lN Gf rfl) (X 2 rfl m (lN xe rfl) (XH 3 rfl m (fun _ q => lK rfl (ma q Mh rfl bZ)) (X 4 rfl m (qJ bU rfl) (X 5 rfl m (lN Gf rfl) (X 6 rfl m (lN xQ rfl) (XH 7 rfl m (fun _ q => lK rfl (ma q Mh rfl bZ)) (X 8 rfl m (qJ bU rfl) (X 9 rfl m (mU rfl rfl rfl) (X 10 rfl m (lN GZ rfl) (XH 11 rfl m (fun _ q => lK rfl (lP q Mh d6 rfl aZ aD)) (X 16 rfl m (lN EQ rfl) (XH 17 rfl m (fun _ q => lK rfl (ma q Mh rfl eU)) ?_))))))))))))))
   refine XE 12 rfl (mN (cs := d6.toArray) d (oX rfl) (oR aF aD bI) (fun h1 d7 d => ?_))
   have m := d.has.lG (Db (Kb Sn))
   refine ⟨m, (bS k fun f2 d0 k => XE 13 rfl (Eg d call50 ((Ca mR) (.slice (some ⟨d7, 0, none⟩) 1 1) ([c.lL]) _ _ ((nl.lit mf (l := [c.lL]) (.cons (ys := C1 c.lL.Op c.lL.K c.lL.lC.lI c.lL.lC.lM B c.lL.Kids.length D) (lH.mk ⟨(.slice B c.lL.Kids.length D), rfl, a9⟩) .nil) rfl nb rfl).sl mf d.lJ (fun b o n => (by rw [bF] at n; cases n; exact d.at_ Mh))) d0) (fun h2 d => ?_)))⟩
   have m := d.has.lG (Db (Kb Sn))
   refine ⟨m, (X 14 rfl m (mU rfl rfl rfl) (X 15 rfl m (mU rfl rfl rfl) (bS k fun f3 d1 k => XE 18 rfl (Eg d call18 (mw.nz (zQ (.slice a1 c.nn.length a3) c.nn _ _ (b0.mono (Pl.mono _) d.lJ) d1)) (fun h3 d => ?_)))))⟩
   have m := d.has.lG (Db (Kb Sn))
   refine ⟨m, (X 19 rfl m (mU rfl rfl rfl) (X 20 rfl m (mU rfl rfl rfl) (X 21 rfl m (oL rfl) (nc kr (mL (lU ?_))))))⟩
   replace d := d.lG (Db (Db St))
   exact ⟨s, (IntKind.i64.wrap (K + (IntKind.i64.wrap ((IntKind.i64.wrap ((IntKind.i64.wrap ((c.lC.lI.size : Int) + (c.lC.lM.size : Int))) + (IntKind.i64.wrap (20 * f2)))) + f3)))), _, ⟨rfl, F⟩, (d.lG St), rfl, a5, (by rw [d4]; exact k)⟩
  rintro E W ⟨K, a2, ⟨s, F⟩, d, a4, a5, k⟩
  rw [aK] at k
  refine lU ?_
  obtain rfl := sj k
  exact ⟨_, (d.lG St), a4⟩
 rintro h8 E W ⟨b6, d, e0⟩ c7
 exact sg (Wh e0 (Wa (lt (rQ c7 d))))
theorem KP (a : mW) (g k x H z G : Value) (r : Int) (w : World) (c : Sl mx 15 (hp w) g a.lF.lX) (j : Sl mV 8 (hp w) k a.lF.ml) (u : Sl (Pl lD) 9 (hp w) x a.lQ) (D : Sl (Pl lD) 9 (hp w) H a.Shown) (y : Sl (Pl lE) 2 (hp w) z a.mg) (B : Sl (Pl lE) 2 (hp w) G a.mj) (hm : zU a = some r) :
  mw false Tryz.prog 16 [(.agg #[(.string a.lF.Name), g, k, (.string a.na), (.int .i64 a.Room), x, H, z, G])] w (.int .i64 r) := by
 refine cG 45 func16 rfl (fun b => sg ?_)
 obtain ⟨A1, c2, rfl⟩ := c.form
 obtain ⟨A3, q, rfl⟩ := j.form
 obtain ⟨A5, c6, rfl⟩ := u.form
 obtain ⟨A7, c8, rfl⟩ := D.form
 obtain ⟨A9, a5, rfl⟩ := y.form
 obtain ⟨a3, F, rfl⟩ := B.form
 refine VE (mI b rfl (fun e0 e7 b => Wa (ln (me ?_))))
 replace b := b.drew
 have d := b.has.lG (Kb Sn)
 refine mO d mu (X 0 rfl d (lN zB rfl) (XH 1 rfl d (fun _ m => lK rfl (lP m Mh (C7 a.lF.Name A1 a.lF.lX.length c2 A3 a.lF.ml.length q) rfl gI eX)) (X 3 rfl d (lN Ji rfl) (XH 4 rfl d (fun _ m => lK rfl (ma m Mh rfl bZ)) (X 5 rfl d (qJ bU rfl) (X 7 rfl d (lN EE rfl) (XH 8 rfl d (fun _ m => lK rfl (ma m Mh rfl eU)) (X 11 rfl d (lN BM rfl) (XH 12 rfl d (fun _ m => lK rfl (ma m Mh rfl eU)) (bS hm fun d0 b4 hm => XE 2 rfl (Eg b call10 (KI a.lF (.slice A1 a.lF.lX.length c2) (.slice A3 a.lF.ml.length q) _ _ (c.mono mH.mono b.lJ) (j.mono nK.mono b.lJ) b4) (fun e1 b => ?_))))))))))))
 have d := b.has.lG (Kb Sn)
 refine ⟨d, (X 6 rfl d (mU rfl rfl rfl) (bS hm fun d1 b5 hm => XE 9 rfl (Eg b call18 (mw.nz (zQ (.slice A5 a.lQ.length c6) a.lQ _ _ (u.mono (Pl.mono _) b.lJ) b5)) (fun e2 b => ?_))))⟩
 have d := b.has.lG (Kb Sn)
 refine ⟨d, (X 10 rfl d (mU rfl rfl rfl) (bS hm fun d2 b6 hm => XE 13 rfl (Eg b call18 (mw.nz (zQ (.slice A7 a.Shown.length c8) a.Shown _ _ (D.mono (Pl.mono _) b.lJ) b6)) (fun e3 b => ?_))))⟩
 have d := b.has.lG (Kb Sn)
 refine ⟨d, (X 14 rfl d (mU rfl rfl rfl) (X 15 rfl d (oL rfl) (nc kr (lU (me (me ?_))))))⟩
 replace b := b.drew
 have d := b.has.lG (Kb Sn)
 refine mO d mu (X 1 rfl d (lN EC rfl) (XH 2 rfl d (fun _ m => lK rfl (ma m Mh rfl fN)) (X 4 rfl d (lN Dh rfl) (XH 5 rfl d (fun _ m => lK rfl (ma m Mh rfl fN)) (X 8 rfl d (lO rfl) (XE 0 rfl (mN (cs := #[]) b sL (Au [] aM aH dF dc rfl (by simp) rfl rfl) (fun e4 a4 b => ?_))))))))
 have d := b.has.lG (Db (Kb Sn))
 refine ⟨d, (bS hm fun e8 O hm => XE 3 rfl (pf (enc := lE) (v := (.slice (some ⟨a4, 0, none⟩) 0 0)) (vs := (.slice A9 a.mg.length a5)) (R := [(a4, Ob #[] 50)]) b nI dc px aM oF.1 oF.2.1 rfl oF.2.2.1 oF.2.2.2 rfl rfl (my.lit (l := []) (enc := lE) rfl dc rfl rfl) (y.mono (Pl.mono _) b.lJ) O (fun e5 d3 c3 b L => ?_)))⟩
 have d := b.has.lG (Dr (Kb Sn))
 refine ⟨d, (bS hm fun U P hm => XE 6 rfl (pf (enc := lE) (v := d3) (vs := (.slice a3 a.mj.length F)) (R := c3) b nI dc px aM oF.1 oF.2.1 rfl oF.2.2.1 oF.2.2.2 rfl rfl L (B.mono (Pl.mono _) b.lJ) P (fun e6 d4 c5 b K => ?_)))⟩
 have d := b.has.lG (Dr (Kb Sn))
 refine ⟨d, (X 7 rfl d (qb aM rfl K) (nc kr (lU ?_)))⟩
 replace b := b.lG (Kr (Db St))
 refine mY (fun i E W => ∃ J M, (E 29 = .int .i64 (i : Nat) ∧ E 28 = .int .i64 (U.length : Nat)) ∧ ST false mX w W (hp w) (c5 ++ M) ∧ E 3 = (.int .i64 J) ∧ E 27 = d4 ∧ uv (U.drop i) J = some r) U.length K.len ⟨(IntKind.i64.wrap ((IntKind.i64.wrap ((IntKind.i64.wrap (d0 + (a.na.size : Int))) + d1)) + d2)), _, ⟨rfl, rfl⟩, (b.lG St), rfl, rfl, hm⟩ dc dc dc (fun _ _ _ h => by obtain ⟨_, _, o, _⟩ := h; exact o) ?_ ?_
 ·rintro b7 E W Y ⟨J, M, ⟨n, s⟩, b, N, Q, t⟩
  obtain ⟨I, d5, A, T, a2⟩ := mM Y
  rw [A] at t
  refine bg (VQ (pu (i := (b7 : Int)) (x0 := I) aM aH Q n K (aG _) T) (fun d9 Z => V (lK rfl (rz b.has (fun p hq => (Ml hq)) K nI Z T bB aH)) (VE (mz b dF (fun d6 d8 b => VO (mh (.agg (lE I).toArray) ((lE I).toArray) b rfl rfl aH (px I) nb rfl (fun d7 b => ln (mc (Wh N (Wf xe (VB b Mh rfl rfl bZ (V (qJ bU rfl) (Wi rfl ?_)))))))))))))
  refine Wf xQ (VB b Mh rfl rfl bZ (V (qJ bU rfl) (Wi rfl (Wi rfl (Wa (mD (mL (lU ?_))))))))
  replace b := b.lG (Db St)
  exact ⟨n, (IntKind.i64.wrap (J + (IntKind.i64.wrap ((IntKind.i64.wrap (5 + (I.lI.size : Int))) + (I.lM.size : Int))))), _, ⟨rfl, s⟩, (b.lG St), rfl, Q, (by rw [a2]; exact t)⟩
 rintro E W ⟨J, M, ⟨n, s⟩, b, N, Q, t⟩
 rw [aK] at t
 refine lU ?_
 replace b := b.lG (Dr St)
 exact sg (Wh N (Wa (lt (rQ t b))))
theorem wh (t : Value) (y : List lC) (u : Value) (K : List lC) (r : Bool) (w : World) (c : Sl (Pl lE) 2 (hp w) t y) (z : Sl (Pl lE) 2 (hp w) u K) (hm : pU y K = some r) :
  mw true Tryz.prog 94 [t, u] w (.bool r) := by
 refine cG 26 func94 rfl (fun d => sg (Wa (lS (Wm (V (nh aM rfl c) (Wm (V (nh aM rfl z) (Wi rfl (mD ?_)))))))))
 refine lU (CI hm rfl (fun U hm => ?_) (fun U hm => ?_))
 ·refine sg (Wa (lt (mQ ?_)))
  obtain rfl := sj hm
  exact rP d
 refine kS (Wm (V (nh aM rfl c) (Wm (ln (mY (fun i E W => ∃ g, (E 13 = .int .i64 (i : Nat) ∧ E 12 = .int .i64 (y.length : Nat)) ∧ ST true mX w W (hp w) g ∧ E 0 = t ∧ E 1 = u ∧ qU K (y.drop i) i = some r) y.length c.len ⟨_, ⟨rfl, rfl⟩, (d.lG St), rfl, rfl, hm⟩ dc dc dc (fun _ _ _ h => by obtain ⟨_, m, _⟩ := h; exact m) ?_ ?_)))))
 ·rintro I E W M ⟨g, ⟨l, o⟩, d, j, k, a⟩
  obtain ⟨J, a3, Q, N, T⟩ := mM M
  rw [Q] at a
  refine bg (Wh l (Wa (ln (me ?_))))
  replace d := d.drew
  have b := d.has.lG Sn
  refine mO b mu (X 0 rfl b (lO j) (X 1 rfl b (lO rfl) (XQ 2 rfl b (pg (enc := lE) (i := (I : Int)) (x0 := J) aM aH rfl rfl c (aG _) N) (fun Y G => XH 3 rfl b (fun _ n => lK rfl (ms n G bB aH)) (X 4 rfl b (lO k) (X 5 rfl b (lO rfl) (bS a fun B x a => XQ 6 rfl b (pg (enc := lE) (i := (I : Int)) (x0 := B) aM aH rfl rfl z (mE x) (mA x)) (fun Z H => XH 7 rfl b (fun _ n => lK rfl (ms n H bB aH)) (X 8 rfl b (KZ rfl rfl (qt gK) (G6 (vg _ J B))) (nc kr (lU (CI a rfl (fun D a => ?_) (fun D a => ?_)))))))))))))
  ·refine sg (Wa (lt (oh (mQ (oh (mQ ?_))))))
   obtain rfl := sj a
   exact rP d
  exact np (mL (lU ⟨l, _, ⟨rfl, o⟩, (d.lG St), j, k, (by rw [T]; exact a)⟩))
 rintro E W ⟨g, ⟨l, o⟩, d, j, k, a⟩
 rw [aK] at a
 exact lU (sg (Wa (lt (rQ a d))))
theorem MV (a : mW) (z B J Z K Y : Value) (r : Bool) (w : World) (M : Sl mx 15 (hp w) z a.lF.lX) (N : Sl mV 8 (hp w) B a.lF.ml) (t : Sl (Pl lD) 9 (hp w) J a.lQ) (I : Sl (Pl lD) 9 (hp w) Z a.Shown) (D : Sl (Pl lE) 2 (hp w) K a.mg) (H : Sl (Pl lE) 2 (hp w) Y a.mj) (hm : BB a = some r) :
  mw false Tryz.prog 80 [(.agg #[(.string a.lF.Name), z, B, (.string a.na), (.int .i64 a.Room), J, Z, K, Y])] w (.bool r) := by
 refine cG 33 func80 rfl (fun h => sg ?_)
 obtain ⟨A1, c2, rfl⟩ := M.form
 obtain ⟨A3, c4, rfl⟩ := N.form
 obtain ⟨A5, A, rfl⟩ := t.form
 obtain ⟨A7, F, rfl⟩ := I.form
 obtain ⟨A9, a4, rfl⟩ := D.form
 obtain ⟨a3, a5, rfl⟩ := H.form
 let a0 := (C2 a.lF.Name A1 a.lF.lX.length c2 A3 a.lF.ml.length c4 a.na a.Room A5 a.lQ.length A A7 a.Shown.length F A9 a.mg.length a4 a3 a.mj.length a5)
 refine VE (mI h rfl (fun i8 q h => Wa (ln (me ?_))))
 replace h := h.drew
 have d := h.has.lG (Kb Sn)
 refine mO d mu (X 0 rfl d (lN EE rfl) (XH 1 rfl d (fun _ l => lK rfl (ma l Mh rfl eU)) (X 3 rfl d (lN EE rfl) (XH 4 rfl d (fun _ l => lK rfl (ma l Mh rfl eU)) (bS hm fun f5 e4 hm => XE 2 rfl (pF h call52 (wC (.slice A5 a.lQ.length A) a.lQ _ _ (t.mono (Pl.mono _) h.lJ) e4) (fun h2 f9 d2 g8 h c L d7 => ?_)))))))
 have d := h.has.pC c (Dr (Kb Sn))
 refine ⟨d, (bS hm fun i1 e5 hm => XE 5 rfl (Eg h call144 (mw.nz (yf f9 f5 (.slice A5 a.lQ.length A) a.lQ _ _ (d7.sl nj (fun b o m => h.at_ (Ml m))) (t.mono (Pl.mono _) (c.trans h.lJ)) e5)) (fun h3 h => ?_)))⟩
 have d := h.has.pC c (Dr (Kb Sn))
 refine ⟨d, (X 6 rfl d (lO rfl) (PJ hm (fun d1 E W => ∃ n b7, mn d2 n ∧ ST false mX w W n ((q, Ol a0 36) :: b7) ∧ E 1 = (.pointer (some ⟨q, 0, none⟩)) ∧ E 2 = (.bool false) ∧ E 16 = (.bool d1)) (bm 31 16383) 17 ?_ (fun d1 y b0 => ?_)))⟩
 ·rintro i5 E W ⟨n, b7, k, h, s, c1, f2⟩ e1
  have d := h.has.pC (c.trans k) (Kb Sn)
  refine X 14 rfl d (lO f2) (PJ e1 (fun d0 E W => ∃ a2 b9, mn n a2 ∧ ST false mX w W a2 ((q, Ol a0 36) :: b9) ∧ E 1 = (.pointer (some ⟨q, 0, none⟩)) ∧ E 2 = (.bool false) ∧ E 24 = (.bool d0)) (bm 31 4194303) 9 ?_ (fun d0 x a9 => ?_))
  ·rintro i6 E W ⟨a2, b9, G, h, c3, c5, f3⟩ e2
   have d := h.has.pC ((c.trans k).trans G) (Kb Sn)
   refine X 22 rfl d (lO f3) (PJ e2 (fun c9 E W => ∃ v c0, mn a2 v ∧ ST false mX w W v ((q, Ol a0 36) :: c0) ∧ E 2 = (.bool false) ∧ E 32 = (.bool c9)) (bm 31 1073741823) 1 ?_ (fun c9 u a8 => ?_))
   ·rintro i7 E W ⟨v, c0, c7, h, i0, f4⟩ e3
    have d := h.has.pC (((c.trans k).trans G).trans c7) (Kb Sn)
    refine X 30 rfl d (oL f4) (nc kr (lU ?_))
    exact mB (rQ e3 h)
   refine bC u (fun j u => ?_) (fun j u => ?_)
   ·refine Xg 23 rfl rfl (cB j) d (lN Dh c3) (sc 24 rfl rfl (cB j) d (fun _ l => lK rfl (ma l Mh rfl fN)) (Xg 26 rfl rfl (cB j) d (lN Dh c3) (sc 27 rfl rfl (cB j) d (fun _ l => lK rfl (ma l Mh rfl fN)) (bS u fun f6 e6 u => As 25 rfl rfl (cB j) (pF h lx (vq (.slice a3 a.mj.length a5) a.mj _ _ (H.mono (Pl.mono _) (((c.trans k).trans G).trans h.lJ)) e6) (fun h4 g0 g3 g9 h Q O d8 => ?_))))))
    have d := h.has.pC (((c.trans k).trans G).trans Q) (Dr (Kb Sn))
    refine ⟨d, (bS u fun i2 e7 u => As 28 rfl rfl (cB j) (Eg h call94 (mw.nz (wh g0 f6 (.slice a3 a.mj.length a5) a.mj _ _ (d8.sl nI (fun b o m => h.at_ (Ml m))) (H.mono (Pl.mono _) ((((c.trans k).trans G).trans Q).trans h.lJ)) e7)) (fun h5 h => ?_)))⟩
    have d := h.has.pC (((c.trans k).trans G).trans Q) (Dr (Kb Sn))
    refine ⟨d, (X 29 rfl d (mo (cB j) rfl) ?_)⟩
    obtain rfl := sj u
    refine nE kr (a8 _ _ ⟨g3, _, Q, (h.lG (Dr St)), c5, rfl⟩)
   refine Xn 23 rfl rfl (cB j) d (Xn 24 rfl rfl (cB j) d (Xn 25 rfl rfl (cB j) d (Xn 26 rfl rfl (cB j) d (Xn 27 rfl rfl (cB j) d (Xn 28 rfl rfl (cB j) d (X 29 rfl d (mq (cB j) rfl) ?_))))))
   obtain rfl := sj u
   refine nE kr (a8 _ _ ⟨a2, _, (mn.refl _), (h.lG St), c5, rfl⟩)
  refine bC x (fun i x => ?_) (fun i x => ?_)
  ·refine Xg 15 rfl rfl (cB i) d (lN EC s) (sc 16 rfl rfl (cB i) d (fun _ l => lK rfl (ma l Mh rfl fN)) (Xg 18 rfl rfl (cB i) d (lN EC s) (sc 19 rfl rfl (cB i) d (fun _ l => lK rfl (ma l Mh rfl fN)) (bS x fun f7 e8 x => As 17 rfl rfl (cB i) (pF h lx (vq (.slice A9 a.mg.length a4) a.mg _ _ (D.mono (Pl.mono _) ((c.trans k).trans h.lJ)) e8) (fun h6 g1 g4 h0 h T P d9 => ?_))))))
   have d := h.has.pC ((c.trans k).trans T) (Dr (Kb Sn))
   refine ⟨d, (bS x fun i3 e9 x => As 20 rfl rfl (cB i) (Eg h call94 (mw.nz (wh g1 f7 (.slice A9 a.mg.length a4) a.mg _ _ (d9.sl nI (fun b o m => h.at_ (Ml m))) (D.mono (Pl.mono _) (((c.trans k).trans T).trans h.lJ)) e9)) (fun h7 h => ?_)))⟩
   have d := h.has.pC ((c.trans k).trans T) (Dr (Kb Sn))
   refine ⟨d, (X 21 rfl d (mo (cB i) rfl) ?_)⟩
   obtain rfl := sj x
   refine nE kr (a9 _ _ ⟨g4, _, T, (h.lG (Dr St)), s, c1, rfl⟩)
  refine Xn 15 rfl rfl (cB i) d (Xn 16 rfl rfl (cB i) d (Xn 17 rfl rfl (cB i) d (Xn 18 rfl rfl (cB i) d (Xn 19 rfl rfl (cB i) d (Xn 20 rfl rfl (cB i) d (X 21 rfl d (mq (cB i) rfl) ?_))))))
  obtain rfl := sj x
  refine nE kr (a9 _ _ ⟨n, _, (mn.refl _), (h.lG St), s, c1, rfl⟩)
 refine bC y (fun g y => ?_) (fun g y => ?_)
 ·refine Xg 7 rfl rfl (cB g) d (lN BM rfl) (sc 8 rfl rfl (cB g) d (fun _ l => lK rfl (ma l Mh rfl eU)) (Xg 10 rfl rfl (cB g) d (lN BM rfl) (sc 11 rfl rfl (cB g) d (fun _ l => lK rfl (ma l Mh rfl eU)) (bS y fun f8 f0 y => As 9 rfl rfl (cB g) (pF h call52 (wC (.slice A7 a.Shown.length F) a.Shown _ _ (I.mono (Pl.mono _) (c.trans h.lJ)) f0) (fun h8 g2 g7 h1 h U R e0 => ?_))))))
  have d := h.has.pC (c.trans U) (Dr (Dr (Kb Sn)))
  refine ⟨d, (bS y fun i4 f1 y => As 12 rfl rfl (cB g) (Eg h call144 (mw.nz (yf g2 f8 (.slice A7 a.Shown.length F) a.Shown _ _ (e0.sl nj (fun b o m => h.at_ (Ml m))) (I.mono (Pl.mono _) ((c.trans U).trans h.lJ)) f1)) (fun h9 h => ?_)))⟩
  have d := h.has.pC (c.trans U) (Dr (Dr (Kb Sn)))
  refine ⟨d, (X 13 rfl d (mo (cB g) rfl) ?_)⟩
  obtain rfl := sj y
  refine nE kr (b0 _ _ ⟨g7, _, U, (h.lG (Dr (Dr St))), rfl, rfl, rfl⟩)
 refine Xn 7 rfl rfl (cB g) d (Xn 8 rfl rfl (cB g) d (Xn 9 rfl rfl (cB g) d (Xn 10 rfl rfl (cB g) d (Xn 11 rfl rfl (cB g) d (Xn 12 rfl rfl (cB g) d (X 13 rfl d (mq (cB g) rfl) ?_))))))
 obtain rfl := sj y
 refine nE kr (b0 _ _ ⟨d2, _, (mn.refl _), (h.lG (Dr St)), rfl, rfl, rfl⟩)
theorem B3 (a : Value) (g : List lB) (c : Value) (i : lB → Option Bool) (r : Bool) (w : World) (j : Sl (Pl lD) 9 (hp w) a g) (k : zn Tryz.prog c (hp w) (fun (x : lB) => [(.agg (lD x).toArray)]) (fun (r : Bool) => (.bool r)) i) (hm : sx g i = some r) :
  mw false Tryz.prog 81 [a, c] w (.bool r) := by
 refine cG 9 func81 rfl (fun b => sg (Wa (lr (Wm (Wm (bS hm fun y t hm => VE (Eg b call145 (zj a g c i _ _ (j.mono (Pl.mono _) b.lJ) (k.mono b.lJ) t) (fun u b => Wi rfl (Wa (mD ?_))))))))))
 exact lU (mB (rQ hm b))
theorem I6 (Q : lB) (T : Nat) (g : ByteArray) (a : Value) (i : List mG) (c : Value) (j : List ny) (J : ByteArray) (K : Int) (t : Value) (u : List lB) (D : Value) (I : List lB) (x : Value) (G : List lC) (B : Value) (H : List lC) (r : Bool) (w : World) (y : Sl mx 15 (hp w) a i) (z : Sl mV 8 (hp w) c j) (N : Sl (Pl lD) 9 (hp w) t u) (o : Sl (Pl lD) 9 (hp w) D I) (U : Sl (Pl lE) 2 (hp w) x G) (Z : Sl (Pl lE) 2 (hp w) B H) (Y : At (hp w) (.pointer (some ⟨T, 0, none⟩)) [(.string g), a, c, (.string J), (.int .i64 K), t, D, x, B]) (hm : wM Q g i j J K u I G H = some r) :
  mw true Tryz.prog 82 [(.agg (lD Q).toArray), (.pointer (some ⟨T, 0, none⟩))] w (.bool r) := by
 refine cG 15 func82 rfl (fun b => sg (VE (mI b rfl (fun W2 v b => Wa (lr (VQ (sO [(.string g), a, c] zB rfl Y rfl) (fun P h => V (lK rfl (ms b.has h gI eX)) (VA b Mh (lD Q) bH aI (bS hm fun k l hm => ?_)))))))))
 let a0 := (((k.1).lB).Head)
 refine VE (eD b (bE _) call66 (fun m => (BG (⟨g, i, j⟩ : lF) a c Q _ _ m (y.mono mH.mono (mn.refl _)) (z.mono nK.mono (mn.refl _)) l)) ?_ (L0 := []))
 rintro _ L n a9 b q d ⟨O, M, rfl, a5⟩
 obtain rfl := M.symm
 refine Wm (Wx rfl (Wx rfl (VE (mz b dW (fun s F b => ?_)))))
 obtain ⟨a2, a3, rfl⟩ := a5.form
 refine VO (mh (.agg #[(.int .i64 (((k.1).lB).Kind)), (.string (a0.lI)), (.string (a0.lM)), (.string (((k.1).lB).mS)), (.string ((((k.1).lB).B).lI)), (.string ((((k.1).lB).B).lM)), (.string ((((k.1).lB).C).lI)), (.string ((((k.1).lB).C).lM)), (.string (((k.1).lB).mK)), (.slice a2 ((k.1).Tag).length a3)]) (#[(.int .i64 (((k.1).lB).Kind)), (.string (a0.lI)), (.string (a0.lM)), (.string (((k.1).lB).mS)), (.string ((((k.1).lB).B).lI)), (.string ((((k.1).lB).B).lM)), (.string ((((k.1).lB).C).lI)), (.string ((((k.1).lB).C).lM)), (.string (((k.1).lB).mK)), (.slice a2 ((k.1).Tag).length a3)]) b rfl rfl dH oc nb rfl (fun A b => Wa (ln ?_)))
 replace b := b.lG (Db (Db St))
 exact sg (Wm (V (oH rfl) (Wa (lt (rQ hm b)))))
theorem Gy (a : mW) (t u H T J Q : Value) (r : Bool) (w : World) (c : Sl mx 15 (hp w) t a.lF.lX) (g : Sl mV 8 (hp w) u a.lF.ml) (i : Sl (Pl lD) 9 (hp w) H a.lQ) (j : Sl (Pl lD) 9 (hp w) T a.Shown) (y : Sl (Pl lE) 2 (hp w) J a.mg) (z : Sl (Pl lE) 2 (hp w) Q a.mj) (hm : yK a = some r) :
  mw false Tryz.prog 26 [(.agg #[(.string a.lF.Name), t, u, (.string a.na), (.int .i64 a.Room), H, T, J, Q])] w (.bool r) := by
 refine cG 33 func26 rfl (fun b => sg ?_)
 obtain ⟨A1, c2, rfl⟩ := c.form
 let a4 : Value := (.slice A1 a.lF.lX.length c2)
 obtain ⟨A3, q, rfl⟩ := g.form
 let a5 : Value := (.slice A3 a.lF.ml.length q)
 obtain ⟨A5, s, rfl⟩ := i.form
 obtain ⟨A7, c8, rfl⟩ := j.form
 let l : Value := (.slice A7 a.Shown.length c8)
 obtain ⟨A9, Y, rfl⟩ := y.form
 obtain ⟨U, Z, rfl⟩ := z.form
 let a0 := (C2 a.lF.Name A1 a.lF.lX.length c2 A3 a.lF.ml.length q a.na a.Room A5 a.lQ.length s A7 a.Shown.length c8 A9 a.mg.length Y U a.mj.length Z)
 refine VE (mI b rfl (fun e5 I b => Wa (lS (Wf zB (VA b Mh (C7 a.lF.Name A1 a.lF.lX.length c2 A3 a.lF.ml.length q) gI eX (bS hm fun f0 d7 hm => VE (Eg b call79 (FI a.lF a4 a5 _ _ (c.mono mH.mono b.lJ) (g.mono nK.mono b.lJ) d7) (fun e6 b => Wi rfl (Wm (LJ hm (fun d2 E W => ∃ O, ST false mX w W (hp w) ((I, Ol a0 36) :: O) ∧ E 1 = (.pointer (some ⟨I, 0, none⟩)) ∧ E 12 = (.bool d2)) 5 ?_ (fun d2 N L => ?_)))))))))))
 ·let a3 : Value := (.pointer (some ⟨I, 0, none⟩))
  rintro f4 E W ⟨O, b, m, e1⟩ d4
  refine Wh e1 (LJ d4 (fun d1 E W => ∃ c1, ST false mX w W (hp w) ((I, Ol a0 36) :: c1) ∧ E 1 = a3 ∧ E 17 = (.bool d1)) 4 ?_ (fun d1 a2 F => ?_))
  ·rintro f5 E W ⟨c1, b, n, e2⟩ d5
   refine Wh e2 (LJ d5 (fun d0 E W => ∃ P, ST false mX w W (hp w) ((I, Ol a0 36) :: P) ∧ E 1 = a3 ∧ E 22 = (.bool d0)) 4 ?_ (fun d0 h A => ?_))
   ·rintro f6 E W ⟨P, b, o, e3⟩ d6
    refine Wh e3 (LJ d6 (fun c9 E W => ∃ R, ST false mX w W (hp w) ((I, Ol a0 36) :: R) ∧ E 1 = a3 ∧ E 27 = (.bool c9)) 4 ?_ (fun c9 M v => ?_))
    ·rintro f7 E W ⟨R, b, c7, e4⟩ K
     refine ln (CI K e4 (fun d3 K => ?_) (fun d3 K => ?_))
     ·refine sg (Wa (ln ?_))
      replace b := b.lG (Db St)
      refine mB (mQ ?_)
      obtain rfl := sj K
      exact rP b
     refine kg (V (lN BM c7) (VB b Mh rfl rfl eU (V (qk (by exact uC c7) rfl) (bS K fun f1 d8 K => VE (Eg b call81 (B3 l a.Shown (.func (.func 82) #[] #[a3]) (fun (x : lB) => wM x a.lF.Name a.lF.lX a.lF.ml a.na a.Room a.lQ a.Shown a.mg a.mj) _ _ (j.mono (Pl.mono _) b.lJ) ⟨82, #[], #[a3], rfl, call82, fun W x r d hm => (I6 x I a.lF.Name a4 a.lF.lX a5 a.lF.ml a.na a.Room (.slice A5 a.lQ.length s) a.lQ l a.Shown (.slice A9 a.mg.length Y) a.mg (.slice U a.mj.length Z) a.mj r W (c.mono mH.mono (b.lJ.trans d)) (g.mono nK.mono (b.lJ.trans d)) (i.mono (Pl.mono _) (b.lJ.trans d)) (j.mono (Pl.mono _) (b.lJ.trans d)) (y.mono (Pl.mono _) (b.lJ.trans d)) (z.mono (Pl.mono _) (b.lJ.trans d)) (At.of (d _ _ (b.at_ Mh)) _ rfl) hm).nz⟩ d8) (fun e7 b => V (oH rfl) (Wa (ln ?_))))))))
     exact mB (rQ K b)
    refine bC M (fun G M => ?_) (fun G M => ?_)
    ·refine un G (un G (un G (V (mo (cB G) rfl) ?_)))
     obtain rfl := sj M
     exact v _ _ ⟨_, (b.lG St), o, rfl⟩
    refine ug G (lK o (lP b.has Mh a0 rfl dU cZ)) (bS M fun f2 d9 M => uJ G (Eg b call80 (MV a a4 a5 (.slice A5 a.lQ.length s) l (.slice A9 a.mg.length Y) (.slice U a.mj.length Z) _ _ (c.mono mH.mono b.lJ) (g.mono nK.mono b.lJ) (i.mono (Pl.mono _) b.lJ) (j.mono (Pl.mono _) b.lJ) (y.mono (Pl.mono _) b.lJ) (z.mono (Pl.mono _) b.lJ) d9) (fun e8 b => ug G (oH rfl) (V (mq (cB G) rfl) ?_))))
    obtain rfl := sj M
    exact v _ _ ⟨_, (b.lG St), o, rfl⟩
   refine bC h (fun D h => ?_) (fun D h => ?_)
   ·refine un D (un D (un D (V (mo (cB D) rfl) ?_)))
    obtain rfl := sj h
    exact A _ _ ⟨_, (b.lG St), n, rfl⟩
   refine ug D (lN Qi n) (ug D (lK rfl (ma b.has Mh rfl cP)) (ug D (mU rfl rfl rfl) (V (mq (cB D) rfl) ?_)))
   obtain rfl := sj h
   exact A _ _ ⟨_, (b.lG St), n, rfl⟩
  refine bC a2 (fun B a2 => ?_) (fun B a2 => ?_)
  ·refine un B (un B (un B (V (mo (cB B) rfl) ?_)))
   obtain rfl := sj a2
   exact F _ _ ⟨_, (b.lG St), m, rfl⟩
  refine ug B (lN Qi m) (ug B (lK rfl (ma b.has Mh rfl cP)) (ug B (mU rfl rfl rfl) (V (mq (cB B) rfl) ?_)))
  obtain rfl := sj a2
  exact F _ _ ⟨_, (b.lG St), m, rfl⟩
 refine bC N (fun k N => ?_) (fun k N => ?_)
 ·refine un k (un k (un k (un k (V (mo (cB k) rfl) ?_))))
  obtain rfl := sj N
  exact L _ _ ⟨_, (b.lG St), rfl, rfl⟩
 refine ug k (lN Ji rfl) (ug k (lK rfl (ma b.has Mh rfl bZ)) (bS N fun f3 e0 N => uJ k (Eg b lq (mw.nz (th a.na _ _  e0)) (fun e9 b => ug k (oH rfl) (V (mq (cB k) rfl) ?_)))))
 obtain rfl := sj N
 exact L _ _ ⟨_, (b.lG St), rfl, rfl⟩
theorem Ov (a : zA) (k j : Value) (r : zA) (w : World) {J : mF} (O : po J [] w) (i : Sl (Pl lE) 2 J k a.qo) (g : Sl nV 10 J j a.pR) (hm : ET a = some r) :
  nM true Tryz.prog 88 [(.agg #[(.int .i64 a.Kind), (.int .i64 a.uM), (.int .i64 a.E), (.string a.Name), k, j])] w J [] (fun v L1 μ1 => ∃ A F, v = (.agg #[(.int .i64 ((r).Kind)), (.int .i64 ((r).uM)), (.int .i64 ((r).E)), (.string ((r).Name)), A, F]) ∧ L1 = [] ∧ Sl (Pl lE) 2 μ1 A ((r).qo) ∧ Sl nV 10 μ1 F ((r).pR)) := by
 let h : Value := (.int .i64 a.Kind)
 refine vA O 31 func88 rfl (fun b => sg ?_)
 obtain ⟨N, Q, rfl⟩ := i.form
 let m : Value := (.slice N a.qo.length Q)
 obtain ⟨Y, Z, rfl⟩ := g.form
 let n : Value := (.slice Y a.pR.length Z)
 refine VE (mI b rfl (fun W6 P b => VE (mz b fH (fun W8 q b => lr (Wf CT (VB b (Mt Mh) rfl rfl cP (V (nZ (v := (.agg (TM a.Kind).toArray)) (oX rfl) (nB fH eB (OE _ eB) kr)) (VE (mz b fH (fun R s b => VO (mh (.agg (TM a.Kind).toArray) ((TM a.Kind).toArray) b rfl rfl fJ oc nb rfl (fun c0 b => ln (me (CJ hm (fun t E W => ∃ K M o, ST true (keys []) w W J ((s, Ob #[h, (.int .i64 t.1), (.int .i64 t.2.1), (.string t.2.2.1), K, M] 78) :: ((q, Ol Gx 78) :: o)) ∧ E 2 = (.pointer (some ⟨q, 0, none⟩)) ∧ E 3 = (.pointer (some ⟨s, 0, none⟩)) ∧ Sl (Pl lE) 2 J K t.2.2.2.1 ∧ Sl nV 10 J M t.2.2.2.2) (fun t c => ?_) ?_))))))))))))))
 ·refine sg (Wf CT (VB b (Mt (Mt Mh)) rfl rfl cP (ln (bg (Wi rfl (Wa (ln (CI c rfl (fun a3 c => ?_) (fun a3 c => ?_)))))))))
  ·replace b := b.drew
   have d := b.has.lG (Db (Db (Kb Sn)))
   refine mO d mu (X 0 rfl d (lN Gb rfl) (XH 1 rfl d (fun _ l => lK rfl (ma l Mh rfl bZ)) (X 2 rfl d (lN Ei rfl) (XH 3 rfl d (fun _ l => lK rfl (ma l Mh rfl cP)) (X 4 rfl d (lN Gb rfl) (XO 5 rfl (mh (.string a.Name) (#[h, (.int .i64 0), (.int .i64 0), (.string a.Name), (.slice none 0 0), (.slice none 0 0)]) b rfl rfl iF (QT a.Name) nb rfl (fun c3 b => ?_))))))))
   have d := b.has.lG (Db (Db (Kb Sn)))
   refine ⟨d, (X 6 rfl d (lN Ei rfl) (XO 7 rfl (mh (.int .i64 a.uM) (#[h, (.int .i64 a.uM), (.int .i64 0), (.string a.Name), (.slice none 0 0), (.slice none 0 0)]) b rfl rfl iG (D8 _ a.uM) nb rfl (fun c5 b => ?_))))⟩
   have d := b.has.lG (Db (Db (Kb Sn)))
   refine ⟨d, (nc kr (mL (lU ?_)))⟩
   obtain rfl := sj c
   exact ⟨(.slice none 0 0), (.slice none 0 0), _, (b.lG (Kb (Kb (Db St)))), rfl, rfl, (Sl.nil _ _ _), (Sl.nil _ _ _)⟩
  refine sg (Wi rfl (Wa (ln (CI c rfl (fun a4 c => ?_) (fun a4 c => ?_)))))
  ·replace b := b.drew
   have d := b.has.lG (Db (Db (Kb Sn)))
   refine mO d mu (X 0 rfl d (lN BJ rfl) (XH 1 rfl d (fun _ l => lK rfl (ma l Mh rfl fN)) (X 2 rfl d (lN BT rfl) (XH 3 rfl d (fun _ l => lK rfl (ma l Mh rfl lA)) (X 4 rfl d (lN BJ rfl) (XO 5 rfl (mh m (#[h, (.int .i64 0), (.int .i64 0), (.string zS), m, (.slice none 0 0)]) b rfl rfl iN oc nb rfl (fun c6 b => ?_))))))))
   have d := b.has.lG (Db (Db (Kb Sn)))
   refine ⟨d, (X 6 rfl d (lN BT rfl) (XO 7 rfl (mh n (#[h, (.int .i64 0), (.int .i64 0), (.string zS), m, n]) b rfl rfl sizeOf45 oc nb rfl (fun c7 b => ?_))))⟩
   have d := b.has.lG (Db (Db (Kb Sn)))
   refine ⟨d, (nc kr (mL (lU ?_)))⟩
   obtain rfl := sj c
   exact ⟨m, n, _, (b.lG (Kb (Kb (Db St)))), rfl, rfl, i, g⟩
  refine sg (Wi rfl (Wa (ln (CI c rfl (fun a5 c => ?_) (fun a5 c => ?_)))))
  ·refine mc (Wf Ey (VB b (Mt (Mt Mh)) rfl rfl cP (Wf Ey (VO (mh (.int .i64 a.E) (#[h, (.int .i64 0), (.int .i64 a.E), (.string zS), (.slice none 0 0), (.slice none 0 0)]) b rfl rfl iG (D8 _ a.E) nb rfl (fun c8 b => mD (mL (lU ?_))))))))
   obtain rfl := sj c
   exact ⟨(.slice none 0 0), (.slice none 0 0), _, (b.lG (Kb (Kb (Db St)))), rfl, rfl, (Sl.nil _ _ _), (Sl.nil _ _ _)⟩
  refine np (mL (lU ?_))
  obtain rfl := sj c
  exact ⟨(.slice none 0 0), (.slice none 0 0), _, (b.lG (Kb (Kb (Db St)))), rfl, rfl, (Sl.nil _ _ _), (Sl.nil _ _ _)⟩
 rintro ⟨G, H, I, B, D⟩ E W ⟨K, M, o, b, a2, a9, T, U⟩ L
 refine sg (V (lK a9 (lP b.has Mh [h, (.int .i64 G), (.int .i64 H), (.string I), K, M] rfl lg fJ)) ?_)
 obtain ⟨u, y, rfl⟩ := T.form
 obtain ⟨x, z, rfl⟩ := U.form
 let a0 := (C9 a.Kind G H I u B.length y x D.length z)
 replace b := b.perm (Nb (Pb Pz) Nz)
 refine VO (mh (.agg a0.toArray) (a0.toArray) b a2 rfl fJ oc nb rfl (fun c1 b => ln ?_))
 replace b := b.lG (Kb (Db St))
 refine mB ?_
 obtain rfl := sj L
 exact rU (v := (.agg a0.toArray)) rfl a2 (lP b.has Mh a0 rfl lg fJ) ⟨_, _, _, rfl, (b.ol Sn), (mn.refl _), Lo.refl, (ST.nm b (oK.mem Sn)), (.slice u B.length y), (.slice x D.length z), rfl, rfl, T, U⟩
theorem tW (G : Value) (N : List Signed) (H : Value) (l : List Signed) (I : Value) (f2 : (Signed × Signed) → Option Bool) (r : Bool) (w : World) (x : Sl nV 10 (hp w) G N) (Q : Sl nV 10 (hp w) H l) (o : yo Tryz.prog I (hp w) (wR nV nV) (fun (r : Bool) => (.bool r)) f2) (hm : ob N l f2 = some r) :
  mw false Tryz.prog 95 [G, H, I] w (.bool r) := by
 refine cG 32 func95 rfl (fun b => sg (Wa (lS (Wm (V (nh dE rfl x) (Wm (V (nh dE rfl Q) (Wi rfl (mD ?_)))))))))
 refine lU (CI hm rfl (fun s hm => ?_) (fun s hm => ?_))
 ·refine sg (Wa (lt (mQ ?_)))
  obtain rfl := sj hm
  exact rP b
 refine kS (Wm (V (nh dE rfl x) (Wm (ln (mY (fun i E W => ∃ y, (E 17 = .int .i64 (i : Nat) ∧ E 16 = .int .i64 (N.length : Nat)) ∧ ST false mX w W (hp w) y ∧ E 1 = H ∧ E 2 = I ∧ E 15 = G ∧ nk l f2 (N.drop i) i = some r) N.length x.len ⟨_, ⟨rfl, rfl⟩, (b.lG St), rfl, rfl, rfl, hm⟩ dc dc dc (fun _ _ _ h => by obtain ⟨_, m, _⟩ := h; exact m) ?_ ?_)))))
 ·rintro a4 E W U ⟨y, ⟨d, n⟩, b, z, B, D, g⟩
  obtain ⟨c, c5, a9, q, a3⟩ := mM U
  rw [a9] at g
  refine bg (Wh d (VQ (od (i := (a4 : Int)) (x0 := c) nV.out dE dH D d x (aG _) q) (fun b9 ⟨_, ⟨c2, rfl, J⟩, Y⟩ => V (lK rfl (ms b.has Y jx dH)) (VE (mz b dW (fun v P b => Wa ?_))))))
  obtain ⟨j, t, rfl⟩ := J.form
  let a0 := (C3 c.lB.Kind c.lB.Head.lI c.lB.Head.lM c.lB.mS c.lB.B.lI c.lB.B.lM c.lB.C.lI c.lB.C.lM c.lB.mK j c.Tag.length t)
  refine VO (mh (.agg a0.toArray) (a0.toArray) b rfl rfl dH oc nb rfl (fun A b => lr (Wh z (Wm (bS g fun a M g => VQ (od (i := (a4 : Int)) (x0 := a) nV.out dE dH rfl rfl Q (mE M) (mA M)) (fun c0 ⟨_, ⟨c3, rfl, K⟩, Z⟩ => V (lK rfl (ms b.has Z jx dH)) (VE (mz b dW (fun F R b => ?_)))))))))
  obtain ⟨k, u, rfl⟩ := K.form
  let a5 := (C3 a.lB.Kind a.lB.Head.lI a.lB.Head.lM a.lB.mS a.lB.B.lI a.lB.B.lM a.lB.C.lI a.lB.C.lM a.lB.mK k a.Tag.length u)
  refine VO (mh (.agg a5.toArray) (a5.toArray) b rfl rfl dH oc nb rfl (fun L b => lr (Wh B (VA b (Mt Mh) a0 jx dH (VA b Mh a5 jx dH (bS g fun c1 a2 g => VE (zO (c, a) b o (mn.refl _) (wR.mk qw qw (nV.mk ⟨(.slice j c.Tag.length t), rfl, J⟩) (nV.mk ⟨(.slice k a.Tag.length u), rfl, K⟩) b.lJ) rfl (xM rfl rfl) a2 (fun O b => V (oH rfl) (ln ?_)))))))))
  replace b := b.lG (Db (Db St))
  refine CI g rfl (fun T g => ?_) (fun T g => ?_)
  ·refine sg (Wa (lt (oh (mQ (oh (mQ ?_))))))
   obtain rfl := sj g
   exact rP b
  exact np (mL (lU ⟨d, _, ⟨rfl, n⟩, (b.lG St), z, B, D, (by rw [a3]; exact g)⟩))
 rintro E W ⟨y, ⟨d, n⟩, b, z, B, D, g⟩
 rw [aK] at g
 exact lU (sg (Wa (lt (rQ g b))))
theorem KG (a : Value) (j : List Int) (c : Value) (k : List Int) (r : Bool) (w : World) (g : Sl (Pl (nr .u8)) 1 (hp w) a j) (i : Sl (Pl (nr .u8)) 1 (hp w) c k) (hm : B7 j k = some r) :
  mw true Tryz.prog 164 [a, c] w (.bool r) := by
 refine cG 10 func164 rfl (fun b => sg (Wa (lr (Wm (V (NB cN jB bU rfl (g.mono (Pl.mono _) b.lJ)) (Wm (V (NB cN jB bU rfl (i.mono (Pl.mono _) b.lJ)) (V (OM rfl rfl rfl) (Wa (mD ?_))))))))))
 exact lU (mB (rQ hm b))
theorem Ib (a : Signed) (t : Value) (c : Signed) (u : Value) (r : Bool) (w : World) (j : Sl (Pl (nr .u8)) 1 (hp w) t a.Tag) (k : Sl (Pl (nr .u8)) 1 (hp w) u c.Tag) (hm : vP a c = some r) :
  mw true Tryz.prog 96 [(.agg #[(.int .i64 a.lB.Kind), (.string a.lB.Head.lI), (.string a.lB.Head.lM), (.string a.lB.mS), (.string a.lB.B.lI), (.string a.lB.B.lM), (.string a.lB.C.lI), (.string a.lB.C.lM), (.string a.lB.mK), t]), (.agg #[(.int .i64 c.lB.Kind), (.string c.lB.Head.lI), (.string c.lB.Head.lM), (.string c.lB.mS), (.string c.lB.B.lI), (.string c.lB.B.lM), (.string c.lB.C.lI), (.string c.lB.C.lM), (.string c.lB.mK), u])] w (.bool r) := by
 refine cG 17 func96 rfl (fun b => sg ?_)
 obtain ⟨G, I, rfl⟩ := j.form
 refine VE (mI b rfl (fun U Z b => ?_))
 obtain ⟨H, J, rfl⟩ := k.form
 refine VE (mI b rfl (fun Y d b => Wa (lr (Wf tj (VA b (Mt Mh) (lD a.lB) bH aI (Wf tj (VA b Mh (lD c.lB) bH aI (V (yU rfl rfl (qt fQ) (vL (wS _ a.lB c.lB))) (Wm (LJ hm (fun z E W => ∃ y, ST true mX w W (hp w) y ∧ E 4 = (.bool false) ∧ E 16 = (.bool z)) 6 ?_ (fun z i x => ?_)))))))))))
 ·rintro T E W ⟨y, b, N, K⟩ B
  exact Wg K (lt (rQ B b))
 refine bC i (fun g i => ?_) (fun g i => ?_)
 ·refine ug g (lN En rfl) (ug g (lK rfl (ma b.has (Mt Mh) rfl jv)) (ug g (lN En rfl) (ug g (lK rfl (ma b.has Mh rfl jv)) (bS i fun Q D i => uJ g (Eg b call164 (KG (.slice G a.Tag.length I) a.Tag (.slice H c.Tag.length J) c.Tag _ _ (j.mono (Pl.mono _) b.lJ) (k.mono (Pl.mono _) b.lJ) D) (fun M b => V (mo (cB g) rfl) ?_))))))
  obtain rfl := sj i
  exact x _ _ ⟨_, (b.lG (Db (Db St))), rfl, rfl⟩
 refine un g (un g (un g (un g (un g (V (mq (cB g) rfl) ?_)))))
 obtain rfl := sj i
 exact x _ _ ⟨_, (b.lG (Db (Db St))), rfl, rfl⟩
theorem OA (a : zA) (I H : Value) (c : zA) (K J : Value) (r : Bool) (w : World) (B : Sl (Pl lE) 2 (hp w) I a.qo) (z : Sl nV 10 (hp w) H a.pR) (G : Sl (Pl lE) 2 (hp w) K c.qo) (D : Sl nV 10 (hp w) J c.pR) (hm : Cv a c = some r) :
  mw false Tryz.prog 32 [(.agg #[(.int .i64 a.Kind), (.int .i64 a.uM), (.int .i64 a.E), (.string a.Name), I, H]), (.agg #[(.int .i64 c.Kind), (.int .i64 c.uM), (.int .i64 c.E), (.string c.Name), K, J])] w (.bool r) := by
 refine cG 47 func32 rfl (fun b => sg ?_)
 obtain ⟨A1, c2, rfl⟩ := B.form
 obtain ⟨A3, F, rfl⟩ := z.form
 let a0 := (C9 a.Kind a.uM a.E a.Name A1 a.qo.length c2 A3 a.pR.length F)
 refine VE (mI b rfl (fun W6 Y b => ?_))
 obtain ⟨A7, R, rfl⟩ := G.form
 obtain ⟨A9, U, rfl⟩ := D.form
 let d := (C9 c.Kind c.uM c.E c.Name A7 c.qo.length R A9 c.pR.length U)
 refine VE (mI b rfl (fun f1 M b => Wa (lr (Wf CT (VB b (Mt Mh) rfl rfl cP (Wf CT (VB b Mh rfl rfl cP (Wi rfl (Wm (LJ hm (fun d3 E W => ∃ c1, ST false mX w W (hp w) ((M, Ol d 78) :: ((Y, Ol a0 78) :: c1)) ∧ E 2 = (.pointer (some ⟨Y, 0, none⟩)) ∧ E 3 = (.pointer (some ⟨M, 0, none⟩)) ∧ E 17 = (.bool d3)) 6 ?_ (fun d3 T a5 => ?_)))))))))))
 ·let l : Value := (.pointer (some ⟨M, 0, none⟩))
  let h : Value := (.pointer (some ⟨Y, 0, none⟩))
  rintro f6 E W ⟨c1, b, m, n, e1⟩ d4
  refine Wh e1 (LJ d4 (fun d2 E W => ∃ A, ST false mX w W (hp w) ((M, Ol d 78) :: ((Y, Ol a0 78) :: A)) ∧ E 2 = h ∧ E 3 = l ∧ E 24 = (.bool d2)) 6 ?_ (fun d2 Q a4 => ?_))
  ·rintro f7 E W ⟨A, b, o, q, e2⟩ d5
   refine Wh e2 (LJ d5 (fun d1 E W => ∃ L, ST false mX w W (hp w) ((M, Ol d 78) :: ((Y, Ol a0 78) :: L)) ∧ E 2 = h ∧ E 3 = l ∧ E 31 = (.bool d1)) 6 ?_ (fun d1 N a3 => ?_))
   ·rintro f8 E W ⟨L, b, s, v, e3⟩ d6
    refine Wg e3 (lr (Wm (Wm (LJ d6 (fun d0 E W => ∃ O, ST false mX w W (hp w) ((M, Ol d 78) :: ((Y, Ol a0 78) :: O)) ∧ E 2 = h ∧ E 3 = l ∧ E 39 = (.bool d0)) 6 ?_ (fun d0 y a2 => ?_)))))
    ·rintro f9 E W ⟨O, b, e4, e5, e6⟩ d7
     refine Wh e6 (LJ d7 (fun c9 E W => ∃ P, ST false mX w W (hp w) P ∧ E 46 = (.bool c9)) 6 ?_ (fun c9 u Z => ?_))
     ·rintro g0 E W ⟨P, b, e7⟩ d8
      exact Wg e7 (lt (rQ d8 b))
     refine bC u (fun t u => ?_) (fun t u => ?_)
     ·refine ug t (lN BT e4) (ug t (lK rfl (ma b.has (Mt Mh) rfl lA)) (ug t (lN BT e5) (ug t (lK rfl (ma b.has Mh rfl lA)) (bS u fun f4 d9 u => uJ t (Eg b call95 (tW (.slice A3 a.pR.length F) a.pR (.slice A9 c.pR.length U) c.pR (.func (.func 96) #[] #[]) (fun (x : (Signed × Signed)) => vP x.1 x.2) _ _ (z.mono qw.mono b.lJ) (D.mono qw.mono b.lJ) ⟨96, #[], #[], rfl, call96, fun W x vs r hs hR hm => by obtain ⟨_, _, rfl, e8, e9⟩ := hR; obtain ⟨u0, rfl, k0⟩ := e8.out; obtain ⟨t0, rfl, j0⟩ := e9.out; exact (Ib x.1 u0 x.2 t0 r W k0 j0 hm).nz⟩ d9) (fun f2 b => V (mo (cB t) rfl) ?_))))))
      obtain rfl := sj u
      exact Z _ _ ⟨_, (b.lG (Db (Db St))), rfl⟩
     refine un t (un t (un t (un t (un t (V (mq (cB t) rfl) ?_)))))
     obtain rfl := sj u
     exact Z _ _ ⟨_, (b.lG (Db (Db St))), rfl⟩
    refine bC y (fun k y => ?_) (fun k y => ?_)
    ·refine ug k (lN BJ s) (ug k (lK rfl (ma b.has (Mt Mh) rfl fN)) (ug k (lN BJ v) (ug k (lK rfl (ma b.has Mh rfl fN)) (bS y fun f5 e0 y => uJ k (Eg b call94 (mw.nz (wh (.slice A1 a.qo.length c2) a.qo (.slice A7 c.qo.length R) c.qo _ _ (B.mono (Pl.mono _) b.lJ) (G.mono (Pl.mono _) b.lJ) e0)) (fun f3 b => V (mo (cB k) rfl) ?_))))))
     obtain rfl := sj y
     exact a2 _ _ ⟨_, (b.lG St), s, v, rfl⟩
    refine un k (un k (un k (un k (un k (V (mq (cB k) rfl) ?_)))))
    obtain rfl := sj y
    exact a2 _ _ ⟨_, (b.lG St), s, v, rfl⟩
   refine bC N (fun j N => ?_) (fun j N => ?_)
   ·refine ug j (lN Gb o) (ug j (lK rfl (ma b.has (Mt Mh) rfl bZ)) (ug j (lN Gb q) (ug j (lK rfl (ma b.has Mh rfl bZ)) (ug j (OM rfl rfl rfl) (V (mo (cB j) rfl) ?_)))))
    obtain rfl := sj N
    exact a3 _ _ ⟨_, (b.lG St), o, q, rfl⟩
   refine un j (un j (un j (un j (un j (V (mq (cB j) rfl) ?_)))))
   obtain rfl := sj N
   exact a3 _ _ ⟨_, (b.lG St), o, q, rfl⟩
  refine bC Q (fun i Q => ?_) (fun i Q => ?_)
  ·refine ug i (lN Ey m) (ug i (lK rfl (ma b.has (Mt Mh) rfl cP)) (ug i (lN Ey n) (ug i (lK rfl (ma b.has Mh rfl cP)) (ug i (mU rfl rfl rfl) (V (mo (cB i) rfl) ?_)))))
   obtain rfl := sj Q
   exact a4 _ _ ⟨_, (b.lG St), m, n, rfl⟩
  refine un i (un i (un i (un i (un i (V (mq (cB i) rfl) ?_)))))
  obtain rfl := sj Q
  exact a4 _ _ ⟨_, (b.lG St), m, n, rfl⟩
 refine bC T (fun g T => ?_) (fun g T => ?_)
 ·refine ug g (lN Ei rfl) (ug g (lK rfl (ma b.has (Mt Mh) rfl cP)) (ug g (lN Ei rfl) (ug g (lK rfl (ma b.has Mh rfl cP)) (ug g (mU rfl rfl rfl) (V (mo (cB g) rfl) ?_)))))
  obtain rfl := sj T
  exact a5 _ _ ⟨_, (b.lG St), rfl, rfl, rfl⟩
 refine un g (un g (un g (un g (un g (V (mq (cB g) rfl) ?_)))))
 obtain rfl := sj T
 exact a5 _ _ ⟨_, (b.lG St), rfl, rfl, rfl⟩
theorem MU (g : Value) (u : List lC) (r : Bool) (w : World) (i : Sl (Pl lE) 2 (hp w) g u) (hm : Bx u = some r) :
  mw false Tryz.prog 89 [g] w (.bool r) := by
 refine cG 12 func89 rfl (fun d => sg (Wa (lr (Wm (V (nh aM rfl i) (Wi rfl (Wm (LJ hm (fun y E W => ∃ t x, mn (hp w) t ∧ ST false mX w W t x ∧ E 2 = (.bool false) ∧ E 11 = (.bool y)) 5 ?_ (fun y a k => ?_)))))))))
 ·rintro Z E W ⟨t, x, M, d, U, H⟩ B
  exact Wg H (lt (rQ B d))
 refine bC a (fun c a => ?_) (fun c a => ?_)
 ·refine ug c (lO rfl) (bS a fun I D a => uJ c (pF d lx (vq g u _ _ (i.mono (Pl.mono _) d.lJ) D) (fun Q J K N d j h z => ug c (lO rfl) (bS a fun Y G a => uJ c (Eg d call94 (mw.nz (wh J I g u _ _ (z.sl nI (fun b o l => d.at_ (Ml l))) (i.mono (Pl.mono _) (j.trans d.lJ)) G)) (fun T d => V (mo (cB c) rfl) ?_))))))
  obtain rfl := sj a
  exact k _ _ ⟨K, _, j, (d.lG (Dr St)), rfl, rfl⟩
 refine un c (un c (un c (un c (V (mq (cB c) rfl) ?_))))
 obtain rfl := sj a
 exact k _ _ ⟨(hp w), _, (mn.refl _), (d.lG St), rfl, rfl⟩
theorem MK (u : Value) (Y : List Signed) (r : Bool) (w : World) (M : Sl nV 10 (hp w) u Y) (hm : D9 Y = some r) :
  mw true Tryz.prog 90 [u] w (.bool r) := by
 refine cG 42 func90 rfl (fun d => sg (Wa (lS (Wm (V (nh dE rfl M) (Wm (ln (mY (fun i E W => ∃ U, (E 7 = .int .i64 (i : Nat) ∧ E 6 = .int .i64 (Y.length : Nat)) ∧ ST true mX w W (hp w) U ∧ E 0 = u ∧ E 5 = u ∧ vE Y (Y.drop i) i = some r) Y.length M.len ⟨_, ⟨rfl, rfl⟩, (d.lG St), rfl, rfl, hm⟩ dc dc dc (fun _ _ _ h => by obtain ⟨_, o, _⟩ := h; exact o) ?_ ?_))))))))
 ·rintro B E W R ⟨U, ⟨m, q⟩, d, I, J, k⟩
  obtain ⟨a, e1, c4, c3, c5⟩ := mM R
  rw [c4] at k
  refine bg (Wh m (VQ (od (i := (B : Int)) (x0 := a) nV.out dE dH J m M (aG _) c3) (fun e6 ⟨_, ⟨f1, rfl, a4⟩, b7⟩ => V (lK rfl (ms d.has b7 jx dH)) (VE (mz d dW (fun e2 H d => Wa ?_))))))
  let f5 : Value := (.int .i64 (Y.length : Int))
  let b8 : Value := (.int .i64 (B : Int))
  obtain ⟨D, G, rfl⟩ := a4.form
  let a0 := (C3 a.lB.Kind a.lB.Head.lI a.lB.Head.lM a.lB.mS a.lB.B.lI a.lB.B.lM a.lB.C.lI a.lB.C.lM a.lB.mK D a.Tag.length G)
  refine VO (mh (.agg a0.toArray) (a0.toArray) d rfl rfl dH oc nb rfl (fun e3 d => ln (me ?_)))
  replace d := d.drew
  have b := d.has.lG (Kb Sn)
  refine mO b mu (X 0 rfl b (lN tj rfl) (XH 1 rfl b (fun _ l => lK rfl (lP l Mh (lD a.lB) rfl bH aI)) (bS k fun e9 c1 k => XE 2 rfl (Eg d call113 (yJ a.lB _ _  c1) (fun e4 d => ?_)))))
  have b := d.has.lG (Kb Sn)
  refine ⟨b, (X 3 rfl b (oH rfl) (X 4 rfl b (lO rfl) (PJ k (fun O E W => ∃ s, ST true mX w W (hp w) ((H, Ol a0 55) :: s) ∧ E 0 = u ∧ E 3 = b8 ∧ E 4 = (.pointer (some ⟨H, 0, none⟩)) ∧ E 5 = u ∧ E 6 = f5 ∧ E 7 = b8 ∧ E 21 = (.bool O)) (bm 26 1023) 16 ?_ (fun O z T => ?_))))⟩
  ·rintro d9 E W ⟨s, d, K, a9, c6, Z, n, a2, c7⟩ b5
   have b := d.has.lG (Kb Sn)
   refine X 10 rfl b (lO c7) (PJ b5 (fun F E W => ∃ v, ST true mX w W (hp w) ((H, Ol a0 55) :: v) ∧ E 0 = u ∧ E 5 = u ∧ E 6 = f5 ∧ E 7 = b8 ∧ E 37 = (.bool F)) (bm 26 67108863) 0 ?_ (fun F y N => ?_))
   ·rintro f3 E W ⟨v, d, c8, c9, d0, d1, d2⟩ x
    refine nc kr (lU ?_)
    replace d := d.lG (Db St)
    refine CI x d2 (fun P x => ?_) (fun P x => ?_)
    ·refine sg (Wa (lt (oh (mQ (oh (mQ ?_))))))
     obtain rfl := sj x
     exact rP d
    exact np (mL (lU ⟨d1, _, ⟨rfl, d0⟩, (d.lG St), c8, c9, (by rw [c5]; exact x)⟩))
   refine bC y (fun g y => ?_) (fun g y => ?_)
   ·refine Xn 11 rfl rfl (cB g) b (Xn 12 rfl rfl (cB g) b (Xn 13 rfl rfl (cB g) b (Xu 14 rfl rfl rfl b (Xu 15 rfl rfl rfl b (Xu 16 rfl rfl rfl b (Xu 17 rfl rfl rfl b (Xu 18 rfl rfl rfl b (Xu 19 rfl rfl rfl b (Xu 20 rfl rfl rfl b (Xu 21 rfl rfl rfl b (Xu 22 rfl rfl rfl b (Xu 23 rfl rfl rfl b (Xn 24 rfl rfl (cB g) b (X 25 rfl b (mo (cB g) rfl) ?_))))))))))))))
    obtain rfl := sj y
    refine nE kr (N _ _ ⟨_, (d.lG St), K, Z, n, a2, rfl⟩)
   refine Xg 11 rfl rfl (cB g) b (lO a9) (Xg 12 rfl rfl (cB g) b (mU rfl rfl rfl) (Xg 13 rfl rfl (cB g) b (lO rfl) (PJ y (fun L E W => ∃ A, ST true mX w W (hp w) ((H, Ol a0 55) :: A) ∧ E 0 = u ∧ E 5 = u ∧ E 6 = f5 ∧ E 7 = b8 ∧ E 22 = (.bool d9) ∧ E 36 = (.bool L)) (bm 26 33554431) 1 ?_ (fun L t Q => ?_))))
   ·rintro f4 E W ⟨A, d, d3, d4, d5, d6, d7, d8⟩ b6
    have b := d.has.lG (Kb Sn)
    refine X 25 rfl b (mq (d7.trans (cB g)) d8) ?_
    obtain rfl := sj b6
    refine nE kr (N _ _ ⟨_, (d.lG St), d3, d4, d5, d6, rfl⟩)
   refine bC t (fun c t => ?_) (fun c t => ?_)
   ·refine Xg 14 rfl rfl (cB c) b (lO K) (Xg 15 rfl rfl (cB c) b (lO a9) (Xg 16 rfl rfl (cB c) b (mU rfl rfl rfl) (bS t fun a3 a5 t => uP 17 rfl kr (.inr ⟨13, true, 25, rfl, rfl, by decide, (cB c)⟩) rfl dc (fun _ _ h => h) b (od (i := (IntKind.i64.wrap ((B : Int) - 1))) (x0 := a3) nV.out dE dH rfl rfl M (mE a5) (mA a5)) (fun e7 ⟨_, ⟨f2, rfl, e0⟩, b9⟩ => uP 18 rfl kr (.inr ⟨13, true, 25, rfl, rfl, by decide, (cB c)⟩) rfl dc (fun _ _ h => h) b (sO (lD a3.lB) tj rfl b9 rfl) (fun e8 c0 => sc 19 rfl rfl (cB c) b (fun _ l => lK rfl (ms l c0 bH aI)) (Xg 20 rfl rfl (cB c) b (lN tj c6) (sc 21 rfl rfl (cB c) b (fun _ l => lK rfl (lP l Mh (lD a.lB) rfl bH aI)) (bS t fun f0 c2 t => As 22 rfl rfl (cB c) (Eg d call115 (Ed a3.lB a.lB _ _  c2) (fun e5 d => ?_))))))))))
    have b := d.has.lG (Kb Sn)
    refine ⟨b, (Xg 23 rfl rfl (cB c) b (mU rfl rfl rfl) (Xg 24 rfl rfl (cB g) b (mo (cB c) rfl) ?_))⟩
    obtain rfl := sj t
    refine nE kr (Q _ _ ⟨_, (d.lG St), K, Z, n, a2, rfl, rfl⟩)
   refine Xn 14 rfl rfl (cB c) b (Xn 15 rfl rfl (cB c) b (Xn 16 rfl rfl (cB c) b (Xn 17 rfl rfl (cB c) b (Xn 18 rfl rfl (cB c) b (Xn 19 rfl rfl (cB c) b (Xn 20 rfl rfl (cB c) b (Xn 21 rfl rfl (cB c) b (Xn 22 rfl rfl (cB c) b (Xn 23 rfl rfl (cB c) b (Xg 24 rfl rfl (cB g) b (mq (cB c) rfl) ?_))))))))))
   obtain rfl := sj t
   refine nE kr (Q _ _ ⟨_, (d.lG St), K, Z, n, a2, rfl, rfl⟩)
  refine bC z (fun j z => ?_) (fun j z => ?_)
  ·refine Xn 5 rfl rfl (cB j) b (Xn 6 rfl rfl (cB j) b (Xn 7 rfl rfl (cB j) b (Xn 8 rfl rfl (cB j) b (X 9 rfl b (mo (cB j) rfl) ?_))))
   obtain rfl := sj z
   refine nE kr (T _ _ ⟨_, (d.lG St), I, rfl, rfl, J, q, m, rfl⟩)
  refine Xg 5 rfl rfl (cB j) b (lN En rfl) (sc 6 rfl rfl (cB j) b (fun _ l => lK rfl (ma l Mh rfl jv)) (Xg 7 rfl rfl (cB j) b (nh cN rfl a4) (Xg 8 rfl rfl (cB j) b (mU rfl rfl rfl) (X 9 rfl b (mq (cB j) rfl) ?_))))
  obtain rfl := sj z
  refine nE kr (T _ _ ⟨_, (d.lG St), I, rfl, rfl, J, q, m, rfl⟩)
 rintro E W ⟨U, ⟨m, q⟩, d, I, J, k⟩
 rw [aK] at k
 exact lU (sg (Wh I (V (nh dE rfl M) (Wi rfl (Wa (lt (rQ k d)))))))
theorem MR (a : zA) (G D : Value) (r : Bool) (w : World) (i : Sl (Pl lE) 2 (hp w) G a.qo) (g : Sl nV 10 (hp w) D a.pR) (hm : Bw a = some r) :
  mw false Tryz.prog 29 [(.agg #[(.int .i64 a.Kind), (.int .i64 a.uM), (.int .i64 a.E), (.string a.Name), G, D])] w (.bool r) := by
 refine cG 53 func29 rfl (fun b => sg ?_)
 obtain ⟨Y, c2, rfl⟩ := i.form
 let h : Value := (.slice Y a.qo.length c2)
 obtain ⟨Z, F, rfl⟩ := g.form
 let a2 : Value := (.slice Z a.pR.length F)
 let a0 := (C9 a.Kind a.uM a.E a.Name Y a.qo.length c2 Z a.pR.length F)
 refine VE (mI b rfl (fun W6 b5 b => Wa (ln (me (me ?_)))))
 replace b := b.drew
 have d := b.has.lG (Kb Sn)
 refine mO d mu (XH 0 rfl d (fun _ l => lK rfl (lP l Mh a0 rfl lg fJ)) (XH 2 rfl d (fun _ l => lK rfl (lP l Mh a0 rfl lg fJ)) (bS hm fun e1 d1 hm => ?_)))
 refine XE 1 rfl (eD b (bE _) call88 (fun hh => nM.nz (Ov a h a2 _ _ hh (i.mono (Pl.mono _) (mn.refl _)) (g.mono qw.mono (mn.refl _)) d1)) ?_ (L0 := []))
 rintro _ g1 N f3 b y L ⟨e3, e4, Q, rfl, d5, d6⟩
 obtain rfl := Q.symm
 have d := b.has.pC y (Kb Sn)
 refine ⟨d, (bS hm fun f9 d2 hm => XE 3 rfl (Eg b call32 (OA e1 e3 e4 a h a2 _ _ (d5.mono (Pl.mono _) b.lJ) (d6.mono qw.mono b.lJ) (i.mono (Pl.mono _) (y.trans b.lJ)) (g.mono qw.mono (y.trans b.lJ)) d2) (fun f5 b => ?_)))⟩
 have d := b.has.pC y (Kb Sn)
 refine ⟨d, (X 4 rfl d (oH rfl) (nc kr (lU (CI hm rfl (fun c6 hm => ?_) (fun c6 hm => ?_)))))⟩
 ·refine sg (Wa (ln ?_))
  replace b := b.lG (Db St)
  refine mB (mQ ?_)
  obtain rfl := sj hm
  exact rP b
 refine kS (Wf CT (VB b Mh rfl rfl cP (ln (bg (Wi rfl (Wa (mD ?_)))))))
 refine lU (CI hm rfl (fun c7 hm => ?_) (fun c7 hm => ?_))
 ·refine sg (Wf Gb (VB b Mh rfl rfl bZ (bS hm fun e2 d3 hm => VE (Eg b lq (mw.nz (th a.Name _ _  d3)) (fun f6 b => Wm (LJ hm (fun v E W => ∃ q, ST false mX w W N q ∧ E 2 = (.bool false) ∧ E 24 = (.bool v)) 9 ?_ (fun v H T => ?_)))))))
  ·rintro g2 E W ⟨q, b, f8, d7⟩ c9
   refine Wg d7 (lt (oh (mQ ?_)))
   obtain rfl := sj c9
   exact rP b
  refine bC H (fun c H => ?_) (fun c H => ?_)
  ·refine ug c (lN Ei rfl) (ug c (lK rfl (ma b.has Mh rfl cP)) (ug c (mU rfl rfl rfl) (ug c (lO rfl) (LJ H (fun A E W => ∃ s, ST false mX w W N s ∧ E 2 = (.bool false) ∧ E 15 = (.bool e2) ∧ E 23 = (.bool A)) 4 ?_ (fun A I U => ?_)))))
   ·rintro g3 E W ⟨s, b, d8, d9, e0⟩ d0
    refine V (mo (d9.trans (cB c)) e0) ?_
    obtain rfl := sj d0
    exact T _ _ ⟨_, (b.lG St), d8, rfl⟩
   refine bC I (fun t I => ?_) (fun t I => ?_)
   ·refine un t (un t (un t (ug c (mo (cB t) rfl) ?_)))
    obtain rfl := sj I
    exact U _ _ ⟨_, (b.lG (Db St)), rfl, rfl, rfl⟩
   refine ug t (lN Ei rfl) (ug t (lK rfl (ma b.has Mh rfl cP)) (ug t (mU rfl rfl rfl) (ug c (mq (cB t) rfl) ?_)))
   obtain rfl := sj I
   exact U _ _ ⟨_, (b.lG (Db St)), rfl, rfl, rfl⟩
  refine un c (un c (un c (un c (Vu rfl rfl (Vu rfl rfl (Vu rfl rfl (un c (V (mq (cB c) rfl) ?_))))))))
  obtain rfl := sj H
  exact T _ _ ⟨_, (b.lG (Db St)), rfl, rfl⟩
 refine sg (Wi rfl (Wa (ln (CI hm rfl (fun c8 hm => ?_) (fun c8 hm => ?_)))))
 ·refine sg (Wf BJ (VB b Mh rfl rfl fN (bS hm fun g0 d4 hm => VE (Eg b call89 (MU h a.qo _ _ (i.mono (Pl.mono _) (y.trans b.lJ)) d4) (fun f7 b => Wm (LJ hm (fun m E W => ∃ a3, ST false mX w W N a3 ∧ E 2 = (.bool false) ∧ E 34 = (.bool m)) 4 ?_ (fun m x J => ?_)))))))
  ·rintro f0 E W ⟨a3, b, e6, c0⟩ O
   refine Wg c0 (lt (oh (mQ ?_)))
   obtain rfl := sj O
   exact rP b
  refine bC x (fun u x => ?_) (fun u x => ?_)
  ·refine ug u (lN BT rfl) (ug u (lK rfl (ma b.has Mh rfl lA)) (bS x fun e9 b3 x => uJ u (Eg b call90 (mw.nz (MK a2 a.pR _ _ (g.mono qw.mono (y.trans b.lJ)) b3)) (fun e5 b => V (mo (cB u) rfl) ?_))))
   obtain rfl := sj x
   exact J _ _ ⟨_, (b.lG (Db St)), rfl, rfl⟩
  refine un u (un u (un u (V (mq (cB u) rfl) ?_)))
  obtain rfl := sj x
  exact J _ _ ⟨_, (b.lG (Db St)), rfl, rfl⟩
 refine sg (Wi rfl (Wa (ln (CI hm rfl (fun a9 hm => ?_) (fun a9 hm => ?_)))))
 ·refine sg (Wf Ey (VB b Mh rfl rfl cP (Wi rfl (Wm (LJ hm (fun n E W => ∃ a4, ST false mX w W N a4 ∧ E 2 = (.bool false) ∧ E 44 = (.bool n)) 4 ?_ (fun n z K => ?_))))))
  ·rintro f1 E W ⟨a4, b, e7, c1⟩ P
   refine Wg c1 (lt (oh (mQ ?_)))
   obtain rfl := sj P
   exact rP b
  refine bC z (fun j z => ?_) (fun j z => ?_)
  ·refine ug j (lN Ey rfl) (ug j (lK rfl (ma b.has Mh rfl cP)) (ug j (mU rfl rfl rfl) (V (mo (cB j) rfl) ?_)))
   obtain rfl := sj z
   exact K _ _ ⟨_, (b.lG (Db St)), rfl, rfl⟩
  refine un j (un j (un j (V (mq (cB j) rfl) ?_)))
  obtain rfl := sj z
  exact K _ _ ⟨_, (b.lG (Db St)), rfl, rfl⟩
 refine np (mL (lU (sg (Wf CT (VB b Mh rfl rfl cP (Wi rfl (Wm (LJ hm (fun o E W => ∃ a5, ST false mX w W N a5 ∧ E 2 = (.bool false) ∧ E 52 = (.bool o)) 4 ?_ (fun o B M => ?_)))))))))
 ·rintro f2 E W ⟨a5, b, e8, c3⟩ R
  exact Wg c3 (lt (rQ R b))
 refine bC B (fun k B => ?_) (fun k B => ?_)
 ·refine un k (un k (un k (V (mo (cB k) rfl) ?_)))
  obtain rfl := sj B
  exact M _ _ ⟨_, (b.lG (Db St)), rfl, rfl⟩
 refine ug k (lN CT rfl) (ug k (lK rfl (ma b.has Mh rfl cP)) (ug k (mU rfl rfl rfl) (V (mq (cB k) rfl) ?_)))
 obtain rfl := sj B
 exact M _ _ ⟨_, (b.lG (Db St)), rfl, rfl⟩
theorem MD (k : Value) (u : List lB) (g : lB) (r : Bool) (w : World) (j : Sl (Pl lD) 9 (hp w) k u) (hm : BD u g = some r) :
  mw true Tryz.prog 30 [k, (.agg (lD g).toArray)] w (.bool r) := by
 refine cG 17 func30 rfl (fun b => sg (VE (mI b rfl (fun Y J b => Wa (lS (Wm (V (nh aJ rfl j) (Wm (ln ?_)))))))))
 refine mY (fun i E W => ∃ t, (E 9 = .int .i64 (i : Nat) ∧ E 8 = .int .i64 (u.length : Nat)) ∧ ST true mX w W (hp w) ((J, Ol (lD g) 52) :: t) ∧ E 3 = (.pointer (some ⟨J, 0, none⟩)) ∧ E 7 = k ∧ yR g (u.drop i) = some r) u.length j.len ⟨_, ⟨rfl, rfl⟩, (b.lG St), rfl, rfl, hm⟩ dc dc dc (fun _ _ _ h => by obtain ⟨_, l, _⟩ := h; exact l) ?_ ?_
 ·rintro K E W B ⟨t, ⟨d, m⟩, b, x, y, a⟩
  obtain ⟨c, M, H, G, I⟩ := mM B
  rw [H] at a
  refine bg (VQ (pg (enc := lD) (i := (K : Int)) (x0 := c) aJ aI y d j (aG _) G) (fun U D => V (lK rfl (ms b.has D bH aI)) (VE (mz b cM (fun N T b => VO (mh (.agg (lD c).toArray) ((lD c).toArray) b rfl rfl aI (pb c) nb rfl (fun Q b => lr (VA b Mh (lD c) bH aI (V (lK x (lP b.has (Mt Mh) (lD g) rfl bH aI)) (V (yU rfl rfl (qt fQ) (vL (wS _ c g))) (mD ?_)))))))))))
  refine lU ?_
  replace b := b.lG (Db St)
  refine CI a rfl (fun z a => ?_) (fun z a => ?_)
  ·refine sg (Wa (ln ?_))
   replace b := b.lG (Db St)
   refine mB (oh (mQ (oh (mQ ?_))))
   obtain rfl := sj a
   exact rP b
  exact np (mL (lU ⟨d, _, ⟨rfl, m⟩, (b.lG St), x, y, (by rw [I]; exact a)⟩))
 rintro E W ⟨t, ⟨d, m⟩, b, x, y, a⟩
 rw [aK] at a
 refine lU ?_
 replace b := b.lG (Db St)
 exact sg (Wa (lt (rQ a b)))
set_option maxHeartbeats 1000000 in
theorem Fu (g : mW) (c9 d0 e5 i7 f6 i6 K : Value) (a1 : List lC) (r : Bool) (w : World) (B : Sl mx 15 (hp w) c9 g.lF.lX) (H : Sl mV 8 (hp w) d0 g.lF.ml) (Q : Sl (Pl lD) 9 (hp w) e5 g.lQ) (D : Sl (Pl lD) 9 (hp w) i7 g.Shown) (a5 : Sl (Pl lE) 2 (hp w) f6 g.mg) (y : Sl (Pl lE) 2 (hp w) i6 g.mj) (u4 : Sl (Pl lE) 2 (hp w) K a1) (hm : vt g a1 = some r) :
  mw false Tryz.prog 5 [(.agg #[(.string g.lF.Name), c9, d0, (.string g.na), (.int .i64 g.Room), e5, i7, f6, i6]), K] w (.bool r) := by
 refine cG 116 func5 rfl (fun d => sg ?_)
 obtain ⟨A1, c2, rfl⟩ := B.form
 let k9 : Value := (.slice A1 g.lF.lX.length c2)
 obtain ⟨A3, c4, rfl⟩ := H.form
 let l0 : Value := (.slice A3 g.lF.ml.length c4)
 obtain ⟨A5, c6, rfl⟩ := Q.form
 let l1 : Value := (.slice A5 g.lQ.length c6)
 obtain ⟨A7, c8, rfl⟩ := D.form
 let k7 : Value := (.slice A7 g.Shown.length c8)
 obtain ⟨A9, e6, rfl⟩ := a5.form
 let l3 : Value := (.slice A9 g.mg.length e6)
 obtain ⟨e3, e4, rfl⟩ := y.form
 let k8 : Value := (.slice e3 g.mj.length e4)
 let a0 := (C2 g.lF.Name A1 g.lF.lX.length c2 A3 g.lF.ml.length c4 g.na g.Room A5 g.lQ.length c6 A7 g.Shown.length c8 A9 g.mg.length e6 e3 g.mj.length e4)
 refine VE (mI d rfl (fun ew j d => Wa (lS (bS hm fun fc co hm => VE (Eg d call25 (KH  _ _  co) (fun ey d => V (oH rfl) (ln (CI hm rfl (fun cl hm => ?_) (fun cl hm => ?_)))))))))
 ·refine sg (Wa (ln ?_))
  replace d := d.lG (Db St)
  refine mB (mQ ?_)
  obtain rfl := sj hm
  exact rP d
 refine kS (VA d Mh a0 dU cZ (bS hm fun fd cp hm => VE (Eg d call16 (KP g k9 l0 l1 k7 l3 k8 _ _ (B.mono mH.mono d.lJ) (H.mono nK.mono d.lJ) (Q.mono (Pl.mono _) d.lJ) (D.mono (Pl.mono _) d.lJ) (a5.mono (Pl.mono _) d.lJ) (y.mono (Pl.mono _) d.lJ) cp) (fun ez d => Wi rfl (Wm (LJ hm (fun t1 E W => ∃ bz, ST false mX w W (hp w) ((j, Ol a0 36) :: bz) ∧ E 1 = K ∧ E 2 = (.pointer (some ⟨j, 0, none⟩)) ∧ E 27 = (.bool t1)) 4 ?_ (fun t1 c5 n0 => ?_)))))))
 ·let A : Value := (.pointer (some ⟨j, 0, none⟩))
  rintro fe E W ⟨bz, d, t8, cc, cv⟩ cn
  refine Wh cv (LJ cn (fun t0 E W => ∃ ca, ST false mX w W (hp w) ((j, Ol a0 36) :: ca) ∧ E 1 = K ∧ E 2 = A ∧ E 32 = (.bool t0)) 4 ?_ (fun t0 e9 m9 => ?_))
  ·rintro ff E W ⟨ca, d, cw, cd, cx⟩ l5
   refine ln (CI l5 cx (fun cm l5 => ?_) (fun cm l5 => ?_))
   ·refine sg (Wa (ln ?_))
    replace d := d.lG (Db St)
    refine mB (mQ ?_)
    obtain rfl := sj l5
    exact rP d
   refine kg (VE (yz (P := Tryz.prog) (fun (x : lB) => (.agg (lD x).toArray)) (fun (x : Bool) => (Value.bool x)) d (fun fa q cu d cj => VE (yz (P := Tryz.prog) (fun (x : lC) => (.agg (lE x).toArray)) (fun (x : Bool) => (Value.bool x)) d (fun fb l cb d ck => Wa (Wa (lS (V (lN BM cd) (VB d (Ma (Ma Mh)) rfl rfl eU ?_)))))))))
   refine V (nh aJ rfl D) (Wm (ln (mY (fun i E W => ∃ i9 f7 q2, (E 38 = .int .i64 (i : Nat) ∧ E 37 = .int .i64 (g.Shown.length : Nat)) ∧ ST false mX w W (hp w) ((j, Ol a0 36) :: (f7 ++ (cb ++ q2))) ∧ E 1 = K ∧ E 2 = A ∧ E 5 = q ∧ E 6 = l ∧ E 36 = k7 ∧ mJ (fun (x : lB) => (.agg (lD x).toArray)) (fun (x : Bool) => (Value.bool x)) q i9 f7 ∧ qC g a1 (g.Shown.drop i) i9 = some r) g.Shown.length D.len ⟨([]), cu, _, ⟨rfl, rfl⟩, (d.lG (Sb (Pr (Pr Pz)) (Sr (Qr Qz) St))), cw, cd, rfl, rfl, rfl, cj, l5⟩ dc dc dc (fun _ _ _ h => by obtain ⟨_, _, _, s, _⟩ := h; exact s) ?_ ?_)))
   ·rintro cq E W bd ⟨i9, f7, q2, ⟨n, F⟩, d, q3, n5, n6, q4, q5, p1, d5⟩
    obtain ⟨f8, em, bj, bi, bk⟩ := mM bd
    rw [bj] at d5
    refine bg (VQ (pg (enc := lD) (i := (cq : Int)) (x0 := f8) aJ aI q5 n D (aG _) bi) (fun ev bf => V (lK rfl (ms d.has bf bH aI)) (VE (mz d cM (fun er eu d => VO (mh (.agg (lD f8).toArray) ((lD f8).toArray) d rfl rfl aI (pb f8) nb rfl (fun es d => ln (mc (Wh n6 (VA d Mh (lD f8) bH aI ?_))))))))))
    replace d := d.perm (Nr (Qb (Qb Qz)) Nz)
    refine VO (vz (k := f8) (v := true) (vf := (fun (x : Bool) => (Value.bool x)))  Jq fM d p1 rfl rfl rfl (fun et ce d bc => mD (mL (lU ?_))))
    replace d := d.lG (Kr (Db St))
    exact ⟨n, (oz mC i9 f8 true), ce, _, ⟨rfl, F⟩, (d.lG (Sb (Pr Pz) St)), q3, n5, n6, q4, q5, bc, (by rw [bk]; exact d5)⟩
   rintro E W ⟨i9, f7, q2, ⟨n, F⟩, d, q3, n5, n6, q4, q5, p1, d5⟩
   rw [aK] at d5
   refine lU (me (sg (V (lN Dh n5) (VB d Mh rfl rfl fN (V (nh aM rfl y) (Wm (ln (CJ d5 (fun p5 E W => ∃ n4 t6, ST false mX w W (hp w) ((j, Ol a0 36) :: (n4 ++ (f7 ++ t6))) ∧ E 1 = K ∧ E 2 = A ∧ E 5 = q ∧ E 6 = l ∧ mJ (fun (x : lC) => (.agg (lE x).toArray)) (fun (x : Bool) => (Value.bool x)) l p5 n4) (fun p5 v8 => ?_) ?_))))))))
   ·refine mY (fun i E W => ∃ h8 g1 n3, (E 48 = .int .i64 (i : Nat) ∧ E 47 = .int .i64 (g.mj.length : Nat)) ∧ ST false mX w W (hp w) ((j, Ol a0 36) :: (g1 ++ (f7 ++ n3))) ∧ E 1 = K ∧ E 2 = A ∧ E 5 = q ∧ E 6 = l ∧ E 46 = k8 ∧ mJ (fun (x : lC) => (.agg (lE x).toArray)) (fun (x : Bool) => (Value.bool x)) l h8 g1 ∧ qz (g.mj.drop i) h8 = some p5) g.mj.length y.len ⟨([]), cb, _, ⟨rfl, rfl⟩, (d.lG (Kb (Sr (Qr Qz) St))), q3, n5, n6, q4, rfl, ck, v8⟩ dc dc dc (fun _ _ _ h => by obtain ⟨_, _, _, s, _⟩ := h; exact s) ?_ ?_
    ·rintro bn E W v1 ⟨h8, g1, n3, ⟨n, F⟩, d, o7, o8, o9, k4, p0, m4, c3⟩
     obtain ⟨e2, da, y8, y7, y9⟩ := mM v1
     rw [y8] at c3
     refine bg (VQ (pg (enc := lE) (i := (bn : Int)) (x0 := e2) aM aH p0 n y (aG _) y7) (fun eb w1 => V (lK rfl (ms d.has w1 bB aH)) (VE (mz d dF (fun dt dy d => VO (mh (.agg (lE e2).toArray) ((lE e2).toArray) d rfl rfl aH (px e2) nb rfl (fun du d => ln (mc (Wh k4 (VA d Mh (lE e2) bB aH ?_))))))))))
     replace d := d.perm (Nr (Qb (Qb Qz)) Nz)
     refine VO (vz (k := e2) (v := true) (vf := (fun (x : Bool) => (Value.bool x)))  yd ji d m4 rfl rfl rfl (fun dv z2 d u3 => mD (mL (lU ?_))))
     replace d := d.lG (Kr (Db St))
     exact ⟨n, (oz lZ h8 e2 true), z2, _, ⟨rfl, F⟩, (d.lG (Sb (Pr Pz) St)), o7, o8, o9, k4, p0, u3, (by rw [y9]; exact c3)⟩
    rintro E W ⟨h8, g1, n3, ⟨n, F⟩, d, o7, o8, o9, k4, p0, m4, c3⟩
    rw [aK] at c3
    refine lU ?_
    obtain rfl := sj c3
    exact ⟨g1, _, (d.lG St), o7, o8, o9, k4, m4⟩
   rintro cr E W ⟨n4, t6, d, cf, cg, ch, ci, bh⟩ be
   refine me (sg (Wm (ln (PM be (fun J E W => ∃ h9 i0 i1 i2 i3 i4 b6 q6, mn (hp w) b6 ∧ ST false mX w W b6 ((j, Ob #[(.string J.1), h9, i0, (.string J.2.2.2.1), (.int .i64 J.2.2.2.2.1), i1, i2, i3, i4] 36) :: q6) ∧ E 2 = A ∧ Sl mx 15 b6 h9 J.2.1 ∧ Sl mV 8 b6 i0 J.2.2.1 ∧ Sl (Pl lD) 9 b6 i1 J.2.2.2.2.2.1 ∧ Sl (Pl lD) 9 b6 i2 J.2.2.2.2.2.2.1 ∧ Sl (Pl lE) 2 b6 i3 J.2.2.2.2.2.2.2.1 ∧ Sl (Pl lE) 2 b6 i4 J.2.2.2.2.2.2.2.2) (fun J v2 Y => ?_) ?_))))
   ·refine nS (py (fun m E W => ∃ k5 f9 k6 O Z f3 d6 h0 d7 h1 f4 f5 d8 h2 d9 h3 e0 h4 e1 h5 L q7, mn (hp w) L ∧ ST false mX w W L ((j, Ob #[(.string f3), d6, d7, (.string f4), (.int .i64 f5), d8, d9, e0, e1] 36) :: (O ++ (f9 ++ q7))) ∧ E 1 = K ∧ E 2 = A ∧ E 5 = q ∧ E 6 = l ∧ E 55 = (.int .i64 Z) ∧ mJ (fun (x : lB) => (.agg (lD x).toArray)) (fun (x : Bool) => (Value.bool x)) q k5 f9 ∧ mJ (fun (x : lC) => (.agg (lE x).toArray)) (fun (x : Bool) => (Value.bool x)) l k6 O ∧ Sl mx 15 L d6 h0 ∧ Sl mV 8 L d7 h1 ∧ Sl (Pl lD) 9 L d8 h2 ∧ Sl (Pl lD) 9 L d9 h3 ∧ Sl (Pl lE) 2 L e0 h4 ∧ Sl (Pl lE) 2 L e1 h5 ∧ pD a1 m k5 k6 Z f3 h0 h1 f4 f5 h2 h3 h4 h5 = some J) mR ⟨i9, f7, cr, n4, 0, g.lF.Name, k9, g.lF.lX, l0, g.lF.ml, g.na, g.Room, l1, g.lQ, k7, g.Shown, l3, g.mg, k8, g.mj, (hp w), _, (mn.refl _), (d.lG St), cf, cg, ch, ci, rfl, p1, bh, B, H, Q, D, a5, y, v2⟩ ?_)
    rintro m E W ⟨k5, f9, k6, O, Z, f3, d6, h0, d7, h1, f4, f5, d8, h2, d9, h3, e0, h4, e1, h5, L, q7, i8, d, n7, g2, r3, r4, n8, x6, x7, l8, l9, m0, m1, m2, m3, G⟩
    let l2 := (⟨(⟨f3, h0, h1⟩ : lF), f4, f5, h2, h3, h4, h5⟩ : mW)
    cases m with
    | zero => rw [pD] at G; cases G
    | succ bx =>
     refine sg (V (mU n8 rfl rfl) (ln (me (CI G rfl (fun u5 G => ?_) (fun u5 G => ?_)))))
     ·refine kn (me (bg (V (lK g2 (lP d.has Mh [(.string f3), d6, d7, (.string f4), (.int .i64 f5), d8, d9, e0, e1] rfl dU cZ)) (bS G fun s6 w3 G => VE (pF d call27 (yY l2 d6 d7 d8 d9 e0 e1 _ _ (l8.mono mH.mono d.lJ) (l9.mono nK.mono d.lJ) (m0.mono (Pl.mono _) d.lJ) (m1.mono (Pl.mono _) d.lJ) (m2.mono (Pl.mono _) d.lJ) (m3.mono (Pl.mono _) d.lJ) w3) (fun df i5 ep j5 d T aE u0 => Wa (lr (Wh n7 ?_))))))))
      refine bS G fun a w4 G => ?_
      let cs : Value := (.int .i64 ((a.1).E))
      let bb : Value := (.string ((a.1).Name))
      let t9 : Value := (.int .i64 ((a.1).uM))
      let t7 : Value := (.int .i64 ((a.1).Kind))
      refine VE (eD d (Cb (Pr Pz) Cn) call28 (fun hh => (AU j l2 d6 d7 d8 d9 e0 e1 K a1 _ _ hh (l8.mono mH.mono T) (l9.mono nK.mono T) (m0.mono (Pl.mono _) T) (m1.mono (Pl.mono _) T) (m2.mono (Pl.mono _) T) (m3.mono (Pl.mono _) T) (u4.mono (Pl.mono _) (i8.trans T)) w4)) ?_ (ha := VL g2 rfl))
      rintro _ eh d1 db d t5 cS ⟨en, eo, a6, a7, a8, a9, b0, b1, m5, rfl, f0, f1, p6, p7, p8, p9, q0, q1⟩
      let b8 := (#[(.string (((a.2.2).lF).Name)), a6, a7, (.string ((a.2.2).na)), (.int .i64 ((a.2.2).Room)), a8, a9, b0, b1] : Array Value)
      obtain rfl := m5.symm
      replace d := d.perm (Tb Tn)
      refine Wm (Wx rfl (Wx rfl (VE (mz d fH (fun dh a3 d => ?_)))))
      let j3 : Value := (.pointer (some ⟨a3, 0, none⟩))
      obtain ⟨a2, a4, rfl⟩ := f0.form
      let j2 : Value := (.slice a2 ((a.1).qo).length a4)
      obtain ⟨M, N, rfl⟩ := f1.form
      let j1 : Value := (.slice M ((a.1).pR).length N)
      let g5 := (#[t7, t9, cs, bb, j2, j1] : Array Value)
      refine VO (mh (.agg #[t7, t9, cs, bb, j2, j1]) (#[t7, t9, cs, bb, j2, j1]) d rfl rfl fJ oc nb rfl (fun di d => Wa (lS (Wm (Wi rfl (Wm (LJ G (fun s9 E W => ∃ q8, ST false mX w W d1 ((a3, Obj.cells g5 78 (0, 0)) :: ((j, Obj.cells b8 36 (0, 0)) :: (j5 ++ (O ++ (f9 ++ q8))))) ∧ E 1 = K ∧ E 2 = A ∧ E 5 = q ∧ E 6 = l ∧ E 11 = i5 ∧ E 12 = j3 ∧ E 55 = (.int .i64 Z) ∧ E 70 = (.bool s9)) 4 ?_ (fun s9 c1 m8 => ?_))))))))
      ·rintro ej E W ⟨q8, d, z4, z5, z6, z7, z8, r5, z9, aa⟩ e7
       refine ln (CI e7 aa (fun u6 e7 => ?_) (fun u6 e7 => ?_))
       ·refine sg (Wa (ln ?_))
        replace d := d.lG (Db (Db (Dr (Dr (Dr St)))))
        refine mB (mQ (oh (mQ (mQ (oh (mQ ?_))))))
        obtain rfl := sj e7
        replace Y : some false = some r := Y
        obtain rfl := sj Y
        exact rP d
       refine kS (V (lN BT r5) (VB d Mh rfl rfl lA (V (nh dE rfl f1) (Wm (ln (PM e7 (fun p4 E W => ∃ f2 q9, ST false mX w W d1 ((a3, Obj.cells g5 78 (0, 0)) :: ((j, Obj.cells b8 36 (0, 0)) :: (f2 ++ (O ++ q9)))) ∧ E 1 = K ∧ E 2 = A ∧ E 5 = q ∧ E 6 = l ∧ E 12 = j3 ∧ E 55 = (.int .i64 Z) ∧ mJ (fun (x : lB) => (.agg (lD x).toArray)) (fun (x : Bool) => (Value.bool x)) q p4 f2) (fun p4 v6 l7 => ?_) ?_))))))
       ·refine mY (fun i E W => ∃ h7 d2 n2, (E 74 = .int .i64 (i : Nat) ∧ E 73 = .int .i64 (((a.1).pR).length : Nat)) ∧ ST false mX w W d1 ((a3, Obj.cells g5 78 (0, 0)) :: ((j, Obj.cells b8 36 (0, 0)) :: (d2 ++ (j5 ++ (O ++ n2))))) ∧ E 1 = K ∧ E 2 = A ∧ E 5 = q ∧ E 6 = l ∧ E 11 = i5 ∧ E 12 = j3 ∧ E 55 = (.int .i64 Z) ∧ E 72 = j1 ∧ mJ (fun (x : lB) => (.agg (lD x).toArray)) (fun (x : Bool) => (Value.bool x)) q h7 d2 ∧ qG a s6 (((a.1).pR).drop i) h7 = some p4) ((a.1).pR).length f1.len ⟨k5, f9, _, ⟨rfl, rfl⟩, (d.lG (Kb (Kb (Sr (Qr (Qr Qz)) St)))), z4, z5, z6, z7, z8, r5, z9, rfl, x6, v6⟩ dc dc dc (fun _ _ _ h => by obtain ⟨_, _, _, s, _⟩ := h; exact s) ?_ ?_
        ·rintro p2 E W v0 ⟨h7, d2, n2, ⟨n, F⟩, d, j9, g4, g7, k0, o4, k1, k2, k3, g9, b7⟩
         obtain ⟨c, cz, y5, y4, y6⟩ := mM v0
         rw [y5] at b7
         refine bg (VQ (od (i := (p2 : Int)) (x0 := c) nV.out dE dH k3 n f1 (aG _) y4) (fun ea ⟨_, ⟨ei, rfl, y0⟩, w0⟩ => V (lK rfl (ms d.has w0 jx dH)) (VE (mz d dW (fun dm j7 d => ?_)))))
         obtain ⟨j4, j8, rfl⟩ := y0.form
         let g6 := (C3 c.lB.Kind c.lB.Head.lI c.lB.Head.lM c.lB.mS c.lB.B.lI c.lB.B.lM c.lB.C.lI c.lB.C.lM c.lB.mK j4 c.Tag.length j8)
         refine VO (mh (.agg g6.toArray) (g6.toArray) d rfl rfl dH oc nb rfl (fun dn d => lS (Wh g7 (Wf tj (VA d Mh (lD c.lB) bH aI (V (uK (k := c.lB) (z := false) (vf := (fun (x : Bool) => (Value.bool x))) Jq fM gM rfl rfl (g9.at (fun b o hq => d.has.2 b o (Mt (Mt (Mt (Ml hq))))))) (Wm (LJ b7 (fun s8 E W => ∃ r1, ST false mX w W d1 ((j7, Ol g6 55) :: ((a3, Obj.cells g5 78 (0, 0)) :: ((j, Obj.cells b8 36 (0, 0)) :: (d2 ++ (j5 ++ (O ++ r1)))))) ∧ E 1 = K ∧ E 2 = A ∧ E 5 = q ∧ E 6 = l ∧ E 11 = i5 ∧ E 12 = j3 ∧ E 15 = (.pointer (some ⟨j7, 0, none⟩)) ∧ E 55 = (.int .i64 Z) ∧ E 72 = j1 ∧ E 73 = (.int .i64 (((a.1).pR).length : Int)) ∧ E 74 = (.int .i64 (p2 : Int)) ∧ E 88 = (.bool s8)) 6 ?_ (fun s8 c0 m7 => ?_)))))))))
         ·rintro ek E W ⟨r1, d, r6, r7, r8, r9, o5, s0, o6, s1, s2, s3, s4, am⟩ v7
          refine Wh am (LJ v7 (fun s7 E W => ∃ r2, ST false mX w W d1 ((j7, Ol g6 55) :: ((a3, Obj.cells g5 78 (0, 0)) :: ((j, Obj.cells b8 36 (0, 0)) :: (d2 ++ (j5 ++ (O ++ r2)))))) ∧ E 1 = K ∧ E 2 = A ∧ E 5 = q ∧ E 6 = l ∧ E 11 = i5 ∧ E 12 = j3 ∧ E 15 = (.pointer (some ⟨j7, 0, none⟩)) ∧ E 55 = (.int .i64 Z) ∧ E 72 = j1 ∧ E 73 = (.int .i64 (((a.1).pR).length : Int)) ∧ E 74 = (.int .i64 (p2 : Int)) ∧ E 95 = (.bool s7)) 6 ?_ (fun s7 b9 m6 => ?_))
          ·rintro el E W ⟨r2, d, an, ao, s5, ap, aq, ar, au, av, aw, ay, az, ba⟩ e8
           refine ln (CI e8 ba (fun u8 e8 => ?_) (fun u8 e8 => ?_))
           ·refine sg (Wa (ln ?_))
            replace d := d.lG (Db (Db (Db (Dr (Dr (Dr St))))))
            refine mB (mQ (oh (mQ (oh (mQ (oh (mQ (mQ (oh (mQ ?_))))))))))
            obtain rfl := sj e8
            replace l7 : some (Sum.inl false) = some J := l7
            obtain rfl := sj l7
            replace Y : some false = some r := Y
            obtain rfl := sj Y
            exact rP d
           refine kn (mc (Wh s5 (V (lN tj au) (VA d Mh (lD c.lB) bH aI ?_))))
           replace d := d.perm (Nr (Qb (Qb (Qb Qz))) Nz)
           refine VO (vz (k := c.lB) (v := true) (vf := (fun (x : Bool) => (Value.bool x)))  Jq fM d g9 rfl rfl rfl (fun dp z1 d u2 => mD (mL (lU ?_))))
           replace d := d.lG (Kr (Db St))
           exact ⟨az, (oz mC h7 c.lB true), z1, _, ⟨rfl, ay⟩, (d.lG (Sb (Pr Pz) (Sb (Pr Pz) St))), an, ao, s5, ap, aq, ar, av, aw, u2, (by rw [y6]; exact e8)⟩
          refine bC b9 (fun u b9 => ?_) (fun u b9 => ?_)
          ·refine un u (un u (un u (un u (un u (V (mo (cB u) rfl) ?_)))))
           obtain rfl := sj b9
           exact m6 _ _ ⟨_, (d.lG St), r6, r7, r8, r9, o5, s0, o6, s1, s2, s3, s4, rfl⟩
          refine ug u (lO o5) (ug u (lN tj o6) (ug u (lK rfl (lP d.has Mh (lD c.lB) rfl bH aI)) (bS b9 fun ed w5 b9 => uJ u (Eg d call30 (mw.nz (MD i5 s6 c.lB _ _ (u0.sl nj (fun b o hq => d.at_ (Mt (Mt (Mt (Ma (Ml hq))))))) w5)) (fun dq d => ug u (oH rfl) (V (mq (cB u) rfl) ?_))))))
          obtain rfl := sj b9
          exact m6 _ _ ⟨_, (d.lG St), r6, r7, r8, r9, o5, s0, o6, s1, s2, s3, s4, rfl⟩
         refine bC c0 (fun t c0 => ?_) (fun t c0 => ?_)
         ·refine un t (un t (un t (un t (un t (V (mo (cB t) rfl) ?_)))))
          obtain rfl := sj c0
          exact m7 _ _ ⟨_, (d.lG St), j9, g4, g7, k0, o4, k1, rfl, k2, k3, F, n, rfl⟩
         refine ug t (lK g4 (lP d.has (Mt (Mt Mh)) [(.string (((a.2.2).lF).Name)), a6, a7, (.string ((a.2.2).na)), (.int .i64 ((a.2.2).Room)), a8, a9, b0, b1] rfl dU cZ)) (ug t (lN tj rfl) (ug t (lK rfl (lP d.has Mh (lD c.lB) rfl bH aI)) (bS c0 fun ee w6 c0 => uJ t (Eg d call19 (E3 a.2.2 a6 a7 a8 a9 b0 b1 c.lB _ _ (p6.mono mH.mono d.lJ) (p7.mono nK.mono d.lJ) (p8.mono (Pl.mono _) d.lJ) (p9.mono (Pl.mono _) d.lJ) (q0.mono (Pl.mono _) d.lJ) (q1.mono (Pl.mono _) d.lJ) w6) (fun dr d => ug t (oH rfl) (V (mq (cB t) rfl) ?_))))))
         obtain rfl := sj c0
         exact m7 _ _ ⟨_, (d.lG St), j9, g4, g7, k0, o4, k1, rfl, k2, k3, F, n, rfl⟩
        rintro E W ⟨h7, d2, n2, ⟨n, F⟩, d, j9, g4, g7, k0, o4, k1, k2, k3, g9, b7⟩
        rw [aK] at b7
        refine lU ?_
        obtain rfl := sj b7
        exact ⟨_, rfl, d2, _, (d.lG (Kb (Kb (Kr (Dr St))))), j9, g4, g7, k0, k1, k2, g9⟩
       rintro bv E W ⟨f2, q9, d, ab, ac, ad, ae, af, ag, x8⟩ v3
       refine sg (V (lN BJ af) (VB d Mh rfl rfl fN (V (nh aM rfl f0) (Wm (ln ?_)))))
       replace d := d.lG (Db St)
       refine xg (PM v3 (fun p3 E W => ∃ j6 r0, ST false mX w W d1 ((j, Obj.cells b8 36 (0, 0)) :: (j6 ++ (f2 ++ r0))) ∧ E 1 = K ∧ E 2 = A ∧ E 5 = q ∧ E 6 = l ∧ E 55 = (.int .i64 Z) ∧ mJ (fun (x : lC) => (.agg (lE x).toArray)) (fun (x : Bool) => (Value.bool x)) l p3 j6) (fun p3 v5 l6 => ?_) ?_)
       ·refine mY (fun i E W => ∃ h6 g0 n1, (E 103 = .int .i64 (i : Nat) ∧ E 102 = .int .i64 (((a.1).qo).length : Nat)) ∧ ST false mX w W d1 ((j, Obj.cells b8 36 (0, 0)) :: (g0 ++ (f2 ++ n1))) ∧ E 1 = K ∧ E 2 = A ∧ E 5 = q ∧ E 6 = l ∧ E 55 = (.int .i64 Z) ∧ E 101 = j2 ∧ mJ (fun (x : lC) => (.agg (lE x).toArray)) (fun (x : Bool) => (Value.bool x)) l h6 g0 ∧ qI (((a.1).qo).drop i) h6 = some p3) ((a.1).qo).length f0.len ⟨k6, O, _, ⟨rfl, rfl⟩, (d.lG (Kb (Sr (Qr Qz) St))), ab, ac, ad, ae, ag, rfl, x7, v5⟩ dc dc dc (fun _ _ _ h => by obtain ⟨_, _, _, s, _⟩ := h; exact s) ?_ ?_
        ·rintro bl E W u9 ⟨h6, g0, n1, ⟨n, F⟩, d, n9, o0, o1, g3, o2, o3, g8, I⟩
         obtain ⟨R, cy, y2, y1, y3⟩ := mM u9
         rw [y2] at I
         refine bg (VQ (pg (enc := lE) (i := (bl : Int)) (x0 := R) aM aH o3 n f0 (aG _) y1) (fun dz v9 => V (lK rfl (ms d.has v9 bB aH)) (VE (mz d dF (fun dj dx d => VO (mh (.agg (lE R).toArray) ((lE R).toArray) d rfl rfl aH (px R) nb rfl (fun dk d => lS (Wh g3 (VA d Mh (lE R) bB aH (V (uK (k := R) (z := false) (vf := (fun (x : Bool) => (Value.bool x))) yd ji gM rfl rfl (g8.at (fun b o hq => d.has.2 b o (Mt (Mt (Ml hq)))))) ?_))))))))))
         refine ln (CI I rfl (fun u7 I => ?_) (fun u7 I => ?_))
         ·refine sg (Wa (ln ?_))
          replace d := d.lG (Db (Db (Dr (Dr St))))
          refine mB (mQ (oh (mQ (oh (mQ (oh (mQ (mQ (oh (mQ ?_))))))))))
          obtain rfl := sj I
          replace l6 : some (Sum.inl false) = some J := l6
          obtain rfl := sj l6
          replace Y : some false = some r := Y
          obtain rfl := sj Y
          exact rP d
         refine kn (mc (Wh g3 (VA d Mh (lE R) bB aH ?_)))
         replace d := d.perm (Nr (Qb (Qb Qz)) Nz)
         refine VO (vz (k := R) (v := true) (vf := (fun (x : Bool) => (Value.bool x)))  yd ji d g8 rfl rfl rfl (fun dl z0 d u1 => mD (mL (lU ?_))))
         replace d := d.lG (Kr (Db St))
         exact ⟨n, (oz lZ h6 R true), z0, _, ⟨rfl, F⟩, (d.lG (Sb (Pr Pz) St)), n9, o0, o1, g3, o2, o3, u1, (by rw [y3]; exact I)⟩
        rintro E W ⟨h6, g0, n1, ⟨n, F⟩, d, n9, o0, o1, g3, o2, o3, g8, I⟩
        rw [aK] at I
        refine lU ?_
        obtain rfl := sj I
        exact ⟨_, rfl, g0, _, (d.lG St), n9, o0, o1, g3, o2, g8⟩
       rintro bw E W ⟨j6, r0, d, ah, ai, aj, ak, al, x9⟩ v4
       exact mL (lU (mc (V (mU al rfl rfl) (Wm (ln ⟨bx, bL _, bv, f2, bw, j6, (IntKind.i64.wrap (Z + 1)), (((a.2.2).lF).Name), a6, (((a.2.2).lF).lX), a7, (((a.2.2).lF).ml), ((a.2.2).na), ((a.2.2).Room), a8, ((a.2.2).lQ), a9, ((a.2.2).Shown), b0, ((a.2.2).mg), b1, ((a.2.2).mj), d1, _, ((i8.trans T).trans t5), (d.lG St), ah, ai, aj, ak, rfl, x8, x9, p6, p7, p8, p9, q0, q1, v4⟩)))))
      refine bC c1 (fun U c1 => ?_) (fun U c1 => ?_)
      ·refine un U (un U (un U (V (mo (cB U) rfl) ?_)))
       obtain rfl := sj c1
       exact m8 _ _ ⟨_, (d.lG St), n7, g2, r3, r4, rfl, rfl, n8, rfl⟩
      refine ug U (lK rfl (lP d.has Mh [t7, t9, cs, bb, j2, j1] rfl lg fJ)) (bS c1 fun ef w7 c1 => uJ U (Eg d call29 (MR a.1 j2 j1 _ _ (f0.mono (Pl.mono _) d.lJ) (f1.mono qw.mono d.lJ) w7) (fun ds d => ug U (oH rfl) (V (mq (cB U) rfl) ?_))))
      obtain rfl := sj c1
      exact m8 _ _ ⟨_, (d.lG St), n7, g2, r3, r4, rfl, rfl, n8, rfl⟩
     refine pc (oQ (oQ (tX (lU ?_))))
     obtain rfl := sj G
     exact ⟨_, rfl, d6, d7, d8, d9, e0, e1, L, _, i8, (d.lG (Kb (Dr (Dr St)))), g2, l8, l9, m0, m1, m2, m3⟩
   rintro ⟨t2, bo, bp, t3, t4, bq, bs, bt, bu⟩ E W ⟨h9, i0, i1, i2, i3, i4, b6, q6, ct, d, z3, w9, x1, x2, x3, x4, x5⟩ l4
   refine sg (V (lK z3 (lP d.has Mh [(.string t2), h9, i0, (.string t3), (.int .i64 t4), i1, i2, i3, i4] rfl dU cZ)) (bS l4 fun ec w2 l4 => VE (Eg d call26 (Gy (⟨(⟨t2, bo, bp⟩ : lF), t3, t4, bq, bs, bt, bu⟩ : mW) h9 i0 i1 i2 i3 i4 _ _ (w9.mono mH.mono d.lJ) (x1.mono nK.mono d.lJ) (x2.mono (Pl.mono _) d.lJ) (x3.mono (Pl.mono _) d.lJ) (x4.mono (Pl.mono _) d.lJ) (x5.mono (Pl.mono _) d.lJ) w2) (fun de d => Wa (ln ?_)))))
   exact mB (rQ l4 d)
  refine bC e9 (fun d4 e9 => ?_) (fun d4 e9 => ?_)
  ·refine un d4 (un d4 (un d4 (V (mo (cB d4) rfl) ?_)))
   obtain rfl := sj e9
   exact m9 _ _ ⟨_, (d.lG St), t8, cc, rfl⟩
  refine ug d4 (lO t8) (ug d4 (nh aM rfl u4) (ug d4 (mU rfl rfl rfl) (V (mq (cB d4) rfl) ?_)))
  obtain rfl := sj e9
  exact m9 _ _ ⟨_, (d.lG St), t8, cc, rfl⟩
 refine bC c5 (fun d3 c5 => ?_) (fun d3 c5 => ?_)
 ·refine un d3 (un d3 (un d3 (V (mo (cB d3) rfl) ?_)))
  obtain rfl := sj c5
  exact n0 _ _ ⟨_, (d.lG St), rfl, rfl, rfl⟩
 refine ug d3 (lK rfl (lP d.has Mh a0 rfl dU cZ)) (bS c5 fun eg w8 c5 => uJ d3 (Eg d call26 (Gy g k9 l0 l1 k7 l3 k8 _ _ (B.mono mH.mono d.lJ) (H.mono nK.mono d.lJ) (Q.mono (Pl.mono _) d.lJ) (D.mono (Pl.mono _) d.lJ) (a5.mono (Pl.mono _) d.lJ) (y.mono (Pl.mono _) d.lJ) w8) (fun dw d => ug d3 (oH rfl) (V (mq (cB d3) rfl) ?_))))
 obtain rfl := sj c5
 exact n0 _ _ ⟨_, (d.lG St), rfl, rfl, rfl⟩
end Go.Proofs.YtklbhegeiijbjaaGreat
