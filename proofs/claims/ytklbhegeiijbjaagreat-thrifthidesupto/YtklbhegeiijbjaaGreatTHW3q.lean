/- a part of a proof of ThriftHides -/
import Derived.Test.YtklbhegeiijbjaaGreatTHW2q
set_option linter.all false
namespace Go.Proofs.YtklbhegeiijbjaaGreat
open Go.IntKind renaming wrap → wi0
open Go.Proofs.Tryz renaming prog → pg0
open Go.RowKit
set_option maxRecDepth 10000
open Tryz
theorem zj (a2 : Nat) (u : ng) (a c g k i j a9 : Value) (O : List lC) (r : (DR × Int × ng)) (w : World) {μ0 : mN} (h0 : pC μ0 ((a2, Ob #[(.string u.lH.Name), a, c, (.string u.mU), (.int .i64 u.Room), g, k, i, j] 36) :: []) w) (t : Sl mC 15 μ0 a u.lH.lZ) (x : Sl mZ 8 μ0 c u.lH.mq) (B : Sl (Pl lE) 9 μ0 g u.lV) (K : Sl (Pl lE) 9 μ0 k u.Shown) (I : Sl (Pl lG) 2 μ0 i u.ml) (J : Sl (Pl lG) 2 μ0 j u.ms) (d7 : Sl (Pl lG) 2 μ0 a9 O) (hm : pT u O = some r) :
  nO false pg0 28 [(.pointer (some ⟨a2, 0, none⟩)), a9] w μ0 ((a2, Ob #[(.string u.lH.Name), a, c, (.string u.mU), (.int .i64 u.Room), g, k, i, j] 36) :: []) (fun v L1 μ1 => ∃ y1 y3 y5 y7 y9 d0 d1 d2, v = (.tuple #[(.agg #[(.int .i64 ((r.1).Kind)), (.int .i64 ((r.1).xU)), (.int .i64 ((r.1).E)), (.string ((r.1).Name)), y1, y3]), (.int .i64 (r.2.1))]) ∧ L1 = ((a2, Ob #[(.string (((r.2.2).lH).Name)), y5, y7, (.string ((r.2.2).mU)), (.int .i64 ((r.2.2).Room)), y9, d0, d1, d2] 36) :: []) ∧ Sl (Pl lG) 2 μ1 y1 ((r.1).tW) ∧ Sl oY 10 μ1 y3 ((r.1).tV) ∧ Sl mC 15 μ1 y5 (((r.2.2).lH).lZ) ∧ Sl mZ 8 μ1 y7 (((r.2.2).lH).mq) ∧ Sl (Pl lE) 9 μ1 y9 ((r.2.2).lV) ∧ Sl (Pl lE) 9 μ1 d0 ((r.2.2).Shown) ∧ Sl (Pl lG) 2 μ1 d1 ((r.2.2).ml) ∧ Sl (Pl lG) 2 μ1 d2 ((r.2.2).ms)) := by
 refine wj h0 44 func28 rfl (fun d => sg (VE (my d gW (fun W2 b1 d => V (oD rfl) (lS (V (lP rfl) (V (uc lj rfl rfl) (ln (qx rfl ?_)))))))))
 refine kg (V (lP rfl) (V (nN rfl) (VA d (Mt Mh) [(.string u.lH.Name), a, c, (.string u.mU), (.int .i64 u.Room), g, k, i, j] dX dD (V (lP rfl) (bS hm fun Y e7 hm => VE (pA d call85 (Gu u a c g k i j a9 O _ _ (t.mono mK.mono d.lL) (x.mono nH.mono d.lL) (B.mono (Pl.mono _) d.lL) (K.mono (Pl.mono _) d.lL) (I.mono (Pl.mono _) d.lL) (J.mono (Pl.mono _) d.lL) (d7.mono (Pl.mono _) d.lL) e7) (fun W5 v9 aa g3 d y A P => V (oD rfl) (lr ?_))))))))
 refine V (lP rfl) (V (lP rfl) (V (nN rfl) (VA d (Ma (Mt Mh)) [(.string u.lH.Name), a, c, (.string u.mU), (.int .i64 u.Room), g, k, i, j] dX dD (bS hm fun e8 d9 hm => VE (pA d call77 (BX u a c g k i j _ _ (t.mono mK.mono (y.trans d.lL)) (x.mono nH.mono (y.trans d.lL)) (B.mono (Pl.mono _) (y.trans d.lL)) (K.mono (Pl.mono _) (y.trans d.lL)) (I.mono (Pl.mono _) (y.trans d.lL)) (J.mono (Pl.mono _) (y.trans d.lL)) d9) (fun g9 f0 i1 g4 d D h d5 => ?_))))))
 obtain ⟨i2, d, G, m, e3⟩ := ST.Ap d d5 nl
 refine bS hm fun z e0 hm => ?_
 refine VE (eD d (Cb (Pr (Pb Pz)) Cn) call22 (fun hh => (IQ a2 (⟨(⟨u.lH.Name, u.lH.lZ, u.lH.mq⟩ : lH), u.mU, u.Room, u.lV, u.Shown, u.ml, u.ms⟩ : ng) a c g k i j f0 e8 _ _ hh (t.mono mK.mono ((y.trans D).trans G)) (x.mono nH.mono ((y.trans D).trans G)) (B.mono (Pl.mono _) ((y.trans D).trans G)) (K.mono (Pl.mono _) ((y.trans D).trans G)) (I.mono (Pl.mono _) ((y.trans D).trans G)) (J.mono (Pl.mono _) ((y.trans D).trans G)) (e3.mono (Pl.mono _) (mx.refl _)) e0)) ?_)
 rintro _ h8 i3 g2 d b3 n ⟨i0, W, c6, c7, c8, c9, f4, a7, rfl, b7, b9, c0, c1, c2, c3, R⟩
 obtain rfl := a7.symm
 replace d := d.perm (Tb Tn)
 refine V (lP rfl) (V (xy rfl rfl) (V (xy rfl rfl) (V (oD rfl) (V (oD rfl) (lS (V (lP rfl) (V (mP rfl rfl rfl) (ln (CI hm rfl (fun d8 hm => ?_) (fun d8 hm => ?_))))))))))
 ·refine sg (V (nW (v := (.agg It.toArray)) sM (nw gW eX (SD _ eX) kr)) (V (lP rfl) ?_))
  replace d := d.perm (Nb (Pb (Pr Pz)) Nz)
  refine VO (mj (.agg It.toArray) (It.toArray) d rfl rfl iz oc nb rfl (fun h2 d => V (oD rfl) (ln ?_)))
  replace d := d.lF (Kb (Kb (Dr St)))
  refine mu (mL ?_)
  obtain rfl := sj hm
  exact tk (v0 := (.agg It.toArray)) (v1 := (.int .i64 z.2.1)) rfl rfl (lQ d.has Mh It rfl isAgg78 iz) rfl ⟨_, _, _, rfl, (d.ov (Db (Kb Sn))), (((y.trans D).trans G).trans b3), (((A.trans h).trans m).trans n), (ST.nt d (oT.mem (Db (Kb Sn)))), (.slice none 0 0), (.slice none 0 0), W, c6, c7, c8, c9, f4, rfl, rfl, (Sl.nil _ _ _), (Sl.nil _ _ _), b9, c0, c1, c2, c3, R⟩
 refine kg (V (lP rfl) (V (lP rfl) (V (nN rfl) (V (lO CK rfl) (VB d Mh rfl rfl gV (V (lP rfl) ?_))))))
 obtain ⟨b0, b2, rfl⟩ := R.form
 obtain ⟨T, U, rfl⟩ := P.form
 refine VE (mH (cs := #[(.slice b0 ((z.2.2).ms).length b2), (.slice T Y.length U)]) d (qV rfl rfl) (ot iB jr zeroValue34) (fun h3 e6 d => bS hm fun e9 e1 hm => VE (pA d call87 (nq.nz (yC (.slice (some ⟨e6, 0, none⟩) 2 2) ([(z.2.2).ms, Y]) _ _ (Fi.lit (l := [(z.2.2).ms, Y]) (vs := [(.slice b0 ((z.2.2).ms).length b2), (.slice T Y.length U)]) rfl nb (d.at_ Mh) (.cons (R.mono (Pl.mono _) d.lL) (.cons (P.sl nF (fun b o hq => d.at_ (Mt (Mt (Ml hq))))) .nil))) e1)) (fun h4 f1 i4 g7 d M q d6 => bS hm fun c4 e2 hm => VE (pA d call86 (xg f1 e9 _ _ (d6.sl nF (fun b o hq => d.at_ (Ml hq))) e2) (fun h5 h9 i5 g8 d N s b6 => V (nN rfl) (V (lO CK rfl) ?_)))))))
 obtain ⟨b4, b5, rfl⟩ := b6.form
 let a4 : Value := (.slice b4 c4.length b5)
 replace d := d.perm (Nb (Pr (Pr (Pb Pz))) Nz)
 refine VO (mj a4 (#[(.string (((z.2.2).lH).Name)), W, c6, (.string ((z.2.2).mU)), (.int .i64 ((z.2.2).Room)), c7, c8, c9, a4]) d rfl rfl jr oc nb rfl (fun h6 d => ln ?_))
 replace d := d.lF (Kb (Kr (Dr (Db St))))
 refine sg (V (lP rfl) (V (lP rfl) ?_))
 obtain ⟨Z, a3, rfl⟩ := b7.form
 let a0 := (XC T Y.length U Z z.1.length a3)
 refine V (nW (v := (.agg a0.toArray)) (FF rfl rfl rfl) (nw gW eX (SD _ eX) kr)) ?_
 replace d := d.perm (Nb (Pb (Pr (Pr Pz))) Nz)
 refine VO (mj (.agg a0.toArray) (a0.toArray) d rfl rfl iz oc nb rfl (fun h7 d => V (oD rfl) (lt ?_)))
 obtain rfl := sj hm
 refine tk (v0 := (.agg a0.toArray)) (v1 := (.int .i64 0)) rfl rfl (lQ d.has Mh a0 rfl isAgg78 iz) rfl ?_
 replace d := d.perm (Nr (Qb (Qb (Qr Qz))) Nz)
 obtain ⟨i6, d, Q, F, e4⟩ := ST.Ap d P nF
 replace d := d.perm (Nr (Qb (Qb Qz)) Nz)
 obtain ⟨i7, d, H, L, e5⟩ := ST.Ap d b6 nF
 exact ⟨_, _, _, rfl, (d.ov (Db (Kb Sn))), (((((((y.trans D).trans G).trans b3).trans M).trans N).trans Q).trans H), (((((((A.trans h).trans m).trans n).trans q).trans s).trans F).trans L), (ST.nt d (oT.mem (Db (Kb Sn)))), (.slice T Y.length U), (.slice Z z.1.length a3), W, c6, c7, c8, c9, a4, rfl, rfl, (e4.mono (Pl.mono _) H), (b7.mono rV.mono (((M.trans N).trans Q).trans H)), (b9.mono mK.mono (((M.trans N).trans Q).trans H)), (c0.mono nH.mono (((M.trans N).trans Q).trans H)), (c1.mono (Pl.mono _) (((M.trans N).trans Q).trans H)), (c2.mono (Pl.mono _) (((M.trans N).trans Q).trans H)), (c3.mono (Pl.mono _) (((M.trans N).trans Q).trans H)), e5⟩
theorem Ig (a : Value) (g : List lC) (r : (DR × Int)) (w : World) {c : mN} (u : pC c [] w) (x : Sl (Pl lG) 2 c a g) (hm : Ak g = some r) :
  nO true pg0 28 [(.pointer none), a] w c [] (fun v t k => ∃ i j, v = (.tuple #[(.agg #[(.int .i64 ((r.1).Kind)), (.int .i64 ((r.1).xU)), (.int .i64 ((r.1).E)), (.string ((r.1).Name)), i, j]), (.int .i64 (r.2))]) ∧ t = [] ∧ Sl (Pl lG) 2 k i ((r.1).tW) ∧ Sl oY 10 k j ((r.1).tV)) := by
 refine wj u 44 func28 rfl (fun b => sg (VE (my b gW (fun y B b => Wa (lS (Wm (V (uc lj rfl rfl) (ln (vX rfl ?_)))))))))
 refine sg (V (nW (v := (.agg It.toArray)) sM (nw gW eX (SD _ eX) kr)) (VO (mj (.agg It.toArray) (It.toArray) b rfl rfl iz oc nb rfl (fun z b => Wa (lt (mL ?_))))))
 obtain rfl := sj hm
 exact tk (v0 := (.agg It.toArray)) (v1 := (.int .i64 1)) rfl rfl (lQ b.has Mh It rfl isAgg78 iz) rfl ⟨_, _, _, rfl, (b.ov Sn), (mx.refl _), Lo.refl, (ST.nt b (oT.mem Sn)), (.slice none 0 0), (.slice none 0 0), rfl, rfl, (Sl.nil _ _ _), (Sl.nil _ _ _)⟩
set_option maxHeartbeats 1000000 in
theorem Mg (r : Bool) (w : World) (hm : yF  = some r) :
  mo false pg0 25 [] w (.bool r) := by
 refine cG 133 func25 rfl (fun d => sg (Wa (lr (V (nW (v := (.agg (lG K7).toArray)) (qV rfl rfl) (nw dB cW (KQ _ cW) kr)) (V (nW (v := (.agg (lE Lz).toArray)) (FF rfl rfl rfl) (nw cL dR (SZ _ dR) kr)) (VE (my d cL (fun W2 b1 d => VO (mj (.agg (lE Lz).toArray) ((lE Lz).toArray) d rfl rfl aJ (pc Lz) nb rfl (fun W3 d => ln (mf ?_)))))))))))
 refine ma (V (nW (v := (.agg (lG K9).toArray)) (qV rfl rfl) (nw dB cW (KQ _ cW) kr)) (V (nW (v := (.agg C9.toArray)) (qV rfl rfl) (nw bG cP (DI _ cP) kr)) (VE (my d bG (fun W5 s d => VO (mj (.agg C9.toArray) (C9.toArray) d rfl rfl aC oc nb rfl (fun W6 d => ln (mf ?_))))))))
 replace d := d.drew
 have n := d.has.lF (Kb (Kb Sn))
 refine mT n mB (XH 0 rfl n (fun _ o => lJ rfl (lQ o (Mt Mh) (lE Lz) rfl bD aJ)) (XH 3 rfl n (fun _ o => lJ rfl (lQ o Mh C9 rfl aV aC)) (PJ hm (fun d2 E W => ∃ n5 o0 n4 m3 m4 m5 e8 s4, mx (hp w) e8 ∧ ST false mD w W e8 ((n5, Ob #[(.string d2.2.2.2.1), m4, m5] 25) :: ((s, Ol C9 58) :: ((b1, Ol (lE Lz) 52) :: (n4 ++ s4)))) ∧ E 1 = (.pointer (some ⟨b1, 0, none⟩)) ∧ E 2 = (.pointer (some ⟨s, 0, none⟩)) ∧ E 3 = (.pointer (some ⟨n5, 0, none⟩)) ∧ E 25 = (.agg #[(.string d2.1), o0, m3]) ∧ nm 60 mC 15 e8 o0 d2.2.1 n4 ∧ Sl mZ 8 e8 m3 d2.2.2.1 ∧ Fr w.heap.size m3 ∧ Sl mC 15 e8 m4 d2.2.2.2.2.1 ∧ Fr w.heap.size m4 ∧ Sl mZ 8 e8 m5 d2.2.2.2.2.2 ∧ Fr w.heap.size m5) (bm 9 255) 1 ?_ (fun d2 c6 f3 => ?_))))
 ·rintro ⟨m6, h4, h5, gd, fs, ft⟩ E W ⟨n5, o0, n4, m3, m4, m5, e8, s4, n3, d, bx, n6, t8, bz, k5, p0, dt, dz, du, ea, dv⟩ y
  obtain ⟨j7, k0, rfl⟩ := k5.form
  obtain ⟨j8, k1, rfl⟩ := p0.form
  let gm := (C7 m6 j7 h4.length k0 j8 h5.length k1)
  refine XO 8 rfl (mj (.agg gm.toArray) (gm.toArray) d t8 bz fE oc nb rfl (fun eu d => ?_))
  have n := d.has.pN n3 (Db (Kb (Kb Sn)))
  refine ⟨n, (nh kr (lU (sg (V (lJ t8 (lQ d.has Mh gm rfl gU fE)) ?_))))⟩
  replace d := d.perm (Nr (Qb (Qb (Qb Qz))) Nz)
  have dw := k5.Lt d (fun p hq => (Ml hq))
  obtain ⟨hh, d, y7, hA, bl⟩ := ST.yZ mK d k5
  refine bS y fun g bc y => ?_
  let hx : Value := (.int .i64 ((g.1).Room))
  let hw : Value := (.string (((g.1).lH).Name))
  refine VE (O1 d (bI _) call54 (fun hH hN q aE => (Ng (⟨m6, h4, h5⟩ : lH) (.slice j7 h4.length k0) (.slice j8 h5.length k1) K5 9 _ _ ⟨hH, hN, q⟩ (bl.mono mK.mono (mx.refl _)) (p0.mono nH.mono y7) bc)) (fun ev fx hi eo d cx hB ah => ?_) (L0 := []))
  obtain ⟨gs, gt, gu, gw, gy, gz, k6, rfl, l1, l2, l3, l4, l5, l6⟩ := ah
  replace k6 := k6.symm; subst k6
  replace d := d.perm Tn
  refine Wm (Wx rfl (Wx rfl (VE (my d kU (fun ew j d => ?_)))))
  let g6 : Value := (.pointer (some ⟨j, 0, none⟩))
  obtain ⟨f8, g4, rfl⟩ := l1.form
  let bb : Value := (.slice f8 (((g.1).lH).lZ).length g4)
  obtain ⟨f9, g7, rfl⟩ := l2.form
  let ct : Value := (.slice f9 (((g.1).lH).mq).length g7)
  obtain ⟨g0, g8, rfl⟩ := l3.form
  let dd : Value := (.slice g0 ((g.1).lV).length g8)
  obtain ⟨g1, g9, rfl⟩ := l4.form
  let eq : Value := (.slice g1 ((g.1).Shown).length g9)
  obtain ⟨g2, h0, rfl⟩ := l5.form
  let en : Value := (.slice g2 ((g.1).ml).length h0)
  obtain ⟨g3, h1, rfl⟩ := l6.form
  let fm : Value := (.slice g3 ((g.1).ms).length h1)
  refine VO (mj (.agg #[hw, bb, ct, (.string ((g.1).mU)), hx, dd, eq, en, fm]) (#[hw, bb, ct, (.string ((g.1).mU)), hx, dd, eq, en, fm]) d rfl rfl dD oc nb rfl (fun ey d => Wa (ln ?_)))
  replace d := d.lF (Kb (Db St))
  refine sg (VA d Mh [hw, bb, ct, (.string ((g.1).mU)), hx, dd, eq, en, fm] dX dD (bS y fun fu bd y => VE (Eg d call74 (Gx g.1 bb ct dd eq en fm (.slice none 0 0) ([]) _ _ (l1.mono mK.mono d.lL) (l2.mono nH.mono d.lL) (l3.mono (Pl.mono _) d.lL) (l4.mono (Pl.mono _) d.lL) (l5.mono (Pl.mono _) d.lL) (l6.mono (Pl.mono _) d.lL) (Sl.nil _ _ _) bd) (fun ez d => Wa (lr (V (lO sD bx) (VA d (Mt (Mt Mh)) (lG K7) aT aG (VE (mH (cs := (lG K7).toArray) d (oE rfl) (ot aM aG dB) (fun fa j9 d => ?_))))))))))
  have dx : Fr w.heap.size (.slice (some ⟨j9, 0, none⟩) 1 1) := Fr.box d Mh
  obtain ⟨hj, d, c7, hC, bn⟩ := ST.Ap (R := [(j9, Ol (lG K7) 50)]) d (mw.lit (l := [K7]) (enc := lG) (b := j9) (m := 1) rfl dc rfl rfl) nF
  refine bS y fun h6 be y => ?_
  refine VE (O1 d (Cb Pz Cn) call75 (fun hH hN q aE => (JN j (⟨(⟨((g.1).lH).Name, ((g.1).lH).lZ, ((g.1).lH).mq⟩ : lH), (g.1).mU, (g.1).Room, (g.1).lV, (g.1).Shown, (g.1).ml, (g.1).ms⟩ : ng) bb ct dd eq en fm (.slice (some ⟨j9, 0, none⟩) 1 1) ([K7]) _ _ ⟨hH, hN, q⟩ (l1.mono mK.mono c7) (l2.mono nH.mono c7) (l3.mono (Pl.mono _) c7) (l4.mono (Pl.mono _) c7) (l5.mono (Pl.mono _) c7) (l6.mono (Pl.mono _) c7) (bn.mono (Pl.mono _) (mx.refl _)) be)) (fun fb fy hk ep d cy hD ai => ?_))
  obtain ⟨o1, o2, o3, o4, o5, o6, k7, rfl, p1, p2, p3, p4, p5, p6⟩ := ai
  replace k7 := k7.symm; subst k7
  replace d := d.perm (Tb Tn)
  refine ln ?_
  replace d := d.lF (Kb (Kb (Db St)))
  refine sg (VA d Mh [(.string (((h6).lH).Name)), o1, o2, (.string ((h6).mU)), (.int .i64 ((h6).Room)), o3, o4, o5, o6] dX dD (bS y fun fv bf y => VE (pA d call76 (Fv h6 o1 o2 o3 o4 o5 o6 _ _ (p1.mono mK.mono d.lL) (p2.mono nH.mono d.lL) (p3.mono (Pl.mono _) d.lL) (p4.mono (Pl.mono _) d.lL) (p5.mono (Pl.mono _) d.lL) (p6.mono (Pl.mono _) d.lL) bf) (fun fc z8 hl A d c8 hE k4 => Wa (lr (bS y fun c bh y => ?_))))))
  let hz : Value := (.int .i64 ((c.1).xU))
  let hy : Value := (.int .i64 ((c.1).Kind))
  refine VE (O1 d (Cb (Pr Pz) Cn) call28 (fun hH hN q aE => (zj j h6 o1 o2 o3 o4 o5 o6 (.slice none 0 0) ([]) _ _ ⟨hH, hN, q⟩ (p1.mono mK.mono c8) (p2.mono nH.mono c8) (p3.mono (Pl.mono _) c8) (p4.mono (Pl.mono _) c8) (p5.mono (Pl.mono _) c8) (p6.mono (Pl.mono _) c8) (Sl.nil _ _ _) bh)) (fun fd fz hn er d cz hF aj => ?_))
  obtain ⟨ha, hb, m7, m8, hc, m9, n0, n1, k8, rfl, p7, p8, p9, q0, eb, q1, q2, q3⟩ := aj
  replace k8 := k8.symm; subst k8
  replace d := d.perm (Tb Tn)
  refine Wm (Wx rfl (Wx rfl (VE (my d gW (fun fe N d => ?_)))))
  let gc : Value := (.pointer (some ⟨N, 0, none⟩))
  obtain ⟨Z, a3, rfl⟩ := p7.form
  let hv : Value := (.slice Z ((c.1).tW).length a3)
  obtain ⟨a0, a4, rfl⟩ := p8.form
  let gv : Value := (.slice a0 ((c.1).tV).length a4)
  let d3 := (#[hy, hz, (.int .i64 ((c.1).E)), (.string ((c.1).Name)), hv, gv] : Array Value)
  refine VO (mj (.agg #[hy, hz, (.int .i64 ((c.1).E)), (.string ((c.1).Name)), hv, gv]) (#[hy, hz, (.int .i64 ((c.1).E)), (.string ((c.1).Name)), hv, gv]) d rfl rfl iz oc nb rfl (fun ff d => Wa (lr (V (lO wM n6) (VA d (Mt (Mt (Ma Mh))) (lG K9) aT aG (V (nW (v := (.agg (lE M2).toArray)) (FF rfl rfl rfl) (nw cL dR (SZ _ dR) kr)) (VE (mH (cs := (lE M2).toArray) d (oE rfl) (ot aK aJ cL) (fun fg d4 d => Wf D4 ?_)))))))))
  let j2 : Value := (.slice (some ⟨d4, 0, none⟩) 1 1)
  replace d := d.perm (Nb (Pb (Pb Pz)) Nz)
  refine VO (mj j2 (#[(.string (((c.2.2).lH).Name)), m7, m8, (.string ((c.2.2).mU)), (.int .i64 ((c.2.2).Room)), j2, m9, n0, n1]) d rfl rfl iM oc nb rfl (fun fh d => lr (VA d Mh [(.string (((c.2.2).lH).Name)), m7, m8, (.string ((c.2.2).mU)), (.int .i64 ((c.2.2).Room)), j2, m9, n0, n1] dX dD (bS y fun fw bi y => VE (pA d call77 (BX (⟨(c.2.2).lH, (c.2.2).mU, (c.2.2).Room, [M2], (c.2.2).Shown, (c.2.2).ml, (c.2.2).ms⟩ : ng) m7 m8 j2 m9 n0 n1 _ _ (p9.mono mK.mono d.lL) (q0.mono nH.mono d.lL) (Sl.lit (enc := lE) (l := [M2]) nl rfl nb rfl (d.at_ (Mt Mh))) (q1.mono (Pl.mono _) d.lL) (q2.mono (Pl.mono _) d.lL) (q3.mono (Pl.mono _) d.lL) bi) (fun fi f4 ho f1 d d6 hG am => Wa (lr ?_)))))))
  replace d := d.perm (Nb (Pr (Pb Pz)) Nz)
  have dy : Fr w.heap.size j2 := Fr.box d Mh
  obtain ⟨hr, d, d7, hI, bo⟩ := ST.Ap (R := [(d4, Ol (lE M2) 52)]) d (mw.lit (l := [M2]) (enc := lE) (b := d4) (m := 1) rfl dc rfl rfl) nl
  refine bS y fun a bj y => ?_
  let ib : Value := (.int .i64 ((a.1).xU))
  let ia : Value := (.int .i64 ((a.1).Kind))
  let gx : Value := (.string ((a.2.2).mU))
  let gp : Value := (.int .i64 ((a.2.2).Room))
  let gk : Value := (.string (((a.2.2).lH).Name))
  refine VE (O1 d (Cb (Pr Pz) Cn) call28 (fun hH hN q aE => (zj j (⟨(⟨((c.2.2).lH).Name, ((c.2.2).lH).lZ, ((c.2.2).lH).mq⟩ : lH), (c.2.2).mU, (c.2.2).Room, [M2], (c.2.2).Shown, (c.2.2).ml, (c.2.2).ms⟩ : ng) m7 m8 j2 m9 n0 n1 (.slice none 0 0) ([]) _ _ ⟨hH, hN, q⟩ (p9.mono mK.mono (d6.trans d7)) (q0.mono nH.mono (d6.trans d7)) (bo.mono (Pl.mono _) (mx.refl _)) (q1.mono (Pl.mono _) (d6.trans d7)) (q2.mono (Pl.mono _) (d6.trans d7)) (q3.mono (Pl.mono _) (d6.trans d7)) (Sl.nil _ _ _) bj)) (fun fj ga hs es d da hJ ak => ?_))
  obtain ⟨hd, he, G, H, I, J, K, M, k9, rfl, q4, q5, l7, l8, l9, m0, m1, m2⟩ := ak
  let g5 := (#[gk, G, H, gx, gp, I, J, K, M] : Array Value)
  replace k9 := k9.symm; subst k9
  replace d := d.perm (Tb Tn)
  refine Wm (Wx rfl (Wx rfl (VE (my d gW (fun fk t d => ?_)))))
  let j1 : Value := (.pointer (some ⟨t, 0, none⟩))
  obtain ⟨a1, a5, rfl⟩ := q4.form
  let ht : Value := (.slice a1 ((a.1).tW).length a5)
  obtain ⟨a2, a6, rfl⟩ := q5.form
  let hu : Value := (.slice a2 ((a.1).tV).length a6)
  let b8 := (#[ia, ib, (.int .i64 ((a.1).E)), (.string ((a.1).Name)), ht, hu] : Array Value)
  refine VO (mj (.agg #[ia, ib, (.int .i64 ((a.1).E)), (.string ((a.1).Name)), ht, hu]) (#[ia, ib, (.int .i64 ((a.1).E)), (.string ((a.1).Name)), ht, hu]) d rfl rfl iz oc nb rfl (fun fl d => Wa (lr (bS y fun x bk y => ?_))))
  refine VE (O1 d (bI _) call28 (fun hH hN q aE => nO.nz (Ig (.slice none 0 0) ([]) _ _ ⟨hH, hN, q⟩ (Sl.nil _ _ _) bk)) (fun fn gb F et d k hK al => ?_) (L0 := []))
  obtain ⟨hf, hg, l0, rfl, bp, bq⟩ := al
  replace l0 := l0.symm; subst l0
  replace d := d.perm Tn
  refine Wm (Wx rfl (Wx rfl (VE (my d gW (fun fo fq d => ?_)))))
  obtain ⟨s2, t6, rfl⟩ := bp.form
  obtain ⟨s3, t7, rfl⟩ := bq.form
  refine VO (mj (.agg #[(.int .i64 ((x.1).Kind)), (.int .i64 ((x.1).xU)), (.int .i64 ((x.1).E)), (.string ((x.1).Name)), (.slice s2 ((x.1).tW).length t6), (.slice s3 ((x.1).tV).length t7)]) (#[(.int .i64 ((x.1).Kind)), (.int .i64 ((x.1).xU)), (.int .i64 ((x.1).E)), (.string ((x.1).Name)), (.slice s2 ((x.1).tW).length t6), (.slice s3 ((x.1).tV).length t7)]) d rfl rfl iz oc nb rfl (fun fp d => Wa (ln ?_)))
  replace d := d.lF (Db St)
  refine mf ?_
  replace d := d.drew
  have n := d.has.lF (Kb (Kb (Dr (Kb (Kr (Kb Sn))))))
  refine mT n mB (X 0 rfl n (lP rfl) (X 1 rfl n (mP rfl rfl rfl) (X 2 rfl n (lP rfl) (PJ y (fun r9 E W => ∃ s5, ST false mD w W F ((t, Obj.cells b8 78 (0, 0)) :: ((j, Obj.cells g5 36 (0, 0)) :: ((N, Obj.cells d3 78 (0, 0)) :: ((s, Ol C9 58) :: (f1 ++ (A ++ s5)))))) ∧ E 2 = (.pointer (some ⟨s, 0, none⟩)) ∧ E 4 = g6 ∧ E 7 = z8 ∧ E 8 = gc ∧ E 9 = (.int .i64 c.2.1) ∧ E 10 = f4 ∧ E 11 = j1 ∧ E 12 = (.int .i64 a.2.1) ∧ E 14 = (.int .i64 x.2) ∧ E 62 = (.bool r9)) (bm 76 31) 71 ?_ (fun r9 e7 j6 => ?_)))))
  ·rintro ge E W ⟨s5, d, t9, u0, n7, u1, u2, u3, u4, u5, u6, ca⟩ an
   have n := d.has.lF (Kb (Kb (Kb (Sr (Qb (Qr Qz)) (Kb Sn)))))
   refine X 5 rfl n (lP ca) (PJ an (fun r8 E W => ∃ s6, ST false mD w W F ((t, Obj.cells b8 78 (0, 0)) :: ((j, Obj.cells g5 36 (0, 0)) :: ((N, Obj.cells d3 78 (0, 0)) :: ((s, Ol C9 58) :: (f1 ++ (A ++ s6)))))) ∧ E 2 = (.pointer (some ⟨s, 0, none⟩)) ∧ E 4 = g6 ∧ E 7 = z8 ∧ E 8 = gc ∧ E 9 = (.int .i64 c.2.1) ∧ E 10 = f4 ∧ E 11 = j1 ∧ E 12 = (.int .i64 a.2.1) ∧ E 14 = (.int .i64 x.2) ∧ E 67 = (.bool r8)) (bm 76 1023) 66 ?_ (fun r8 e6 j5 => ?_))
   ·rintro gf E W ⟨s6, d, cb, u7, cc, u8, u9, v0, v1, v2, v3, cd⟩ ao
    have n := d.has.lF (Kb (Kb (Kb (Sr (Qb (Qr Qz)) (Kb Sn)))))
    refine X 10 rfl n (lP cd) (PJ ao (fun r7 E W => ∃ s7, ST false mD w W F ((t, Obj.cells b8 78 (0, 0)) :: ((j, Obj.cells g5 36 (0, 0)) :: ((N, Obj.cells d3 78 (0, 0)) :: ((s, Ol C9 58) :: (f1 ++ (A ++ s7)))))) ∧ E 4 = g6 ∧ E 8 = gc ∧ E 9 = (.int .i64 c.2.1) ∧ E 10 = f4 ∧ E 11 = j1 ∧ E 12 = (.int .i64 a.2.1) ∧ E 14 = (.int .i64 x.2) ∧ E 75 = (.bool r7)) (bm 76 262143) 58 ?_ (fun r7 c5 j4 => ?_))
    ·rintro gg E W ⟨s7, d, v4, v5, ce, v6, v7, v8, v9, cf⟩ ap
     have n := d.has.lF (Kb (Kb (Kb (Sr (Qb (Qr Qz)) (Kb Sn)))))
     refine X 18 rfl n (lP cf) (PJ ap (fun r6 E W => ∃ s8, ST false mD w W F ((t, Obj.cells b8 78 (0, 0)) :: ((j, Obj.cells g5 36 (0, 0)) :: ((N, Obj.cells d3 78 (0, 0)) :: ((s, Ol C9 58) :: (f1 ++ (A ++ s8)))))) ∧ E 4 = g6 ∧ E 8 = gc ∧ E 10 = f4 ∧ E 11 = j1 ∧ E 12 = (.int .i64 a.2.1) ∧ E 14 = (.int .i64 x.2) ∧ E 79 = (.bool r6)) (bm 76 4194303) 54 ?_ (fun r6 e5 j3 => ?_))
     ·rintro gh E W ⟨s8, d, w0, n8, w1, w2, w3, w4, cg⟩ aq
      have n := d.has.lF (Kb (Kb (Kb (Sr (Qb (Qr Qz)) (Kb Sn)))))
      refine X 22 rfl n (lP cg) (PJ aq (fun r5 E W => ∃ s9, ST false mD w W F ((t, Obj.cells b8 78 (0, 0)) :: ((j, Obj.cells g5 36 (0, 0)) :: ((N, Obj.cells d3 78 (0, 0)) :: ((s, Ol C9 58) :: (f1 ++ (A ++ s9)))))) ∧ E 4 = g6 ∧ E 8 = gc ∧ E 10 = f4 ∧ E 11 = j1 ∧ E 12 = (.int .i64 a.2.1) ∧ E 14 = (.int .i64 x.2) ∧ E 85 = (.bool r5)) (bm 76 268435455) 48 ?_ (fun r5 e4 j0 => ?_))
      ·rintro gi E W ⟨s9, d, w5, ch, w6, w7, w8, w9, ci⟩ ar
       have n := d.has.lF (Kb (Kb (Kb (Sr (Qb (Qr Qz)) (Kb Sn)))))
       refine X 28 rfl n (lP ci) (PJ ar (fun r4 E W => ∃ t0, ST false mD w W F ((t, Obj.cells b8 78 (0, 0)) :: ((j, Obj.cells g5 36 (0, 0)) :: ((N, Obj.cells d3 78 (0, 0)) :: ((s, Ol C9 58) :: (f1 ++ (A ++ t0)))))) ∧ E 4 = g6 ∧ E 10 = f4 ∧ E 11 = j1 ∧ E 12 = (.int .i64 a.2.1) ∧ E 14 = (.int .i64 x.2) ∧ E 91 = (.bool r4)) (bm 76 17179869183) 42 ?_ (fun r4 e3 i9 => ?_))
       ·rintro gj E W ⟨t0, d, x1, cj, x2, x3, x4, ck⟩ au
        have n := d.has.lF (Kb (Kb (Kb (Sr (Qb (Qr Qz)) (Kb Sn)))))
        refine X 34 rfl n (lP ck) (PJ au (fun r3 E W => ∃ t1, ST false mD w W F ((t, Obj.cells b8 78 (0, 0)) :: ((j, Obj.cells g5 36 (0, 0)) :: ((N, Obj.cells d3 78 (0, 0)) :: ((s, Ol C9 58) :: (A ++ t1))))) ∧ E 4 = g6 ∧ E 11 = j1 ∧ E 12 = (.int .i64 a.2.1) ∧ E 14 = (.int .i64 x.2) ∧ E 96 = (.bool r3)) (bm 76 549755813887) 37 ?_ (fun r3 e2 i8 => ?_))
        ·rintro gl E W ⟨t1, d, x5, x6, cl, x7, cm⟩ av
         have n := d.has.lF (Kb (Kb (Kb (Sr (Qb Qz) (Kb Sn)))))
         refine X 39 rfl n (lP cm) (PJ av (fun r2 E W => ∃ t2, ST false mD w W F ((t, Obj.cells b8 78 (0, 0)) :: ((j, Obj.cells g5 36 (0, 0)) :: ((N, Obj.cells d3 78 (0, 0)) :: ((s, Ol C9 58) :: (A ++ t2))))) ∧ E 4 = g6 ∧ E 11 = j1 ∧ E 14 = (.int .i64 x.2) ∧ E 100 = (.bool r2)) (bm 76 8796093022207) 33 ?_ (fun r2 e1 i7 => ?_))
         ·rintro gn E W ⟨t2, d, x8, n9, x9, cn⟩ aw
          have n := d.has.lF (Kb (Kb (Kb (Sr (Qb Qz) (Kb Sn)))))
          refine X 43 rfl n (lP cn) (PJ aw (fun r1 E W => ∃ t3, ST false mD w W F ((t, Obj.cells b8 78 (0, 0)) :: ((j, Obj.cells g5 36 (0, 0)) :: ((N, Obj.cells d3 78 (0, 0)) :: ((s, Ol C9 58) :: (A ++ t3))))) ∧ E 4 = g6 ∧ E 11 = j1 ∧ E 14 = (.int .i64 x.2) ∧ E 106 = (.bool r1)) (bm 76 562949953421311) 27 ?_ (fun r1 e0 i6 => ?_))
          ·rintro go E W ⟨t3, d, y0, co, y1, cp⟩ ay
           have n := d.has.lF (Kb (Kb (Kb (Sr (Qb Qz) (Kb Sn)))))
           refine X 49 rfl n (lP cp) (PJ ay (fun r0 E W => ∃ t4, ST false mD w W F ((t, Obj.cells b8 78 (0, 0)) :: ((j, Obj.cells g5 36 (0, 0)) :: ((N, Obj.cells d3 78 (0, 0)) :: ((s, Ol C9 58) :: (A ++ t4))))) ∧ E 4 = g6 ∧ E 14 = (.int .i64 x.2) ∧ E 112 = (.bool r0)) (bm 76 36028797018963967) 21 ?_ (fun r0 d9 i5 => ?_))
           ·rintro gq E W ⟨t4, d, y2, cq, cr⟩ az
            have n := d.has.lF (Kb (Kb (Kb (Sr (Qb Qz) (Kb Sn)))))
            refine X 55 rfl n (lP cr) (PJ az (fun q9 E W => ∃ t5, ST false mD w W F ((t, Obj.cells b8 78 (0, 0)) :: ((j, Obj.cells g5 36 (0, 0)) :: ((N, Obj.cells d3 78 (0, 0)) :: ((s, Ol C9 58) :: (A ++ t5))))) ∧ E 4 = g6 ∧ E 116 = (.bool q9)) (bm 76 576460752303423487) 17 ?_ (fun q9 d8 i4 => ?_))
            ·rintro gr E W ⟨t5, d, k2, ac⟩ ba
             have n := d.has.lF (Kb (Kb (Kb (Sr (Qb Qz) (Kb Sn)))))
             refine X 59 rfl n (lP ac) (PJ ba (fun q8 E W => ∃ o7, ST false mD w W F ((t, Obj.cells b8 78 (0, 0)) :: ((j, Obj.cells g5 36 (0, 0)) :: ((N, Obj.cells d3 78 (0, 0)) :: ((s, Ol C9 58) :: (A ++ o7))))) ∧ E 4 = g6 ∧ E 120 = (.bool q8)) (bm 76 9223372036854775807) 13 ?_ (fun q8 c4 i3 => ?_))
             ·rintro ek E W ⟨o7, d, k3, ad⟩ y8
              have n := d.has.lF (Kb (Kb (Kb (Sr (Qb Qz) (Kb Sn)))))
              refine X 63 rfl n (lP ad) (PJ y8 (fun q7 E W => ∃ f0 o8, mx F f0 ∧ ST false mD w W f0 ((t, Obj.cells b8 78 (0, 0)) :: ((j, Obj.cells g5 36 (0, 0)) :: ((N, Obj.cells d3 78 (0, 0)) :: ((s, Ol C9 58) :: (A ++ o8))))) ∧ E 4 = g6 ∧ E 126 = (.bool q7)) (bm 76 590295810358705651711) 7 ?_ (fun q7 c3 i2 => ?_))
              ·rintro el E W ⟨f0, o8, Y, d, ae, af⟩ y9
               have n := d.has.pN Y (Kb (Kb (Kb (Sr (Qb Qz) (Kb Sn)))))
               refine X 69 rfl n (lP af) (PJ y9 (fun q6 E W => ∃ n2 o9, mx f0 n2 ∧ ST false mD w W n2 ((t, Obj.cells b8 78 (0, 0)) :: ((j, Obj.cells g5 36 (0, 0)) :: ((N, Obj.cells d3 78 (0, 0)) :: ((s, Ol C9 58) :: (A ++ o9))))) ∧ E 132 = (.bool q6)) (bm 76 37778931862957161709567) 1 ?_ (fun q6 c2 i1 => ?_))
               ·rintro em E W ⟨n2, o9, s1, d, ag⟩ z0
                have n := d.has.pN (Y.trans s1) (Kb (Kb (Kb (Sr (Qb Qz) (Kb Sn)))))
                refine X 75 rfl n (oD ag) (nh kr (lU ?_))
                exact mu (rQ z0 d)
               refine bC c2 (fun U c2 => ?_) (fun U c2 => ?_)
               ·refine rz 70 rfl rfl (cB U) n (fun _ o => lJ ae (lQ o (Mt Mh) [gk, G, H, gx, gp, I, J, K, M] rfl dX dD)) (bS c2 fun ed z2 c2 => zG 71 rfl rfl (cB U) (pA d call27 (B9 a.2.2 G H I J K M _ _ (l7.mono mK.mono ((k.trans Y).trans d.lL)) (l8.mono nH.mono ((k.trans Y).trans d.lL)) (l9.mono (Pl.mono _) ((k.trans Y).trans d.lL)) (m0.mono (Pl.mono _) ((k.trans Y).trans d.lL)) (m1.mono (Pl.mono _) ((k.trans Y).trans d.lL)) (m2.mono (Pl.mono _) ((k.trans Y).trans d.lL)) z2) (fun dh eg bs db d h7 cS y3 => ?_)))
                have n := d.has.pN (Y.trans h7) (Dr (Kb (Kb (Kb (Sr (Qb Qz) (Kb Sn))))))
                refine ⟨n, (Xg 72 rfl rfl (cB U) n (oZ aK rfl y3) (Xg 73 rfl rfl (cB U) n (mP rfl rfl rfl) (X 74 rfl n (mh (cB U) rfl) ?_)))⟩
                obtain rfl := sj c2
                refine nu kr (i1 _ _ ⟨bs, _, h7, (d.lF (Dr St)), rfl⟩)
               refine Xn 70 rfl rfl (cB U) n (Xn 71 rfl rfl (cB U) n (Xn 72 rfl rfl (cB U) n (Xn 73 rfl rfl (cB U) n (X 74 rfl n (mi (cB U) rfl) ?_))))
               obtain rfl := sj c2
               refine nu kr (i1 _ _ ⟨f0, _, (mx.refl _), (d.lF St), rfl⟩)
              refine bC c3 (fun T c3 => ?_) (fun T c3 => ?_)
              ·refine rz 64 rfl rfl (cB T) n (fun _ o => lJ k3 (lQ o (Mt Mh) [gk, G, H, gx, gp, I, J, K, M] rfl dX dD)) (bS c3 fun ee z3 c3 => zG 65 rfl rfl (cB T) (pA d call78 (GA a.2.2 G H I J K M _ _ (l7.mono mK.mono (k.trans d.lL)) (l8.mono nH.mono (k.trans d.lL)) (l9.mono (Pl.mono _) (k.trans d.lL)) (m0.mono (Pl.mono _) (k.trans d.lL)) (m1.mono (Pl.mono _) (k.trans d.lL)) (m2.mono (Pl.mono _) (k.trans d.lL)) z3) (fun di eh bt de d h8 eI y4 => ?_)))
               have n := d.has.pN h8 (Dr (Kb (Kb (Kb (Sr (Qb Qz) (Kb Sn))))))
               refine ⟨n, (Xg 66 rfl rfl (cB T) n (oZ aK rfl y4) (Xg 67 rfl rfl (cB T) n (mP rfl rfl rfl) (X 68 rfl n (mh (cB T) rfl) ?_)))⟩
               obtain rfl := sj c3
               refine nu kr (i2 _ _ ⟨bt, _, h8, (d.lF (Dr St)), k3, rfl⟩)
              refine Xn 64 rfl rfl (cB T) n (Xn 65 rfl rfl (cB T) n (Xn 66 rfl rfl (cB T) n (Xn 67 rfl rfl (cB T) n (X 68 rfl n (mi (cB T) rfl) ?_))))
              obtain rfl := sj c3
              refine nu kr (i2 _ _ ⟨F, _, (mx.refl _), (d.lF St), k3, rfl⟩)
             refine bC c4 (fun c1 c4 => ?_) (fun c1 c4 => ?_)
             ·refine rz 60 rfl rfl (cB c1) n (fun _ o => lJ k2 (lQ o (Mt Mh) [gk, G, H, gx, gp, I, J, K, M] rfl dX dD)) (bS c4 fun ef z4 c4 => zG 61 rfl rfl (cB c1) (Eg d call74 (Gx a.2.2 G H I J K M (.slice none 0 0) ([]) _ _ (l7.mono mK.mono (k.trans d.lL)) (l8.mono nH.mono (k.trans d.lL)) (l9.mono (Pl.mono _) (k.trans d.lL)) (m0.mono (Pl.mono _) (k.trans d.lL)) (m1.mono (Pl.mono _) (k.trans d.lL)) (m2.mono (Pl.mono _) (k.trans d.lL)) (Sl.nil _ _ _) z4) (fun dj d => ?_)))
              have n := d.has.lF (Kb (Kb (Kb (Sr (Qb Qz) (Kb Sn)))))
              refine ⟨n, (X 62 rfl n (mh (cB c1) rfl) ?_)⟩
              obtain rfl := sj c4
              refine nu kr (i3 _ _ ⟨_, (d.lF St), k2, rfl⟩)
             refine Xn 60 rfl rfl (cB c1) n (Xn 61 rfl rfl (cB c1) n (X 62 rfl n (mi (cB c1) rfl) ?_))
             obtain rfl := sj c4
             refine nu kr (i3 _ _ ⟨_, (d.lF St), k2, rfl⟩)
            refine bC d8 (fun d1 d8 => ?_) (fun d1 d8 => ?_)
            ·refine Xg 56 rfl rfl (cB d1) n (lP cq) (Xg 57 rfl rfl (cB d1) n (mP rfl rfl rfl) (X 58 rfl n (mh (cB d1) rfl) ?_))
             obtain rfl := sj d8
             refine nu kr (i4 _ _ ⟨_, (d.lF St), y2, rfl⟩)
            refine Xn 56 rfl rfl (cB d1) n (Xn 57 rfl rfl (cB d1) n (X 58 rfl n (mi (cB d1) rfl) ?_))
            obtain rfl := sj d8
            refine nu kr (i4 _ _ ⟨_, (d.lF St), y2, rfl⟩)
           refine bC d9 (fun P d9 => ?_) (fun P d9 => ?_)
           ·refine Xg 50 rfl rfl (cB P) n (lO Ju co) (rz 51 rfl rfl (cB P) n (fun _ o => lJ rfl (lX o Mh rfl gV)) (Xg 52 rfl rfl (cB P) n (mV aM rfl q4) (Xg 53 rfl rfl (cB P) n (mP rfl rfl rfl) (X 54 rfl n (mh (cB P) rfl) ?_))))
            obtain rfl := sj d9
            refine nu kr (i5 _ _ ⟨_, (d.lF St), y0, y1, rfl⟩)
           refine Xn 50 rfl rfl (cB P) n (Xn 51 rfl rfl (cB P) n (Xn 52 rfl rfl (cB P) n (Xn 53 rfl rfl (cB P) n (X 54 rfl n (mi (cB P) rfl) ?_))))
           obtain rfl := sj d9
           refine nu kr (i5 _ _ ⟨_, (d.lF St), y0, y1, rfl⟩)
          refine bC e0 (fun O e0 => ?_) (fun O e0 => ?_)
          ·refine Xg 44 rfl rfl (cB O) n (lO Ks n9) (rz 45 rfl rfl (cB O) n (fun _ o => lJ rfl (lX o Mh rfl isAgg45)) (Xg 46 rfl rfl (cB O) n (mV eY rfl q5) (Xg 47 rfl rfl (cB O) n (mP rfl rfl rfl) (X 48 rfl n (mh (cB O) rfl) ?_))))
           obtain rfl := sj e0
           refine nu kr (i6 _ _ ⟨_, (d.lF St), x8, n9, x9, rfl⟩)
          refine Xn 44 rfl rfl (cB O) n (Xn 45 rfl rfl (cB O) n (Xn 46 rfl rfl (cB O) n (Xn 47 rfl rfl (cB O) n (X 48 rfl n (mi (cB O) rfl) ?_))))
          obtain rfl := sj e0
          refine nu kr (i6 _ _ ⟨_, (d.lF St), x8, n9, x9, rfl⟩)
         refine bC e1 (fun d0 e1 => ?_) (fun d0 e1 => ?_)
         ·refine Xg 40 rfl rfl (cB d0) n (lP cl) (Xg 41 rfl rfl (cB d0) n (mP rfl rfl rfl) (X 42 rfl n (mh (cB d0) rfl) ?_))
          obtain rfl := sj e1
          refine nu kr (i7 _ _ ⟨_, (d.lF St), x5, x6, x7, rfl⟩)
         refine Xn 40 rfl rfl (cB d0) n (Xn 41 rfl rfl (cB d0) n (X 42 rfl n (mi (cB d0) rfl) ?_))
         obtain rfl := sj e1
         refine nu kr (i7 _ _ ⟨_, (d.lF St), x5, x6, x7, rfl⟩)
        refine bC e2 (fun c0 e2 => ?_) (fun c0 e2 => ?_)
        ·refine Xg 35 rfl rfl (cB c0) n (lP cj) (Xg 36 rfl rfl (cB c0) n (oZ aK rfl am) (Xg 37 rfl rfl (cB c0) n (mP rfl rfl rfl) (X 38 rfl n (mh (cB c0) rfl) ?_)))
         obtain rfl := sj e2
         refine nu kr (i8 _ _ ⟨_, (d.lF (Kb (Kb (Kb (Kb (Dr St)))))), x1, x2, x3, x4, rfl⟩)
        refine Xn 35 rfl rfl (cB c0) n (Xn 36 rfl rfl (cB c0) n (Xn 37 rfl rfl (cB c0) n (X 38 rfl n (mi (cB c0) rfl) ?_)))
        obtain rfl := sj e2
        refine nu kr (i8 _ _ ⟨_, (d.lF (Kb (Kb (Kb (Kb (Dr St)))))), x1, x2, x3, x4, rfl⟩)
       refine bC e3 (fun a9 e3 => ?_) (fun a9 e3 => ?_)
       ·refine Xg 29 rfl rfl (cB a9) n (lO Ks ch) (rz 30 rfl rfl (cB a9) n (fun _ o => lJ rfl (lX o (Mt (Mt Mh)) rfl isAgg45)) (Xg 31 rfl rfl (cB a9) n (mV eY rfl p8) (Xg 32 rfl rfl (cB a9) n (mP rfl rfl rfl) (X 33 rfl n (mh (cB a9) rfl) ?_))))
        obtain rfl := sj e3
        refine nu kr (i9 _ _ ⟨_, (d.lF St), w5, w6, w7, w8, w9, rfl⟩)
       refine Xn 29 rfl rfl (cB a9) n (Xn 30 rfl rfl (cB a9) n (Xn 31 rfl rfl (cB a9) n (Xn 32 rfl rfl (cB a9) n (X 33 rfl n (mi (cB a9) rfl) ?_))))
       obtain rfl := sj e3
       refine nu kr (i9 _ _ ⟨_, (d.lF St), w5, w6, w7, w8, w9, rfl⟩)
      refine bC e4 (fun L e4 => ?_) (fun L e4 => ?_)
      ·refine Xg 23 rfl rfl (cB L) n (lO Ju n8) (rz 24 rfl rfl (cB L) n (fun _ o => lJ rfl (lX o (Mt (Mt Mh)) rfl gV)) (Xg 25 rfl rfl (cB L) n (mV aM rfl p7) (Xg 26 rfl rfl (cB L) n (mP rfl rfl rfl) (X 27 rfl n (mh (cB L) rfl) ?_))))
       obtain rfl := sj e4
       refine nu kr (j0 _ _ ⟨_, (d.lF St), w0, n8, w1, w2, w3, w4, rfl⟩)
      refine Xn 23 rfl rfl (cB L) n (Xn 24 rfl rfl (cB L) n (Xn 25 rfl rfl (cB L) n (Xn 26 rfl rfl (cB L) n (X 27 rfl n (mi (cB L) rfl) ?_))))
      obtain rfl := sj e4
      refine nu kr (j0 _ _ ⟨_, (d.lF St), w0, n8, w1, w2, w3, w4, rfl⟩)
     refine bC e5 (fun c9 e5 => ?_) (fun c9 e5 => ?_)
     ·refine Xg 19 rfl rfl (cB c9) n (lP ce) (Xg 20 rfl rfl (cB c9) n (mP rfl rfl rfl) (X 21 rfl n (mh (cB c9) rfl) ?_))
      obtain rfl := sj e5
      refine nu kr (j3 _ _ ⟨_, (d.lF St), v4, v5, v6, v7, v8, v9, rfl⟩)
     refine Xn 19 rfl rfl (cB c9) n (Xn 20 rfl rfl (cB c9) n (X 21 rfl n (mi (cB c9) rfl) ?_))
     obtain rfl := sj e5
     refine nu kr (j3 _ _ ⟨_, (d.lF St), v4, v5, v6, v7, v8, v9, rfl⟩)
    refine bC c5 (fun Q c5 => ?_) (fun Q c5 => ?_)
    ·refine Xg 11 rfl rfl (cB Q) n (lP cc) (bS c5 fun s0 h3 c5 => uE 12 rfl kr (.inr ⟨10, true, 68, rfl, rfl, by decide, (cB Q)⟩) rfl dc (fun _ _ h => h) n (oS (i := 0) (x0 := s0) aM aG rfl rfl k4 (mF h3) (mA h3)) (fun ec z1 => rz 13 rfl rfl (cB Q) n (fun _ o => lJ rfl (qp o (fun p hq => (Mt (Mt (Mt (Ml hq))))) k4 nF z1 (mA h3) aT aG)) (Xg 14 rfl rfl (cB Q) n (lO wM cb) (rz 15 rfl rfl (cB Q) n (fun _ o => lJ rfl (lQ o (Mt (Mt (Mt (Ma Mh)))) (lG K9) rfl aT aG)) (Xg 16 rfl rfl (cB Q) n (vx rfl rfl (oI dK) (rA (pX _ s0 K9))) (X 17 rfl n (mh (cB Q) rfl) ?_))))))
     obtain rfl := sj c5
     refine nu kr (j4 _ _ ⟨_, (d.lF St), u7, u8, u9, v0, v1, v2, v3, rfl⟩)
    refine Xn 11 rfl rfl (cB Q) n (Xn 12 rfl rfl (cB Q) n (Xn 13 rfl rfl (cB Q) n (Xn 14 rfl rfl (cB Q) n (Xn 15 rfl rfl (cB Q) n (Xn 16 rfl rfl (cB Q) n (X 17 rfl n (mi (cB Q) rfl) ?_))))))
    obtain rfl := sj c5
    refine nu kr (j4 _ _ ⟨_, (d.lF St), u7, u8, u9, v0, v1, v2, v3, rfl⟩)
   refine bC e6 (fun b9 e6 => ?_) (fun b9 e6 => ?_)
   ·refine Xg 6 rfl rfl (cB b9) n (lP n7) (Xg 7 rfl rfl (cB b9) n (oZ aM rfl k4) (Xg 8 rfl rfl (cB b9) n (mP rfl rfl rfl) (X 9 rfl n (mh (cB b9) rfl) ?_)))
    obtain rfl := sj e6
    refine nu kr (j5 _ _ ⟨_, (d.lF St), t9, u0, n7, u1, u2, u3, u4, u5, u6, rfl⟩)
   refine Xn 6 rfl rfl (cB b9) n (Xn 7 rfl rfl (cB b9) n (Xn 8 rfl rfl (cB b9) n (X 9 rfl n (mi (cB b9) rfl) ?_)))
   obtain rfl := sj e6
   refine nu kr (j5 _ _ ⟨_, (d.lF St), t9, u0, n7, u1, u2, u3, u4, u5, u6, rfl⟩)
  refine bC e7 (fun e9 e7 => ?_) (fun e9 e7 => ?_)
  ·refine Xg 3 rfl rfl (cB e9) n (lP rfl) (X 4 rfl n (mh (cB e9) rfl) ?_)
   obtain rfl := sj e7
   refine nu kr (j6 _ _ ⟨_, (d.lF (Kb (Kb (Sb (Pr Pz) (Sb (Pr (Pr Pz)) St))))), n6, rfl, rfl, rfl, rfl, rfl, rfl, rfl, rfl, rfl⟩)
  refine Xn 3 rfl rfl (cB e9) n (X 4 rfl n (mi (cB e9) rfl) ?_)
  obtain rfl := sj e7
  refine nu kr (j6 _ _ ⟨_, (d.lF (Kb (Kb (Sb (Pr Pz) (Sb (Pr (Pr Pz)) St))))), n6, rfl, rfl, rfl, rfl, rfl, rfl, rfl, rfl, rfl⟩)
 refine He 1 7 rfl rfl kr (.inl rfl) (.inl rfl) rfl rfl dc dc ?_ ?_
 ·refine bS c6 fun u y5 c6 => Ik (enc := (ns .u8)) (z := 0) d (fun _ => rfl) dc cO rC.1 rC.2.1 rC.2.2.1 rC.2.2.2 rfl rfl rfl y5 (fun dk ei df d d5 => ?_)
  let ic := (⟨(⟨Lz, u⟩ : Signed), Xc⟩ : mI)
  have n := d.has.lF (Dr (Kb (Kb Sn)))
  refine ⟨n, ?_⟩
  obtain ⟨B, D, rfl⟩ := d5.form
  refine X 2 rfl n (nW (v := (.agg (WY B u.length D).toArray)) (qV rfl rfl) (nw eQ fM (PL _ fM) kr)) (X 4 rfl n (nW (v := (.agg (C5 B u.length D).toArray)) (qV rfl rfl) (nw eP gS (Sp _ gS) kr)) (He 5 7 rfl rfl kr (.inl rfl) (.inl rfl) rfl rfl dc dc ?_ ?_))
  ·have cu := d5.Lt d (fun p hq => (Ml hq))
   obtain ⟨bu, d, f2, eN, z5⟩ := ST.Ap d d5 (fun _ => rfl)
   refine mH (cs := (C5 B u.length D).toArray) d (oE rfl) (ot dC dH eP) (fun dl f5 d => ?_)
   have n := d.has.pN f2 (Db (Kb (Kb Sn)))
   refine ⟨n, (X 6 rfl n (nW (v := (.agg #[(.string K4), (.slice (some ⟨f5, 0, none⟩) 1 1), (.slice none 0 0)])) (qV rfl rfl) (nw jN fT (SI _ fT) kr)) (XE 7 rfl (my d jN (fun dm z9 d => ?_))))⟩
   have n := d.has.pN f2 (Db (Db (Kb (Kb Sn))))
   refine ⟨n, ?_⟩
   obtain rfl := sj c6
   replace d := d.perm (Nb (Pb Pz) Nz)
   replace d := d.Hs
   refine nu kr (f3 _ _ ⟨z9, (.slice (some ⟨f5, 0, none⟩) 1 1), [(f5, Ol (C5 B u.length D) 60)], (.slice none 0 0), (.slice none 0 0), (.slice none 0 0), bu, _, f2, (d.lF (Sb (Pr Pz) (Sb (Pr Pz) (Sb (Pr Pz) St)))), rfl, rfl, rfl, rfl, (nm.lit mK (l := [ic]) (.cons (ys := C5 B u.length D) (mC.mk ⟨(.slice B u.length D), (.slice none 0 0), rfl, z5, (Sl.nil _ _ _)⟩) .nil) rfl nb rfl), (Sl.nil _ _ _), (Fr.nil _), (Sl.nil _ _ _), (Fr.nil _), (Sl.nil _ _ _), (Fr.nil _)⟩)
  ·refine my d jN (fun dn aa d => ?_)
   have n := d.has.lF (Db (Dr (Kb (Kb Sn))))
   refine ⟨n, ?_⟩
   replace d := d.perm (Nr (Qb Qz) Nz)
   have cv := d5.Lt d (fun p hq => (Ml hq))
   obtain ⟨bv, d, h9, eR, z6⟩ := ST.Ap d d5 (fun _ => rfl)
   refine XE 5 rfl (mH (cs := (C5 B u.length D).toArray) d (oE rfl) (ot dC dH eP) (fun dp f6 d => ?_))
   have n := d.has.pN h9 (Db (Db (Kb (Kb Sn))))
   refine ⟨n, (X 6 rfl n (nW (v := (.agg #[(.string K4), (.slice (some ⟨f6, 0, none⟩) 1 1), (.slice none 0 0)])) (qV rfl rfl) (nw jN fT (SI _ fT) kr)) ?_)⟩
   obtain rfl := sj c6
   replace d := d.Hs
   refine nu kr (f3 _ _ ⟨aa, (.slice (some ⟨f6, 0, none⟩) 1 1), [(f6, Ol (C5 B u.length D) 60)], (.slice none 0 0), (.slice none 0 0), (.slice none 0 0), bv, _, h9, (d.lF (Sb (Pr Pz) (Sb (Pr Pz) (Sb (Pr Pz) St)))), rfl, rfl, rfl, rfl, (nm.lit mK (l := [ic]) (.cons (ys := C5 B u.length D) (mC.mk ⟨(.slice B u.length D), (.slice none 0 0), rfl, z6, (Sl.nil _ _ _)⟩) .nil) rfl nb rfl), (Sl.nil _ _ _), (Fr.nil _), (Sl.nil _ _ _), (Fr.nil _), (Sl.nil _ _ _), (Fr.nil _)⟩)
 ·refine my d jN (fun dq ab d => ?_)
  have n := d.has.lF (Db (Kb (Kb Sn)))
  refine ⟨n, (bS c6 fun b3 y6 c6 => XE 1 rfl (Ik (enc := (ns .u8)) (z := 0) d (fun _ => rfl) dc cO rC.1 rC.2.1 rC.2.2.1 rC.2.2.2 rfl rfl rfl y6 (fun dr ej dg d h2 => ?_)))⟩
  have n := d.has.lF (Dr (Db (Kb (Kb Sn))))
  refine ⟨n, ?_⟩
  obtain ⟨b6, b7, rfl⟩ := h2.form
  refine X 2 rfl n (nW (v := (.agg (WY b6 b3.length b7).toArray)) (qV rfl rfl) (nw eQ fM (PL _ fM) kr)) (X 4 rfl n (nW (v := (.agg (C5 b6 b3.length b7).toArray)) (qV rfl rfl) (nw eP gS (Sp _ gS) kr)) ?_)
  have cw := h2.Lt d (fun p hq => (Ml hq))
  obtain ⟨bw, d, i0, gR, z7⟩ := ST.Ap d h2 (fun _ => rfl)
  refine XE 5 rfl (mH (cs := (C5 b6 b3.length b7).toArray) d (oE rfl) (ot dC dH eP) (fun ds f7 d => ?_))
  have n := d.has.pN i0 (Db (Db (Kb (Kb Sn))))
  refine ⟨n, (X 6 rfl n (nW (v := (.agg #[(.string K4), (.slice (some ⟨f7, 0, none⟩) 1 1), (.slice none 0 0)])) (qV rfl rfl) (nw jN fT (SI _ fT) kr)) ?_)⟩
  obtain rfl := sj c6
  replace d := d.Hs
  refine nu kr (f3 _ _ ⟨ab, (.slice (some ⟨f7, 0, none⟩) 1 1), [(f7, Ol (C5 b6 b3.length b7) 60)], (.slice none 0 0), (.slice none 0 0), (.slice none 0 0), bw, _, i0, (d.lF (Sb (Pr Pz) (Sb (Pr Pz) (Sb (Pr Pz) St)))), rfl, rfl, rfl, rfl, (nm.lit mK (l := [(⟨(⟨Lz, b3⟩ : Signed), Xc⟩ : mI)]) (.cons (ys := C5 b6 b3.length b7) (mC.mk ⟨(.slice b6 b3.length b7), (.slice none 0 0), rfl, z7, (Sl.nil _ _ _)⟩) .nil) rfl nb rfl), (Sl.nil _ _ _), (Fr.nil _), (Sl.nil _ _ _), (Fr.nil _), (Sl.nil _ _ _), (Fr.nil _)⟩)
theorem AO (k : Value) (u : List lD) (r : Int) (w : World) (j : Sl (Pl lE) 9 (hp w) k u) (hm : sP u = some r) :
  mo true pg0 18 [k] w (.int .i64 r) := by
 refine cG 54 func18 rfl (fun b => sg (Wa (lr (Wa (lS (Wm ?_))))))
 refine V (mV aK rfl j) (Wm (ln (mM (fun i E W => ∃ g t, (E 8 = .int .i64 (i : Nat) ∧ E 7 = .int .i64 (u.length : Nat)) ∧ ST true mD w W (hp w) t ∧ E 3 = (.int .i64 g) ∧ E 6 = k ∧ uF (u.drop i) g = some r) u.length j.len ⟨0, _, ⟨rfl, rfl⟩, (b.lF St), rfl, rfl, hm⟩ dc dc dc (fun _ _ _ h => by obtain ⟨_, _, l, _⟩ := h; exact l) ?_ ?_)))
 ·rintro I E W z ⟨g, t, ⟨d, m⟩, b, x, y, c⟩
  obtain ⟨a, J, G, D, H⟩ := mE z
  rw [G] at c
  refine bg (VQ (og (enc := lE) (i := (I : Int)) (x0 := a) aK aJ y d j (aF _) D) (fun Q B => V (lJ rfl (mr b.has B bD aJ)) (VE (my b cL (fun K N b => VO (mj (.agg (lE a).toArray) ((lE a).toArray) b rfl rfl aJ (pc a) nb rfl (fun M b => ln (ma (Wh x (Wf sD (Wf rn (VB b Mh rfl rfl bO (V (pL bQ rfl) ?_)))))))))))))
  refine Wi rfl (Wf sD (Wf vS (VB b Mh rfl rfl bO (V (pL bQ rfl) (Wi rfl (Wf zz (VB b Mh rfl rfl bO (V (pL bQ rfl) (Wi rfl (Wf pK (Wf rn (VB b Mh rfl rfl bO (V (pL bQ rfl) (Wi rfl ?_))))))))))))))
  refine Wf pK (Wf vS (VB b Mh rfl rfl bO (V (pL bQ rfl) (Wi rfl (Wf vk (Wf rn (VB b Mh rfl rfl bO (V (pL bQ rfl) (Wi rfl (Wf vk (Wf vS (VB b Mh rfl rfl bO (V (pL bQ rfl) (Wi rfl ?_))))))))))))))
  refine Wf wK (VB b Mh rfl rfl bO (V (pL bQ rfl) (Wi rfl (Wi rfl (Wa (mz (mJ (lU ?_))))))))
  replace b := b.lF (Db St)
  exact ⟨d, (wi0 .i64 (g + (wi0 .i64 ((wi0 .i64 ((wi0 .i64 ((wi0 .i64 ((wi0 .i64 ((wi0 .i64 ((wi0 .i64 ((wi0 .i64 (20 + (a.Head.lK.size : Int))) + (a.Head.lN.size : Int))) + (a.mX.size : Int))) + (a.B.lK.size : Int))) + (a.B.lN.size : Int))) + (a.C.lK.size : Int))) + (a.C.lN.size : Int))) + (a.mQ.size : Int))))), _, ⟨rfl, m⟩, (b.lF St), rfl, y, (by rw [H]; exact c)⟩
 rintro E W ⟨g, t, ⟨d, m⟩, b, x, y, c⟩
 rw [aI] at c
 exact lU (sg (Wh x (Wa (lt (rQ c b)))))
theorem CP (H : Value) (Q : List Key) (u : Value) (J : List Signed) (r : Int) (w : World) (B : Sl Fp 2 (hp w) H Q) (D : Sl oY 10 (hp w) u J) (hm : AW Q J = some r) :
  mo true pg0 17 [H, u] w (.int .i64 r) := by
 refine cG 45 func17 rfl (fun b => sg (Wa (lr (Wa (lS (Wm ?_))))))
 refine V (mV underlying37 rfl B) (Wm (ln (mM (fun i E W => ∃ t N, (E 12 = .int .i64 (i : Nat) ∧ E 11 = .int .i64 (Q.length : Nat)) ∧ ST true mD w W (hp w) N ∧ E 1 = u ∧ E 5 = (.int .i64 t) ∧ E 10 = H ∧ yw J (Q.drop i) t = some r) Q.length B.len ⟨0, _, ⟨rfl, rfl⟩, (b.lF St), rfl, rfl, rfl, hm⟩ dc dc dc (fun _ _ _ h => by obtain ⟨_, _, n, _⟩ := h; exact n) ?_ ?_)))
 ·rintro c3 E W b5 ⟨t, N, ⟨m, o⟩, b, U, Y, Z, g⟩
  obtain ⟨k, d4, b9, b7, c0⟩ := mE b5
  rw [b9] at g
  refine bg (VQ (nS (i := (c3 : Int)) (x0 := k) Fp.out underlying37 sizeOf118 Z m B (aF _) b7) (fun d8 ⟨_, ⟨d9, rfl, a2⟩, b6⟩ => V (lJ rfl (mr b.has b6 isAgg118 sizeOf118)) (VE (my b zeroValue118 (fun d5 d7 b => ?_)))))
  obtain ⟨s, v, rfl⟩ := a2.form
  refine VO (mj (.agg #[(.string k.mX), (.slice s k.Key.length v)]) (#[(.string k.mX), (.slice s k.Key.length v)]) b rfl rfl sizeOf118 oc nb rfl (fun d6 b => ln (ma (Wh Y (Wf T7 (VB b Mh rfl rfl bO (V (pL bQ rfl) (Wi rfl (Wf Ud (VB b Mh rfl rfl jZ (V (mV cO rfl a2) (Wi rfl (Wi rfl (Wa ?_))))))))))))))
  refine mz (mJ (lU ?_))
  replace b := b.lF (Db St)
  exact ⟨m, (wi0 .i64 (t + (wi0 .i64 ((wi0 .i64 (10 + (k.mX.size : Int))) + (k.Key.length : Int))))), _, ⟨rfl, o⟩, (b.lF St), U, rfl, Z, (by rw [c0]; exact g)⟩
 rintro E W ⟨t, N, ⟨m, o⟩, b, U, Y, Z, g⟩
 rw [aI] at g
 refine lU (mf (sg (Wh U (V (mV eY rfl D) (Wm (ln (CJ g (fun G E W => ∃ M, ST true mD w W (hp w) M ∧ E 5 = (.int .i64 G)) (fun G a5 => ?_) ?_)))))))
 ·refine mM (fun i E W => ∃ j x, (E 29 = .int .i64 (i : Nat) ∧ E 28 = .int .i64 (J.length : Nat)) ∧ ST true mD w W (hp w) x ∧ E 5 = (.int .i64 j) ∧ E 27 = u ∧ wG (J.drop i) j = some G) J.length D.len ⟨t, _, ⟨rfl, rfl⟩, (b.lF St), Y, rfl, a5⟩ dc dc dc (fun _ _ _ h => by obtain ⟨_, _, n, _⟩ := h; exact n) ?_ ?_
  ·rintro c1 E W a3 ⟨j, x, ⟨m, o⟩, b, y, z, c⟩
   obtain ⟨a, c4, a9, L, O⟩ := mE a3
   rw [a9] at c
   refine bg (VQ (nS (i := (c1 : Int)) (x0 := a) oY.out eY eL z m D (aF _) L) (fun d0 ⟨_, ⟨d1, rfl, I⟩, A⟩ => V (lJ rfl (mr b.has A kV eL)) (VE (my b eQ (fun c5 c9 b => ?_)))))
   obtain ⟨K, T, rfl⟩ := I.form
   let a0 := (C4 a.lD.Kind a.lD.Head.lK a.lD.Head.lN a.lD.mX a.lD.B.lK a.lD.B.lN a.lD.C.lK a.lD.C.lN a.lD.mQ K a.Tag.length T)
   refine VO (mj (.agg a0.toArray) (a0.toArray) b rfl rfl eL oc nb rfl (fun c6 b => ln ?_))
   replace b := b.drew
   have d := b.has.lF (Kb Sn)
   refine mT d mB (X 0 rfl d (lP y) (X 1 rfl d (lO xh rfl) (XH 2 rfl d (fun _ q => lJ rfl (lQ q Mh (lE a.lD) rfl bD aJ)) (X 5 rfl d (lO Hd rfl) (XH 6 rfl d (fun _ q => lJ rfl (lX q Mh rfl jZ)) (X 7 rfl d (mV cO rfl I) (XE 3 rfl (mH (cs := (lE a.lD).toArray) b (oE rfl) (ot aK aJ cL) (fun c7 P b => ?_)))))))))
   have d := b.has.lF (Db (Kb Sn))
   refine ⟨d, (bS c fun c2 F c => XE 4 rfl (Eg b call18 (AO (.slice (some ⟨P, 0, none⟩) 1 1) ([a.lD]) _ _ (Sl.lit (enc := lE) (l := [a.lD]) nl rfl nb rfl (b.at_ Mh)) F) (fun c8 b => ?_)))⟩
   have d := b.has.lF (Db (Kb Sn))
   refine ⟨d, (X 8 rfl d (mP rfl rfl rfl) (X 9 rfl d (mP rfl rfl rfl) (X 10 rfl d (oD rfl) (nh kr (mJ (lU ?_))))))⟩
   replace b := b.lF (Db (Db St))
   exact ⟨m, (wi0 .i64 (j + (wi0 .i64 (c2 + (a.Tag.length : Int))))), _, ⟨rfl, o⟩, (b.lF St), rfl, z, (by rw [O]; exact c)⟩
  rintro E W ⟨j, x, ⟨m, o⟩, b, y, z, c⟩
  rw [aI] at c
  refine lU ?_
  obtain rfl := sj c
  exact ⟨_, (b.lF St), y⟩
 rintro d3 E W ⟨M, b, R⟩ a4
 exact sg (Wh R (Wa (lt (rQ a4 b))))
theorem HL (I : (List Formula) → Option Int) (N : ∀ (j : Value) (u : List Formula) (r : Int) (w : World) (t : Sl lI 5 (hp w) j u), I u = some r → mo false pg0 50 [j] w (.int .i64 r)) (j : Value) (u : List Formula) (r : Int) (w : World) (t : Sl lI 5 (hp w) j u) (hm : zr I u = some r) :
  mo false pg0 50 [j] w (.int .i64 r) := by
 refine cG 31 func50 rfl (fun l => sg (Wa (lr (Wa (lS (Wm ?_))))))
 refine V (mV aH rfl t) (Wm (ln (mM (fun i E W => ∃ x z, (E 8 = .int .i64 (i : Nat) ∧ E 7 = .int .i64 (u.length : Nat)) ∧ ST false mD w W (hp w) z ∧ E 3 = (.int .i64 x) ∧ E 6 = j ∧ uM I (u.drop i) x = some r) u.length t.len ⟨0, _, ⟨rfl, rfl⟩, (l.lF St), rfl, rfl, hm⟩ dc dc dc (fun _ _ _ h => by obtain ⟨_, _, o, _⟩ := h; exact o) ?_ ?_)))
 ·rintro Z E W M ⟨x, z, ⟨n, s⟩, l, D, G, g⟩
  obtain ⟨c, L, T, Q, U⟩ := mE M
  let a0 := ((c.lC.lK.size : Int) + (c.lC.lN.size : Int))
  rw [T] at g
  refine bg (VQ (nS (i := (Z : Int)) (x0 := c) lI.out aH aC G n t (aF _) Q) (fun a5 ⟨_, ⟨F, rfl, H⟩, J⟩ => V (lJ rfl (mr l.has J aV aC)) (VE (my l bG (fun A a4 l => ?_)))))
  obtain ⟨y, B, rfl⟩ := H.form
  let q := (C1 c.Op c.K c.lC.lK c.lC.lN y c.Kids.length B)
  refine VO (mj (.agg q.toArray) (q.toArray) l rfl rfl aC oc nb rfl (fun a2 l => ln ?_))
  replace l := l.drew
  have d := l.has.lF (Kb Sn)
  refine mT d mB (X 0 rfl d (lP D) (X 1 rfl d (lO wM rfl) (X 2 rfl d (lO rn rfl) (XH 3 rfl d (fun _ m => lJ rfl (lX m Mh rfl bO)) (X 4 rfl d (pL bQ rfl) (X 5 rfl d (lO wM rfl) (X 6 rfl d (lO vS rfl) (XH 7 rfl d (fun _ m => lJ rfl (lX m Mh rfl bO)) (X 8 rfl d (pL bQ rfl) (X 9 rfl d (mP rfl rfl rfl) (X 10 rfl d (MB (k := .i64) (a := (wi0 .i64 a0)) (b := 16) (v := (.int .i64 (wi0 .i64 (Int.tdiv (wi0 .i64 a0) 16)))) rfl rfl dc rfl) (X 11 rfl d (mP rfl rfl rfl) (X 12 rfl d (lO rH rfl) (XH 13 rfl d (fun _ m => lJ rfl (lX m Mh rfl fH)) ?_))))))))))))))
  refine bS g fun Y K g => XE 14 rfl (Eg l call50 (N (.slice y c.Kids.length B) c.Kids _ _ (H.mono mg.mono l.lL) K) (fun a3 l => ?_))
  have d := l.has.lF (Kb Sn)
  refine ⟨d, (X 15 rfl d (mP rfl rfl rfl) (X 16 rfl d (mP rfl rfl rfl) (X 17 rfl d (oD rfl) (nh kr (mJ (lU ?_))))))⟩
  replace l := l.lF (Db St)
  exact ⟨n, (wi0 .i64 (x + (wi0 .i64 ((wi0 .i64 (1 + (wi0 .i64 (Int.tdiv (wi0 .i64 a0) 16)))) + Y)))), _, ⟨rfl, s⟩, (l.lF St), rfl, G, (by rw [U]; exact g)⟩
 rintro E W ⟨x, z, ⟨n, s⟩, l, D, G, g⟩
 rw [aI] at g
 exact lU (sg (Wh D (Wa (lt (rQ g l)))))
theorem Dc : ∀ (n : Nat) (a : Value) (c : List Formula) (r : Int) (w : World) (g : Sl lI 5 (hp w) a c) (_ : rT n c = some r),
  mo false pg0 50 [a] w (.int .i64 r)
 | 0 => by intros; rename_i h; simp only [rT] at h; cases h
 | n + 1 => HL (rT n) (Dc n)
set_option maxHeartbeats 1000000 in
theorem Mi (x : lH) (J N : Value) (r : Int) (w : World) (y : Sl mC 15 (hp w) J x.lZ) (G : Sl mZ 8 (hp w) N x.mq) (hm : AV x = some r) :
  mo false pg0 10 [(.agg #[(.string x.Name), J, N])] w (.int .i64 r) := by
 refine cG 61 func10 rfl (fun d => sg ?_)
 obtain ⟨A1, c2, rfl⟩ := y.form
 obtain ⟨A3, c4, rfl⟩ := G.form
 let g6 := (C7 x.Name A1 x.lZ.length c2 A3 x.mq.length c4)
 refine VE (mG d rfl (fun W6 O d => Wa (lr (Wf QR (VB d Mh rfl rfl bO (V (pL bQ rfl) (Wa (lS ?_))))))))
 refine Wf xT (VB d Mh rfl rfl jE (V (mV dC rfl y) (Wm (ln (mM (fun i E W => ∃ I b1, (E 14 = .int .i64 (i : Nat) ∧ E 13 = .int .i64 (x.lZ.length : Nat)) ∧ ST false mD w W (hp w) ((O, Ol g6 25) :: b1) ∧ E 1 = (.pointer (some ⟨O, 0, none⟩)) ∧ E 3 = (.int .i64 I) ∧ E 12 = (.slice A1 x.lZ.length c2) ∧ uG x (x.lZ.drop i) I = some r) x.lZ.length y.len ⟨(x.Name.size : Int), _, ⟨rfl, rfl⟩, (d.lF St), rfl, rfl, rfl, hm⟩ dc dc dc (fun _ _ _ h => by obtain ⟨_, _, A, _⟩ := h; exact A) ?_ ?_)))))
 ·rintro d5 E W e1 ⟨I, b1, ⟨s, F⟩, d, U, M, Y, H⟩
  obtain ⟨a, h9, e9, e8, f0⟩ := mE e1
  rw [e9] at H
  refine bg (VQ (nS (i := (d5 : Int)) (x0 := a) mC.out dC dH Y s y (aF _) e8) (fun j4 ⟨_, ⟨j8, j9, rfl, Q, T⟩, e2⟩ => V (lJ rfl (mr d.has e2 jF dH)) (VE (my d eP (fun i0 f4 d => ?_)))))
  obtain ⟨t, u, rfl⟩ := Q.form
  let g5 : Value := (.slice t a.Signed.Tag.length u)
  let b8 := (C4 a.Signed.lD.Kind a.Signed.lD.Head.lK a.Signed.lD.Head.lN a.Signed.lD.mX a.Signed.lD.B.lK a.Signed.lD.B.lN a.Signed.lD.C.lK a.Signed.lD.C.lN a.Signed.lD.mQ t a.Signed.Tag.length u)
  obtain ⟨g, j, rfl⟩ := T.form
  let d9 : Value := (.slice g a.lM.Kids.length j)
  let v := (C1 a.lM.Op a.lM.K a.lM.lC.lK a.lM.lC.lN g a.lM.Kids.length j)
  let a0 := (C3 a.Signed.lD.Kind a.Signed.lD.Head.lK a.Signed.lD.Head.lN a.Signed.lD.mX a.Signed.lD.B.lK a.Signed.lD.B.lN a.Signed.lD.C.lK a.Signed.lD.C.lN a.Signed.lD.mQ t a.Signed.Tag.length u a.lM.Op a.lM.K a.lM.lC.lK a.lM.lC.lN g a.lM.Kids.length j)
  refine VO (mj (.agg a0.toArray) (a0.toArray) d rfl rfl dH oc nb rfl (fun i1 d => ln ?_))
  replace d := d.drew
  have m := d.has.lF (Kb Sn)
  refine mT m mB (X 0 rfl m (lP M) (X 1 rfl m (lO xZ rfl) (XH 2 rfl m (fun _ q => lJ rfl (lQ q Mh b8 rfl kV eL)) (X 5 rfl m (lO Nu rfl) (XH 6 rfl m (fun _ q => lJ rfl (lQ q Mh v rfl aV aC)) (PJ H (fun b4 E W => ∃ L b2 b9, ST false mD w W (hp w) ((f4, Ol a0 60) :: ((O, Ol g6 25) :: (b2 ++ b9))) ∧ E 1 = (.pointer (some ⟨O, 0, none⟩)) ∧ E 3 = (.int .i64 I) ∧ E 12 = (.slice A1 x.lZ.length c2) ∧ E 13 = (.int .i64 (x.lZ.length : Int)) ∧ E 14 = (.int .i64 (d5 : Int)) ∧ E 18 = (.int .i64 I) ∧ E 22 = (.int .i64 b4.1) ∧ E 25 = L ∧ nm 58 lI 5 (hp w) L b4.2 b2) (bm 13 255) 5 ?_ (fun b4 z Z => ?_)))))))
  ·rintro ⟨g7, g3⟩ E W ⟨L, b2, b9, d, f6, j3, f7, f8, f9, g0, g1, g2, e7⟩ P
   refine bS P fun g4 e3 P => XE 8 rfl (Eg d call50 ((Dc mR) L g3 _ _ (e7.sl mg d.lL (fun b o n => d.at_ (Mt (Mt (Ml n))))) e3) (fun i2 d => ?_) (ha := X3 g2))
   have m := d.has.lF (Kb Sn)
   refine ⟨m, (X 9 rfl m (mP rfl rfl rfl) (X 10 rfl m (mP g1 rfl rfl) (X 11 rfl m (mP g0 rfl rfl) (X 12 rfl m (oD rfl) (nh kr (mJ (lU ?_)))))))⟩
   replace d := d.lF (Db (Kb (Dr St)))
   exact ⟨f9, (wi0 .i64 (I + (wi0 .i64 (g7 + (wi0 .i64 (20 * g4)))))), _, ⟨rfl, f8⟩, (d.lF St), f6, rfl, f7, (by rw [f0]; exact P)⟩
  refine He 3 7 rfl rfl kr (.inl rfl) (.inl rfl) rfl rfl dc dc ?_ ?_
  ·refine mH (cs := b8.toArray) d (oE rfl) (ot eY eL eQ) (fun i3 b3 d => ?_)
   let d8 : Value := (.slice (some ⟨b3, 0, none⟩) 1 1)
   have m := d.has.lF (Db (Kb Sn))
   refine ⟨m, (He 4 7 rfl rfl kr (.inl rfl) (.inl rfl) rfl rfl dc dc ?_ ?_)⟩
   ·refine bS z fun j5 e4 z => OL (args := [(.slice none 0 0), d8]) d rfl call17 (by exact yA rfl rfl) (mo.nz (CP (.slice none 0 0) ([]) d8 ([a.Signed]) _ _ (Sl.nil _ _ _) ((nm.lit rV (l := [a.Signed]) (.cons (ys := C4 a.Signed.lD.Kind a.Signed.lD.Head.lK a.Signed.lD.Head.lN a.Signed.lD.mX a.Signed.lD.B.lK a.Signed.lD.B.lN a.Signed.lD.C.lK a.Signed.lD.C.lN a.Signed.lD.mQ t a.Signed.Tag.length u) (oY.mk ⟨g5, rfl, Q⟩) .nil) rfl nb rfl).sl rV d.lL (fun b o n => (by rw [bP] at n; cases n; exact d.at_ Mh))) e4)) (fun i4 d => ?_)
    have m := d.has.lF (Db (Kb Sn))
    refine ⟨m, (XE 7 rfl (mH (cs := v.toArray) d (oE rfl) (ot aH aC bG) (fun i5 c0 d => ?_)))⟩
    have m := d.has.lF (Db (Db (Kb Sn)))
    refine ⟨m, ?_⟩
    obtain rfl := sj z
    replace d := d.Hs
    refine nu kr (Z _ _ ⟨(.slice (some ⟨c0, 0, none⟩) 1 1), [(c0, Ol v 58)], _, (d.lF (Sb (Pr (Pb Pz)) (Sb (Pr (Pb Pz)) (Kr (Db St))))), U, M, Y, F, s, rfl, rfl, rfl, (nm.lit mg (l := [a.lM]) (.cons (ys := C1 a.lM.Op a.lM.K a.lM.lC.lK a.lM.lC.lN g a.lM.Kids.length j) (lI.mk ⟨d9, rfl, T⟩) .nil) rfl nb rfl)⟩)
   ·refine mH (cs := v.toArray) d (oE rfl) (ot aH aC bG) (fun i6 c1 d => ?_)
    have m := d.has.lF (Db (Db (Kb Sn)))
    refine ⟨m, (bS z fun j6 e5 z => XE 4 rfl (Eg d call17 (mo.nz (CP (.slice none 0 0) ([]) d8 ([a.Signed]) _ _ (Sl.nil _ _ _) ((nm.lit rV (l := [a.Signed]) (.cons (ys := C4 a.Signed.lD.Kind a.Signed.lD.Head.lK a.Signed.lD.Head.lN a.Signed.lD.mX a.Signed.lD.B.lK a.Signed.lD.B.lN a.Signed.lD.C.lK a.Signed.lD.C.lN a.Signed.lD.mQ t a.Signed.Tag.length u) (oY.mk ⟨g5, rfl, Q⟩) .nil) rfl nb rfl).sl rV d.lL (fun b o n => (by rw [bP] at n; cases n; exact d.at_ (Mt Mh)))) e5)) (fun i7 d => ?_)))⟩
    have m := d.has.lF (Db (Db (Kb Sn)))
    refine ⟨m, ?_⟩
    obtain rfl := sj z
    replace d := d.Hs
    refine nu kr (Z _ _ ⟨(.slice (some ⟨c1, 0, none⟩) 1 1), [(c1, Ol v 58)], _, (d.lF (Sb (Pr (Pb Pz)) (Sb (Pr (Pb Pz)) (Kr (Db St))))), U, M, Y, F, s, rfl, rfl, rfl, (nm.lit mg (l := [a.lM]) (.cons (ys := C1 a.lM.Op a.lM.K a.lM.lC.lK a.lM.lC.lN g a.lM.Kids.length j) (lI.mk ⟨d9, rfl, T⟩) .nil) rfl nb rfl)⟩)
  ·refine mH (cs := v.toArray) d (oE rfl) (ot aH aC bG) (fun i8 c3 d => ?_)
   have m := d.has.lF (Db (Kb Sn))
   refine ⟨m, (XE 3 rfl (mH (cs := b8.toArray) d (oE rfl) (ot eY eL eQ) (fun i9 f5 d => ?_)))⟩
   have m := d.has.lF (Db (Db (Kb Sn)))
   refine ⟨m, (bS z fun j7 e6 z => XE 4 rfl (Eg d call17 (mo.nz (CP (.slice none 0 0) ([]) (.slice (some ⟨f5, 0, none⟩) 1 1) ([a.Signed]) _ _ (Sl.nil _ _ _) ((nm.lit rV (l := [a.Signed]) (.cons (ys := C4 a.Signed.lD.Kind a.Signed.lD.Head.lK a.Signed.lD.Head.lN a.Signed.lD.mX a.Signed.lD.B.lK a.Signed.lD.B.lN a.Signed.lD.C.lK a.Signed.lD.C.lN a.Signed.lD.mQ t a.Signed.Tag.length u) (oY.mk ⟨g5, rfl, Q⟩) .nil) rfl nb rfl).sl rV d.lL (fun b o n => (by rw [bP] at n; cases n; exact d.at_ Mh))) e6)) (fun j0 d => ?_)))⟩
   have m := d.has.lF (Db (Db (Kb Sn)))
   refine ⟨m, ?_⟩
   obtain rfl := sj z
   replace d := d.perm (Nb (Pb Pz) Nz)
   replace d := d.Hs
   refine nu kr (Z _ _ ⟨(.slice (some ⟨c3, 0, none⟩) 1 1), [(c3, Ol v 58)], _, (d.lF (Sb (Pr (Pb Pz)) (Sb (Pr (Pb Pz)) (Kr (Db St))))), U, M, Y, F, s, rfl, rfl, rfl, (nm.lit mg (l := [a.lM]) (.cons (ys := C1 a.lM.Op a.lM.K a.lM.lC.lK a.lM.lC.lN g a.lM.Kids.length j) (lI.mk ⟨d9, rfl, T⟩) .nil) rfl nb rfl)⟩)
 rintro E W ⟨I, b1, ⟨s, F⟩, d, U, M, Y, H⟩
 rw [aI] at H
 refine lU (mf (sg (V (lO DP U) (VB d Mh rfl rfl lA (V (mV cD rfl G) (Wm (ln ?_)))))))
 replace d := d.lF (Db St)
 refine CJ H (fun R E W => ∃ b6, ST false mD w W (hp w) b6 ∧ E 3 = (.int .i64 R)) (fun R c8 => ?_) ?_
 ·refine mM (fun i E W => ∃ K a2, (E 34 = .int .i64 (i : Nat) ∧ E 33 = .int .i64 (x.mq.length : Nat)) ∧ ST false mD w W (hp w) a2 ∧ E 3 = (.int .i64 K) ∧ E 32 = (.slice A3 x.mq.length c4) ∧ uP (x.mq.drop i) K = some R) x.mq.length G.len ⟨I, _, ⟨rfl, rfl⟩, (d.lF St), M, rfl, c8⟩ dc dc dc (fun _ _ _ h => by obtain ⟨_, _, A, _⟩ := h; exact A) ?_ ?_
  ·rintro f1 E W c6 ⟨K, a2, ⟨s, F⟩, d, a4, a5, k⟩
   obtain ⟨c, g8, d3, d2, d4⟩ := mE c6
   rw [d3] at k
   refine bg (VQ (nS (i := (f1 : Int)) (x0 := c) mZ.out cD dA a5 s G (aF _) d2) (fun h5 ⟨_, ⟨h6, h7, rfl, a9, b0⟩, c9⟩ => V (lJ rfl (mr d.has c9 js dA)) (VE (my d fY (fun g9 h4 d => ?_)))))
   obtain ⟨B, D, rfl⟩ := a9.form
   let d6 := (C1 c.lM.Op c.lM.K c.lM.lC.lK c.lM.lC.lN B c.lM.Kids.length D)
   obtain ⟨a1, a3, rfl⟩ := b0.form
   let c5 := (C6 c.lC.lK c.lC.lN c.lM.Op c.lM.K c.lM.lC.lK c.lM.lC.lN B c.lM.Kids.length D a1 c.nj.length a3)
   refine VO (mj (.agg c5.toArray) (c5.toArray) d rfl rfl dA oc nb rfl (fun h0 d => ln ?_))
   replace d := d.drew
   have m := d.has.lF (Kb Sn)
   refine mT m mB (X 0 rfl m (lP a4) (X 1 rfl m (lO GZ rfl) (X 2 rfl m (lO rn rfl) (XH 3 rfl m (fun _ q => lJ rfl (lX q Mh rfl bO)) (X 4 rfl m (pL bQ rfl) (X 5 rfl m (lO GZ rfl) (X 6 rfl m (lO vS rfl) (XH 7 rfl m (fun _ q => lJ rfl (lX q Mh rfl bO)) (X 8 rfl m (pL bQ rfl) (X 9 rfl m (mP rfl rfl rfl) (X 10 rfl m (lO D9 rfl) (XH 11 rfl m (fun _ q => lJ rfl (lQ q Mh d6 rfl aV aC)) (X 16 rfl m (lO Ea rfl) (XH 17 rfl m (fun _ q => lJ rfl (lX q Mh rfl eH)) ?_))))))))))))))
   refine XE 12 rfl (mH (cs := d6.toArray) d (oE rfl) (ot aH aC bG) (fun h1 d7 d => ?_))
   have m := d.has.lF (Db (Kb Sn))
   refine ⟨m, (bS k fun f2 d0 k => XE 13 rfl (Eg d call50 ((Dc mR) (.slice (some ⟨d7, 0, none⟩) 1 1) ([c.lM]) _ _ ((nm.lit mg (l := [c.lM]) (.cons (ys := C1 c.lM.Op c.lM.K c.lM.lC.lK c.lM.lC.lN B c.lM.Kids.length D) (lI.mk ⟨(.slice B c.lM.Kids.length D), rfl, a9⟩) .nil) rfl nb rfl).sl mg d.lL (fun b o n => (by rw [bP] at n; cases n; exact d.at_ Mh))) d0) (fun h2 d => ?_)))⟩
   have m := d.has.lF (Db (Kb Sn))
   refine ⟨m, (X 14 rfl m (mP rfl rfl rfl) (X 15 rfl m (mP rfl rfl rfl) (bS k fun f3 d1 k => XE 18 rfl (Eg d call18 (mo.nz (AO (.slice a1 c.nj.length a3) c.nj _ _ (b0.mono (Pl.mono _) d.lL) d1)) (fun h3 d => ?_)))))⟩
   have m := d.has.lF (Db (Kb Sn))
   refine ⟨m, (X 19 rfl m (mP rfl rfl rfl) (X 20 rfl m (mP rfl rfl rfl) (X 21 rfl m (oD rfl) (nh kr (mJ (lU ?_))))))⟩
   replace d := d.lF (Db (Db St))
   exact ⟨s, (wi0 .i64 (K + (wi0 .i64 ((wi0 .i64 ((wi0 .i64 ((c.lC.lK.size : Int) + (c.lC.lN.size : Int))) + (wi0 .i64 (20 * f2)))) + f3)))), _, ⟨rfl, F⟩, (d.lF St), rfl, a5, (by rw [d4]; exact k)⟩
  rintro E W ⟨K, a2, ⟨s, F⟩, d, a4, a5, k⟩
  rw [aI] at k
  refine lU ?_
  obtain rfl := sj k
  exact ⟨_, (d.lF St), a4⟩
 rintro h8 E W ⟨b6, d, e0⟩ c7
 exact sg (Wh e0 (Wa (lt (rQ c7 d))))
theorem Mu (a : ng) (g k x H z G : Value) (r : Int) (w : World) (c : Sl mC 15 (hp w) g a.lH.lZ) (j : Sl mZ 8 (hp w) k a.lH.mq) (u : Sl (Pl lE) 9 (hp w) x a.lV) (D : Sl (Pl lE) 9 (hp w) H a.Shown) (y : Sl (Pl lG) 2 (hp w) z a.ml) (B : Sl (Pl lG) 2 (hp w) G a.ms) (hm : AQ a = some r) :
  mo false pg0 16 [(.agg #[(.string a.lH.Name), g, k, (.string a.mU), (.int .i64 a.Room), x, H, z, G])] w (.int .i64 r) := by
 refine cG 45 func16 rfl (fun b => sg ?_)
 obtain ⟨A1, c2, rfl⟩ := c.form
 obtain ⟨A3, q, rfl⟩ := j.form
 obtain ⟨A5, c6, rfl⟩ := u.form
 obtain ⟨A7, c8, rfl⟩ := D.form
 obtain ⟨A9, a5, rfl⟩ := y.form
 obtain ⟨a3, F, rfl⟩ := B.form
 refine VE (mG b rfl (fun e0 e7 b => Wa (ln (mf ?_))))
 replace b := b.drew
 have d := b.has.lF (Kb Sn)
 refine mT d mB (X 0 rfl d (lO wH rfl) (XH 1 rfl d (fun _ m => lJ rfl (lQ m Mh (C7 a.lH.Name A1 a.lH.lZ.length c2 A3 a.lH.mq.length q) rfl gU fE)) (X 3 rfl d (lO HJ rfl) (XH 4 rfl d (fun _ m => lJ rfl (lX m Mh rfl bO)) (X 5 rfl d (pL bQ rfl) (X 7 rfl d (lO D4 rfl) (XH 8 rfl d (fun _ m => lJ rfl (lX m Mh rfl eH)) (X 11 rfl d (lO Ax rfl) (XH 12 rfl d (fun _ m => lJ rfl (lX m Mh rfl eH)) (bS hm fun d0 b4 hm => XE 2 rfl (Eg b call10 (Mi a.lH (.slice A1 a.lH.lZ.length c2) (.slice A3 a.lH.mq.length q) _ _ (c.mono mK.mono b.lL) (j.mono nH.mono b.lL) b4) (fun e1 b => ?_))))))))))))
 have d := b.has.lF (Kb Sn)
 refine ⟨d, (X 6 rfl d (mP rfl rfl rfl) (bS hm fun d1 b5 hm => XE 9 rfl (Eg b call18 (mo.nz (AO (.slice A5 a.lV.length c6) a.lV _ _ (u.mono (Pl.mono _) b.lL) b5)) (fun e2 b => ?_))))⟩
 have d := b.has.lF (Kb Sn)
 refine ⟨d, (X 10 rfl d (mP rfl rfl rfl) (bS hm fun d2 b6 hm => XE 13 rfl (Eg b call18 (mo.nz (AO (.slice A7 a.Shown.length c8) a.Shown _ _ (D.mono (Pl.mono _) b.lL) b6)) (fun e3 b => ?_))))⟩
 have d := b.has.lF (Kb Sn)
 refine ⟨d, (X 14 rfl d (mP rfl rfl rfl) (X 15 rfl d (oD rfl) (nh kr (lU (mf (mf ?_))))))⟩
 replace b := b.drew
 have d := b.has.lF (Kb Sn)
 refine mT d mB (X 1 rfl d (lO Ft rfl) (XH 2 rfl d (fun _ m => lJ rfl (lX m Mh rfl gV)) (X 4 rfl d (lO CK rfl) (XH 5 rfl d (fun _ m => lJ rfl (lX m Mh rfl gV)) (X 8 rfl d (lP rfl) (XE 0 rfl (mH (cs := #[]) b sM (Bf [] aM aG dB dc rfl (by simp) rfl rfl) (fun e4 a4 b => ?_))))))))
 have d := b.has.lF (Db (Kb Sn))
 refine ⟨d, (bS hm fun e8 O hm => XE 3 rfl (oK (enc := lG) (v := (.slice (some ⟨a4, 0, none⟩) 0 0)) (vs := (.slice A9 a.ml.length a5)) (R := [(a4, Ob #[] 50)]) b nF dc pJ aM oz.1 oz.2.1 rfl oz.2.2.1 oz.2.2.2 rfl rfl (mw.lit (l := []) (enc := lG) rfl dc rfl rfl) (y.mono (Pl.mono _) b.lL) O (fun e5 d3 c3 b L => ?_)))⟩
 have d := b.has.lF (Dr (Kb Sn))
 refine ⟨d, (bS hm fun U P hm => XE 6 rfl (oK (enc := lG) (v := d3) (vs := (.slice a3 a.ms.length F)) (R := c3) b nF dc pJ aM oz.1 oz.2.1 rfl oz.2.2.1 oz.2.2.2 rfl rfl L (B.mono (Pl.mono _) b.lL) P (fun e6 d4 c5 b K => ?_)))⟩
 have d := b.has.lF (Dr (Kb Sn))
 refine ⟨d, (X 7 rfl d (oZ aM rfl K) (nh kr (lU ?_)))⟩
 replace b := b.lF (Kr (Db St))
 refine mM (fun i E W => ∃ J M, (E 29 = .int .i64 (i : Nat) ∧ E 28 = .int .i64 (U.length : Nat)) ∧ ST false mD w W (hp w) (c5 ++ M) ∧ E 3 = (.int .i64 J) ∧ E 27 = d4 ∧ uS (U.drop i) J = some r) U.length K.len ⟨(wi0 .i64 ((wi0 .i64 ((wi0 .i64 (d0 + (a.mU.size : Int))) + d1)) + d2)), _, ⟨rfl, rfl⟩, (b.lF St), rfl, rfl, hm⟩ dc dc dc (fun _ _ _ h => by obtain ⟨_, _, o, _⟩ := h; exact o) ?_ ?_
 ·rintro b7 E W Y ⟨J, M, ⟨n, s⟩, b, N, Q, t⟩
  obtain ⟨I, d5, A, T, a2⟩ := mE Y
  rw [A] at t
  refine bg (VQ (oS (i := (b7 : Int)) (x0 := I) aM aG Q n K (aF _) T) (fun d9 Z => V (lJ rfl (qp b.has (fun p hq => (Ml hq)) K nF Z T aT aG)) (VE (my b dB (fun d6 d8 b => VO (mj (.agg (lG I).toArray) ((lG I).toArray) b rfl rfl aG (pJ I) nb rfl (fun d7 b => ln (ma (Wh N (Wf rn (VB b Mh rfl rfl bO (V (pL bQ rfl) (Wi rfl ?_)))))))))))))
  refine Wf vS (VB b Mh rfl rfl bO (V (pL bQ rfl) (Wi rfl (Wi rfl (Wa (mz (mJ (lU ?_))))))))
  replace b := b.lF (Db St)
  exact ⟨n, (wi0 .i64 (J + (wi0 .i64 ((wi0 .i64 (5 + (I.lK.size : Int))) + (I.lN.size : Int))))), _, ⟨rfl, s⟩, (b.lF St), rfl, Q, (by rw [a2]; exact t)⟩
 rintro E W ⟨J, M, ⟨n, s⟩, b, N, Q, t⟩
 rw [aI] at t
 refine lU ?_
 replace b := b.lF (Dr St)
 exact sg (Wh N (Wa (lt (rQ t b))))
theorem yX (t : Value) (y : List lC) (u : Value) (K : List lC) (r : Bool) (w : World) (c : Sl (Pl lG) 2 (hp w) t y) (z : Sl (Pl lG) 2 (hp w) u K) (hm : ri y K = some r) :
  mo true pg0 94 [t, u] w (.bool r) := by
 refine cG 26 func94 rfl (fun d => sg (Wa (lS (Wm (V (mV aM rfl c) (Wm (V (mV aM rfl z) (Wi rfl (mz ?_)))))))))
 refine lU (CI hm rfl (fun U hm => ?_) (fun U hm => ?_))
 ·refine sg (Wa (lt (mL ?_)))
  obtain rfl := sj hm
  exact rP d
 refine kS (Wm (V (mV aM rfl c) (Wm (ln (mM (fun i E W => ∃ g, (E 13 = .int .i64 (i : Nat) ∧ E 12 = .int .i64 (y.length : Nat)) ∧ ST true mD w W (hp w) g ∧ E 0 = t ∧ E 1 = u ∧ ra K (y.drop i) i = some r) y.length c.len ⟨_, ⟨rfl, rfl⟩, (d.lF St), rfl, rfl, hm⟩ dc dc dc (fun _ _ _ h => by obtain ⟨_, m, _⟩ := h; exact m) ?_ ?_)))))
 ·rintro I E W M ⟨g, ⟨l, o⟩, d, j, k, a⟩
  obtain ⟨J, a3, Q, N, T⟩ := mE M
  rw [Q] at a
  refine bg (Wh l (Wa (ln (mf ?_))))
  replace d := d.drew
  have b := d.has.lF Sn
  refine mT b mB (X 0 rfl b (lP j) (X 1 rfl b (lP rfl) (XQ 2 rfl b (og (enc := lG) (i := (I : Int)) (x0 := J) aM aG rfl rfl c (aF _) N) (fun Y G => XH 3 rfl b (fun _ n => lJ rfl (mr n G aT aG)) (X 4 rfl b (lP k) (X 5 rfl b (lP rfl) (bS a fun B x a => XQ 6 rfl b (og (enc := lG) (i := (I : Int)) (x0 := B) aM aG rfl rfl z (mF x) (mA x)) (fun Z H => XH 7 rfl b (fun _ n => lJ rfl (mr n H aT aG)) (X 8 rfl b (Gk rfl rfl (oI dK) (BW (pX _ J B))) (nh kr (lU (CI a rfl (fun D a => ?_) (fun D a => ?_)))))))))))))
  ·refine sg (Wa (lt (nY (mL (nY (mL ?_))))))
   obtain rfl := sj a
   exact rP d
  exact nf (mJ (lU ⟨l, _, ⟨rfl, o⟩, (d.lF St), j, k, (by rw [T]; exact a)⟩))
 rintro E W ⟨g, ⟨l, o⟩, d, j, k, a⟩
 rw [aI] at a
 exact lU (sg (Wa (lt (rQ a d))))
theorem Og (a : ng) (z B J Z K Y : Value) (r : Bool) (w : World) (M : Sl mC 15 (hp w) z a.lH.lZ) (N : Sl mZ 8 (hp w) B a.lH.mq) (t : Sl (Pl lE) 9 (hp w) J a.lV) (I : Sl (Pl lE) 9 (hp w) Z a.Shown) (D : Sl (Pl lG) 2 (hp w) K a.ml) (H : Sl (Pl lG) 2 (hp w) Y a.ms) (hm : Ct a = some r) :
  mo false pg0 80 [(.agg #[(.string a.lH.Name), z, B, (.string a.mU), (.int .i64 a.Room), J, Z, K, Y])] w (.bool r) := by
 refine cG 33 func80 rfl (fun h => sg ?_)
 obtain ⟨A1, c2, rfl⟩ := M.form
 obtain ⟨A3, c4, rfl⟩ := N.form
 obtain ⟨A5, A, rfl⟩ := t.form
 obtain ⟨A7, F, rfl⟩ := I.form
 obtain ⟨A9, a4, rfl⟩ := D.form
 obtain ⟨a3, a5, rfl⟩ := H.form
 let a0 := (C2 a.lH.Name A1 a.lH.lZ.length c2 A3 a.lH.mq.length c4 a.mU a.Room A5 a.lV.length A A7 a.Shown.length F A9 a.ml.length a4 a3 a.ms.length a5)
 refine VE (mG h rfl (fun i8 q h => Wa (ln (mf ?_))))
 replace h := h.drew
 have d := h.has.lF (Kb Sn)
 refine mT d mB (X 0 rfl d (lO D4 rfl) (XH 1 rfl d (fun _ l => lJ rfl (lX l Mh rfl eH)) (X 3 rfl d (lO D4 rfl) (XH 4 rfl d (fun _ l => lJ rfl (lX l Mh rfl eH)) (bS hm fun f5 e4 hm => XE 2 rfl (pA h call52 (xp (.slice A5 a.lV.length A) a.lV _ _ (t.mono (Pl.mono _) h.lL) e4) (fun h2 f9 d2 g8 h c L d7 => ?_)))))))
 have d := h.has.pN c (Dr (Kb Sn))
 refine ⟨d, (bS hm fun i1 e5 hm => XE 5 rfl (Eg h call144 (mo.nz (yY f9 f5 (.slice A5 a.lV.length A) a.lV _ _ (d7.sl nl (fun b o m => h.at_ (Ml m))) (t.mono (Pl.mono _) (c.trans h.lL)) e5)) (fun h3 h => ?_)))⟩
 have d := h.has.pN c (Dr (Kb Sn))
 refine ⟨d, (X 6 rfl d (lP rfl) (PJ hm (fun d1 E W => ∃ n b7, mx d2 n ∧ ST false mD w W n ((q, Ol a0 36) :: b7) ∧ E 1 = (.pointer (some ⟨q, 0, none⟩)) ∧ E 2 = (.bool false) ∧ E 16 = (.bool d1)) (bm 31 16383) 17 ?_ (fun d1 y b0 => ?_)))⟩
 ·rintro i5 E W ⟨n, b7, k, h, s, c1, f2⟩ e1
  have d := h.has.pN (c.trans k) (Kb Sn)
  refine X 14 rfl d (lP f2) (PJ e1 (fun d0 E W => ∃ a2 b9, mx n a2 ∧ ST false mD w W a2 ((q, Ol a0 36) :: b9) ∧ E 1 = (.pointer (some ⟨q, 0, none⟩)) ∧ E 2 = (.bool false) ∧ E 24 = (.bool d0)) (bm 31 4194303) 9 ?_ (fun d0 x a9 => ?_))
  ·rintro i6 E W ⟨a2, b9, G, h, c3, c5, f3⟩ e2
   have d := h.has.pN ((c.trans k).trans G) (Kb Sn)
   refine X 22 rfl d (lP f3) (PJ e2 (fun c9 E W => ∃ v c0, mx a2 v ∧ ST false mD w W v ((q, Ol a0 36) :: c0) ∧ E 2 = (.bool false) ∧ E 32 = (.bool c9)) (bm 31 1073741823) 1 ?_ (fun c9 u a8 => ?_))
   ·rintro i7 E W ⟨v, c0, c7, h, i0, f4⟩ e3
    have d := h.has.pN (((c.trans k).trans G).trans c7) (Kb Sn)
    refine X 30 rfl d (oD f4) (nh kr (lU ?_))
    exact mu (rQ e3 h)
   refine bC u (fun j u => ?_) (fun j u => ?_)
   ·refine Xg 23 rfl rfl (cB j) d (lO CK c3) (rz 24 rfl rfl (cB j) d (fun _ l => lJ rfl (lX l Mh rfl gV)) (Xg 26 rfl rfl (cB j) d (lO CK c3) (rz 27 rfl rfl (cB j) d (fun _ l => lJ rfl (lX l Mh rfl gV)) (bS u fun f6 e6 u => zG 25 rfl rfl (cB j) (pA h call86 (xg (.slice a3 a.ms.length a5) a.ms _ _ (H.mono (Pl.mono _) (((c.trans k).trans G).trans h.lL)) e6) (fun h4 g0 g3 g9 h Q O d8 => ?_))))))
    have d := h.has.pN (((c.trans k).trans G).trans Q) (Dr (Kb Sn))
    refine ⟨d, (bS u fun i2 e7 u => zG 28 rfl rfl (cB j) (Eg h call94 (mo.nz (yX g0 f6 (.slice a3 a.ms.length a5) a.ms _ _ (d8.sl nF (fun b o m => h.at_ (Ml m))) (H.mono (Pl.mono _) ((((c.trans k).trans G).trans Q).trans h.lL)) e7)) (fun h5 h => ?_)))⟩
    have d := h.has.pN (((c.trans k).trans G).trans Q) (Dr (Kb Sn))
    refine ⟨d, (X 29 rfl d (mh (cB j) rfl) ?_)⟩
    obtain rfl := sj u
    refine nu kr (a8 _ _ ⟨g3, _, Q, (h.lF (Dr St)), c5, rfl⟩)
   refine Xn 23 rfl rfl (cB j) d (Xn 24 rfl rfl (cB j) d (Xn 25 rfl rfl (cB j) d (Xn 26 rfl rfl (cB j) d (Xn 27 rfl rfl (cB j) d (Xn 28 rfl rfl (cB j) d (X 29 rfl d (mi (cB j) rfl) ?_))))))
   obtain rfl := sj u
   refine nu kr (a8 _ _ ⟨a2, _, (mx.refl _), (h.lF St), c5, rfl⟩)
  refine bC x (fun i x => ?_) (fun i x => ?_)
  ·refine Xg 15 rfl rfl (cB i) d (lO Ft s) (rz 16 rfl rfl (cB i) d (fun _ l => lJ rfl (lX l Mh rfl gV)) (Xg 18 rfl rfl (cB i) d (lO Ft s) (rz 19 rfl rfl (cB i) d (fun _ l => lJ rfl (lX l Mh rfl gV)) (bS x fun f7 e8 x => zG 17 rfl rfl (cB i) (pA h call86 (xg (.slice A9 a.ml.length a4) a.ml _ _ (D.mono (Pl.mono _) ((c.trans k).trans h.lL)) e8) (fun h6 g1 g4 h0 h T P d9 => ?_))))))
   have d := h.has.pN ((c.trans k).trans T) (Dr (Kb Sn))
   refine ⟨d, (bS x fun i3 e9 x => zG 20 rfl rfl (cB i) (Eg h call94 (mo.nz (yX g1 f7 (.slice A9 a.ml.length a4) a.ml _ _ (d9.sl nF (fun b o m => h.at_ (Ml m))) (D.mono (Pl.mono _) (((c.trans k).trans T).trans h.lL)) e9)) (fun h7 h => ?_)))⟩
   have d := h.has.pN ((c.trans k).trans T) (Dr (Kb Sn))
   refine ⟨d, (X 21 rfl d (mh (cB i) rfl) ?_)⟩
   obtain rfl := sj x
   refine nu kr (a9 _ _ ⟨g4, _, T, (h.lF (Dr St)), s, c1, rfl⟩)
  refine Xn 15 rfl rfl (cB i) d (Xn 16 rfl rfl (cB i) d (Xn 17 rfl rfl (cB i) d (Xn 18 rfl rfl (cB i) d (Xn 19 rfl rfl (cB i) d (Xn 20 rfl rfl (cB i) d (X 21 rfl d (mi (cB i) rfl) ?_))))))
  obtain rfl := sj x
  refine nu kr (a9 _ _ ⟨n, _, (mx.refl _), (h.lF St), s, c1, rfl⟩)
 refine bC y (fun g y => ?_) (fun g y => ?_)
 ·refine Xg 7 rfl rfl (cB g) d (lO Ax rfl) (rz 8 rfl rfl (cB g) d (fun _ l => lJ rfl (lX l Mh rfl eH)) (Xg 10 rfl rfl (cB g) d (lO Ax rfl) (rz 11 rfl rfl (cB g) d (fun _ l => lJ rfl (lX l Mh rfl eH)) (bS y fun f8 f0 y => zG 9 rfl rfl (cB g) (pA h call52 (xp (.slice A7 a.Shown.length F) a.Shown _ _ (I.mono (Pl.mono _) (c.trans h.lL)) f0) (fun h8 g2 g7 h1 h U R e0 => ?_))))))
  have d := h.has.pN (c.trans U) (Dr (Dr (Kb Sn)))
  refine ⟨d, (bS y fun i4 f1 y => zG 12 rfl rfl (cB g) (Eg h call144 (mo.nz (yY g2 f8 (.slice A7 a.Shown.length F) a.Shown _ _ (e0.sl nl (fun b o m => h.at_ (Ml m))) (I.mono (Pl.mono _) ((c.trans U).trans h.lL)) f1)) (fun h9 h => ?_)))⟩
  have d := h.has.pN (c.trans U) (Dr (Dr (Kb Sn)))
  refine ⟨d, (X 13 rfl d (mh (cB g) rfl) ?_)⟩
  obtain rfl := sj y
  refine nu kr (b0 _ _ ⟨g7, _, U, (h.lF (Dr (Dr St))), rfl, rfl, rfl⟩)
 refine Xn 7 rfl rfl (cB g) d (Xn 8 rfl rfl (cB g) d (Xn 9 rfl rfl (cB g) d (Xn 10 rfl rfl (cB g) d (Xn 11 rfl rfl (cB g) d (Xn 12 rfl rfl (cB g) d (X 13 rfl d (mi (cB g) rfl) ?_))))))
 obtain rfl := sj y
 refine nu kr (b0 _ _ ⟨d2, _, (mx.refl _), (h.lF (Dr St)), rfl, rfl, rfl⟩)
theorem CT (a : Value) (g : List lD) (c : Value) (i : lD → Option Bool) (r : Bool) (w : World) (j : Sl (Pl lE) 9 (hp w) a g) (k : Al pg0 c (hp w) (fun (x : lD) => [(.agg (lE x).toArray)]) (fun (r : Bool) => (.bool r)) i) (hm : sQ g i = some r) :
  mo false pg0 81 [a, c] w (.bool r) := by
 refine cG 9 func81 rfl (fun b => sg (Wa (lr (Wm (Wm (bS hm fun y t hm => VE (Eg b call145 (Ai a g c i _ _ (j.mono (Pl.mono _) b.lL) (k.mono b.lL) t) (fun u b => Wi rfl (Wa (mz ?_))))))))))
 exact lU (mu (rQ hm b))
theorem J7 (Q : lD) (T : Nat) (g : ByteArray) (a : Value) (i : List mI) (c : Value) (j : List nx) (J : ByteArray) (K : Int) (t : Value) (u : List lD) (D : Value) (I : List lD) (x : Value) (G : List lC) (B : Value) (H : List lC) (r : Bool) (w : World) (y : Sl mC 15 (hp w) a i) (z : Sl mZ 8 (hp w) c j) (N : Sl (Pl lE) 9 (hp w) t u) (o : Sl (Pl lE) 9 (hp w) D I) (U : Sl (Pl lG) 2 (hp w) x G) (Z : Sl (Pl lG) 2 (hp w) B H) (Y : At (hp w) (.pointer (some ⟨T, 0, none⟩)) [(.string g), a, c, (.string J), (.int .i64 K), t, D, x, B]) (hm : xC Q g i j J K u I G H = some r) :
  mo true pg0 82 [(.agg (lE Q).toArray), (.pointer (some ⟨T, 0, none⟩))] w (.bool r) := by
 refine cG 15 func82 rfl (fun b => sg (VE (mG b rfl (fun W2 v b => Wa (lr (VQ (uq [(.string g), a, c] wH rfl Y rfl) (fun P h => V (lJ rfl (mr b.has h gU fE)) (VA b Mh (lE Q) bD aJ (bS hm fun k l hm => ?_)))))))))
 let a0 := (((k.1).lD).Head)
 refine VE (eD b (bI _) call66 (fun m => (Cx (⟨g, i, j⟩ : lH) a c Q _ _ m (y.mono mK.mono (mx.refl _)) (z.mono nH.mono (mx.refl _)) l)) ?_ (L0 := []))
 rintro _ L n a9 b q d ⟨O, M, rfl, a5⟩
 obtain rfl := M.symm
 refine Wm (Wx rfl (Wx rfl (VE (my b eQ (fun s F b => ?_)))))
 obtain ⟨a2, a3, rfl⟩ := a5.form
 refine VO (mj (.agg #[(.int .i64 (((k.1).lD).Kind)), (.string (a0.lK)), (.string (a0.lN)), (.string (((k.1).lD).mX)), (.string ((((k.1).lD).B).lK)), (.string ((((k.1).lD).B).lN)), (.string ((((k.1).lD).C).lK)), (.string ((((k.1).lD).C).lN)), (.string (((k.1).lD).mQ)), (.slice a2 ((k.1).Tag).length a3)]) (#[(.int .i64 (((k.1).lD).Kind)), (.string (a0.lK)), (.string (a0.lN)), (.string (((k.1).lD).mX)), (.string ((((k.1).lD).B).lK)), (.string ((((k.1).lD).B).lN)), (.string ((((k.1).lD).C).lK)), (.string ((((k.1).lD).C).lN)), (.string (((k.1).lD).mQ)), (.slice a2 ((k.1).Tag).length a3)]) b rfl rfl eL oc nb rfl (fun A b => Wa (ln ?_)))
 replace b := b.lF (Db (Db St))
 exact sg (Wm (V (oy rfl) (Wa (lt (rQ hm b)))))
theorem Ni (a : ng) (t u H T J Q : Value) (r : Bool) (w : World) (c : Sl mC 15 (hp w) t a.lH.lZ) (g : Sl mZ 8 (hp w) u a.lH.mq) (i : Sl (Pl lE) 9 (hp w) H a.lV) (j : Sl (Pl lE) 9 (hp w) T a.Shown) (y : Sl (Pl lG) 2 (hp w) J a.ml) (z : Sl (Pl lG) 2 (hp w) Q a.ms) (hm : BE a = some r) :
  mo false pg0 26 [(.agg #[(.string a.lH.Name), t, u, (.string a.mU), (.int .i64 a.Room), H, T, J, Q])] w (.bool r) := by
 refine cG 33 func26 rfl (fun b => sg ?_)
 obtain ⟨A1, c2, rfl⟩ := c.form
 let a4 : Value := (.slice A1 a.lH.lZ.length c2)
 obtain ⟨A3, q, rfl⟩ := g.form
 let a5 : Value := (.slice A3 a.lH.mq.length q)
 obtain ⟨A5, s, rfl⟩ := i.form
 obtain ⟨A7, c8, rfl⟩ := j.form
 let l : Value := (.slice A7 a.Shown.length c8)
 obtain ⟨A9, Y, rfl⟩ := y.form
 obtain ⟨U, Z, rfl⟩ := z.form
 let a0 := (C2 a.lH.Name A1 a.lH.lZ.length c2 A3 a.lH.mq.length q a.mU a.Room A5 a.lV.length s A7 a.Shown.length c8 A9 a.ml.length Y U a.ms.length Z)
 refine VE (mG b rfl (fun e5 I b => Wa (lS (Wf wH (VA b Mh (C7 a.lH.Name A1 a.lH.lZ.length c2 A3 a.lH.mq.length q) gU fE (bS hm fun f0 d7 hm => VE (Eg b call79 (Gt a.lH a4 a5 _ _ (c.mono mK.mono b.lL) (g.mono nH.mono b.lL) d7) (fun e6 b => Wi rfl (Wm (LJ hm (fun d2 E W => ∃ O, ST false mD w W (hp w) ((I, Ol a0 36) :: O) ∧ E 1 = (.pointer (some ⟨I, 0, none⟩)) ∧ E 12 = (.bool d2)) 5 ?_ (fun d2 N L => ?_)))))))))))
 ·let a3 : Value := (.pointer (some ⟨I, 0, none⟩))
  rintro f4 E W ⟨O, b, m, e1⟩ d4
  refine Wh e1 (LJ d4 (fun d1 E W => ∃ c1, ST false mD w W (hp w) ((I, Ol a0 36) :: c1) ∧ E 1 = a3 ∧ E 17 = (.bool d1)) 4 ?_ (fun d1 a2 F => ?_))
  ·rintro f5 E W ⟨c1, b, n, e2⟩ d5
   refine Wh e2 (LJ d5 (fun d0 E W => ∃ P, ST false mD w W (hp w) ((I, Ol a0 36) :: P) ∧ E 1 = a3 ∧ E 22 = (.bool d0)) 4 ?_ (fun d0 h A => ?_))
   ·rintro f6 E W ⟨P, b, o, e3⟩ d6
    refine Wh e3 (LJ d6 (fun c9 E W => ∃ R, ST false mD w W (hp w) ((I, Ol a0 36) :: R) ∧ E 1 = a3 ∧ E 27 = (.bool c9)) 4 ?_ (fun c9 M v => ?_))
    ·rintro f7 E W ⟨R, b, c7, e4⟩ K
     refine ln (CI K e4 (fun d3 K => ?_) (fun d3 K => ?_))
     ·refine sg (Wa (ln ?_))
      replace b := b.lF (Db St)
      refine mu (mL ?_)
      obtain rfl := sj K
      exact rP b
     refine kg (V (lO Ax c7) (VB b Mh rfl rfl eH (V (qz (by exact vc c7) rfl) (bS K fun f1 d8 K => VE (Eg b call81 (CT l a.Shown (.func (.func 82) #[] #[a3]) (fun (x : lD) => xC x a.lH.Name a.lH.lZ a.lH.mq a.mU a.Room a.lV a.Shown a.ml a.ms) _ _ (j.mono (Pl.mono _) b.lL) ⟨82, #[], #[a3], rfl, call82, fun W x r d hm => (J7 x I a.lH.Name a4 a.lH.lZ a5 a.lH.mq a.mU a.Room (.slice A5 a.lV.length s) a.lV l a.Shown (.slice A9 a.ml.length Y) a.ml (.slice U a.ms.length Z) a.ms r W (c.mono mK.mono (b.lL.trans d)) (g.mono nH.mono (b.lL.trans d)) (i.mono (Pl.mono _) (b.lL.trans d)) (j.mono (Pl.mono _) (b.lL.trans d)) (y.mono (Pl.mono _) (b.lL.trans d)) (z.mono (Pl.mono _) (b.lL.trans d)) (At.of (d _ _ (b.at_ Mh)) _ rfl) hm).nz⟩ d8) (fun e7 b => V (oy rfl) (Wa (ln ?_))))))))
     exact mu (rQ K b)
    refine bC M (fun G M => ?_) (fun G M => ?_)
    ·refine un G (un G (un G (V (mh (cB G) rfl) ?_)))
     obtain rfl := sj M
     exact v _ _ ⟨_, (b.lF St), o, rfl⟩
    refine ug G (lJ o (lQ b.has Mh a0 rfl dX dD)) (bS M fun f2 d9 M => sa G (Eg b call80 (Og a a4 a5 (.slice A5 a.lV.length s) l (.slice A9 a.ml.length Y) (.slice U a.ms.length Z) _ _ (c.mono mK.mono b.lL) (g.mono nH.mono b.lL) (i.mono (Pl.mono _) b.lL) (j.mono (Pl.mono _) b.lL) (y.mono (Pl.mono _) b.lL) (z.mono (Pl.mono _) b.lL) d9) (fun e8 b => ug G (oy rfl) (V (mi (cB G) rfl) ?_))))
    obtain rfl := sj M
    exact v _ _ ⟨_, (b.lF St), o, rfl⟩
   refine bC h (fun D h => ?_) (fun D h => ?_)
   ·refine un D (un D (un D (V (mh (cB D) rfl) ?_)))
    obtain rfl := sj h
    exact A _ _ ⟨_, (b.lF St), n, rfl⟩
   refine ug D (lO RO n) (ug D (lJ rfl (lX b.has Mh rfl cH)) (ug D (mP rfl rfl rfl) (V (mi (cB D) rfl) ?_)))
   obtain rfl := sj h
   exact A _ _ ⟨_, (b.lF St), n, rfl⟩
  refine bC a2 (fun B a2 => ?_) (fun B a2 => ?_)
  ·refine un B (un B (un B (V (mh (cB B) rfl) ?_)))
   obtain rfl := sj a2
   exact F _ _ ⟨_, (b.lF St), m, rfl⟩
  refine ug B (lO RO m) (ug B (lJ rfl (lX b.has Mh rfl cH)) (ug B (mP rfl rfl rfl) (V (mi (cB B) rfl) ?_)))
  obtain rfl := sj a2
  exact F _ _ ⟨_, (b.lF St), m, rfl⟩
 refine bC N (fun k N => ?_) (fun k N => ?_)
 ·refine un k (un k (un k (un k (V (mh (cB k) rfl) ?_))))
  obtain rfl := sj N
  exact L _ _ ⟨_, (b.lF St), rfl, rfl⟩
 refine ug k (lO HJ rfl) (ug k (lJ rfl (lX b.has Mh rfl bO)) (bS N fun f3 e0 N => sa k (Eg b call57 (mo.nz (vj a.mU _ _  e0)) (fun e9 b => ug k (oy rfl) (V (mi (cB k) rfl) ?_)))))
 obtain rfl := sj N
 exact L _ _ ⟨_, (b.lF St), rfl, rfl⟩
theorem yM (M : ByteArray) (r : Bool) (w : World) (hm : ul M = some r) :
  mo true pg0 265 [(.string M)] w (.bool r) := by
 refine cG 49 func265 rfl (fun b => sg (Wa (lS (Wm (V (ux rfl rfl rfl) (Wm (LJ hm (fun c7 E W => ∃ L3, ST true mD w W (hp w) L3 ∧ E 0 = (.string M) ∧ E 11 = (.bool c7)) 4 ?_ (fun c7 K a5 => ?_))))))))
 ·rintro x2 E W ⟨L3, b, o, e6⟩ f7
  refine Wh e6 (LJ f7 (fun c6 E W => ∃ d3, ST true mD w W (hp w) d3 ∧ E 0 = (.string M) ∧ E 16 = (.bool c6)) 4 ?_ (fun c6 x a4 => ?_))
  ·rintro g4 E W ⟨d3, b, n, f4⟩ f0
   refine Wh f4 (LJ f0 (fun c5 E W => ∃ d4, ST true mD w W (hp w) d4 ∧ E 0 = (.string M) ∧ E 21 = (.bool c5)) 4 ?_ (fun c5 u a3 => ?_))
   ·rintro g7 E W ⟨d4, b, f5, f6⟩ Q
    refine ln (CI Q f6 (fun e9 Q => ?_) (fun e9 Q => ?_))
    ·refine sg (Wa (lt (mL ?_)))
     obtain rfl := sj Q
     exact rP b
    refine kS (Wa (ln (nL (pn (fun m E W => ∃ y A, ST true mD w W (hp w) A ∧ E 0 = (.string M) ∧ E 3 = (.int .i64 y) ∧ sU M m y = some r) mR ⟨0, _, (b.lF St), f5, rfl, Q⟩ ?_))))
    rintro m E W ⟨y, A, b, T, U, c⟩
    cases m with
    | zero => rw [sU] at c; cases c
    | succ f1 =>
     refine mf (sg (Wh U (Wh T (V (pL bQ rfl) (Wi rfl (ln (CI c rfl (fun c8 c => ?_) (fun c8 c => ?_))))))))
     ·refine kn (mf (bg (Wh T (Wh U (bS c fun d a9 c => V (Du (i := y) bQ rfl rfl (Cu a9) (F9 a9)) (Wa (lr ?_)))))))
      refine Wm (Wi rfl (Wm (LJ c (fun c4 E W => ∃ F, ST true mD w W (hp w) F ∧ E 0 = (.string M) ∧ E 3 = (.int .i64 y) ∧ E 4 = (.int .u8 (d.toNat : Int)) ∧ E 36 = (.bool c4)) 3 ?_ (fun c4 J a2 => ?_))))
      ·rintro f2 E W ⟨F, b, h, l, N, d5⟩ d0
       refine Wh d5 (LJ d0 (fun c2 E W => ∃ L, ST true mD w W (hp w) L ∧ E 0 = (.string M) ∧ E 3 = (.int .i64 y) ∧ E 4 = (.int .u8 (d.toNat : Int)) ∧ E 44 = (.bool c2)) 7 ?_ (fun c2 H Z => ?_))
       ·rintro g1 E W ⟨L, b, R, c0, d6, d7⟩ d1
        refine Wh d7 (LJ d1 (fun c1 E W => ∃ O, ST true mD w W (hp w) O ∧ E 0 = (.string M) ∧ E 3 = (.int .i64 y) ∧ E 48 = (.bool c1)) 3 ?_ (fun c1 G Y => ?_))
        ·rintro g2 E W ⟨O, b, d8, d9, e0⟩ D
         refine ln (CI D e0 (fun c9 D => ?_) (fun c9 D => ?_))
         ·refine sg (Wa (lt (nY (mL (mL (nY (mL ?_)))))))
          obtain rfl := sj D
          exact rP b
         exact nf (mJ (lU (ma (Wh d9 (Wi rfl (Wa (ln ⟨f1, bF _, (wi0 .i64 (y + 1)), _, (b.lF St), d8, rfl, D⟩)))))))
        refine bC G (fun k G => ?_) (fun k G => ?_)
        ·refine ug k (lP d6) (ug k (mP rfl rfl rfl) (V (mh (cB k) rfl) ?_))
         obtain rfl := sj G
         exact Y _ _ ⟨_, (b.lF St), R, c0, rfl⟩
        refine un k (un k (V (mi (cB k) rfl) ?_))
        obtain rfl := sj G
        exact Y _ _ ⟨_, (b.lF St), R, c0, rfl⟩
       refine bC H (fun a H => ?_) (fun a H => ?_)
       ·refine ug a (lP N) (ug a (mP rfl rfl rfl) (ug a (lP rfl) (LJ H (fun c3 E W => ∃ P, ST true mD w W (hp w) P ∧ E 0 = (.string M) ∧ E 3 = (.int .i64 y) ∧ E 4 = (.int .u8 (d.toNat : Int)) ∧ E 37 = (.bool f2) ∧ E 43 = (.bool c3)) 3 ?_ (fun c3 I q => ?_))))
        ·rintro g3 E W ⟨P, b, e1, e2, e3, e4, e7⟩ d2
         refine V (mh (e4.trans (cB a)) e7) ?_
         obtain rfl := sj d2
         exact Z _ _ ⟨_, (b.lF St), e1, e2, e3, rfl⟩
        refine bC I (fun t I => ?_) (fun t I => ?_)
        ·refine un t (un t (ug a (mh (cB t) rfl) ?_))
         obtain rfl := sj I
         exact q _ _ ⟨_, (b.lF St), h, l, N, rfl, rfl⟩
        refine ug t (lP N) (ug t (mP rfl rfl rfl) (ug a (mi (cB t) rfl) ?_))
        obtain rfl := sj I
        exact q _ _ ⟨_, (b.lF St), h, l, N, rfl, rfl⟩
       refine un a (un a (un a (Vu rfl rfl (Vu rfl rfl (un a (V (mi (cB a) rfl) ?_))))))
       obtain rfl := sj H
       exact Z _ _ ⟨_, (b.lF St), h, l, N, rfl⟩
      refine bC J (fun j J => ?_) (fun j J => ?_)
      ·refine un j (un j (V (mh (cB j) rfl) ?_))
       obtain rfl := sj J
       exact a2 _ _ ⟨_, (b.lF St), T, U, rfl, rfl⟩
      refine ug j (lP rfl) (ug j (mP rfl rfl rfl) (V (mi (cB j) rfl) ?_))
      obtain rfl := sj J
      exact a2 _ _ ⟨_, (b.lF St), T, U, rfl, rfl⟩
     exact pk (oR (oR (tE (lU (sg (Wa (lt (rQ c b))))))))
   refine bC u (fun g u => ?_) (fun g u => ?_)
   ·refine un g (un g (un g (V (mh (cB g) rfl) ?_)))
    obtain rfl := sj u
    exact a3 _ _ ⟨_, (b.lF St), n, rfl⟩
   refine ug g (lP n) (bS u fun f8 s u => ug g (Du (i := 0) bQ rfl rfl (Cu s) (F9 s)) (ug g (mP rfl rfl rfl) (V (mi (cB g) rfl) ?_)))
   obtain rfl := sj u
   exact a3 _ _ ⟨_, (b.lF St), n, rfl⟩
  refine bC x (fun B x => ?_) (fun B x => ?_)
  ·refine un B (un B (un B (V (mh (cB B) rfl) ?_)))
   obtain rfl := sj x
   exact a4 _ _ ⟨_, (b.lF St), o, rfl⟩
  refine ug B (lP o) (bS x fun f9 v x => ug B (Du (i := 0) bQ rfl rfl (Cu v) (F9 v)) (ug B (mP rfl rfl rfl) (V (mi (cB B) rfl) ?_)))
  obtain rfl := sj x
  exact a4 _ _ ⟨_, (b.lF St), o, rfl⟩
 refine bC K (fun z K => ?_) (fun z K => ?_)
 ·refine un z (un z (un z (V (mh (cB z) rfl) ?_)))
  obtain rfl := sj K
  exact a5 _ _ ⟨_, (b.lF St), rfl, rfl⟩
 refine ug z (lP rfl) (ug z (pL bQ rfl) (ug z (mP rfl rfl rfl) (V (mi (cB z) rfl) ?_)))
 obtain rfl := sj K
 exact a5 _ _ ⟨_, (b.lF St), rfl, rfl⟩
theorem AK (i : lC) (r : Bool) (w : World) (hm : vR i = some r) :
  mo true pg0 216 [(.agg (lG i).toArray)] w (.bool r) := by
 refine cG 11 func216 rfl (fun b => sg (VE (mG b rfl (fun H J b => Wa (lr (Wf rn (VB b Mh rfl rfl bO (bS hm fun K y hm => VE (Eg b call265 (yM i.lK _ _  y) (fun I b => Wm (LJ hm (fun k E W => ∃ j, ST true mD w W (hp w) j ∧ E 2 = (.bool false) ∧ E 10 = (.bool k)) 4 ?_ (fun k a g => ?_))))))))))))
 ·rintro G E W ⟨j, b, B, x⟩ t
  exact Wg x (lt (rQ t b))
 refine bC a (fun c a => ?_) (fun c a => ?_)
 ·refine ug c (lO vS rfl) (ug c (lJ rfl (lX b.has Mh rfl bO)) (bS a fun D u a => sa c (Eg b call265 (yM i.lN _ _  u) (fun z b => V (mh (cB c) rfl) ?_))))
  obtain rfl := sj a
  exact g _ _ ⟨_, (b.lF (Db St)), rfl, rfl⟩
 refine un c (un c (un c (V (mi (cB c) rfl) ?_)))
 obtain rfl := sj a
 exact g _ _ ⟨_, (b.lF (Db St)), rfl, rfl⟩
theorem Hi (t u : lC) (r : Bool) (w : World) (hm : zw t u = some r) :
  mo true pg0 297 [(.agg (lG t).toArray), (.agg (lG u).toArray)] w (.bool r) := by
 refine cG 24 func297 rfl (fun b => sg (VE (mG b rfl (fun T Y b => VE (mG b rfl (fun U Z b => Wa (lr (Wf rn (VB b (Mt Mh) rfl rfl bO (Wf rn (VB b Mh rfl rfl bO (V (ux rfl rfl rfl) ?_))))))))))))
 refine Wm (LJ hm (fun z E W => ∃ x, ST true mD w W (hp w) x ∧ E 4 = (.bool false) ∧ E 23 = (.bool z)) 13 ?_ (fun z g j => ?_))
 ·rintro N E W ⟨x, b, M, H⟩ D
  exact Wg H (lt (rQ D b))
 refine bC g (fun a g => ?_) (fun a g => ?_)
 ·refine un a (un a (un a (un a (un a (un a (Vu rfl rfl (Vu rfl rfl (Vu rfl rfl (Vu rfl rfl (Vu rfl rfl (un a (V (mh (cB a) rfl) ?_))))))))))))
  obtain rfl := sj g
  exact j _ _ ⟨_, (b.lF (Db (Db St))), rfl, rfl⟩
 refine ug a (lO rn rfl) (ug a (lJ rfl (lX b.has (Mt Mh) rfl bO)) (ug a (lO rn rfl) (ug a (lJ rfl (lX b.has Mh rfl bO)) (ug a (ux rfl rfl rfl) (ug a (lP rfl) (LJ g (fun B E W => ∃ y, ST true mD w W (hp w) y ∧ E 4 = (.bool false) ∧ E 10 = (.bool (tp t.lK u.lK)) ∧ E 22 = (.bool B)) 6 ?_ (fun B i k => ?_)))))))
 ·rintro Q E W ⟨y, b, I, J, K⟩ G
  refine V (mi (J.trans (cB a)) K) ?_
  obtain rfl := sj G
  exact j _ _ ⟨_, (b.lF St), I, rfl⟩
 refine bC i (fun c i => ?_) (fun c i => ?_)
 ·refine ug c (lO vS rfl) (ug c (lJ rfl (lX b.has (Mt Mh) rfl bO)) (ug c (lO vS rfl) (ug c (lJ rfl (lX b.has Mh rfl bO)) (ug c (ux rfl rfl rfl) (ug a (mh (cB c) rfl) ?_)))))
  obtain rfl := sj i
  exact k _ _ ⟨_, (b.lF (Db (Db St))), rfl, rfl, rfl⟩
 refine un c (un c (un c (un c (un c (ug a (mi (cB c) rfl) ?_)))))
 obtain rfl := sj i
 exact k _ _ ⟨_, (b.lF (Db (Db St))), rfl, rfl, rfl⟩
theorem GD (g : lD) (r : Bool) (w : World) (hm : yO g = some r) :
  mo true pg0 261 [(.agg (lE g).toArray)] w (.bool r) := by
 refine cG 93 func261 rfl (fun b => sg (VE (mG b rfl (fun W2 M b => Wa (lr (VE (my b dB (fun W4 h b => lS ?_))))))))
 refine Wf sD (VA b (Mt Mh) (lG g.Head) aT aG (bS hm fun r5 h4 hm => VE (Eg b call216 (AK g.Head _ _  h4) (fun W7 b => V (oy rfl) (ln (CI hm rfl (fun h2 hm => ?_) (fun h2 hm => ?_)))))))
 ·refine sg (Wa (ln ?_))
  replace b := b.lF (Db (Db St))
  refine mu (mL ?_)
  obtain rfl := sj hm
  exact rP b
 refine kS (Wf sx (VB b (Mt Mh) rfl rfl cH (Wi rfl (ln (CI hm rfl (fun h3 hm => ?_) (fun h3 hm => ?_))))))
 ·refine sg (Wf zz (VB b (Mt Mh) rfl rfl bO (bS hm fun i6 f7 hm => VE (Eg b call265 (yM g.mX _ _  f7) (fun i3 b => Wm (LJ hm (fun e1 E W => ∃ R, ST true mD w W (hp w) ((h, Ol (lG K0) 50) :: ((M, Ol (lE g) 52) :: R)) ∧ E 1 = (.pointer (some ⟨M, 0, none⟩)) ∧ E 2 = (.bool false) ∧ E 3 = (.pointer (some ⟨h, 0, none⟩)) ∧ E 19 = (.bool e1)) 5 ?_ (fun e1 T o => ?_)))))))
  ·rintro i8 E W ⟨R, b, l, d6, f9, g0⟩ f0
   refine Wh g0 (LJ f0 (fun e0 E W => ∃ c9, ST true mD w W (hp w) ((M, Ol (lE g) 52) :: c9) ∧ E 1 = (.pointer (some ⟨M, 0, none⟩)) ∧ E 2 = (.bool false) ∧ E 25 = (.bool e0)) 5 ?_ (fun e0 Q a5 => ?_))
   ·rintro i9 E W ⟨c9, b, g1, d7, g2⟩ f1
    refine Wh g2 (LJ f1 (fun d9 E W => ∃ d0, ST true mD w W (hp w) d0 ∧ E 2 = (.bool false) ∧ E 30 = (.bool d9)) 4 ?_ (fun d9 N a4 => ?_))
    ·rintro j0 E W ⟨d0, b, i5, g3⟩ f2
     refine Wg g3 (lt (mL ?_))
     obtain rfl := sj f2
     exact rP b
    refine bC N (fun x N => ?_) (fun x N => ?_)
    ·refine ug x (lO wK g1) (ug x (lJ rfl (lX b.has Mh rfl bO)) (ug x (ux rfl rfl rfl) (V (mh (cB x) rfl) ?_)))
     obtain rfl := sj N
     exact a4 _ _ ⟨_, (b.lF (Db St)), d7, rfl⟩
    refine un x (un x (un x (V (mi (cB x) rfl) ?_)))
    obtain rfl := sj N
    exact a4 _ _ ⟨_, (b.lF (Db St)), d7, rfl⟩
   refine bC Q (fun k Q => ?_) (fun k Q => ?_)
   ·refine ug k (lO vk l) (ug k (lJ rfl (lQ b.has (Mt Mh) (lG g.C) rfl aT aG)) (ug k (lJ f9 (lQ b.has Mh (lG K0) rfl aT aG)) (ug k (vx rfl rfl (oI dK) (rA (pX _ g.C K0))) (V (mh (cB k) rfl) ?_))))
    obtain rfl := sj Q
    exact a5 _ _ ⟨_, (b.lF (Db St)), l, d6, rfl⟩
   refine un k (un k (un k (un k (V (mi (cB k) rfl) ?_))))
   obtain rfl := sj Q
   exact a5 _ _ ⟨_, (b.lF (Db St)), l, d6, rfl⟩
  refine bC T (fun j T => ?_) (fun j T => ?_)
  ·refine ug j (lO pK rfl) (ug j (lJ rfl (lQ b.has (Mt Mh) (lG g.B) rfl aT aG)) (ug j (lJ rfl (lQ b.has Mh (lG K0) rfl aT aG)) (ug j (vx rfl rfl (oI dK) (rA (pX _ g.B K0))) (V (mh (cB j) rfl) ?_))))
   obtain rfl := sj T
   exact o _ _ ⟨_, (b.lF St), rfl, rfl, rfl, rfl⟩
  refine un j (un j (un j (un j (V (mi (cB j) rfl) ?_))))
  obtain rfl := sj T
  exact o _ _ ⟨_, (b.lF St), rfl, rfl, rfl, rfl⟩
 let a0 := ((lE g).toArray : Array Value)
 let d : Value := (.pointer (some ⟨M, 0, none⟩))
 refine kS (Wf zz (VB b (Mt Mh) rfl rfl bO (V (ux rfl rfl rfl) (Wm (LJ hm (fun c1 E W => ∃ d1, ST true mD w W (hp w) ((h, Ol (lG K0) 50) :: ((M, Obj.cells a0 52 (0, 0)) :: d1)) ∧ E 1 = d ∧ E 3 = (.pointer (some ⟨h, 0, none⟩)) ∧ E 39 = (.bool c1)) 5 ?_ (fun c1 I a3 => ?_))))))
 ·rintro j3 E W ⟨d1, b, u, d8, g4⟩ i
  refine ln (CI i g4 (fun e7 i => ?_) (fun e7 i => ?_))
  ·refine sg (Wa (ln ?_))
   replace b := b.lF (Db (Db St))
   refine mu (mL ?_)
   obtain rfl := sj i
   exact rP b
  refine kS (V (lO sx u) (VB b (Mt Mh) rfl rfl cH (Wi rfl (ln (CI i rfl (fun e8 i => ?_) (fun e8 i => ?_))))))
  ·refine sg (V (lO vk u) (VA b (Mt Mh) (lG g.C) aT aG (V (lJ d8 (lQ b.has Mh (lG K0) rfl aT aG)) (V (vx rfl rfl (oI dK) (rA (pX _ g.C K0))) (Wm (LJ i (fun e2 E W => ∃ d2, ST true mD w W (hp w) d2 ∧ E 51 = (.bool e2)) 4 ?_ (fun e2 U q => ?_)))))))
   ·rintro j4 E W ⟨d2, b, g7⟩ f3
    refine Wg g7 (lt (mL ?_))
    obtain rfl := sj f3
    exact rP b
   refine bC U (fun y U => ?_) (fun y U => ?_)
   ·refine ug y (lO wK u) (ug y (lJ rfl (lX b.has (Mt Mh) rfl bO)) (ug y (ux rfl rfl rfl) (V (mh (cB y) rfl) ?_)))
    obtain rfl := sj U
    exact q _ _ ⟨_, (b.lF (Db (Db St))), rfl⟩
   refine un y (un y (un y (V (mi (cB y) rfl) ?_)))
   obtain rfl := sj U
   exact q _ _ ⟨_, (b.lF (Db (Db St))), rfl⟩
  refine kS (V (lO sx u) (VB b (Mt Mh) rfl rfl cH (Wi rfl (ln (CI i rfl (fun e9 i => ?_) (fun e9 i => ?_))))))
  ·refine sg (V (lO vk u) (VA b (Mt Mh) (lG g.C) aT aG (V (lJ d8 (lQ b.has Mh (lG K0) rfl aT aG)) (V (vx rfl rfl (oI dK) (rA (pX _ g.C K0))) (Wm (LJ i (fun e4 E W => ∃ d3, ST true mD w W (hp w) ((M, Obj.cells a0 52 (0, 0)) :: d3) ∧ E 1 = d ∧ E 67 = (.bool e4)) 8 ?_ (fun e4 Y a9 => ?_)))))))
   ·rintro j5 E W ⟨d3, b, g8, g9⟩ f4
    refine Wh g9 (LJ f4 (fun e3 E W => ∃ d4, ST true mD w W (hp w) d4 ∧ E 72 = (.bool e3)) 4 ?_ (fun e3 J s => ?_))
    ·rintro j6 E W ⟨d4, b, h0⟩ f5
     refine Wg h0 (lt (mL ?_))
     obtain rfl := sj f5
     exact rP b
    refine bC J (fun z J => ?_) (fun z J => ?_)
    ·refine ug z (lO wK g8) (ug z (lJ rfl (lX b.has Mh rfl bO)) (bS J fun i7 f8 J => sa z (Eg b call265 (yM g.mQ _ _  f8) (fun i4 b => V (mh (cB z) rfl) ?_))))
     obtain rfl := sj J
     exact s _ _ ⟨_, (b.lF (Db St)), rfl⟩
    refine un z (un z (un z (V (mi (cB z) rfl) ?_)))
    obtain rfl := sj J
    exact s _ _ ⟨_, (b.lF (Db St)), rfl⟩
   refine bC Y (fun a Y => ?_) (fun a Y => ?_)
   ·refine ug a (lO pK u) (ug a (lO rn rfl) (ug a (lJ rfl (lX b.has (Mt Mh) rfl bO)) (ug a (lO sD u) (ug a (lO rn rfl) (ug a (lJ rfl (lX b.has (Mt Mh) rfl bO)) (ug a (ux rfl rfl rfl) (V (mh (cB a) rfl) ?_)))))))
    obtain rfl := sj Y
    exact a9 _ _ ⟨_, (b.lF (Db St)), u, rfl⟩
   refine un a (un a (un a (un a (un a (un a (un a (V (mi (cB a) rfl) ?_)))))))
   obtain rfl := sj Y
   exact a9 _ _ ⟨_, (b.lF (Db St)), u, rfl⟩
  refine kn ?_
  replace b := b.lF (Db St)
  refine sg (V (lO sx u) (VB b Mh rfl rfl cH (Wi rfl (Wm (LJ i (fun P E W => ∃ d5, ST true mD w W (hp w) ((M, Obj.cells a0 52 (0, 0)) :: d5) ∧ E 1 = d ∧ E 80 = (.bool P)) 4 ?_ (fun P K a2 => ?_))))))
  ·rintro j7 E W ⟨d5, b, m, h1⟩ f6
   refine Wh h1 (LJ f6 (fun O E W => ∃ v, ST true mD w W (hp w) ((M, Obj.cells a0 52 (0, 0)) :: v) ∧ E 1 = d ∧ E 85 = (.bool O)) 4 ?_ (fun O H n => ?_))
   ·rintro i1 E W ⟨v, b, F, e5⟩ c3
    refine Wh e5 (LJ c3 (fun L E W => ∃ A, ST true mD w W (hp w) A ∧ E 92 = (.bool L)) 6 ?_ (fun L G Z => ?_))
    ·rintro i2 E W ⟨A, b, e6⟩ c4
     exact Wg e6 (lt (rQ c4 b))
    refine bC G (fun c G => ?_) (fun c G => ?_)
    ·refine ug c (lO pK F) (ug c (lJ rfl (lQ b.has Mh (lG g.B) rfl aT aG)) (ug c (lO vk F) (ug c (lJ rfl (lQ b.has Mh (lG g.C) rfl aT aG)) (bS G fun h8 c5 G => sa c (Eg b call297 (Hi g.B g.C _ _  c5) (fun h5 b => V (mh (cB c) rfl) ?_))))))
     obtain rfl := sj G
     exact Z _ _ ⟨_, (b.lF (Db St)), rfl⟩
    refine un c (un c (un c (un c (un c (V (mi (cB c) rfl) ?_)))))
    obtain rfl := sj G
    exact Z _ _ ⟨_, (b.lF (Db St)), rfl⟩
   refine bC H (fun D H => ?_) (fun D H => ?_)
   ·refine ug D (lO vk m) (ug D (lJ rfl (lQ b.has Mh (lG g.C) rfl aT aG)) (bS H fun h9 c6 H => sa D (Eg b call216 (AK g.C _ _  c6) (fun h6 b => V (mh (cB D) rfl) ?_))))
    obtain rfl := sj H
    exact n _ _ ⟨_, (b.lF St), m, rfl⟩
   refine un D (un D (un D (V (mi (cB D) rfl) ?_)))
   obtain rfl := sj H
   exact n _ _ ⟨_, (b.lF St), m, rfl⟩
  refine bC K (fun B K => ?_) (fun B K => ?_)
  ·refine ug B (lO wK u) (ug B (lJ rfl (lX b.has Mh rfl bO)) (ug B (ux rfl rfl rfl) (V (mh (cB B) rfl) ?_)))
   obtain rfl := sj K
   exact a2 _ _ ⟨_, (b.lF St), u, rfl⟩
  refine un B (un B (un B (V (mi (cB B) rfl) ?_)))
  obtain rfl := sj K
  exact a2 _ _ ⟨_, (b.lF St), u, rfl⟩
 refine bC I (fun t I => ?_) (fun t I => ?_)
 ·refine un t (un t (un t (un t (V (mh (cB t) rfl) ?_))))
  obtain rfl := sj I
  exact a3 _ _ ⟨_, (b.lF St), rfl, rfl, rfl⟩
 refine ug t (lO pK rfl) (ug t (lJ rfl (lQ b.has (Mt Mh) (lG g.B) rfl aT aG)) (bS I fun i0 c7 I => sa t (Eg b call216 (AK g.B _ _  c7) (fun h7 b => ug t (oy rfl) (V (mi (cB t) rfl) ?_)))))
 obtain rfl := sj I
 exact a3 _ _ ⟨_, (b.lF St), rfl, rfl, rfl⟩
theorem Fl (x : Int) (r : ByteArray) (w : World) (hm : yf x = some r) :
  mo true pg0 340 [(.int .i64 x)] w (.string r) := by
 refine cG 22 func340 rfl (fun d => sg (Wa (lr (Wa (ln (mf (nL (pn (fun m E W => ∃ c j t, ST true mD w W (hp w) t ∧ E 0 = (.int .i64 c) ∧ E 3 = (.string j) ∧ vW m c j = some r) mR ⟨x, zS, _, (d.lF St), rfl, rfl, hm⟩ ?_))))))))
 rintro m E W ⟨c, j, t, d, i, u, g⟩
 let N := (Int.tmod c 128)
 cases m with
 | zero => rw [vW] at g; cases g
 | succ D =>
  refine mf (sg (Wh i (Wi rfl (ln (CI g rfl (fun y g => ?_) (fun y g => ?_))))))
  ·refine kn (bg (Wh u (Wh i (V (MB (k := .i64) (a := c) (b := 128) (v := (.int .i64 N)) rfl rfl dc rfl) (Wi rfl (V (ur (k' := .i64) (a := (wi0 .i64 (128 + N))) eK gT rfl) (VE (mH (cs := [(.int .u8 (IntKind.u8.wrap (wi0 .i64 (128 + N))))].toArray) d (oE rfl) (ot cO lz kz) (fun H J d => V (HZ cO gT bQ rfl (Sl.lit (enc := (ns .u8)) (l := [(IntKind.u8.wrap (wi0 .i64 (128 + N)))]) (fun _ => rfl) rfl nb rfl (d.at_ Mh))) (bS g fun G z g => V (Dh rfl rfl z) (Wa ?_)))))))))))
   refine ln ?_
   replace d := d.lF (Db St)
   exact ma (Wh i (V (MB (k := .i64) (a := c) (b := 128) (v := (.int .i64 (wi0 .i64 (Int.tdiv c 128)))) rfl rfl dc rfl) (Wa (mz (mJ (lU ⟨D, bF _, (wi0 .i64 (Int.tdiv c 128)), G, _, (d.lF St), rfl, rfl, g⟩))))))
  refine pk (oR (oR (tE (lU (sg (Wh u (Wh i (V (ur (k' := .i64) (a := c) eK gT rfl) (VE (mH (cs := [(.int .u8 (IntKind.u8.wrap c))].toArray) d (oE rfl) (ot cO lz kz) (fun I K d => V (HZ cO gT bQ rfl (Sl.lit (enc := (ns .u8)) (l := [(IntKind.u8.wrap c)]) (fun _ => rfl) rfl nb rfl (d.at_ Mh))) (bS g fun M B g => V (Dh rfl rfl B) (Wa (ln ?_))))))))))))))
  exact mu (rQ g d)
theorem BI (a r : ByteArray) (w : World) (hm : wO a = some r) :
  mo true pg0 342 [(.string a)] w (.string r) := by
 refine cG 8 func342 rfl (fun b => sg (Wa (lr (Wm (V (pL bQ rfl) (bS hm fun j c hm => VE (Eg b call340 (Fl (a.size : Int) _ _  c) (fun i b => Wm (bS hm fun k g hm => V (Dh rfl rfl g) ?_)))))))))
 exact Wa (lt (rQ hm b))
theorem CO (a : lC) (r : ByteArray) (w : World) (hm : xc a = some r) :
  mo true pg0 341 [(.agg (lG a).toArray)] w (.string r) := by
 refine cG 10 func341 rfl (fun b => sg (VE (mG b rfl (fun y z b => Wa (ln (mf ?_))))))
 replace b := b.drew
 have d := b.has.lF (Kb Sn)
 refine mT d mB (X 0 rfl d (lO rn rfl) (XH 1 rfl d (fun _ h => lJ rfl (lX h Mh rfl bO)) (X 3 rfl d (lO vS rfl) (XH 4 rfl d (fun _ h => lJ rfl (lX h Mh rfl bO)) (bS hm fun t c hm => XE 2 rfl (Eg b call342 (BI a.lK _ _  c) (fun j b => ?_)))))))
 have d := b.has.lF (Kb Sn)
 refine ⟨d, (bS hm fun u g hm => XE 5 rfl (Eg b call342 (BI a.lN _ _  g) (fun k b => ?_)))⟩
 have d := b.has.lF (Kb Sn)
 refine ⟨d, (bS hm fun x i hm => X 6 rfl d (Dh rfl rfl i) (X 7 rfl d (oD rfl) (nh kr (lU ?_))))⟩
 exact mu (rQ hm b)
theorem Me (g : lD) (r : ByteArray) (w : World) (hm : CR g = some r) :
  mo true pg0 325 [(.agg (lE g).toArray)] w (.string r) := by
 refine cG 41 func325 rfl (fun b => sg (VE (mG b rfl (fun W2 l b => Wa (ln (mf ?_))))))
 replace b := b.drew
 have d := b.has.lF (Kb Sn)
 refine mT d mB (X 0 rfl d (lO sx rfl) (XH 1 rfl d (fun _ h => lJ rfl (lX h Mh rfl cH)) (X 3 rfl d (lO sD rfl) (XH 4 rfl d (fun _ h => lJ rfl (lQ h Mh (lG g.Head) rfl aT aG)) (bS hm fun a9 H hm => XE 2 rfl (Eg b call340 (Fl g.Kind _ _  H) (fun a3 b => ?_)))))))
 have d := b.has.lF (Kb Sn)
 refine ⟨d, (bS hm fun q I hm => XE 5 rfl (Eg b call341 (CO g.Head _ _  I) (fun a4 b => ?_)))⟩
 have d := b.has.lF (Kb Sn)
 refine ⟨d, (bS hm fun L Q hm => X 6 rfl d (Dh rfl rfl Q) (X 7 rfl d (oD rfl) (nh kr (lU (mf (sg (Wf sx (VB b Mh rfl rfl cH (Wi rfl (ln (CI hm rfl (fun y hm => ?_) (fun y hm => ?_))))))))))))⟩
 ·refine sg (Wm (Wf zz (VB b Mh rfl rfl bO (bS hm fun s J hm => VE (Eg b call342 (BI g.mX _ _  J) (fun a5 b => bS hm fun O T hm => V (Dh rfl rfl T) (Wa (ln ?_))))))))
  replace b := b.lF (Db St)
  refine mu (mL ?_)
  obtain rfl := sj hm
  exact rP b
 refine kg (Wm (Wf pK (VA b Mh (lG g.B) aT aG (bS hm fun v K hm => VE (Eg b call341 (CO g.B _ _  K) (fun m b => bS hm fun P U hm => V (Dh rfl rfl U) (Wa (ln (mf ?_)))))))))
 refine CJ hm (fun x E W => ∃ i, ST true mD w W (hp w) ((l, Ol (lE g) 52) :: i) ∧ E 1 = (.pointer (some ⟨l, 0, none⟩)) ∧ E 3 = (.string x)) (fun x c => ?_) ?_
 ·refine sg (Wf sx (VB b Mh rfl rfl cH (Wi rfl (ln (CI c rfl (fun B c => ?_) (fun B c => ?_))))))
  ·refine ma (Wm (Wf wK (VB b Mh rfl rfl bO (bS c fun F N c => VE (Eg b call342 (BI g.mQ _ _  N) (fun o b => bS c fun c1 Z c => V (Dh rfl rfl Z) (Wa (ln ?_))))))))
   obtain rfl := sj c
   exact ⟨_, (b.lF St), rfl, rfl⟩
  refine kn ?_
  obtain rfl := sj c
  exact ⟨_, (b.lF St), rfl, rfl⟩
 rintro c2 E W ⟨i, b, k, t⟩ D
 refine mf (CJ D (fun u E W => ∃ j, ST true mD w W (hp w) j ∧ E 3 = (.string u)) (fun u a => ?_) ?_)
 ·refine sg (V (lO sx k) (VB b Mh rfl rfl cH (Wi rfl (ln (CI a rfl (fun z a => ?_) (fun z a => ?_))))))
  ·refine ma (Wh t (V (lO vk k) (VA b Mh (lG g.C) aT aG (bS a fun A M a => VE (Eg b call341 (CO g.C _ _  M) (fun n b => bS a fun R Y a => V (Dh rfl rfl Y) (Wa (ln ?_))))))))
   obtain rfl := sj a
   exact ⟨_, (b.lF (Db St)), rfl⟩
  refine kn ?_
  obtain rfl := sj a
  exact ⟨_, (b.lF (Db St)), t⟩
 rintro c3 E W ⟨j, b, a2⟩ G
 exact sg (Wh a2 (Wa (lt (rQ G b))))
theorem Gy (a : lD) (r : ByteArray) (w : World) (hm : yJ a = some r) :
  mo true pg0 298 [(.agg (lE a).toArray)] w (.string r) := by
 refine cG 8 func298 rfl (fun b => sg (VE (mG b rfl (fun j u b => Wa (lS (VA b Mh (lE a) bD aJ (bS hm fun x g hm => VE (Eg b call261 (GD a _ _  g) (fun k b => V (oy rfl) (mz ?_))))))))))
 refine lU (CI hm rfl (fun c hm => ?_) (fun c hm => ?_))
 ·refine sg (Wa (ln ?_))
  replace b := b.lF (Db St)
  refine mu (mL ?_)
  obtain rfl := sj hm
  exact rP b
 refine kg (VA b Mh (lE a) bD aJ (bS hm fun y i hm => VE (Eg b call325 (Me a _ _  i) (fun t b => Wa (ln ?_)))))
 exact mu (rQ hm b)
theorem Eo (a c : lD) (r : Int) (w : World) (hm : vC a c = some r) :
  mo true pg0 262 [(.agg (lE a).toArray), (.agg (lE c).toArray)] w (.int .i64 r) := by
 refine cG 17 func262 rfl (fun b => sg (VE (mG b rfl (fun u z b => VE (mG b rfl (fun x B b => Wa (lr (VA b (Mt Mh) (lE a) bD aJ (bS hm fun D j hm => VE (Eg b call298 (Gy a _ _  j) (fun y b => Wa (mz ?_))))))))))))
 refine lU ?_
 replace b := b.lF (Kb (Db St))
 refine sg (VA b Mh (lE c) bD aJ (bS hm fun G k hm => VE (Eg b call298 (Gy c _ _  k) (fun t b => Wa (ln ?_)))))
 replace b := b.lF (Db St)
 refine mf (sg (Wm (Wm (V (ux rfl rfl rfl) (ln (CI hm rfl (fun g hm => ?_) (fun g hm => ?_)))))))
 ·refine sg (Wa (lt (mL ?_)))
  obtain rfl := sj hm
  exact rP b
 refine kS (Wm (Wm (V (ux rfl rfl rfl) (ln (CI hm rfl (fun i hm => ?_) (fun i hm => ?_))))))
 ·refine sg (Wa (lt (mL ?_)))
  obtain rfl := sj hm
  exact rP b
 exact kg (Wa (lt (rQ hm b)))
theorem NY (D : Value) (a0 r : List lD) (w : World) (e3 : Sl (Pl lE) 9 (hp w) D a0) (hm : E4 a0 = some r) :
  nq true pg0 211 [D] w 52 lE 9 r := by
 refine uk 51 func211 rfl (fun d => sg (Wa (lr (Wa (ln (vv (nL (pn (fun m E W => ∃ x a3 u c5, ST true mD w W (hp w) (u ++ c5) ∧ E 0 = D ∧ E 3 = x ∧ mw 52 lE 9 x a3 u ∧ wq a0 m a3 = some r) mR ⟨(.slice none 0 0), ([]), [], _, (d.lF St), rfl, rfl, (mw.nil _ _ _), hm⟩ ?_))))))))
 rintro m E W ⟨x, a3, u, c5, d, d1, g2, J, a5⟩
 cases m with
 | zero => rw [wq] at a5; cases a5
 | succ j5 =>
  refine bg (VE (my d cL (fun k0 t d => lr (Wa (lS (Wh d1 ?_))))))
  let b8 : Value := (.pointer (some ⟨t, 0, none⟩))
  refine V (mV aK rfl e3) (Wm (ln (CJ a5 (fun a9 E W => ∃ c6, ST true mD w W (hp w) ((t, Ol (lE a9.2) 52) :: (u ++ c6)) ∧ E 0 = D ∧ E 3 = x ∧ E 4 = b8 ∧ E 5 = (.bool a9.1)) (fun a9 e9 => ?_) ?_)))
  ·refine mM (fun i E W => ∃ G y b1, (E 10 = .int .i64 (i : Nat) ∧ E 9 = .int .i64 (a0.length : Nat)) ∧ ST true mD w W (hp w) ((t, Ol (lE y) 52) :: (u ++ b1)) ∧ E 0 = D ∧ E 3 = x ∧ E 4 = b8 ∧ E 5 = (.bool G) ∧ E 8 = D ∧ uK a3 (a0.drop i) G y = some a9) a0.length e3.len ⟨false, Tq, _, ⟨rfl, rfl⟩, (d.lF St), d1, g2, rfl, rfl, rfl, e9⟩ dc dc dc (fun _ _ _ h => by obtain ⟨_, _, _, aa, _⟩ := h; exact aa) ?_ ?_
   ·rintro a2 E W e8 ⟨G, y, b1, ⟨q, O⟩, d, U, M, Y, Z, o, z⟩
    let g5 := ((lE y).toArray : Array Value)
    obtain ⟨c, j9, f9, f8, c4⟩ := mE e8
    let L := ((lE c).toArray : Array Value)
    rw [f9] at z
    refine bg (VQ (og (enc := lE) (i := (a2 : Int)) (x0 := c) aK aJ o q e3 (aF _) f8) (fun k9 f3 => V (lJ rfl (mr d.has f3 bD aJ)) (VE (my d cL (fun k3 K d => VO (mj (.agg (lE c).toArray) ((lE c).toArray) d rfl rfl aJ (pc c) nb rfl (fun k4 d => ln (mf ?_))))))))
    let j2 : Value := (.int .i64 (a2 : Int))
    let j1 : Value := (.int .i64 (a0.length : Int))
    let g6 : Value := (.pointer (some ⟨K, 0, none⟩))
    replace d := d.drew
    have b := d.has.lF (Kb (Kb (Kr Sn)))
    refine mT b mB (XH 0 rfl b (fun _ n => lJ rfl (lQ n Mh (lE c) rfl bD aJ)) (bS z fun j6 f5 z => XE 1 rfl (Eg d call261 (GD c _ _  f5) (fun k5 d => ?_))))
    have b := d.has.lF (Kb (Kb (Kr Sn)))
    refine ⟨b, (X 2 rfl b (lP rfl) (PJ z (fun e0 E W => ∃ c7, ST true mD w W (hp w) ((K, Obj.cells L 52 (0, 0)) :: ((t, Obj.cells g5 52 (0, 0)) :: (u ++ c7))) ∧ E 0 = D ∧ E 3 = x ∧ E 4 = b8 ∧ E 5 = (.bool G) ∧ E 7 = g6 ∧ E 8 = D ∧ E 9 = j1 ∧ E 10 = j2 ∧ E 31 = (.bool e0)) (bm 28 262143) 10 ?_ (fun e0 T c1 => ?_)))⟩
    ·rintro j8 E W ⟨c7, d, b2, b3, s, A, F, b4, b5, b6, g8⟩ f0
     have b := d.has.lF (Kb (Kb (Kr Sn)))
     refine X 18 rfl b (lP g8) (PJ f0 (fun d8 E W => ∃ c8, ST true mD w W (hp w) ((K, Obj.cells L 52 (0, 0)) :: ((t, Obj.cells g5 52 (0, 0)) :: (u ++ c8))) ∧ E 0 = D ∧ E 3 = x ∧ E 4 = b8 ∧ E 5 = (.bool G) ∧ E 7 = g6 ∧ E 8 = D ∧ E 9 = j1 ∧ E 10 = j2 ∧ E 41 = (.bool d8)) (bm 28 268435455) 0 ?_ (fun d8 Q b9 => ?_))
     ·rintro l4 E W ⟨c8, d, d3, d4, b7, g9, h0, d5, d6, d7, h1⟩ N
      refine nh kr (lU (CI N h1 (fun e7 N => ?_) (fun e7 N => ?_)))
      ·refine sg (V (lJ h0 (lQ d.has Mh (lE c) rfl bD aJ)) ?_)
       replace d := d.perm (Nb (Pb Pz) Nz)
       refine VO (mj (.agg (lE c).toArray) ((lE c).toArray) d b7 rfl aJ (pc c) nb rfl (fun k6 d => ln ?_))
       replace d := d.lF (Kb (Db St))
       exact ma (Wa (mz (mJ (lU ⟨d7, true, c, _, ⟨rfl, d6⟩, (d.lF St), d3, d4, b7, rfl, d5, (by rw [c4]; exact N)⟩))))
      refine nf (mJ (lU ?_))
      replace d := d.lF (Db St)
      exact ⟨d7, G, y, _, ⟨rfl, d6⟩, (d.lF St), d3, d4, b7, g9, d5, (by rw [c4]; exact N)⟩
     refine bC Q (fun j Q => ?_) (fun j Q => ?_)
     ·refine Xg 19 rfl rfl (cB j) b (lP A) (Xg 20 rfl rfl (cB j) b (oy rfl) (Xg 21 rfl rfl (cB j) b (lP rfl) (PJ Q (fun d9 E W => ∃ c9, ST true mD w W (hp w) ((K, Obj.cells L 52 (0, 0)) :: ((t, Obj.cells g5 52 (0, 0)) :: (u ++ c9))) ∧ E 0 = D ∧ E 3 = x ∧ E 4 = b8 ∧ E 5 = (.bool G) ∧ E 7 = g6 ∧ E 8 = D ∧ E 9 = j1 ∧ E 10 = j2 ∧ E 32 = (.bool j8) ∧ E 40 = (.bool d9)) (bm 28 134217727) 1 ?_ (fun d9 I c0 => ?_))))
      ·rintro l5 E W ⟨c9, d, h2, h3, h4, h5, h6, h7, h8, h9, i0, i1⟩ f1
       have b := d.has.lF (Kb (Kb (Kr Sn)))
       refine X 27 rfl b (mh (i0.trans (cB j)) i1) ?_
       obtain rfl := sj f1
       refine nu kr (b9 _ _ ⟨_, (d.lF St), h2, h3, h4, h5, h6, h7, h8, h9, rfl⟩)
      refine bC I (fun k I => ?_) (fun k I => ?_)
      ·refine Xn 22 rfl rfl (cB k) b (Xn 23 rfl rfl (cB k) b (Xn 24 rfl rfl (cB k) b (Xn 25 rfl rfl (cB k) b (Xg 26 rfl rfl (cB j) b (mh (cB k) rfl) ?_))))
       obtain rfl := sj I
       refine nu kr (c0 _ _ ⟨_, (d.lF St), b2, b3, s, A, F, b4, b5, b6, rfl, rfl⟩)
      refine rz 22 rfl rfl (cB k) b (fun _ n => lJ F (lQ n Mh (lE c) rfl bD aJ)) (rz 23 rfl rfl (cB k) b (fun _ n => lJ s (lQ n (Mt Mh) (lE y) rfl bD aJ)) (bS I fun l1 f6 I => zG 24 rfl rfl (cB k) (Eg d call262 (Eo c y _ _  f6) (fun k7 d => ?_))))
      have b := d.has.lF (Kb (Kb (Kr Sn)))
      refine ⟨b, (Xg 25 rfl rfl (cB k) b (mP rfl rfl rfl) (Xg 26 rfl rfl (cB j) b (mi (cB k) rfl) ?_))⟩
      obtain rfl := sj I
      refine nu kr (c0 _ _ ⟨_, (d.lF St), b2, b3, s, A, F, b4, b5, b6, rfl, rfl⟩)
     refine Xn 19 rfl rfl (cB j) b (Xn 20 rfl rfl (cB j) b (Xn 21 rfl rfl (cB j) b (Xu 22 rfl rfl rfl b (Xu 23 rfl rfl rfl b (Xu 24 rfl rfl rfl b (Xu 25 rfl rfl rfl b (Xn 26 rfl rfl (cB j) b (X 27 rfl b (mi (cB j) rfl) ?_))))))))
     obtain rfl := sj Q
     refine nu kr (b9 _ _ ⟨_, (d.lF St), b2, b3, s, A, F, b4, b5, b6, rfl⟩)
    refine bC T (fun g T => ?_) (fun g T => ?_)
    ·refine Xg 3 rfl rfl (cB g) b (lP M) (Xg 4 rfl rfl (cB g) b (oZ aK rfl J) (Xg 5 rfl rfl (cB g) b (mP rfl rfl rfl) (Xg 6 rfl rfl (cB g) b (lP rfl) (PJ T (fun e1 E W => ∃ d0, ST true mD w W (hp w) ((K, Obj.cells L 52 (0, 0)) :: ((t, Obj.cells g5 52 (0, 0)) :: (u ++ d0))) ∧ E 0 = D ∧ E 3 = x ∧ E 4 = b8 ∧ E 5 = (.bool G) ∧ E 7 = g6 ∧ E 8 = D ∧ E 9 = j1 ∧ E 10 = j2 ∧ E 16 = (.bool j6) ∧ E 30 = (.bool e1)) (bm 28 131071) 11 ?_ (fun e1 B c2 => ?_)))))
     ·rintro l6 E W ⟨d0, d, i2, i3, i4, i5, i6, i7, i8, i9, j0, j3⟩ f2
      have b := d.has.lF (Kb (Kb (Kr Sn)))
      refine X 17 rfl b (mh (j0.trans (cB g)) j3) ?_
      obtain rfl := sj f2
      refine nu kr (c1 _ _ ⟨_, (d.lF St), i2, i3, i4, i5, i6, i7, i8, i9, rfl⟩)
     refine bC B (fun a B => ?_) (fun a B => ?_)
     ·refine Xn 7 rfl rfl (cB a) b (Xn 8 rfl rfl (cB a) b (Xn 9 rfl rfl (cB a) b (Xn 10 rfl rfl (cB a) b (Xn 11 rfl rfl (cB a) b (Xn 12 rfl rfl (cB a) b (Xn 13 rfl rfl (cB a) b (Xn 14 rfl rfl (cB a) b (Xn 15 rfl rfl (cB a) b (Xg 16 rfl rfl (cB g) b (mh (cB a) rfl) ?_)))))))))
      obtain rfl := sj B
      refine nu kr (c2 _ _ ⟨_, (d.lF St), U, M, Y, Z, rfl, o, O, q, rfl, rfl⟩)
     refine Xg 7 rfl rfl (cB a) b (lP M) (Xg 8 rfl rfl (cB a) b (lP M) (Xg 9 rfl rfl (cB a) b (oZ aK rfl J) (Xg 10 rfl rfl (cB a) b (mP rfl rfl rfl) (bS B fun e2 P B => uE 11 rfl kr (.inr ⟨6, false, 20, rfl, rfl, by decide, (cB a)⟩) rfl dc (fun _ _ h => h) b (oS (i := (wi0 .i64 ((a3.length : Int) - 1))) (x0 := e2) aK aJ rfl rfl J (mF P) (mA P)) (fun l0 f4 => rz 12 rfl rfl (cB a) b (fun _ n => lJ rfl (qp n (fun p hq => (Mt (Mt (Ml hq)))) J nl f4 (mA P) bD aJ)) (rz 13 rfl rfl (cB a) b (fun _ n => lJ rfl (lQ n Mh (lE c) rfl bD aJ)) (bS B fun l2 f7 B => zG 14 rfl rfl (cB a) (Eg d call262 (Eo e2 c _ _  f7) (fun k8 d => ?_)))))))))
     have b := d.has.lF (Kb (Kb (Kr Sn)))
     refine ⟨b, (Xg 15 rfl rfl (cB a) b (mP rfl rfl rfl) (Xg 16 rfl rfl (cB g) b (mi (cB a) rfl) ?_))⟩
     obtain rfl := sj B
     refine nu kr (c2 _ _ ⟨_, (d.lF St), U, M, Y, Z, rfl, o, O, q, rfl, rfl⟩)
    refine Xn 3 rfl rfl (cB g) b (Xn 4 rfl rfl (cB g) b (Xn 5 rfl rfl (cB g) b (Xn 6 rfl rfl (cB g) b (Xu 7 rfl rfl rfl b (Xu 8 rfl rfl rfl b (Xu 9 rfl rfl rfl b (Xu 10 rfl rfl rfl b (Xu 11 rfl rfl rfl b (Xu 12 rfl rfl rfl b (Xu 13 rfl rfl rfl b (Xu 14 rfl rfl rfl b (Xu 15 rfl rfl rfl b (Xn 16 rfl rfl (cB g) b (X 17 rfl b (mi (cB g) rfl) ?_))))))))))))))
    obtain rfl := sj T
    refine nu kr (c1 _ _ ⟨_, (d.lF St), U, M, Y, Z, rfl, o, O, q, rfl⟩)
   rintro E W ⟨G, y, b1, ⟨q, O⟩, d, U, M, Y, Z, o, z⟩
   rw [aI] at z
   refine lU ?_
   obtain rfl := sj z
   exact ⟨_, (d.lF St), U, M, Y, Z⟩
  rintro ⟨l3, a4⟩ E W ⟨c6, d, g3, d2, g4, g7⟩ H
  refine mf (sg (Wh g7 (V (oy rfl) (ln (CI H rfl (fun e5 H => ?_) (fun e5 H => ?_))))))
  ·refine sg (Wh d2 (Wa (ln ?_)))
   replace d := d.lF (Db St)
   refine mu (mL (nY (mL (nY (mL ?_)))))
   obtain rfl := sj H
   exact nc (v := x) rfl rfl ⟨_, u, rfl, d.oa (fun p hq => (Ml hq)) J.nd, J⟩
  refine kn (ma (Wh d2 (V (lJ g4 (lQ d.has Mh (lE a4) rfl bD aJ)) (VE (mH (cs := (lE a4).toArray) d (oE rfl) (ot aK aJ cL) (fun k1 g1 d => ?_))))))
  replace d := d.perm (Nr (Qb (Qb Qz)) Nz)
  refine bS H fun j4 e6 H => VE (oK (enc := lE) (v := x) (vs := (.slice (some ⟨g1, 0, none⟩) 1 1)) (R := u) d nl dc pc aK oA.1 oA.2.1 rfl oA.2.2.1 oA.2.2.2 rfl rfl J (Sl.lit (enc := lE) (l := [a4]) nl rfl nb rfl (d.at_ (Ma Mh))) e6 (fun k2 j7 g0 d e4 => Wa (mz (mJ (lU ?_)))))
  replace d := d.lF (Kr (Db (Db St)))
  exact ⟨j5, bF _, j7, j4, g0, _, (d.lF St), g3, rfl, e4, H⟩
theorem N9 (x : Value) (a0 r : List ByteArray) (w : World) (c0 : Sl (Pl wc) 1 (hp w) x a0) (hm : Ck a0 = some r) :
  nq true pg0 263 [x] w 9 wc 1 r := by
 refine uk 48 func263 rfl (fun b => sg (Wa (lr (Wa (ln (vv (nL (pn (fun m E W => ∃ u a2 j c1, ST true mD w W (hp w) (j ++ c1) ∧ E 0 = x ∧ E 3 = u ∧ mw 9 wc 1 u a2 j ∧ wv a0 m a2 = some r) mR ⟨(.slice none 0 0), ([]), [], _, (b.lF St), rfl, rfl, (mw.nil _ _ _), hm⟩ ?_))))))))
 rintro m E W ⟨u, a2, j, c1, b, c7, f6, G, Z⟩
 cases m with
 | zero => rw [wv] at Z; cases Z
 | succ i3 =>
  refine bg (Wa (lS (Wh c7 (V (mV dL rfl c0) (Wm (ln (CJ Z (fun P E W => ∃ c2, ST true mD w W (hp w) (j ++ c2) ∧ E 0 = x ∧ E 3 = u ∧ E 4 = (.string P)) (fun P e5 => ?_) ?_)))))))
  ·refine mM (fun i E W => ∃ z q, (E 9 = .int .i64 (i : Nat) ∧ E 8 = .int .i64 (a0.length : Nat)) ∧ ST true mD w W (hp w) (j ++ q) ∧ E 0 = x ∧ E 3 = u ∧ E 4 = (.string z) ∧ E 7 = x ∧ uR a2 (a0.drop i) z = some P) a0.length c0.len ⟨zS, _, ⟨rfl, rfl⟩, (b.lF St), c7, f6, rfl, rfl, e5⟩ dc dc dc (fun _ _ _ h => by obtain ⟨_, _, a6, _⟩ := h; exact a6) ?_ ?_
   ·rintro d E W e4 ⟨z, q, ⟨n, o⟩, b, Q, H, T, U, t⟩
    obtain ⟨I, i7, f3, f2, b9⟩ := mE e4
    rw [f3] at t
    refine bg (VQ (og (enc := wc) (i := (d : Int)) (x0 := I) dL gK U n c0 (aF _) f2) (fun j3 e9 => V (lJ rfl (po b.has (y := (.string I)) e9 bO)) (Wa (lr (Wm (bS t fun i4 f1 t => VE (Eg b call265 (yM I _ _  f1) (fun j0 b => Wm (LJ t (fun d7 E W => ∃ c3, ST true mD w W (hp w) (j ++ c3) ∧ E 0 = x ∧ E 3 = u ∧ E 4 = (.string z) ∧ E 6 = (.string I) ∧ E 7 = x ∧ E 8 = (.int .i64 (a0.length : Int)) ∧ E 9 = (.int .i64 (d : Int)) ∧ E 29 = (.bool d7)) 14 ?_ (fun d7 N a9 => ?_))))))))))
    ·rintro i6 E W ⟨c3, b, s, A, Y, a3, F, L, O, f8⟩ e6
     refine Wh f8 (LJ e6 (fun d5 E W => ∃ c4, ST true mD w W (hp w) (j ++ c4) ∧ E 0 = x ∧ E 3 = u ∧ E 4 = (.string z) ∧ E 6 = (.string I) ∧ E 7 = x ∧ E 8 = (.int .i64 (a0.length : Int)) ∧ E 9 = (.int .i64 (d : Int)) ∧ E 38 = (.bool d5)) 8 ?_ (fun d5 K a7 => ?_))
     ·rintro j5 E W ⟨c4, b, d0, d1, f9, g0, d2, d3, d4, g1⟩ J
      refine ln (CI J g1 (fun e3 J => ?_) (fun e3 J => ?_))
      ·exact ma (Wh g0 (Wa (mz (mJ (lU ⟨d4, I, _, ⟨rfl, d3⟩, (b.lF St), d0, d1, rfl, d2, (by rw [b9]; exact J)⟩)))))
      exact nf (mJ (lU ⟨d4, z, _, ⟨rfl, d3⟩, (b.lF St), d0, d1, f9, d2, (by rw [b9]; exact J)⟩))
     refine bC K (fun g K => ?_) (fun g K => ?_)
     ·refine ug g (lP Y) (ug g (ux rfl rfl rfl) (ug g (lP rfl) (LJ K (fun d6 E W => ∃ c5, ST true mD w W (hp w) (j ++ c5) ∧ E 0 = x ∧ E 3 = u ∧ E 4 = (.string z) ∧ E 6 = (.string I) ∧ E 7 = x ∧ E 8 = (.int .i64 (a0.length : Int)) ∧ E 9 = (.int .i64 (d : Int)) ∧ E 30 = (.bool i6) ∧ E 37 = (.bool d6)) 4 ?_ (fun d6 M a8 => ?_))))
      ·rintro j6 E W ⟨c5, b, g2, g3, g4, g7, g8, g9, h0, h1, h2⟩ e7
       refine V (mh (h1.trans (cB g)) h2) ?_
       obtain rfl := sj e7
       exact a7 _ _ ⟨_, (b.lF St), g2, g3, g4, g7, g8, g9, h0, rfl⟩
      refine bC M (fun k M => ?_) (fun k M => ?_)
      ·refine un k (un k (un k (ug g (mh (cB k) rfl) ?_)))
       obtain rfl := sj M
       exact a8 _ _ ⟨_, (b.lF St), s, A, Y, a3, F, L, O, rfl, rfl⟩
      refine ug k (lP a3) (ug k (lP Y) (ug k (ux rfl rfl rfl) (ug g (mi (cB k) rfl) ?_)))
      obtain rfl := sj M
      exact a8 _ _ ⟨_, (b.lF St), s, A, Y, a3, F, L, O, rfl, rfl⟩
     refine un g (un g (un g (Vu rfl rfl (Vu rfl rfl (Vu rfl rfl (un g (V (mi (cB g) rfl) ?_)))))))
     obtain rfl := sj K
     exact a7 _ _ ⟨_, (b.lF St), s, A, Y, a3, F, L, O, rfl⟩
    refine bC N (fun c N => ?_) (fun c N => ?_)
    ·refine ug c (lP H) (ug c (oZ dL rfl G) (ug c (mP rfl rfl rfl) (ug c (lP rfl) (LJ N (fun d8 E W => ∃ c6, ST true mD w W (hp w) (j ++ c6) ∧ E 0 = x ∧ E 3 = u ∧ E 4 = (.string z) ∧ E 6 = (.string I) ∧ E 7 = x ∧ E 8 = (.int .i64 (a0.length : Int)) ∧ E 9 = (.int .i64 (d : Int)) ∧ E 15 = (.bool i4) ∧ E 28 = (.bool d8)) 9 ?_ (fun d8 D b0 => ?_)))))
     ·rintro j7 E W ⟨c6, b, h3, h4, h5, h6, h7, h8, h9, i0, i1⟩ e8
      refine V (mh (i0.trans (cB c)) i1) ?_
      obtain rfl := sj e8
      exact a9 _ _ ⟨_, (b.lF St), h3, h4, h5, h6, h7, h8, h9, rfl⟩
     refine bC D (fun a D => ?_) (fun a D => ?_)
     ·refine un a (un a (un a (un a (un a (un a (un a (un a (ug c (mh (cB a) rfl) ?_))))))))
      obtain rfl := sj D
      exact b0 _ _ ⟨_, (b.lF St), Q, H, T, rfl, U, o, n, rfl, rfl⟩
     refine ug a (lP rfl) (ug a (lP H) (ug a (lP H) (ug a (oZ dL rfl G) (ug a (mP rfl rfl rfl) (bS D fun d9 a5 D => WX a (oS (i := (wi0 .i64 ((a2.length : Int) - 1))) (x0 := d9) dL gK rfl rfl G (mF a5) (mA a5)) (fun j4 f0 => ug a (lJ rfl (FL b.has (fun p hq => (Ml hq)) G (fun _ => rfl) f0 (mA a5) (y := (.string d9)) rfl bO)) (ug a (ux rfl rfl rfl) (ug c (mi (cB a) rfl) ?_))))))))
     obtain rfl := sj D
     exact b0 _ _ ⟨_, (b.lF St), Q, H, T, rfl, U, o, n, rfl, rfl⟩
    refine un c (un c (un c (un c (Vu rfl rfl (Vu rfl rfl (Vu rfl rfl (Vu rfl rfl (Vu rfl rfl (Vu rfl rfl (Vu rfl rfl (Vu rfl rfl (un c (V (mi (cB c) rfl) ?_)))))))))))))
    obtain rfl := sj N
    exact a9 _ _ ⟨_, (b.lF St), Q, H, T, rfl, U, o, n, rfl⟩
   rintro E W ⟨z, q, ⟨n, o⟩, b, Q, H, T, U, t⟩
   rw [aI] at t
   refine lU ?_
   obtain rfl := sj t
   exact ⟨_, (b.lF St), Q, H, T⟩
  rintro a4 E W ⟨c2, b, f7, c8, c9⟩ B
  refine mf (sg (Wh c9 (V (ux rfl rfl rfl) (ln (CI B rfl (fun e1 B => ?_) (fun e1 B => ?_))))))
  ·refine sg (Wh c8 (Wa (lt (mL (nY (mL (nY (mL ?_))))))))
   obtain rfl := sj B
   exact nc (v := u) rfl rfl ⟨_, j, rfl, b.oa (fun p hq => (Ml hq)) G.nd, G⟩
  refine kn (ma (Wh c8 (Wh c9 (VE (mH (cs := [(.string a4)].toArray) b (oE rfl) (ot dL gK zeroValue9) (fun i8 f5 b => ?_))))))
  replace b := b.perm (Nr (Qb Qz) Nz)
  refine bS B fun i2 e2 B => VE (oK (enc := wc) (v := u) (vs := (.slice (some ⟨f5, 0, none⟩) 1 1)) (R := j) b (fun _ => rfl) dc PT dL EH.1 EH.2.1 rfl EH.2.2.1 EH.2.2.2 rfl rfl G (Sl.lit (enc := wc) (l := [a4]) (fun _ => rfl) rfl nb rfl (b.at_ (Ma Mh))) e2 (fun i9 i5 f4 b e0 => Wa (mz (mJ (lU ?_)))))
  replace b := b.lF (Kr (Db St))
  exact ⟨i3, bF _, i5, i2, f4, _, (b.lF St), f7, rfl, e0, B⟩
theorem Mn (B : Value) (G : List lD) (r : List ByteArray) (w : World) (y : Sl (Pl lE) 9 (hp w) B G) (hm : AI G = some r) :
  nq true pg0 212 [B] w 9 wc 1 r := by
 refine uk 29 func212 rfl (fun d => sg (Wa (lr (Wa (lS (Wm ?_))))))
 refine V (mV aK rfl y) (Wm (ln (mM (fun i E W => ∃ g k j t, (E 8 = .int .i64 (i : Nat) ∧ E 7 = .int .i64 (G.length : Nat)) ∧ ST true mD w W (hp w) (j ++ t) ∧ E 3 = g ∧ E 6 = B ∧ mw 9 wc 1 g k j ∧ uU (G.drop i) k = some r) G.length y.len ⟨(.slice none 0 0), ([]), [], _, ⟨rfl, rfl⟩, (d.lF St), rfl, rfl, (mw.nil _ _ _), hm⟩ dc dc dc (fun _ _ _ h => by obtain ⟨_, _, _, _, n, _⟩ := h; exact n) ?_ ?_)))
 ·rintro a5 E W T ⟨g, k, j, t, ⟨m, A⟩, d, u, x, z, c⟩
  obtain ⟨a, b4, Y, U, Z⟩ := mE T
  rw [Y] at c
  refine bg (VQ (og (enc := lE) (i := (a5 : Int)) (x0 := a) aK aJ x m y (aF _) U) (fun b2 J => V (lJ rfl (mr d.has J bD aJ)) (VE (my d cL (fun L b1 d => VO (mj (.agg (lE a).toArray) ((lE a).toArray) d rfl rfl aJ (pc a) nb rfl (fun O d => ln (ma (Wh u (Wf zz (VB d Mh rfl rfl bO (Wf sD (Wf rn ?_)))))))))))))
  refine VB d Mh rfl rfl bO (Wf pK (Wf rn (VB d Mh rfl rfl bO (Wf vk (Wf rn (VB d Mh rfl rfl bO (VE (mH (cs := #[(.string a.mX), (.string a.Head.lK), (.string a.B.lK), (.string a.C.lK)]) d (Q0 rfl rfl rfl rfl) (ot dL gK zeroValue9) (fun P Q d => ?_)))))))))
  replace d := d.perm (Nr (Qb (Qb Qz)) Nz)
  refine bS c fun F I c => VE (oK (enc := wc) (v := g) (vs := (.slice (some ⟨Q, 0, none⟩) 4 4)) (R := j) d (fun _ => rfl) dc PT dL EH.1 EH.2.1 rfl EH.2.2.1 EH.2.2.2 rfl rfl z (Sl.lit (enc := wc) (l := [a.mX, a.Head.lK, a.B.lK, a.C.lK]) (fun _ => rfl) rfl nb rfl (d.at_ (Ma Mh))) I (fun a9 a2 M d H => Wa (mz (mJ (lU ?_)))))
  replace d := d.lF (Kr (Db (Db St)))
  exact ⟨m, a2, F, M, _, ⟨rfl, A⟩, (d.lF St), rfl, x, H, (by rw [Z]; exact c)⟩
 rintro E W ⟨g, k, j, t, ⟨m, A⟩, d, u, x, z, c⟩
 rw [aI] at c
 refine lU (sg (Wh u (bS c fun b3 K c => VE (pA d call263 (N9 g k _ _ (z.sl (fun _ => rfl) (fun b o s => d.at_ (Ml s))) K) (fun b0 a3 b5 N d a4 q D => Wa (ln ?_))))))
 replace d := d.lF (Kr (Dr St))
 refine mu ?_
 obtain rfl := sj c
 exact nc (v := a3) rfl rfl ⟨_, N, rfl, d.oa (fun p s => (Ml s)) D.nd, D⟩
theorem zM (y : Value) (H : List mc) (z : lC) (J : ByteArray) (r : Bool) (w : World) (G : Sl (Pl mS) 3 (hp w) y H) (hm : xt H z J = some r) :
  mo true pg0 213 [y, (.agg (lG z).toArray), (.string J)] w (.bool r) := by
 refine cG 26 func213 rfl (fun b => sg (VE (mG b rfl (fun W2 M b => Wa (lS (Wm (V (mV cV rfl G) (Wm (ln ?_)))))))))
 refine mM (fun i E W => ∃ D, (E 11 = .int .i64 (i : Nat) ∧ E 10 = .int .i64 (H.length : Nat)) ∧ ST true mD w W (hp w) ((M, Ol (lG z) 50) :: D) ∧ E 2 = (.string J) ∧ E 4 = (.pointer (some ⟨M, 0, none⟩)) ∧ E 9 = y ∧ yG z J (H.drop i) = some r) H.length G.len ⟨_, ⟨rfl, rfl⟩, (b.lF St), rfl, rfl, rfl, hm⟩ dc dc dc (fun _ _ _ h => by obtain ⟨_, l, _⟩ := h; exact l) ?_ ?_
 ·rintro T E W n ⟨D, ⟨d, m⟩, b, t, u, x, c⟩
  obtain ⟨k, O, q, o, a9⟩ := mE n
  rw [q] at c
  refine bg (VQ (og (enc := mS) (i := (T : Int)) (x0 := k) cV dS x d G (aF _) o) (fun F Q => V (lJ rfl (mr b.has Q jt dS)) (VE (my b fU (fun s A b => VO (mj (.agg (mS k).toArray) ((mS k).toArray) b rfl rfl dS (BV k) nb rfl (fun v b => lr (Wf Ad (VA b Mh (lG k.lC) aT aG (V (lJ u (lQ b.has (Mt Mh) (lG z) rfl aT aG)) (V (vx rfl rfl (oI dK) (rA (pX _ k.lC z))) ?_)))))))))))
  refine Wm (LJ c (fun K E W => ∃ I, ST true mD w W (hp w) ((M, Ol (lG z) 50) :: I) ∧ E 2 = (.string J) ∧ E 4 = (.pointer (some ⟨M, 0, none⟩)) ∧ E 9 = y ∧ E 10 = (.int .i64 (H.length : Int)) ∧ E 11 = (.int .i64 (T : Int)) ∧ E 24 = (.bool K)) 5 ?_ (fun K j B => ?_))
  ·rintro L E W ⟨I, b, U, Y, Z, a3, a4, a5⟩ g
   refine ln (CI g a5 (fun N g => ?_) (fun N g => ?_))
   ·refine sg (Wa (ln ?_))
    replace b := b.lF (Db St)
    refine mu (nY (mL (nY (mL ?_))))
    obtain rfl := sj g
    exact rP b
   exact nf (mJ (lU ⟨a4, _, ⟨rfl, a3⟩, (b.lF St), U, Y, Z, (by rw [a9]; exact g)⟩))
  refine bC j (fun a j => ?_) (fun a j => ?_)
  ·refine ug a (lO yU rfl) (ug a (lJ rfl (lX b.has Mh rfl bO)) (ug a (lP t) (ug a (ux rfl rfl rfl) (V (mh (cB a) rfl) ?_))))
   obtain rfl := sj j
   exact B _ _ ⟨_, (b.lF (Db St)), t, u, x, m, d, rfl⟩
  refine un a (un a (un a (un a (V (mi (cB a) rfl) ?_))))
  obtain rfl := sj j
  exact B _ _ ⟨_, (b.lF (Db St)), t, u, x, m, d, rfl⟩
 rintro E W ⟨D, ⟨d, m⟩, b, t, u, x, c⟩
 rw [aI] at c
 refine lU ?_
 replace b := b.lF (Db St)
 exact sg (Wa (lt (rQ c b)))
theorem Nt (k : Value) (M : List mc) (t : lD) (K : Value) (Y : List ByteArray) (H : ByteArray) (r : Bool) (w : World) (G : Sl (Pl mS) 3 (hp w) k M) (T : Sl (Pl wc) 1 (hp w) K Y) (hm : Bz M t Y H = some r) :
  mo true pg0 214 [k, (.agg (lE t).toArray), K, (.string H)] w (.bool r) := by
 refine cG 62 func214 rfl (fun b => sg (VE (mG b rfl (fun W2 d b => Wa (lS (Wf sx (VB b Mh rfl rfl cH (Wi rfl (ln ?_)))))))))
 refine CI hm rfl (fun d0 hm => ?_) (fun d0 hm => ?_)
 ·refine sg (Wf zz (VB b Mh rfl rfl bO (Wm (V (ux rfl rfl rfl) (Wa (ln ?_))))))
  replace b := b.lF (Db St)
  refine mu (mL ?_)
  obtain rfl := sj hm
  exact rP b
 refine kS (Wf sx (VB b Mh rfl rfl cH (Wi rfl (ln (CI hm rfl (fun d1 hm => ?_) (fun d1 hm => ?_))))))
 ·refine sg (Wm (Wf pK (VA b Mh (lG t.B) aT aG (Wm (bS hm fun r5 d3 hm => VE (Eg b call213 (zM k M t.B H _ _ (G.mono (Pl.mono _) b.lL) d3) (fun W7 b => Wa (ln ?_))))))))
  replace b := b.lF (Db St)
  refine mu (mL ?_)
  obtain rfl := sj hm
  exact rP b
 refine kS (Wf sx (VB b Mh rfl rfl cH (Wi rfl (ln (CI hm rfl (fun d2 hm => ?_) (fun d2 hm => ?_))))))
 ·refine sg (Wm (Wf pK (VA b Mh (lG t.B) aT aG (Wm (bS hm fun r9 c7 hm => VE (Eg b call213 (zM k M t.B H _ _ (G.mono (Pl.mono _) b.lL) c7) (fun e1 b => Wm (LJ hm (fun q E W => ∃ o, ST true mD w W (hp w) o ∧ E 8 = (.bool false) ∧ E 40 = (.bool q)) 6 ?_ (fun q u U => ?_)))))))))
  ·rintro e5 E W ⟨o, b, e3, c9⟩ c6
   refine Wg c9 (lt (mL ?_))
   obtain rfl := sj c6
   exact rP b
  refine bC u (fun c u => ?_) (fun c u => ?_)
  ·refine ug c (lP rfl) (ug c (lO vk rfl) (ug c (lJ rfl (lQ b.has Mh (lG t.C) rfl aT aG)) (ug c (lP rfl) (bS u fun e4 c8 u => sa c (Eg b call213 (zM k M t.C H _ _ (G.mono (Pl.mono _) b.lL) c8) (fun e2 b => V (mh (cB c) rfl) ?_))))))
   obtain rfl := sj u
   exact U _ _ ⟨_, (b.lF (Db St)), rfl, rfl⟩
  refine un c (un c (un c (un c (un c (V (mi (cB c) rfl) ?_)))))
  obtain rfl := sj u
  exact U _ _ ⟨_, (b.lF (Db St)), rfl, rfl⟩
 refine kS (Wm (V (mV dL rfl T) (Wm (ln (mM (fun i E W => ∃ Q, (E 43 = .int .i64 (i : Nat) ∧ E 42 = .int .i64 (Y.length : Nat)) ∧ ST true mD w W (hp w) ((d, Ol (lE t) 52) :: Q) ∧ E 0 = k ∧ E 3 = (.string H) ∧ E 5 = (.pointer (some ⟨d, 0, none⟩)) ∧ E 41 = K ∧ xm M t H (Y.drop i) = some r) Y.length T.len ⟨_, ⟨rfl, rfl⟩, (b.lF St), rfl, rfl, rfl, rfl, hm⟩ dc dc dc (fun _ _ _ h => by obtain ⟨_, m, _⟩ := h; exact m) ?_ ?_)))))
 ·rintro a4 E W A ⟨Q, ⟨l, n⟩, b, B, I, D, J, g⟩
  obtain ⟨z, d4, P, O, R⟩ := mE A
  rw [P] at g
  refine bg (VQ (og (enc := wc) (i := (a4 : Int)) (x0 := z) dL gK J l T (aF _) O) (fun d7 a9 => V (lJ rfl (po b.has (y := (.string z)) a9 bO)) (Wa (lr (Wh B (V (lO pK D) (VA b Mh (lG t.B) aT aG (Wm (bS g fun d8 F g => ?_)))))))))
  refine VE (Eg b call213 (zM k M t.B z _ _ (G.mono (Pl.mono _) b.lL) F) (fun d5 b => Wm (LJ g (fun a5 E W => ∃ Z, ST true mD w W (hp w) ((d, Ol (lE t) 52) :: Z) ∧ E 0 = k ∧ E 3 = (.string H) ∧ E 5 = (.pointer (some ⟨d, 0, none⟩)) ∧ E 41 = K ∧ E 42 = (.int .i64 (Y.length : Int)) ∧ E 43 = (.int .i64 (a4 : Int)) ∧ E 60 = (.bool a5)) 8 ?_ (fun a5 j N => ?_))))
  ·rintro e0 E W ⟨Z, b, b9, c0, c1, c2, c3, c4, c5⟩ x
   refine ln (CI x c5 (fun s x => ?_) (fun s x => ?_))
   ·refine sg (Wa (ln ?_))
    replace b := b.lF (Db St)
    refine mu (nY (mL (nY (mL ?_))))
    obtain rfl := sj x
    exact rP b
   exact nf (mJ (lU ⟨c4, _, ⟨rfl, c3⟩, (b.lF St), b9, c0, c1, c2, (by rw [R]; exact x)⟩))
  refine bC j (fun a j => ?_) (fun a j => ?_)
  ·refine ug a (lP B) (ug a (lP rfl) (ug a (lO wK D) (ug a (lJ rfl (lX b.has Mh rfl bO)) (ug a (nW (v := (.agg (lG (⟨z, t.mQ⟩ : lC)).toArray)) (qV rfl rfl) (nw dB cW (KQ _ cW) kr)) (ug a (lP I) (bS j fun d9 L j => sa a (Eg b call213 (zM k M (⟨z, t.mQ⟩ : lC) H _ _ (G.mono (Pl.mono _) b.lL) L) (fun d6 b => V (mh (cB a) rfl) ?_))))))))
   obtain rfl := sj j
   exact N _ _ ⟨_, (b.lF St), B, I, D, J, n, l, rfl⟩
  refine un a (un a (un a (un a (un a (un a (un a (V (mi (cB a) rfl) ?_)))))))
  obtain rfl := sj j
  exact N _ _ ⟨_, (b.lF St), B, I, D, J, n, l, rfl⟩
 rintro E W ⟨Q, ⟨l, n⟩, b, B, I, D, J, g⟩
 rw [aI] at g
 refine lU ?_
 replace b := b.lF (Db St)
 exact sg (Wa (lt (rQ g b)))
theorem Hb (j k : mc) (r : Bool) (w : World) (hm : wA j k = some r) :
  mo true pg0 264 [(.agg (mS j).toArray), (.agg (mS k).toArray)] w (.bool r) := by
 refine cG 24 func264 rfl (fun b => sg (VE (mG b rfl (fun Y d b => VE (mG b rfl (fun Z h b => Wa (lr (Wf Ad (VA b (Mt Mh) (lG j.lC) aT aG (Wf Ad (VA b Mh (lG k.lC) aT aG (bS hm fun N M hm => ?_))))))))))))
 refine VE (Eg b call297 (Hi j.lC k.lC _ _  M) (fun W7 b => Wm (LJ hm (fun z E W => ∃ x, ST true mD w W (hp w) x ∧ E 4 = (.bool false) ∧ E 23 = (.bool z)) 13 ?_ (fun z g t => ?_))))
 ·rintro T E W ⟨x, b, Q, H⟩ D
  exact Wg H (lt (rQ D b))
 refine bC g (fun a g => ?_) (fun a g => ?_)
 ·refine un a (un a (un a (un a (un a (un a (Vu rfl rfl (Vu rfl rfl (Vu rfl rfl (Vu rfl rfl (Vu rfl rfl (un a (V (mh (cB a) rfl) ?_))))))))))))
  obtain rfl := sj g
  exact t _ _ ⟨_, (b.lF (Db (Db St))), rfl, rfl⟩
 refine ug a (lO Ad rfl) (ug a (lJ rfl (lQ b.has (Mt Mh) (lG j.lC) rfl aT aG)) (ug a (lO Ad rfl) (ug a (lJ rfl (lQ b.has Mh (lG k.lC) rfl aT aG)) (ug a (vx rfl rfl (oI dK) (rA (pX _ j.lC k.lC))) (ug a (lP rfl) (LJ g (fun B E W => ∃ y, ST true mD w W (hp w) y ∧ E 4 = (.bool false) ∧ E 10 = (.bool N) ∧ E 22 = (.bool B)) 6 ?_ (fun B i u => ?_)))))))
 ·rintro U E W ⟨y, b, I, J, K⟩ G
  refine V (mi (J.trans (cB a)) K) ?_
  obtain rfl := sj G
  exact t _ _ ⟨_, (b.lF St), I, rfl⟩
 refine bC i (fun c i => ?_) (fun c i => ?_)
 ·refine ug c (lO yU rfl) (ug c (lJ rfl (lX b.has (Mt Mh) rfl bO)) (ug c (lO yU rfl) (ug c (lJ rfl (lX b.has Mh rfl bO)) (ug c (ux rfl rfl rfl) (ug a (mh (cB c) rfl) ?_)))))
  obtain rfl := sj i
  exact u _ _ ⟨_, (b.lF (Db (Db St))), rfl, rfl, rfl⟩
 refine un c (un c (un c (un c (un c (ug a (mi (cB c) rfl) ?_)))))
 obtain rfl := sj i
 exact u _ _ ⟨_, (b.lF (Db (Db St))), rfl, rfl, rfl⟩
theorem Lh (I : Value) (Q r : List mc) (w : World) (Y : Sl (Pl mS) 3 (hp w) I Q) (hm : Cc Q = some r) :
  nq true pg0 215 [I] w 111 mS 3 r := by
 refine uk 56 func215 rfl (fun d => sg (Wa (lr (Wa (lS (Wm ?_))))))
 refine V (mV cV rfl Y) (Wm (ln (mM (fun i E W => ∃ y N x a9, (E 9 = .int .i64 (i : Nat) ∧ E 8 = .int .i64 (Q.length : Nat)) ∧ ST true mD w W (hp w) (x ++ a9) ∧ E 0 = I ∧ E 3 = y ∧ mw 111 mS 3 y N x ∧ re Q (Q.drop i) N = some r) Q.length Y.len ⟨(.slice none 0 0), ([]), [], _, ⟨rfl, rfl⟩, (d.lF St), rfl, rfl, (mw.nil _ _ _), hm⟩ dc dc dc (fun _ _ _ h => by obtain ⟨_, _, _, _, n, _⟩ := h; exact n) ?_ ?_)))
 ·rintro a7 E W i6 ⟨y, N, x, a9, ⟨m, q⟩, d, O, P, z, D⟩
  obtain ⟨l2, l1, i7, k2, e4⟩ := mE i6
  rw [i7] at D
  refine bg (Wa (lS (Wh O (V (mV cV rfl Y) (Wm (ln (CJ D (fun c5 E W => ∃ c9, ST true mD w W (hp w) (x ++ c9) ∧ E 0 = I ∧ E 3 = y ∧ E 4 = (.int .i64 c5) ∧ E 8 = (.int .i64 (Q.length : Int)) ∧ E 9 = (.int .i64 (a7 : Int))) (fun c5 f5 => ?_) ?_)))))))
  ·let g5 : Value := (.int .i64 (a7 : Int))
   let a0 : Value := (.int .i64 (Q.length : Int))
   refine mM (fun i E W => ∃ B L, (E 13 = .int .i64 (i : Nat) ∧ E 12 = .int .i64 (Q.length : Nat)) ∧ ST true mD w W (hp w) (x ++ L) ∧ E 0 = I ∧ E 3 = y ∧ E 4 = (.int .i64 B) ∧ E 8 = a0 ∧ E 9 = g5 ∧ E 11 = I ∧ rh N Q (Q.drop i) i B = some c5) Q.length Y.len ⟨(-1), _, ⟨rfl, rfl⟩, (d.lF St), O, P, rfl, q, m, rfl, f5⟩ dc dc dc (fun _ _ _ h => by obtain ⟨_, _, n, _⟩ := h; exact n) ?_ ?_
   ·rintro H E W f4 ⟨B, L, ⟨m, q⟩, d, s, J, a2, a3, a4, a5, G⟩
    let b8 : Value := (.int .i64 (H : Int))
    obtain ⟨j, j5, g7, g4, c7⟩ := mE f4
    rw [g7] at G
    refine bg (Wh m (VQ (og (enc := mS) (i := (H : Int)) (x0 := j) cV dS a5 m Y (aF _) g4) (fun k4 f9 => V (lJ rfl (mr d.has f9 jt dS)) (VE (my d fU (fun j8 Z d => Wa (VO (mj (.agg (mS j).toArray) ((mS j).toArray) d rfl rfl dS (BV j) nb rfl (fun j9 d => ln (mf ?_))))))))))
    replace d := d.drew
    have b := d.has.lF (Kb (Kr Sn))
    refine mT b mB (X 0 rfl b (lP J) (X 1 rfl b (oZ cV rfl z) (X 2 rfl b (mP rfl rfl rfl) (X 3 rfl b (lP rfl) (PJ G (fun e7 E W => ∃ d0, ST true mD w W (hp w) ((Z, Ol (mS j) 111) :: (x ++ d0)) ∧ E 0 = I ∧ E 3 = y ∧ E 4 = (.int .i64 B) ∧ E 5 = b8 ∧ E 6 = (.pointer (some ⟨Z, 0, none⟩)) ∧ E 8 = a0 ∧ E 9 = g5 ∧ E 11 = I ∧ E 12 = a0 ∧ E 13 = b8 ∧ E 30 = (.bool e7)) (bm 25 8191) 12 ?_ (fun e7 u c4 => ?_))))))
    ·rintro j3 E W ⟨d0, d, A, b4, T, b5, h0, b6, b7, b9, c0, c1, h1⟩ f6
     have b := d.has.lF (Kb (Kr Sn))
     refine X 13 rfl b (lP h1) (PJ f6 (fun e5 E W => ∃ d1, ST true mD w W (hp w) ((Z, Ol (mS j) 111) :: (x ++ d1)) ∧ E 0 = I ∧ E 3 = y ∧ E 4 = (.int .i64 B) ∧ E 5 = b8 ∧ E 8 = a0 ∧ E 9 = g5 ∧ E 11 = I ∧ E 12 = a0 ∧ E 13 = b8 ∧ E 42 = (.bool e5)) (bm 25 33554431) 0 ?_ (fun e5 M c2 => ?_))
     ·rintro k9 E W ⟨d1, d, d7, d8, h2, h3, d9, e0, e1, e2, e3, h4⟩ K
      refine nh kr (lU ?_)
      replace d := d.lF (Db St)
      refine CI K h4 (fun f3 K => ?_) (fun f3 K => ?_)
      ·exact ma (Wh h3 (Wa (mz (mJ (lU ⟨e3, (H : Int), _, ⟨rfl, e2⟩, (d.lF St), d7, d8, rfl, d9, e0, e1, (by rw [c7]; exact K)⟩)))))
      exact nf (mJ (lU ⟨e3, B, _, ⟨rfl, e2⟩, (d.lF St), d7, d8, h2, d9, e0, e1, (by rw [c7]; exact K)⟩))
     refine bC M (fun g M => ?_) (fun g M => ?_)
     ·refine Xg 14 rfl rfl (cB g) b (lP T) (Xg 15 rfl rfl (cB g) b (mP rfl rfl rfl) (Xg 16 rfl rfl (cB g) b (lP rfl) (PJ M (fun e6 E W => ∃ d2, ST true mD w W (hp w) ((Z, Ol (mS j) 111) :: (x ++ d2)) ∧ E 0 = I ∧ E 3 = y ∧ E 4 = (.int .i64 B) ∧ E 5 = b8 ∧ E 8 = a0 ∧ E 9 = g5 ∧ E 11 = I ∧ E 12 = a0 ∧ E 13 = b8 ∧ E 31 = (.bool j3) ∧ E 41 = (.bool e6)) (bm 25 16777215) 1 ?_ (fun e6 t c3 => ?_))))
      ·rintro l0 E W ⟨d2, d, h5, h6, h7, h8, h9, i0, i1, i2, i3, i4, i5⟩ f7
       have b := d.has.lF (Kb (Kr Sn))
       refine X 24 rfl b (mh (i4.trans (cB g)) i5) ?_
       obtain rfl := sj f7
       refine nu kr (c2 _ _ ⟨_, (d.lF St), h5, h6, h7, h8, h9, i0, i1, i2, i3, rfl⟩)
      refine bC t (fun c t => ?_) (fun c t => ?_)
      ·refine Xn 17 rfl rfl (cB c) b (Xn 18 rfl rfl (cB c) b (Xn 19 rfl rfl (cB c) b (Xn 20 rfl rfl (cB c) b (Xn 21 rfl rfl (cB c) b (Xn 22 rfl rfl (cB c) b (Xg 23 rfl rfl (cB g) b (mh (cB c) rfl) ?_))))))
       obtain rfl := sj t
       refine nu kr (c3 _ _ ⟨_, (d.lF St), A, b4, T, b5, b6, b7, b9, c0, c1, rfl, rfl⟩)
      refine rz 17 rfl rfl (cB c) b (fun _ o => lJ h0 (lQ o Mh (mS j) rfl jt dS)) (Xg 18 rfl rfl (cB c) b (lP A) (Xg 19 rfl rfl (cB c) b (lP T) (bS t fun e8 c8 t => uE 20 rfl kr (.inr ⟨16, false, 34, rfl, rfl, by decide, (cB c)⟩) rfl dc (fun _ _ h => h) b (og (enc := mS) (i := B) (x0 := e8) cV dS rfl rfl Y (mF c8) (mA c8)) (fun k5 g0 => rz 21 rfl rfl (cB c) b (fun _ o => lJ rfl (mr o g0 jt dS)) (bS t fun k7 g2 t => zG 22 rfl rfl (cB c) (Eg d call264 (Hb j e8 _ _  g2) (fun k0 d => ?_)))))))
      have b := d.has.lF (Kb (Kr Sn))
      refine ⟨b, (Xg 23 rfl rfl (cB g) b (mi (cB c) rfl) ?_)⟩
      obtain rfl := sj t
      refine nu kr (c3 _ _ ⟨_, (d.lF St), A, b4, T, b5, b6, b7, b9, c0, c1, rfl, rfl⟩)
     refine Xn 14 rfl rfl (cB g) b (Xn 15 rfl rfl (cB g) b (Xn 16 rfl rfl (cB g) b (Xu 17 rfl rfl rfl b (Xu 18 rfl rfl rfl b (Xu 19 rfl rfl rfl b (Xu 20 rfl rfl rfl b (Xu 21 rfl rfl rfl b (Xu 22 rfl rfl rfl b (Xn 23 rfl rfl (cB g) b (X 24 rfl b (mi (cB g) rfl) ?_))))))))))
     obtain rfl := sj M
     refine nu kr (c2 _ _ ⟨_, (d.lF St), A, b4, T, b5, b6, b7, b9, c0, c1, rfl⟩)
    refine bC u (fun a u => ?_) (fun a u => ?_)
    ·refine Xn 4 rfl rfl (cB a) b (Xn 5 rfl rfl (cB a) b (Xn 6 rfl rfl (cB a) b (Xn 7 rfl rfl (cB a) b (Xn 8 rfl rfl (cB a) b (Xn 9 rfl rfl (cB a) b (Xn 10 rfl rfl (cB a) b (Xn 11 rfl rfl (cB a) b (X 12 rfl b (mh (cB a) rfl) ?_))))))))
     obtain rfl := sj u
     refine nu kr (c4 _ _ ⟨_, (d.lF St), s, J, a2, rfl, rfl, a3, a4, a5, q, m, rfl⟩)
    refine Xg 4 rfl rfl (cB a) b (lP J) (Xg 5 rfl rfl (cB a) b (lP J) (Xg 6 rfl rfl (cB a) b (oZ cV rfl z) (Xg 7 rfl rfl (cB a) b (mP rfl rfl rfl) (bS u fun e9 F u => uE 8 rfl kr (.inr ⟨3, false, 21, rfl, rfl, by decide, (cB a)⟩) rfl dc (fun _ _ h => h) b (oS (i := (wi0 .i64 ((N.length : Int) - 1))) (x0 := e9) cV dS rfl rfl z (mF F) (mA F)) (fun k6 g1 => rz 9 rfl rfl (cB a) b (fun _ o => lJ rfl (qp o (fun p hq => (Mt (Ml hq))) z so g1 (mA F) jt dS)) (rz 10 rfl rfl (cB a) b (fun _ o => lJ rfl (lQ o Mh (mS j) rfl jt dS)) (bS u fun k8 g3 u => zG 11 rfl rfl (cB a) (Eg d call264 (Hb e9 j _ _  g3) (fun k1 d => ?_)))))))))
    have b := d.has.lF (Kb (Kr Sn))
    refine ⟨b, (X 12 rfl b (mi (cB a) rfl) ?_)⟩
    obtain rfl := sj u
    refine nu kr (c4 _ _ ⟨_, (d.lF St), s, J, a2, rfl, rfl, a3, a4, a5, q, m, rfl⟩)
   rintro E W ⟨B, L, ⟨m, q⟩, d, s, J, a2, a3, a4, a5, G⟩
   rw [aI] at G
   refine lU ?_
   obtain rfl := sj G
   exact ⟨_, (d.lF St), s, J, a2, a3, a4⟩
  rintro j0 E W ⟨c9, d, b3, d3, d4, d5, d6⟩ k
  refine sg (Wh d4 (Wi rfl (ln (CI k rfl (fun f1 k => ?_) (fun f1 k => ?_)))))
  ·refine ma (Wh d3 (Wh b3 (Wh d4 (bS k fun U c6 k => VQ (og (enc := mS) (i := j0) (x0 := U) cV dS rfl rfl Y (mF c6) (mA c6)) (fun k3 f8 => V (lJ rfl (mr d.has f8 jt dS)) (VE (mH (cs := (mS U).toArray) d (oE rfl) (ot cV dS fU) (fun j6 g9 d => ?_))))))))
   replace d := d.perm (Nr (Qb Qz) Nz)
   refine bS k fun i8 f2 k => VE (oK (enc := mS) (v := y) (vs := (.slice (some ⟨g9, 0, none⟩) 1 1)) (R := x) d so dc BV cV xd.1 xd.2.1 rfl xd.2.2.1 xd.2.2.2 rfl rfl z (Sl.lit (enc := mS) (l := [U]) so rfl nb rfl (d.at_ (Ma Mh))) f2 (fun j7 i9 g8 d f0 => Wa (mz (mJ (lU ?_)))))
   replace d := d.lF (Kr (Db St))
   exact ⟨d6, i9, i8, g8, _, ⟨rfl, d5⟩, (d.lF St), b3, rfl, f0, (by rw [e4]; exact k)⟩
  exact nf (mJ (lU ⟨d6, y, N, x, _, ⟨rfl, d5⟩, (d.lF St), b3, d3, z, (by rw [e4]; exact k)⟩))
 rintro E W ⟨y, N, x, a9, ⟨m, q⟩, d, O, P, z, D⟩
 rw [aI] at D
 refine lU (sg (Wh P (Wa (lt ?_))))
 obtain rfl := sj D
 exact nc (v := y) rfl rfl ⟨_, x, rfl, d.oa (fun p hq => (Ml hq)) z.nd, z⟩
theorem Qd (f8 : Value) (a0 : List lD) (r : List mc) (w : World) (k8 : Sl (Pl lE) 9 (hp w) f8 a0) (hm : zO a0 = some r) :
  nq true pg0 159 [f8] w 111 mS 3 r := by
 refine uk 53 func159 rfl (fun d => sg (Wa (lr (Wm (bS hm fun O m0 hm => VE (pA d call211 (NY f8 a0 _ _ (k8.mono (Pl.mono _) d.lL) m0) (fun W3 v7 ae R8 d n0 ad f3 => Wa (ln (mf ?_)))))))))
 refine ma (Wm (bS hm fun s l0 hm => VE (pA d call212 (Mn v7 O _ _ (f3.sl nl (fun b o n => d.at_ (Ml n))) l0) (fun n2 q d7 d1 d m9 ab P => Wa (lr (Wa (ln (vv (nL (pn (fun m E W => ∃ c0 b9 b7 d8, ST true mD w W d7 (b7 ++ (d1 ++ (R8 ++ d8))) ∧ E 3 = v7 ∧ E 4 = q ∧ E 5 = c0 ∧ mw 111 mS 3 c0 b9 b7 ∧ xb s O m b9 = some r) mR ⟨(.slice none 0 0), ([]), [], _, (d.lF St), rfl, rfl, rfl, (mw.nil _ _ _), hm⟩ ?_))))))))))
 rintro m E W ⟨c0, b9, b7, d8, d, e2, i3, i4, k0, Y⟩
 cases m with
 | zero => rw [xb] at Y; cases Y
 | succ k3 =>
  refine bg (Wa (lS (Wh e2 (V (oZ aK rfl f3) (Wm (ln (CJ Y (fun b1 E W => ∃ T Z d9, ST true mD w W d7 (Z ++ (d1 ++ (R8 ++ d9))) ∧ E 3 = v7 ∧ E 4 = q ∧ E 5 = T ∧ E 6 = (.bool b1.2) ∧ mw 111 mS 3 T b1.1 Z) (fun b1 g8 => ?_) ?_)))))))
  ·refine mM (fun i E W => ∃ J Q H U c1, (E 17 = .int .i64 (i : Nat) ∧ E 16 = .int .i64 (O.length : Nat)) ∧ ST true mD w W d7 (H ++ (d1 ++ (R8 ++ c1))) ∧ E 3 = v7 ∧ E 4 = q ∧ E 5 = J ∧ E 6 = (.bool U) ∧ E 15 = v7 ∧ mw 111 mS 3 J Q H ∧ yP s (O.drop i) Q U = some b1) O.length f3.len ⟨c0, b9, b7, false, _, ⟨rfl, rfl⟩, (d.lF St), e2, i3, i4, rfl, rfl, k0, g8⟩ dc dc dc (fun _ _ _ h => by obtain ⟨_, _, _, _, _, F, _⟩ := h; exact F) ?_ ?_
   ·rintro b0 E W g4 ⟨J, Q, H, U, c1, ⟨A, L⟩, d, c3, a3, c4, c5, c6, b5, u⟩
    obtain ⟨a, l1, h7, d4, h8⟩ := mE g4
    rw [h7] at u
    refine bg (VQ (oS (i := (b0 : Int)) (x0 := a) aK aJ c6 A f3 (aF _) d4) (fun m1 h1 => V (lJ rfl (qp d.has (fun p n => (Ma (Ma (Ml n)))) f3 nl h1 d4 bD aJ)) (VE (my d cL (fun l4 a2 d => VO (mj (.agg (lE a).toArray) ((lE a).toArray) d rfl rfl aJ (pc a) nb rfl (fun l5 d => lr (Wh a3 (V (oZ dL rfl P) (Wm (mz ?_)))))))))))
    let b8 : Value := (.int .i64 (O.length : Int))
    refine lU (vv (CJ u (fun b2 E W => ∃ b3 a1 e0, ST true mD w W d7 (a1 ++ (d1 ++ (R8 ++ e0))) ∧ E 3 = v7 ∧ E 4 = q ∧ E 5 = b3 ∧ E 6 = (.bool b2.2) ∧ E 15 = v7 ∧ E 16 = b8 ∧ E 17 = (.int .i64 (b0 : Int)) ∧ mw 111 mS 3 b3 b2.1 a1) (fun b2 h0 => ?_) ?_))
    ·refine mM (fun i E W => ∃ k G B K c2, (E 23 = .int .i64 (i : Nat) ∧ E 22 = .int .i64 (s.length : Nat)) ∧ ST true mD w W d7 ((a2, Ol (lE a) 52) :: (B ++ (d1 ++ (R8 ++ c2)))) ∧ E 3 = v7 ∧ E 4 = q ∧ E 5 = k ∧ E 6 = (.bool K) ∧ E 8 = (.pointer (some ⟨a2, 0, none⟩)) ∧ E 15 = v7 ∧ E 16 = b8 ∧ E 17 = (.int .i64 (b0 : Int)) ∧ E 21 = q ∧ mw 111 mS 3 k G B ∧ xe a s (s.drop i) G K = some b2) s.length P.len ⟨J, Q, H, U, _, ⟨rfl, rfl⟩, (d.lF St), c3, a3, c4, c5, rfl, c6, L, A, rfl, b5, h0⟩ dc dc dc (fun _ _ _ h => by obtain ⟨_, _, _, _, _, F, _⟩ := h; exact F) ?_ ?_
     ·rintro f4 E W g7 ⟨k, G, B, K, c2, ⟨A, L⟩, d, a4, M, I, a5, N, a6, a7, a8, a9, D, j⟩
      obtain ⟨g, l2, h9, d5, d6⟩ := mE g7
      rw [h9] at j
      refine bg (VQ (oS (i := (f4 : Int)) (x0 := g) dL gK a9 A P (aF _) d5) (fun m2 h2 => V (lJ rfl (FL d.has (fun p n => (Mt (Ma (Ml n)))) P (fun _ => rfl) h2 d5 (y := (.string g)) rfl bO)) (Wa (lr (Wh I (V (lO sD N) (VA d Mh (lG a.Head) aT aG (Wm (bS j fun m4 h4 j => ?_)))))))))
      refine VE (Eg d call213 (zM k G a.Head g _ _ (D.sl so (fun b o n => d.at_ (Mt (Ml n)))) h4) (fun l6 d => V (oy rfl) (Wm (LJ j (fun f7 E W => ∃ e1, ST true mD w W d7 ((a2, Ol (lE a) 52) :: (B ++ (d1 ++ (R8 ++ e1)))) ∧ E 3 = v7 ∧ E 4 = q ∧ E 5 = k ∧ E 6 = (.bool K) ∧ E 8 = (.pointer (some ⟨a2, 0, none⟩)) ∧ E 10 = (.string g) ∧ E 15 = v7 ∧ E 16 = b8 ∧ E 17 = (.int .i64 (b0 : Int)) ∧ E 21 = q ∧ E 22 = (.int .i64 (s.length : Int)) ∧ E 23 = (.int .i64 (f4 : Int)) ∧ E 39 = (.bool f7)) 6 ?_ (fun f7 z c9 => ?_)))))
      ·rintro m7 E W ⟨e1, d, e4, e5, e6, j7, c7, j8, e7, e8, e9, f0, f1, f2, j9⟩ x
       refine ln (CI x j9 (fun g2 x => ?_) (fun g2 x => ?_))
       ·refine sg (Wh e6 (V (lO sD c7) (VA d Mh (lG a.Head) aT aG (Wh j8 (V (nW (v := (.agg (mS (⟨a.Head, g⟩ : mc)).toArray)) (qV rfl rfl) (nw fU fW (Qa _ fW) kr)) (VE (mH (cs := (mS (⟨a.Head, g⟩ : mc)).toArray) d (oE rfl) (ot cV dS fU) (fun l7 i2 d => ?_))))))))
        replace d := d.perm (Nr (Qb (Qb Qz)) Nz)
        refine bS x fun k2 g3 x => VE (oK (enc := mS) (v := k) (vs := (.slice (some ⟨i2, 0, none⟩) 1 1)) (R := B) d so dc BV cV xd.1 xd.2.1 rfl xd.2.2.1 xd.2.2.2 rfl rfl D (Sl.lit (enc := mS) (l := [(⟨a.Head, g⟩ : mc)]) so rfl nb rfl (d.at_ (Ma Mh))) g3 (fun l8 k5 i1 d g0 => Wa (ln ?_)))
        replace d := d.lF (Kr (Db St))
        exact ma (Wa (mz (mJ (lU ⟨f2, k5, k2, i1, true, _, ⟨rfl, f1⟩, (d.lF (Sb (Pr Pz) St)), e4, e5, rfl, rfl, c7, e7, e8, e9, f0, g0, (by rw [d6]; exact x)⟩))))
       exact nf (mJ (lU ⟨f2, k, G, B, K, _, ⟨rfl, f1⟩, (d.lF St), e4, e5, e6, j7, c7, e7, e8, e9, f0, D, (by rw [d6]; exact x)⟩))
      refine bC z (fun c z => ?_) (fun c z => ?_)
      ·refine ug c (lP I) (ug c (lJ N (lQ d.has Mh (lE a) rfl bD aJ)) (ug c (lP M) (ug c (lP rfl) (bS z fun m5 h5 z => sa c (Eg d call214 (Nt k G a q s g _ _ (D.sl so (fun b o n => d.at_ (Mt (Ml n)))) (P.sl (fun _ => rfl) (fun b o n => d.at_ (Mt (Ma (Ml n))))) h5) (fun l9 d => V (mh (cB c) rfl) ?_))))))
       obtain rfl := sj z
       exact c9 _ _ ⟨_, (d.lF St), a4, M, I, a5, N, rfl, a6, a7, a8, a9, L, A, rfl⟩
      refine un c (un c (un c (un c (un c (V (mi (cB c) rfl) ?_)))))
      obtain rfl := sj z
      exact c9 _ _ ⟨_, (d.lF St), a4, M, I, a5, N, rfl, a6, a7, a8, a9, L, A, rfl⟩
     rintro E W ⟨k, G, B, K, c2, ⟨A, L⟩, d, a4, M, I, a5, N, a6, a7, a8, a9, D, j⟩
     rw [aI] at j
     refine lU ?_
     obtain rfl := sj j
     exact ⟨k, B, _, (d.lF (Db St)), a4, M, I, a5, a6, a7, a8, D⟩
    rintro ⟨k1, k6⟩ E W ⟨b3, a1, e0, d, i8, i9, j0, j3, j4, j5, j6, h6⟩ g9
    exact mJ (lU ⟨j6, b3, k1, a1, k6, _, ⟨rfl, j5⟩, (d.lF St), i8, i9, j0, j3, j4, h6, (by rw [h8]; exact g9)⟩)
   rintro E W ⟨J, Q, H, U, c1, ⟨A, L⟩, d, c3, a3, c4, c5, c6, b5, u⟩
   rw [aI] at u
   refine lU ?_
   obtain rfl := sj u
   exact ⟨J, H, _, (d.lF St), c3, a3, c4, c5, b5⟩
  rintro ⟨f5, m6⟩ E W ⟨T, Z, d9, d, i5, i6, e3, i7, d3⟩ t
  refine sg (Wh i7 (V (oy rfl) (ln (CI t rfl (fun g1 t => ?_) (fun g1 t => ?_)))))
  ·refine sg (Wh e3 (bS t fun m3 h3 t => VE (pA d call215 (Lh T f5 _ _ (d3.sl so (fun b o n => d.at_ (Ml n))) h3) (fun l3 k4 m8 i0 d k9 aa d2 => Wa (ln ?_)))))
   replace d := d.lF (Kr (Dr (Dr (Dr St))))
   refine mu (nY (mL (nY (mL ?_))))
   obtain rfl := sj t
   exact nc (v := k4) rfl rfl ⟨_, i0, rfl, d.oa (fun p n => (Ml n)) d2.nd, d2⟩
  exact nf (mJ (lU ⟨k3, bF _, T, f5, Z, _, (d.lF St), i5, i6, e3, d3, t⟩))
theorem L6 (D : Value) (G : List mc) (I : ByteArray) (r : List lC) (w : World) (B : Sl (Pl mS) 3 (hp w) D G) (hm : yE G I = some r) :
  nq true pg0 158 [D, (.string I)] w 50 lG 2 r := by
 refine uk 25 func158 rfl (fun b => sg (Wa (lr (Wa (lS (Wm ?_))))))
 refine V (mV cV rfl B) (Wm (ln (mM (fun i E W => ∃ k y g z, (E 10 = .int .i64 (i : Nat) ∧ E 9 = .int .i64 (G.length : Nat)) ∧ ST true mD w W (hp w) (g ++ z) ∧ E 1 = (.string I) ∧ E 5 = k ∧ E 8 = D ∧ mw 50 lG 2 k y g ∧ ta I (G.drop i) y = some r) G.length B.len ⟨(.slice none 0 0), ([]), [], _, ⟨rfl, rfl⟩, (b.lF St), rfl, rfl, rfl, (mw.nil _ _ _), hm⟩ dc dc dc (fun _ _ _ h => by obtain ⟨_, _, _, _, m, _⟩ := h; exact m) ?_ ?_)))
 ·rintro a4 E W U ⟨k, y, g, z, ⟨d, n⟩, b, t, u, x, j, a⟩
  obtain ⟨c, L, Z, Y, H⟩ := mE U
  rw [Z] at a
  refine bg (VQ (og (enc := mS) (i := (a4 : Int)) (x0 := c) cV dS x d B (aF _) Y) (fun F N => V (lJ rfl (mr b.has N jt dS)) (VE (my b fU (fun a5 a9 b => VO (mj (.agg (mS c).toArray) ((mS c).toArray) b rfl rfl dS (BV c) nb rfl (fun q b => lr (Wf yU (VB b Mh rfl rfl bO (Wh t (V (ux rfl rfl rfl) ?_)))))))))))
  refine ln (CI a rfl (fun K a => ?_) (fun K a => ?_))
  ·refine ma (Wh u (Wf Ad (VA b Mh (lG c.lC) aT aG (VE (mH (cs := (lG c.lC).toArray) b (oE rfl) (ot aM aG dB) (fun s T b => ?_))))))
   replace b := b.perm (Nr (Qb (Qb Qz)) Nz)
   refine bS a fun a2 M a => VE (oK (enc := lG) (v := k) (vs := (.slice (some ⟨T, 0, none⟩) 1 1)) (R := g) b nF dc pJ aM oz.1 oz.2.1 rfl oz.2.2.1 oz.2.2.2 rfl rfl j (Sl.lit (enc := lG) (l := [c.lC]) nF rfl nb rfl (b.at_ (Ma Mh))) M (fun A a3 Q b J => Wa (mz (mJ (lU ?_)))))
   replace b := b.lF (Kr (Db (Db St)))
   exact ⟨d, a3, a2, Q, _, ⟨rfl, n⟩, (b.lF St), t, rfl, x, J, (by rw [H]; exact a)⟩
  refine nf (mJ (lU ?_))
  replace b := b.lF (Db St)
  exact ⟨d, k, y, g, _, ⟨rfl, n⟩, (b.lF St), t, u, x, j, (by rw [H]; exact a)⟩
 rintro E W ⟨k, y, g, z, ⟨d, n⟩, b, t, u, x, j, a⟩
 rw [aI] at a
 refine lU (sg (Wh u (Wa (lt ?_))))
 obtain rfl := sj a
 exact nc (v := k) rfl rfl ⟨_, g, rfl, b.oa (fun p o => (Ml o)) j.nd, j⟩
theorem L8 (c : ng) (a g j y k x : Value) (r : List lC) (w : World) (t : Sl mC 15 (hp w) a c.lH.lZ) (u : Sl mZ 8 (hp w) g c.lH.mq) (i : Sl (Pl lE) 9 (hp w) j c.lV) (D : Sl (Pl lE) 9 (hp w) y c.Shown) (z : Sl (Pl lG) 2 (hp w) k c.ml) (B : Sl (Pl lG) 2 (hp w) x c.ms) (hm : CU c = some r) :
  nq true pg0 91 [(.agg #[(.string c.lH.Name), a, g, (.string c.mU), (.int .i64 c.Room), j, y, k, x])] w 50 lG 2 r := by
 refine uk 9 func91 rfl (fun d => sg ?_)
 obtain ⟨A1, c2, rfl⟩ := t.form
 obtain ⟨A3, c4, rfl⟩ := u.form
 obtain ⟨Q, Z, rfl⟩ := i.form
 obtain ⟨A7, c8, rfl⟩ := D.form
 obtain ⟨A9, U, rfl⟩ := z.form
 obtain ⟨N, Y, rfl⟩ := B.form
 refine VE (mG d rfl (fun F P d => Wa (ln (mf ?_))))
 replace d := d.drew
 have h := d.has.lF (Kb Sn)
 refine mT h mB (X 0 rfl h (lO D4 rfl) (XH 1 rfl h (fun _ l => lJ rfl (lX l Mh rfl eH)) (X 3 rfl h (lO HJ rfl) (XH 4 rfl h (fun _ l => lJ rfl (lX l Mh rfl bO)) (bS hm fun s K hm => XE 2 rfl (pA d call159 (Qd (.slice Q c.lV.length Z) c.lV _ _ (i.mono (Pl.mono _) d.lL) K) (fun L a2 W A d G n J => ?_)))))))
 have h := d.has.pN G (Dr (Kb Sn))
 refine ⟨h, (bS hm fun R M hm => XE 5 rfl (pA d call158 (L6 a2 s c.mU _ _ (J.sl so (fun b o m => d.at_ (Ml m))) M) (fun O a3 b9 T d I q H => ?_)))⟩
 have h := d.has.pN (G.trans I) (Dr (Dr (Kb Sn)))
 refine ⟨h, (X 6 rfl h (oD rfl) (nh kr (lU ?_)))⟩
 replace d := d.lF (Kr (Dr (Db St)))
 refine mu ?_
 obtain rfl := sj hm
 exact nc (v := a3) rfl rfl ⟨_, T, rfl, d.oa (fun p m => (Ml m)) H.nd, H⟩
theorem Hn (G : Formula → Option Int) (K : ∀ (j : Formula) (g : Value) (r : Int) (w : World) (c : Sl lI 5 (hp w) g j.Kids), G j = some r → mo false pg0 160 [(.agg #[(.int .i64 j.Op), (.int .i64 j.K), (.string j.lC.lK), (.string j.lC.lN), g])] w (.int .i64 r)) (j : Formula) (g : Value) (r : Int) (w : World) (c : Sl lI 5 (hp w) g j.Kids) (hm : zB G j = some r) :
  mo false pg0 160 [(.agg #[(.int .i64 j.Op), (.int .i64 j.K), (.string j.lC.lK), (.string j.lC.lN), g])] w (.int .i64 r) := by
 refine cG 19 func160 rfl (fun b => sg ?_)
 obtain ⟨U, Y, rfl⟩ := c.form
 refine VE (mG b rfl (fun W4 s b => Wa (lr (Wa (lS (Wf rH (VB b Mh rfl rfl fH (V (mV aH rfl c) ?_))))))))
 refine Wm (ln ?_)
 replace b := b.lF (Db St)
 refine mM (fun i E W => ∃ x z, (E 9 = .int .i64 (i : Nat) ∧ E 8 = .int .i64 (j.Kids.length : Nat)) ∧ ST false mD w W (hp w) z ∧ E 3 = (.int .i64 x) ∧ E 7 = (.slice U j.Kids.length Y) ∧ uO G (j.Kids.drop i) x = some r) j.Kids.length c.len ⟨1, _, ⟨rfl, rfl⟩, (b.lF St), rfl, rfl, hm⟩ dc dc dc (fun _ _ _ h => by obtain ⟨_, _, l, _⟩ := h; exact l) ?_ ?_
 ·rintro Z E W J ⟨x, z, ⟨d, m⟩, b, B, D, k⟩
  obtain ⟨a, q, N, M, Q⟩ := mE J
  rw [N] at k
  refine bg (VQ (nS (i := (Z : Int)) (x0 := a) lI.out aH aC D d c (aF _) M) (fun a5 ⟨_, ⟨o, rfl, y⟩, H⟩ => V (lJ rfl (mr b.has H aV aC)) (VE (my b bG (fun n a4 b => ?_)))))
  obtain ⟨t, u, rfl⟩ := y.form
  let a0 := (C1 a.Op a.K a.lC.lK a.lC.lN t a.Kids.length u)
  refine VO (mj (.agg a0.toArray) (a0.toArray) b rfl rfl aC oc nb rfl (fun a2 b => ln (ma (Wh B (VA b Mh a0 aV aC (bS k fun T I k => VE (Eg b call160 (K a (.slice t a.Kids.length u) _ _ (y.mono mg.mono b.lL) I) (fun a3 b => Wi rfl (Wa (mz (mJ (lU ?_))))))))))))
  replace b := b.lF (Db St)
  exact ⟨d, (wi0 .i64 (x + T)), _, ⟨rfl, m⟩, (b.lF St), rfl, D, (by rw [Q]; exact k)⟩
 rintro E W ⟨x, z, ⟨d, m⟩, b, B, D, k⟩
 rw [aI] at k
 exact lU (sg (Wh B (Wa (lt (rQ k b)))))
theorem Gw : ∀ (n : Nat) (c : Formula) (a : Value) (r : Int) (w : World) (g : Sl lI 5 (hp w) a c.Kids) (_ : ui n c = some r),
  mo false pg0 160 [(.agg #[(.int .i64 c.Op), (.int .i64 c.K), (.string c.lC.lK), (.string c.lC.lN), a])] w (.int .i64 r)
 | 0 => by intros; rename_i h; simp only [ui] at h; cases h
 | n + 1 => Hn (ui n) (Gw n)
theorem Ic (I : Formula → Option Int) (N : ∀ (j : Formula) (g : Value) (r : Int) (w : World) (c : Sl lI 5 (hp w) g j.Kids), I j = some r → mo false pg0 161 [(.agg #[(.int .i64 j.Op), (.int .i64 j.K), (.string j.lC.lK), (.string j.lC.lN), g])] w (.int .i64 r)) (j : Formula) (g : Value) (r : Int) (w : World) (c : Sl lI 5 (hp w) g j.Kids) (hm : Ar I j = some r) :
  mo false pg0 161 [(.agg #[(.int .i64 j.Op), (.int .i64 j.K), (.string j.lC.lK), (.string j.lC.lN), g])] w (.int .i64 r) := by
 refine cG 20 func161 rfl (fun b => sg ?_)
 obtain ⟨Y, Z, rfl⟩ := c.form
 refine VE (mG b rfl (fun W4 v b => Wa (lr (Wa (lS (Wf rH (VB b Mh rfl rfl fH (V (mV aH rfl c) ?_))))))))
 refine Wm (ln ?_)
 replace b := b.lF (Db St)
 refine mM (fun i E W => ∃ u B, (E 9 = .int .i64 (i : Nat) ∧ E 8 = .int .i64 (j.Kids.length : Nat)) ∧ ST false mD w W (hp w) B ∧ E 3 = (.int .i64 u) ∧ E 7 = (.slice Y j.Kids.length Z) ∧ vw I (j.Kids.drop i) u = some r) j.Kids.length c.len ⟨0, _, ⟨rfl, rfl⟩, (b.lF St), rfl, rfl, hm⟩ dc dc dc (fun _ _ _ h => by obtain ⟨_, _, l, _⟩ := h; exact l) ?_ ?_
 ·rintro n E W M ⟨u, B, ⟨d, m⟩, b, D, G, t⟩
  obtain ⟨a, s, T, Q, U⟩ := mE M
  rw [T] at t
  refine bg (VQ (nS (i := (n : Int)) (x0 := a) lI.out aH aC G d c (aF _) Q) (fun o ⟨_, ⟨q, rfl, z⟩, J⟩ => V (lJ rfl (mr b.has J aV aC)) (VE (my b bG (fun a2 a5 b => ?_)))))
  obtain ⟨x, y, rfl⟩ := z.form
  let a0 := (C1 a.Op a.K a.lC.lK a.lC.lN x a.Kids.length y)
  refine VO (mj (.agg a0.toArray) (a0.toArray) b rfl rfl aC oc nb rfl (fun a3 b => ln (ma (Wh D (VA b Mh a0 aV aC (bS t fun H K t => VE (Eg b call161 (N a (.slice x a.Kids.length y) _ _ (z.mono mg.mono b.lL) K) (fun a4 b => V (Rr (k := .i64) rfl rfl) (Wa (mz (mJ (lU ?_))))))))))))
  replace b := b.lF (Db St)
  exact ⟨d, (if H > u then H else u), _, ⟨rfl, m⟩, (b.lF St), rfl, G, (by rw [U]; exact t)⟩
 rintro E W ⟨u, B, ⟨d, m⟩, b, D, G, t⟩
 rw [aI] at t
 exact lU (sg (Wh D (Wi rfl (Wa (lt (rQ t b))))))
theorem G9 : ∀ (n : Nat) (c : Formula) (a : Value) (r : Int) (w : World) (g : Sl lI 5 (hp w) a c.Kids) (_ : vl n c = some r),
  mo false pg0 161 [(.agg #[(.int .i64 c.Op), (.int .i64 c.K), (.string c.lC.lK), (.string c.lC.lN), a])] w (.int .i64 r)
 | 0 => by intros; rename_i h; simp only [vl] at h; cases h
 | n + 1 => Ic (vl n) (G9 n)
set_option maxHeartbeats 1000000 in
theorem Ib (d8 : Formula → Option Bool) (i9 : ∀ (a : Formula) (x : Value) (r : Bool) (w : World) (k : Sl lI 5 (hp w) x a.Kids), d8 a = some r → mo false pg0 162 [(.agg #[(.int .i64 a.Op), (.int .i64 a.K), (.string a.lC.lK), (.string a.lC.lN), x])] w (.bool r)) (a : Formula) (x : Value) (r : Bool) (w : World) (k : Sl lI 5 (hp w) x a.Kids) (hm : Am d8 a = some r) :
  mo false pg0 162 [(.agg #[(.int .i64 a.Op), (.int .i64 a.K), (.string a.lC.lK), (.string a.lC.lN), x])] w (.bool r) := by
 refine cG 81 func162 rfl (fun b => sg ?_)
 obtain ⟨A1, c2, rfl⟩ := k.form
 let b8 := (C1 a.Op a.K a.lC.lK a.lC.lN A1 a.Kids.length c2)
 refine VE (mG b rfl (fun W4 H b => Wa (lr (Wf rH (VB b Mh rfl rfl fH (V (mV aH rfl k) (Wa (lS ?_))))))))
 refine Wf rK (VB b Mh rfl rfl cH (Wi rfl (ln (CI hm rfl (fun k0 hm => ?_) (fun k0 hm => ?_)))))
 ·refine sg (Wf wM (VA b Mh (lG a.lC) aT aG (bS hm fun r6 k1 hm => VE (Eg b call216 (mo.nz (AK a.lC _ _  k1)) (fun W8 b => Wm (LJ hm (fun h2 E W => ∃ f9, ST false mD w W (hp w) ((H, Ol b8 58) :: f9) ∧ E 1 = (.pointer (some ⟨H, 0, none⟩)) ∧ E 2 = (.bool false) ∧ E 18 = (.bool h2)) 3 ?_ (fun h2 m c8 => ?_)))))))
  ·rintro l5 E W ⟨f9, b, j3, g7, j4⟩ i4
   refine Wh j4 (LJ i4 (fun h1 E W => ∃ g0, ST false mD w W (hp w) g0 ∧ E 2 = (.bool false) ∧ E 23 = (.bool h1)) 4 ?_ (fun h1 a5 c7 => ?_))
   ·rintro l6 E W ⟨g0, b, l4, j5⟩ i5
    refine Wg j5 (lt (mL ?_))
    obtain rfl := sj i5
    exact rP b
   refine bC a5 (fun B a5 => ?_) (fun B a5 => ?_)
   ·refine ug B (lO xr j3) (ug B (lJ rfl (lX b.has Mh rfl cH)) (ug B (mP rfl rfl rfl) (V (mh (cB B) rfl) ?_)))
    obtain rfl := sj a5
    exact c7 _ _ ⟨_, (b.lF (Db St)), g7, rfl⟩
   refine un B (un B (un B (V (mi (cB B) rfl) ?_)))
   obtain rfl := sj a5
   exact c7 _ _ ⟨_, (b.lF (Db St)), g7, rfl⟩
  refine bC m (fun a4 m => ?_) (fun a4 m => ?_)
  ·refine ug a4 (lP rfl) (ug a4 (mP rfl rfl rfl) (V (mh (cB a4) rfl) ?_))
   obtain rfl := sj m
   exact c8 _ _ ⟨_, (b.lF St), rfl, rfl, rfl⟩
  refine un a4 (un a4 (V (mi (cB a4) rfl) ?_))
  obtain rfl := sj m
  exact c8 _ _ ⟨_, (b.lF St), rfl, rfl, rfl⟩
 let a0 := (b8.toArray : Array Value)
 let d : Value := (.pointer (some ⟨H, 0, none⟩))
 refine kS (Wf rK (VB b Mh rfl rfl cH (Wi rfl (Wm (LJ hm (fun e6 E W => ∃ g1, ST false mD w W (hp w) ((H, Obj.cells a0 58 (0, 0)) :: g1) ∧ E 1 = d ∧ E 3 = (.int .i64 (a.Kids.length : Int)) ∧ E 31 = (.bool e6)) 4 ?_ (fun e6 Z c0 => ?_))))))
 ·let o : Value := (.int .i64 (a.Kids.length : Int))
  rintro l7 E W ⟨g1, b, d5, g8, j6⟩ i6
  refine Wh j6 (LJ i6 (fun e5 E W => ∃ g2, ST false mD w W (hp w) ((H, Obj.cells a0 58 (0, 0)) :: g2) ∧ E 1 = d ∧ E 3 = o ∧ E 37 = (.bool e5)) 5 ?_ (fun e5 Y b9 => ?_))
  ·rintro l8 E W ⟨g2, b, g9, d6, j7⟩ i7
   refine Wh j7 (LJ i7 (fun e4 E W => ∃ g3, ST false mD w W (hp w) ((H, Obj.cells a0 58 (0, 0)) :: g3) ∧ E 1 = d ∧ E 3 = o ∧ E 41 = (.bool e4)) 3 ?_ (fun e4 U b7 => ?_))
   ·rintro l9 E W ⟨g3, b, q, h0, j8⟩ n
    refine ln (CI n j8 (fun i3 n => ?_) (fun i3 n => ?_))
    ·refine sg (Wa (ln ?_))
     replace b := b.lF (Db St)
     refine mu (mL ?_)
     obtain rfl := sj n
     exact rP b
    refine kS (V (lO rK q) (VB b Mh rfl rfl cH (Wi rfl (Wm (LJ n (fun e3 E W => ∃ g4, ST false mD w W (hp w) ((H, Obj.cells a0 58 (0, 0)) :: g4) ∧ E 1 = d ∧ E 3 = o ∧ E 49 = (.bool e3)) 4 ?_ (fun e3 T b6 => ?_))))))
    ·rintro F E W ⟨g4, b, l, d7, j9⟩ i8
     refine Wh j9 (LJ i8 (fun d9 E W => ∃ c9, ST false mD w W (hp w) ((H, Obj.cells a0 58 (0, 0)) :: c9) ∧ E 1 = d ∧ E 69 = (.bool d9)) 19 ?_ (fun d9 K R => ?_))
     ·rintro l0 E W ⟨c9, b, h3, h4⟩ J
      refine ln (CI J h4 (fun e8 J => ?_) (fun e8 J => ?_))
      ·refine sg (Wa (ln ?_))
       replace b := b.lF (Db St)
       refine mu (mL ?_)
       obtain rfl := sj J
       exact rP b
      refine kS (V (lO rH h3) (VB b Mh rfl rfl fH (V (mV aH rfl k) (Wm (ln ?_)))))
      replace b := b.lF (Db St)
      refine mM (fun i E W => ∃ c1, (E 73 = .int .i64 (i : Nat) ∧ E 72 = .int .i64 (a.Kids.length : Nat)) ∧ ST false mD w W (hp w) c1 ∧ E 71 = (.slice A1 a.Kids.length c2) ∧ vI d8 (a.Kids.drop i) = some r) a.Kids.length k.len ⟨_, ⟨rfl, rfl⟩, (b.lF St), rfl, J⟩ dc dc dc (fun _ _ _ h => by obtain ⟨_, O, _⟩ := h; exact O) ?_ ?_
      ·rintro j0 E W f0 ⟨c1, ⟨L, eN⟩, b, s, j⟩
       obtain ⟨g, k2, f7, f6, f8⟩ := mE f0
       rw [f7] at j
       refine bg (VQ (nS (i := (j0 : Int)) (x0 := g) lI.out aH aC s L k (aF _) f6) (fun k7 ⟨_, ⟨k9, rfl, c6⟩, f4⟩ => V (lJ rfl (mr b.has f4 aV aC)) (VE (my b bG (fun k3 k6 b => ?_)))))
       obtain ⟨a9, P, rfl⟩ := c6.form
       let a2 := (C1 g.Op g.K g.lC.lK g.lC.lN a9 g.Kids.length P)
       refine VO (mj (.agg a2.toArray) (a2.toArray) b rfl rfl aC oc nb rfl (fun k4 b => lr (VA b Mh a2 aV aC (bS j fun k8 f5 j => VE (Eg b call162 (i9 g (.slice a9 g.Kids.length P) _ _ (c6.mono mg.mono b.lL) f5) (fun k5 b => V (oy rfl) (ln ?_)))))))
       replace b := b.lF (Db St)
       refine CI j rfl (fun e9 j => ?_) (fun e9 j => ?_)
       ·refine sg (Wa (lt (nY (mL (nY (mL ?_))))))
        obtain rfl := sj j
        exact rP b
       exact nf (mJ (lU ⟨L, _, ⟨rfl, eN⟩, (b.lF St), s, (by rw [f8]; exact j)⟩))
      rintro E W ⟨c1, ⟨L, eN⟩, b, s, j⟩
      rw [aI] at j
      exact lU (sg (Wa (lt (rQ j b))))
     refine bC K (fun u K => ?_) (fun u K => ?_)
     ·refine un u (un u (un u (un u (Vu rfl rfl (Vu rfl rfl (Vu rfl rfl (Vu rfl rfl (Vu rfl rfl (Vu rfl rfl (Vu rfl rfl (Vu rfl rfl (Vu rfl rfl (Vu rfl rfl (Vu rfl rfl ?_))))))))))))))
      refine Vu rfl rfl (Vu rfl rfl (un u (V (mh (cB u) rfl) ?_)))
      obtain rfl := sj K
      exact R _ _ ⟨_, (b.lF St), l, rfl⟩
     refine ug u (lO rK l) (ug u (lJ rfl (lX b.has Mh rfl cH)) (ug u (mP rfl rfl rfl) (ug u (lP rfl) (LJ K (fun e0 E W => ∃ d0, ST false mD w W (hp w) ((H, Obj.cells a0 58 (0, 0)) :: d0) ∧ E 1 = d ∧ E 50 = (.bool F) ∧ E 68 = (.bool e0)) 14 ?_ (fun e0 M b2 => ?_)))))
     ·rintro l1 E W ⟨d0, b, h5, h6, h7⟩ f1
      refine V (mi (h6.trans (cB u)) h7) ?_
      obtain rfl := sj f1
      exact R _ _ ⟨_, (b.lF St), h5, rfl⟩
     refine bC M (fun c M => ?_) (fun c M => ?_)
     ·refine ug c (lP d7) (ug c (mP rfl rfl rfl) (ug c (lP rfl) (LJ M (fun e2 E W => ∃ d1, ST false mD w W (hp w) ((H, Obj.cells a0 58 (0, 0)) :: d1) ∧ E 1 = d ∧ E 3 = o ∧ E 50 = (.bool F) ∧ E 54 = (.bool (a.Op == 4)) ∧ E 61 = (.bool e2)) 4 ?_ (fun e2 Q b5 => ?_))))
      ·rintro l2 E W ⟨d1, b, A, h8, d3, a3, h9⟩ f2
       refine Vg rfl (a3.trans (cB c)) (lP h9) (LJ f2 (fun e1 E W => ∃ d2, ST false mD w W (hp w) ((H, Obj.cells a0 58 (0, 0)) :: d2) ∧ E 1 = d ∧ E 50 = (.bool F) ∧ E 54 = (.bool (a.Op == 4)) ∧ E 67 = (.bool e1)) 5 ?_ (fun e1 N b4 => ?_))
       ·rintro l3 E W ⟨d2, b, i0, d4, i1, i2⟩ f3
        refine Vg rfl (d4.trans (cB u)) (mh (i1.trans (cB c)) i2) ?_
        obtain rfl := sj f3
        exact b2 _ _ ⟨_, (b.lF St), i0, d4, rfl⟩
       refine bC N (fun t N => ?_) (fun t N => ?_)
       ·refine un t (un t (un t (un t (Vg rfl (a3.trans (cB c)) (mh (cB t) rfl) ?_))))
        obtain rfl := sj N
        exact b4 _ _ ⟨_, (b.lF St), A, d3, a3, rfl⟩
       refine ug t (lO xr A) (ug t (lJ rfl (lX b.has Mh rfl cH)) (ug t (lP h8) (ug t (mP rfl rfl rfl) (Vg rfl (a3.trans (cB c)) (mi (cB t) rfl) ?_))))
       obtain rfl := sj N
       exact b4 _ _ ⟨_, (b.lF St), A, d3, a3, rfl⟩
      refine bC Q (fun y Q => ?_) (fun y Q => ?_)
      ·refine un y (un y (un y (ug c (mh (cB y) rfl) ?_)))
       obtain rfl := sj Q
       exact b5 _ _ ⟨_, (b.lF St), l, d7, rfl, rfl, rfl⟩
      refine ug y (lO xr l) (ug y (lJ rfl (lX b.has Mh rfl cH)) (ug y (mP rfl rfl rfl) (ug c (mi (cB y) rfl) ?_)))
      obtain rfl := sj Q
      exact b5 _ _ ⟨_, (b.lF St), l, d7, rfl, rfl, rfl⟩
     refine un c (un c (un c (Vu rfl rfl (Vu rfl rfl (Vu rfl rfl (un c (un c (Vu rfl rfl (Vu rfl rfl (Vu rfl rfl (Vu rfl rfl (un c (ug u (mi (cB c) rfl) ?_)))))))))))))
     obtain rfl := sj M
     exact b2 _ _ ⟨_, (b.lF St), l, rfl, rfl⟩
    refine bC T (fun G T => ?_) (fun G T => ?_)
    ·refine ug G (lO xr q) (ug G (lJ rfl (lX b.has Mh rfl cH)) (ug G (mP rfl rfl rfl) (V (mh (cB G) rfl) ?_)))
     obtain rfl := sj T
     exact b6 _ _ ⟨_, (b.lF St), q, h0, rfl⟩
    refine un G (un G (un G (V (mi (cB G) rfl) ?_)))
    obtain rfl := sj T
    exact b6 _ _ ⟨_, (b.lF St), q, h0, rfl⟩
   refine bC U (fun I U => ?_) (fun I U => ?_)
   ·refine un I (un I (V (mh (cB I) rfl) ?_))
    obtain rfl := sj U
    exact b7 _ _ ⟨_, (b.lF St), g9, d6, rfl⟩
   refine ug I (lP d6) (ug I (mP rfl rfl rfl) (V (mi (cB I) rfl) ?_))
   obtain rfl := sj U
   exact b7 _ _ ⟨_, (b.lF St), g9, d6, rfl⟩
  refine bC Y (fun z Y => ?_) (fun z Y => ?_)
  ·refine un z (un z (un z (un z (V (mh (cB z) rfl) ?_))))
   obtain rfl := sj Y
   exact b9 _ _ ⟨_, (b.lF St), d5, g8, rfl⟩
  refine ug z (lO wM d5) (ug z (lJ rfl (lQ b.has Mh (lG a.lC) rfl aT aG)) (ug z (nW (v := (.agg (lG K0).toArray)) sM (nw dB cW (KQ _ cW) kr)) (ug z (Gk rfl rfl (oI dK) (BW (pX _ a.lC K0))) (V (mi (cB z) rfl) ?_))))
  obtain rfl := sj Y
  exact b9 _ _ ⟨_, (b.lF St), d5, g8, rfl⟩
 refine bC Z (fun D Z => ?_) (fun D Z => ?_)
 ·refine un D (un D (un D (V (mh (cB D) rfl) ?_)))
  obtain rfl := sj Z
  exact c0 _ _ ⟨_, (b.lF St), rfl, rfl, rfl⟩
 refine ug D (lO rK rfl) (ug D (lJ rfl (lX b.has Mh rfl cH)) (ug D (mP rfl rfl rfl) (V (mi (cB D) rfl) ?_)))
 obtain rfl := sj Z
 exact c0 _ _ ⟨_, (b.lF St), rfl, rfl, rfl⟩
theorem Hw : ∀ (n : Nat) (c : Formula) (a : Value) (r : Bool) (w : World) (g : Sl lI 5 (hp w) a c.Kids) (_ : vr n c = some r),
  mo false pg0 162 [(.agg #[(.int .i64 c.Op), (.int .i64 c.K), (.string c.lC.lK), (.string c.lC.lN), a])] w (.bool r)
 | 0 => by intros; rename_i h; simp only [vr] at h; cases h
 | n + 1 => Ib (vr n) (Hw n)
theorem Ms (a : Formula) (t : Value) (r : Bool) (w : World) (c : Sl lI 5 (hp w) t a.Kids) (hm : AJ a = some r) :
  mo false pg0 92 [(.agg #[(.int .i64 a.Op), (.int .i64 a.K), (.string a.lC.lK), (.string a.lC.lN), t])] w (.bool r) := by
 refine cG 15 func92 rfl (fun b => sg ?_)
 obtain ⟨u, x, rfl⟩ := c.form
 let d : Value := (.slice u a.Kids.length x)
 let a0 := (C1 a.Op a.K a.lC.lK a.lC.lN u a.Kids.length x)
 refine VE (mG b rfl (fun W4 Q b => Wa (lr (VA b Mh a0 aV aC (bS hm fun n Z hm => VE (Eg b call160 ((Gw mR) a d _ _ (c.mono mg.mono b.lL) Z) (fun W7 b => Wi rfl (Wm (LJ hm (fun I E W => ∃ B, ST false mD w W (hp w) ((Q, Ol a0 58) :: B) ∧ E 1 = (.pointer (some ⟨Q, 0, none⟩)) ∧ E 2 = (.bool false) ∧ E 10 = (.bool I)) 4 ?_ (fun I j z => ?_))))))))))
 ·rintro l E W ⟨B, b, T, G, U⟩ J
  refine Wh U (LJ J (fun H E W => ∃ D, ST false mD w W (hp w) D ∧ E 2 = (.bool false) ∧ E 14 = (.bool H)) 3 ?_ (fun H i y => ?_))
  ·rintro m E W ⟨D, b, a3, Y⟩ K
   exact Wg Y (lt (rQ K b))
  refine bC i (fun g i => ?_) (fun g i => ?_)
  ·refine ug g (lJ T (lQ b.has Mh a0 rfl aV aC)) (bS i fun a4 M i => sa g (Eg b call162 ((Hw mR) a d _ _ (c.mono mg.mono b.lL) M) (fun h b => V (mh (cB g) rfl) ?_)))
   obtain rfl := sj i
   exact y _ _ ⟨_, (b.lF (Db St)), G, rfl⟩
  refine un g (un g (V (mi (cB g) rfl) ?_))
  obtain rfl := sj i
  exact y _ _ ⟨_, (b.lF (Db St)), G, rfl⟩
 refine bC j (fun k j => ?_) (fun k j => ?_)
 ·refine ug k (lJ rfl (lQ b.has Mh a0 rfl aV aC)) (bS j fun a5 N j => sa k (Eg b call161 ((G9 mR) a d _ _ (c.mono mg.mono b.lL) N) (fun a2 b => ug k (mP rfl rfl rfl) (V (mh (cB k) rfl) ?_))))
  obtain rfl := sj j
  exact z _ _ ⟨_, (b.lF St), rfl, rfl, rfl⟩
 refine un k (un k (un k (V (mi (cB k) rfl) ?_)))
 obtain rfl := sj j
 exact z _ _ ⟨_, (b.lF St), rfl, rfl, rfl⟩
theorem N2 (k : Value) (u : List lC) (g : lC) (r : Bool) (w : World) (j : Sl (Pl lG) 2 (hp w) k u) (hm : Cp u g = some r) :
  mo true pg0 163 [k, (.agg (lG g).toArray)] w (.bool r) := by
 refine cG 17 func163 rfl (fun b => sg (VE (mG b rfl (fun Y J b => Wa (lS (Wm (V (mV aM rfl j) (Wm (ln ?_)))))))))
 refine mM (fun i E W => ∃ t, (E 9 = .int .i64 (i : Nat) ∧ E 8 = .int .i64 (u.length : Nat)) ∧ ST true mD w W (hp w) ((J, Ol (lG g) 50) :: t) ∧ E 3 = (.pointer (some ⟨J, 0, none⟩)) ∧ E 7 = k ∧ zT g (u.drop i) = some r) u.length j.len ⟨_, ⟨rfl, rfl⟩, (b.lF St), rfl, rfl, hm⟩ dc dc dc (fun _ _ _ h => by obtain ⟨_, l, _⟩ := h; exact l) ?_ ?_
 ·rintro K E W B ⟨t, ⟨d, m⟩, b, x, y, a⟩
  obtain ⟨c, M, H, G, I⟩ := mE B
  rw [H] at a
  refine bg (VQ (og (enc := lG) (i := (K : Int)) (x0 := c) aM aG y d j (aF _) G) (fun U D => V (lJ rfl (mr b.has D aT aG)) (VE (my b dB (fun N T b => VO (mj (.agg (lG c).toArray) ((lG c).toArray) b rfl rfl aG (pJ c) nb rfl (fun Q b => lr (VA b Mh (lG c) aT aG (V (lJ x (lQ b.has (Mt Mh) (lG g) rfl aT aG)) (V (vx rfl rfl (oI dK) (rA (pX _ c g))) (mz ?_)))))))))))
  refine lU ?_
  replace b := b.lF (Db St)
  refine CI a rfl (fun z a => ?_) (fun z a => ?_)
  ·refine sg (Wa (ln ?_))
   replace b := b.lF (Db St)
   refine mu (nY (mL (nY (mL ?_))))
   obtain rfl := sj a
   exact rP b
  exact nf (mJ (lU ⟨d, _, ⟨rfl, m⟩, (b.lF St), x, y, (by rw [I]; exact a)⟩))
 rintro E W ⟨t, ⟨d, m⟩, b, x, y, a⟩
 rw [aI] at a
 refine lU ?_
 replace b := b.lF (Db St)
 exact sg (Wa (lt (rQ a b)))
theorem H6 (N : Formula → (List lC) → Option Bool) (a5 : ∀ (g : Formula) (k : Value) (t : Value) (H : List lC) (r : Bool) (w : World) (c : Sl lI 5 (hp w) k g.Kids) (J : Sl (Pl lG) 2 (hp w) t H), N g H = some r → mo false pg0 93 [(.agg #[(.int .i64 g.Op), (.int .i64 g.K), (.string g.lC.lK), (.string g.lC.lN), k]), t] w (.bool r)) (g : Formula) (k t : Value) (H : List lC) (r : Bool) (w : World) (c : Sl lI 5 (hp w) k g.Kids) (J : Sl (Pl lG) 2 (hp w) t H) (hm : Aq N g H = some r) :
  mo false pg0 93 [(.agg #[(.int .i64 g.Op), (.int .i64 g.K), (.string g.lC.lK), (.string g.lC.lN), k]), t] w (.bool r) := by
 refine cG 45 func93 rfl (fun b => sg ?_)
 obtain ⟨A1, c2, rfl⟩ := c.form
 refine VE (mG b rfl (fun W4 n b => Wa (lS (Wf rK (VB b Mh rfl rfl cH (Wi rfl (ln (CI hm rfl (fun a9 hm => ?_) (fun a9 hm => ?_)))))))))
 ·refine sg (Wm (Wf wM (VA b Mh (lG g.lC) aT aG (bS hm fun r6 s hm => VE (Eg b call163 (mo.nz (N2 t H g.lC _ _ (J.mono (Pl.mono _) b.lL) s)) (fun W8 b => Wa (ln ?_)))))))
  replace b := b.lF (Db St)
  refine mu (mL ?_)
  obtain rfl := sj hm
  exact rP b
 refine kg (Wa (lS (Wf rH (VB b Mh rfl rfl fH (V (mV aH rfl c) (Wm (mz ?_)))))))
 refine lU (mM (fun i E W => ∃ y I, (E 18 = .int .i64 (i : Nat) ∧ E 17 = .int .i64 (g.Kids.length : Nat)) ∧ ST false mD w W (hp w) ((n, Ol (C1 g.Op g.K g.lC.lK g.lC.lN A1 g.Kids.length c2) 58) :: I) ∧ E 1 = t ∧ E 2 = (.pointer (some ⟨n, 0, none⟩)) ∧ E 5 = (.int .i64 y) ∧ E 16 = (.slice A1 g.Kids.length c2) ∧ ub N H g (g.Kids.drop i) y = some r) g.Kids.length c.len ⟨0, _, ⟨rfl, rfl⟩, (b.lF St), rfl, rfl, rfl, rfl, hm⟩ dc dc dc (fun _ _ _ h => by obtain ⟨_, _, l, _⟩ := h; exact l) ?_ ?_)
 ·rintro v E W a4 ⟨y, I, ⟨d, m⟩, b, D, u, x, G, a⟩
  obtain ⟨j, c1, q, o, M⟩ := mE a4
  rw [q] at a
  refine bg (VQ (nS (i := (v : Int)) (x0 := j) lI.out aH aC G d c (aF _) o) (fun P ⟨_, ⟨c0, rfl, K⟩, Y⟩ => V (lJ rfl (mr b.has Y aV aC)) (VE (my b bG (fun A O b => ?_)))))
  obtain ⟨z, B, rfl⟩ := K.form
  let a0 := (C1 j.Op j.K j.lC.lK j.lC.lN z j.Kids.length B)
  refine VO (mj (.agg a0.toArray) (a0.toArray) b rfl rfl aC oc nb rfl (fun F b => lr (VA b Mh a0 aV aC (Wh D (bS a fun R Z a => VE (Eg b call93 (a5 j (.slice z j.Kids.length B) t H _ _ (K.mono mg.mono b.lL) (J.mono (Pl.mono _) b.lL) Z) (fun L b => ln ?_)))))))
  replace b := b.lF (Db St)
  refine CI a rfl (fun Q a => ?_) (fun Q a => ?_)
  ·exact ma (Wh x (Wi rfl (Wa (mz (mJ (lU ⟨d, (wi0 .i64 (y + 1)), _, ⟨rfl, m⟩, (b.lF St), D, u, rfl, G, (by rw [M]; exact a)⟩))))))
  exact nf (mJ (lU ⟨d, y, _, ⟨rfl, m⟩, (b.lF St), D, u, x, G, (by rw [M]; exact a)⟩))
 rintro E W ⟨y, I, ⟨d, m⟩, b, D, u, x, G, a⟩
 rw [aI] at a
 refine lU (mf (sg (V (lO rK u) (VB b Mh rfl rfl cH (Wi rfl (ln (CI a rfl (fun T a => ?_) (fun T a => ?_))))))))
 ·refine sg (Wh x (V (lO rH u) (VB b Mh rfl rfl fH (V (mV aH rfl c) (Wi rfl (Wa (ln ?_)))))))
  replace b := b.lF (Db St)
  refine mu (mL ?_)
  obtain rfl := sj a
  exact rP b
 refine kS (V (lO rK u) (VB b Mh rfl rfl cH (Wi rfl (ln (CI a rfl (fun U a => ?_) (fun U a => ?_))))))
 ·refine sg (Wh x (Wi rfl (Wa (ln ?_))))
  replace b := b.lF (Db St)
  refine mu (mL ?_)
  obtain rfl := sj a
  exact rP b
 refine kg (Wh x (V (lO xr u) (VB b Mh rfl rfl cH (Wi rfl (Wa (ln ?_))))))
 exact mu (rQ a b)
theorem HC : ∀ (n : Nat) (c : Formula) (a : Value) (g : Value) (j : List lC) (r : Bool) (w : World) (i : Sl lI 5 (hp w) a c.Kids) (k : Sl (Pl lG) 2 (hp w) g j) (_ : vn n c j = some r),
  mo false pg0 93 [(.agg #[(.int .i64 c.Op), (.int .i64 c.K), (.string c.lC.lK), (.string c.lC.lN), a]), g] w (.bool r)
 | 0 => by intros; rename_i h; simp only [vn] at h; cases h
 | n + 1 => H6 (vn n) (HC n)
theorem Le (g : ng) (y z K R Q Z : Value) (r : List nx) (w : World) {μ0 : mN} (h0 : pC μ0 [] w) (x : Sl mC 15 μ0 y g.lH.lZ) (c : Sl mZ 8 μ0 z g.lH.mq) (J : Sl (Pl lE) 9 μ0 K g.lV) (Y : Sl (Pl lE) 9 μ0 R g.Shown) (N : Sl (Pl lG) 2 μ0 Q g.ml) (U : Sl (Pl lG) 2 μ0 Z g.ms) (hm : zN g = some r) :
  nO false pg0 31 [(.agg #[(.string g.lH.Name), y, z, (.string g.mU), (.int .i64 g.Room), K, R, Q, Z])] w μ0 [] (fun v L1 μ1 => ∃ y1, v = y1 ∧ L1 = [] ∧ Sl mZ 8 μ1 y1 (r)) := by
 refine wj h0 34 func31 rfl (fun d => sg ?_)
 obtain ⟨A1, c2, rfl⟩ := x.form
 obtain ⟨A3, c4, rfl⟩ := c.form
 let L : Value := (.slice A3 g.lH.mq.length c4)
 obtain ⟨A5, c6, rfl⟩ := J.form
 obtain ⟨A7, c8, rfl⟩ := Y.form
 obtain ⟨A9, b9, rfl⟩ := N.form
 obtain ⟨b4, c0, rfl⟩ := U.form
 refine VE (mG d rfl (fun i4 i6 d => Wa (lr (VA d Mh (C2 g.lH.Name A1 g.lH.lZ.length c2 A3 g.lH.mq.length c4 g.mU g.Room A5 g.lV.length c6 A7 g.Shown.length c8 A9 g.ml.length b9 b4 g.ms.length c0) dX dD (bS hm fun e7 f9 hm => VE (pA d call91 (nq.nz (L8 g (.slice A1 g.lH.lZ.length c2) L (.slice A5 g.lV.length c6) (.slice A7 g.Shown.length c8) (.slice A9 g.ml.length b9) (.slice b4 g.ms.length c0) _ _ (x.mono mK.mono d.lL) (c.mono nH.mono d.lL) (J.mono (Pl.mono _) d.lL) (Y.mono (Pl.mono _) d.lL) (N.mono (Pl.mono _) d.lL) (U.mono (Pl.mono _) d.lL) f9)) (fun i5 d4 d5 e6 d b1 n f8 => Wa (lr (Wa ?_)))))))))
 refine lS (Wf wH (Wf DP (VB d (Ma Mh) rfl rfl lA (V (mV cD rfl c) (Wm (ln ?_))))))
 replace d := d.lF (Kr (Db St))
 refine mM (fun i E W => ∃ M a4 T F, (E 13 = .int .i64 (i : Nat) ∧ E 12 = .int .i64 (g.lH.mq.length : Nat)) ∧ ST false (keys []) w W d5 (T ++ (e6 ++ F)) ∧ E 3 = d4 ∧ E 4 = M ∧ E 11 = L ∧ nm 87 mZ 8 d5 M a4 T ∧ sd e7 (g.lH.mq.drop i) a4 = some r) g.lH.mq.length c.len ⟨(.slice none 0 0), ([]), [], _, ⟨rfl, rfl⟩, (d.lF St), rfl, rfl, rfl, (nm.nil _ _ _ _), hm⟩ dc dc dc (fun _ _ _ h => by obtain ⟨_, _, _, _, O, _⟩ := h; exact O) ?_ ?_
 ·rintro d2 E W d9 ⟨M, a4, T, F, ⟨A, P⟩, d, a5, q, s, a2, u⟩
  obtain ⟨a, g3, e5, e4, b3⟩ := mE d9
  rw [e5] at u
  refine bg (VQ (nS (i := (d2 : Int)) (x0 := a) mZ.out cD dA s A (c.mono nH.mono b1) (aF _) e4) (fun h6 ⟨_, ⟨h9, i0, rfl, a3, b2⟩, e0⟩ => V (lJ rfl (mr d.has e0 js dA)) (VE (my d fY (fun g7 b7 d => ?_)))))
  obtain ⟨k, t, rfl⟩ := a3.form
  let b8 : Value := (.slice k a.lM.Kids.length t)
  let a9 := (C1 a.lM.Op a.lM.K a.lM.lC.lK a.lM.lC.lN k a.lM.Kids.length t)
  obtain ⟨D, G, rfl⟩ := b2.form
  let a0 := (C6 a.lC.lK a.lC.lN a.lM.Op a.lM.K a.lM.lC.lK a.lM.lC.lN k a.lM.Kids.length t D a.nj.length G)
  refine VO (mj (.agg a0.toArray) (a0.toArray) d rfl rfl dA oc nb rfl (fun g8 d => lr (Wf D9 (VA d Mh a9 aV aC (bS u fun h7 e1 u => VE (Eg d call92 (Ms a.lM b8 _ _ (a3.mono mg.mono d.lL) e1) (fun g9 d => V (oy rfl) (Wm (LJ u (fun d3 E W => ∃ b6, ST false (keys []) w W d5 ((b7, Ol a0 87) :: (T ++ (e6 ++ b6))) ∧ E 3 = d4 ∧ E 4 = M ∧ E 6 = (.pointer (some ⟨b7, 0, none⟩)) ∧ E 11 = L ∧ E 12 = (.int .i64 (g.lH.mq.length : Int)) ∧ E 13 = (.int .i64 (d2 : Int)) ∧ E 27 = (.bool d3)) 6 ?_ (fun d3 I a8 => ?_))))))))))
  ·rintro i1 E W ⟨b6, d, c3, c5, f6, c7, c9, d0, f7⟩ H
   refine ln (CI H f7 (fun d7 H => ?_) (fun d7 H => ?_))
   ·refine ma (Wh c5 (V (lJ f6 (lQ d.has Mh a0 rfl js dA)) (VE (mH (cs := a0.toArray) d (oE rfl) (ot cD dA fY) (fun h1 h4 d => ?_)))))
    replace d := d.perm (Nr (Qb (Qb Qz)) Nz)
    refine bS H fun g0 d8 H => VE (wk (B := T) nH d dc cD CD.1 CD.2.1 rfl CD.2.2.1 CD.2.2.2 rfl rfl a2 (D5.lit nH (l := [a]) (.cons (ys := C6 a.lC.lK a.lC.lN a.lM.Op a.lM.K a.lM.lC.lK a.lM.lC.lN k a.lM.Kids.length t D a.nj.length G) (mZ.mk ⟨b8, (.slice D a.nj.length G), rfl, a3, b2⟩) .nil) rfl nb (d.at_ (Ma Mh))) d8 (fun h2 g1 f2 d d6 => Wa (mz (mJ (lU ?_)))))
    replace d := d.lF (Kr (Db (Db St)))
    exact ⟨d0, g1, g0, f2, _, ⟨rfl, c9⟩, (d.lF St), c3, rfl, c7, d6, (by rw [b3]; exact H)⟩
   refine nf (mJ (lU ?_))
   replace d := d.lF (Db St)
   exact ⟨d0, M, a4, T, _, ⟨rfl, c9⟩, (d.lF St), c3, c5, c7, a2, (by rw [b3]; exact H)⟩
  refine bC I (fun j I => ?_) (fun j I => ?_)
  ·refine un j (un j (un j (un j (un j (V (mh (cB j) rfl) ?_)))))
   obtain rfl := sj I
   exact a8 _ _ ⟨_, (d.lF St), a5, q, rfl, s, P, A, rfl⟩
  refine ug j (lO D9 rfl) (ug j (lJ rfl (lQ d.has Mh a9 rfl aV aC)) (ug j (lP a5) (bS I fun h8 e2 I => sa j (Eg d call93 ((HC mR) a.lM b8 d4 e7 _ _ (a3.mono mg.mono d.lL) (f8.sl nF (fun b o hq => d.at_ (Mt (Ma (Ml hq))))) e2) (fun h3 d => ug j (oy rfl) (V (mi (cB j) rfl) ?_))))))
  obtain rfl := sj I
  exact a8 _ _ ⟨_, (d.lF St), a5, q, rfl, s, P, A, rfl⟩
 rintro E W ⟨M, a4, T, F, ⟨A, P⟩, d, a5, q, s, a2, u⟩
 rw [aI] at u
 refine lU ?_
 replace d := d.lF (Kr (Dr St))
 refine sg (Wh q (Wa (lt ?_)))
 obtain rfl := sj u
 refine nc (v := M) rfl rfl ?_
 obtain ⟨i3, d, d1, m, e3⟩ := ST.yZ nH d a2
 exact ⟨_, _, _, rfl, (d.ov Sn), (b1.trans d1), (n.trans m), (ST.nt d (oT.mem Sn)), M, rfl, rfl, e3⟩
theorem Im (k : Value) (u : List lD) (g : lD) (r : Bool) (w : World) (j : Sl (Pl lE) 9 (hp w) k u) (hm : Az u g = some r) :
  mo true pg0 30 [k, (.agg (lE g).toArray)] w (.bool r) := by
 refine cG 17 func30 rfl (fun b => sg (VE (mG b rfl (fun Y J b => Wa (lS (Wm (V (mV aK rfl j) (Wm (ln ?_)))))))))
 refine mM (fun i E W => ∃ t, (E 9 = .int .i64 (i : Nat) ∧ E 8 = .int .i64 (u.length : Nat)) ∧ ST true mD w W (hp w) ((J, Ol (lE g) 52) :: t) ∧ E 3 = (.pointer (some ⟨J, 0, none⟩)) ∧ E 7 = k ∧ zU g (u.drop i) = some r) u.length j.len ⟨_, ⟨rfl, rfl⟩, (b.lF St), rfl, rfl, hm⟩ dc dc dc (fun _ _ _ h => by obtain ⟨_, l, _⟩ := h; exact l) ?_ ?_
 ·rintro K E W B ⟨t, ⟨d, m⟩, b, x, y, a⟩
  obtain ⟨c, M, H, G, I⟩ := mE B
  rw [H] at a
  refine bg (VQ (og (enc := lE) (i := (K : Int)) (x0 := c) aK aJ y d j (aF _) G) (fun U D => V (lJ rfl (mr b.has D bD aJ)) (VE (my b cL (fun N T b => VO (mj (.agg (lE c).toArray) ((lE c).toArray) b rfl rfl aJ (pc c) nb rfl (fun Q b => lr (VA b Mh (lE c) bD aJ (V (lJ x (lQ b.has (Mt Mh) (lE g) rfl bD aJ)) (V (vx rfl rfl (oI fN) (rA (wP _ c g))) (mz ?_)))))))))))
  refine lU ?_
  replace b := b.lF (Db St)
  refine CI a rfl (fun z a => ?_) (fun z a => ?_)
  ·refine sg (Wa (ln ?_))
   replace b := b.lF (Db St)
   refine mu (nY (mL (nY (mL ?_))))
   obtain rfl := sj a
   exact rP b
  exact nf (mJ (lU ⟨d, _, ⟨rfl, m⟩, (b.lF St), x, y, (by rw [I]; exact a)⟩))
 rintro E W ⟨t, ⟨d, m⟩, b, x, y, a⟩
 rw [aI] at a
 refine lU ?_
 replace b := b.lF (Db St)
 exact sg (Wa (lt (rQ a b)))
theorem uu (G : Value) (N : List Signed) (H : Value) (l : List Signed) (I : Value) (f2 : (Signed × Signed) → Option Bool) (r : Bool) (w : World) (x : Sl oY 10 (hp w) G N) (Q : Sl oY 10 (hp w) H l) (o : zh pg0 I (hp w) (xH oY oY) (fun (r : Bool) => (.bool r)) f2) (hm : oh N l f2 = some r) :
  mo false pg0 95 [G, H, I] w (.bool r) := by
 refine cG 32 func95 rfl (fun b => sg (Wa (lS (Wm (V (mV eY rfl x) (Wm (V (mV eY rfl Q) (Wi rfl (mz ?_)))))))))
 refine lU (CI hm rfl (fun s hm => ?_) (fun s hm => ?_))
 ·refine sg (Wa (lt (mL ?_)))
  obtain rfl := sj hm
  exact rP b
 refine kS (Wm (V (mV eY rfl x) (Wm (ln (mM (fun i E W => ∃ y, (E 17 = .int .i64 (i : Nat) ∧ E 16 = .int .i64 (N.length : Nat)) ∧ ST false mD w W (hp w) y ∧ E 1 = H ∧ E 2 = I ∧ E 15 = G ∧ nr l f2 (N.drop i) i = some r) N.length x.len ⟨_, ⟨rfl, rfl⟩, (b.lF St), rfl, rfl, rfl, hm⟩ dc dc dc (fun _ _ _ h => by obtain ⟨_, m, _⟩ := h; exact m) ?_ ?_)))))
 ·rintro a4 E W U ⟨y, ⟨d, n⟩, b, z, B, D, g⟩
  obtain ⟨c, c5, a9, q, a3⟩ := mE U
  rw [a9] at g
  refine bg (Wh d (VQ (nS (i := (a4 : Int)) (x0 := c) oY.out eY eL D d x (aF _) q) (fun b9 ⟨_, ⟨c2, rfl, J⟩, Y⟩ => V (lJ rfl (mr b.has Y kV eL)) (VE (my b eQ (fun v P b => Wa ?_))))))
  obtain ⟨j, t, rfl⟩ := J.form
  let a0 := (C4 c.lD.Kind c.lD.Head.lK c.lD.Head.lN c.lD.mX c.lD.B.lK c.lD.B.lN c.lD.C.lK c.lD.C.lN c.lD.mQ j c.Tag.length t)
  refine VO (mj (.agg a0.toArray) (a0.toArray) b rfl rfl eL oc nb rfl (fun A b => lr (Wh z (Wm (bS g fun a M g => VQ (nS (i := (a4 : Int)) (x0 := a) oY.out eY eL rfl rfl Q (mF M) (mA M)) (fun c0 ⟨_, ⟨c3, rfl, K⟩, Z⟩ => V (lJ rfl (mr b.has Z kV eL)) (VE (my b eQ (fun F R b => ?_)))))))))
  obtain ⟨k, u, rfl⟩ := K.form
  let a5 := (C4 a.lD.Kind a.lD.Head.lK a.lD.Head.lN a.lD.mX a.lD.B.lK a.lD.B.lN a.lD.C.lK a.lD.C.lN a.lD.mQ k a.Tag.length u)
  refine VO (mj (.agg a5.toArray) (a5.toArray) b rfl rfl eL oc nb rfl (fun L b => lr (Wh B (VA b (Mt Mh) a0 kV eL (VA b Mh a5 kV eL (bS g fun c1 a2 g => VE (AN (c, a) b o (mx.refl _) (xH.mk rV rV (oY.mk ⟨(.slice j c.Tag.length t), rfl, J⟩) (oY.mk ⟨(.slice k a.Tag.length u), rfl, K⟩) b.lL) rfl (yA rfl rfl) a2 (fun O b => V (oy rfl) (ln ?_)))))))))
  replace b := b.lF (Db (Db St))
  refine CI g rfl (fun T g => ?_) (fun T g => ?_)
  ·refine sg (Wa (lt (nY (mL (nY (mL ?_))))))
   obtain rfl := sj g
   exact rP b
  exact nf (mJ (lU ⟨d, _, ⟨rfl, n⟩, (b.lF St), z, B, D, (by rw [a3]; exact g)⟩))
 rintro E W ⟨y, ⟨d, n⟩, b, z, B, D, g⟩
 rw [aI] at g
 exact lU (sg (Wa (lt (rQ g b))))
theorem Mf (a : Value) (j : List Int) (c : Value) (k : List Int) (r : Bool) (w : World) (g : Sl (Pl (ns .u8)) 1 (hp w) a j) (i : Sl (Pl (ns .u8)) 1 (hp w) c k) (hm : CZ j k = some r) :
  mo true pg0 164 [a, c] w (.bool r) := by
 refine cG 10 func164 rfl (fun b => sg (Wa (lr (Wm (V (HZ cO gT bQ rfl (g.mono (Pl.mono _) b.lL)) (Wm (V (HZ cO gT bQ rfl (i.mono (Pl.mono _) b.lL)) (V (ux rfl rfl rfl) (Wa (mz ?_))))))))))
 exact lU (mu (rQ hm b))
theorem I8 (a : Signed) (t : Value) (c : Signed) (u : Value) (r : Bool) (w : World) (j : Sl (Pl (ns .u8)) 1 (hp w) t a.Tag) (k : Sl (Pl (ns .u8)) 1 (hp w) u c.Tag) (hm : wB a c = some r) :
  mo true pg0 96 [(.agg #[(.int .i64 a.lD.Kind), (.string a.lD.Head.lK), (.string a.lD.Head.lN), (.string a.lD.mX), (.string a.lD.B.lK), (.string a.lD.B.lN), (.string a.lD.C.lK), (.string a.lD.C.lN), (.string a.lD.mQ), t]), (.agg #[(.int .i64 c.lD.Kind), (.string c.lD.Head.lK), (.string c.lD.Head.lN), (.string c.lD.mX), (.string c.lD.B.lK), (.string c.lD.B.lN), (.string c.lD.C.lK), (.string c.lD.C.lN), (.string c.lD.mQ), u])] w (.bool r) := by
 refine cG 17 func96 rfl (fun b => sg ?_)
 obtain ⟨G, I, rfl⟩ := j.form
 refine VE (mG b rfl (fun U Z b => ?_))
 obtain ⟨H, J, rfl⟩ := k.form
 refine VE (mG b rfl (fun Y d b => Wa (lr (Wf xh (VA b (Mt Mh) (lE a.lD) bD aJ (Wf xh (VA b Mh (lE c.lD) bD aJ (V (vx rfl rfl (oI fN) (rA (wP _ a.lD c.lD))) (Wm (LJ hm (fun z E W => ∃ y, ST true mD w W (hp w) y ∧ E 4 = (.bool false) ∧ E 16 = (.bool z)) 6 ?_ (fun z i x => ?_)))))))))))
 ·rintro T E W ⟨y, b, N, K⟩ B
  exact Wg K (lt (rQ B b))
 refine bC i (fun g i => ?_) (fun g i => ?_)
 ·refine ug g (lO Hd rfl) (ug g (lJ rfl (lX b.has (Mt Mh) rfl jZ)) (ug g (lO Hd rfl) (ug g (lJ rfl (lX b.has Mh rfl jZ)) (bS i fun Q D i => sa g (Eg b call164 (Mf (.slice G a.Tag.length I) a.Tag (.slice H c.Tag.length J) c.Tag _ _ (j.mono (Pl.mono _) b.lL) (k.mono (Pl.mono _) b.lL) D) (fun M b => V (mh (cB g) rfl) ?_))))))
  obtain rfl := sj i
  exact x _ _ ⟨_, (b.lF (Db (Db St))), rfl, rfl⟩
 refine un g (un g (un g (un g (un g (V (mi (cB g) rfl) ?_)))))
 obtain rfl := sj i
 exact x _ _ ⟨_, (b.lF (Db (Db St))), rfl, rfl⟩
theorem PS (a : DR) (I H : Value) (c : DR) (K J : Value) (r : Bool) (w : World) (B : Sl (Pl lG) 2 (hp w) I a.tW) (z : Sl oY 10 (hp w) H a.tV) (G : Sl (Pl lG) 2 (hp w) K c.tW) (D : Sl oY 10 (hp w) J c.tV) (hm : Dv a c = some r) :
  mo false pg0 32 [(.agg #[(.int .i64 a.Kind), (.int .i64 a.xU), (.int .i64 a.E), (.string a.Name), I, H]), (.agg #[(.int .i64 c.Kind), (.int .i64 c.xU), (.int .i64 c.E), (.string c.Name), K, J])] w (.bool r) := by
 refine cG 47 func32 rfl (fun b => sg ?_)
 obtain ⟨A1, c2, rfl⟩ := B.form
 obtain ⟨A3, F, rfl⟩ := z.form
 let a0 := (WQ a.Kind a.xU a.E a.Name A1 a.tW.length c2 A3 a.tV.length F)
 refine VE (mG b rfl (fun W6 Y b => ?_))
 obtain ⟨A7, R, rfl⟩ := G.form
 obtain ⟨A9, U, rfl⟩ := D.form
 let d := (WQ c.Kind c.xU c.E c.Name A7 c.tW.length R A9 c.tV.length U)
 refine VE (mG b rfl (fun f1 M b => Wa (lr (Wf QQ (VB b (Mt Mh) rfl rfl cH (Wf QQ (VB b Mh rfl rfl cH (Wi rfl (Wm (LJ hm (fun d3 E W => ∃ c1, ST false mD w W (hp w) ((M, Ol d 78) :: ((Y, Ol a0 78) :: c1)) ∧ E 2 = (.pointer (some ⟨Y, 0, none⟩)) ∧ E 3 = (.pointer (some ⟨M, 0, none⟩)) ∧ E 17 = (.bool d3)) 6 ?_ (fun d3 T a5 => ?_)))))))))))
 ·let l : Value := (.pointer (some ⟨M, 0, none⟩))
  let h : Value := (.pointer (some ⟨Y, 0, none⟩))
  rintro f6 E W ⟨c1, b, m, n, e1⟩ d4
  refine Wh e1 (LJ d4 (fun d2 E W => ∃ A, ST false mD w W (hp w) ((M, Ol d 78) :: ((Y, Ol a0 78) :: A)) ∧ E 2 = h ∧ E 3 = l ∧ E 24 = (.bool d2)) 6 ?_ (fun d2 Q a4 => ?_))
  ·rintro f7 E W ⟨A, b, o, q, e2⟩ d5
   refine Wh e2 (LJ d5 (fun d1 E W => ∃ L, ST false mD w W (hp w) ((M, Ol d 78) :: ((Y, Ol a0 78) :: L)) ∧ E 2 = h ∧ E 3 = l ∧ E 31 = (.bool d1)) 6 ?_ (fun d1 N a3 => ?_))
   ·rintro f8 E W ⟨L, b, s, v, e3⟩ d6
    refine Wg e3 (lr (Wm (Wm (LJ d6 (fun d0 E W => ∃ O, ST false mD w W (hp w) ((M, Ol d 78) :: ((Y, Ol a0 78) :: O)) ∧ E 2 = h ∧ E 3 = l ∧ E 39 = (.bool d0)) 6 ?_ (fun d0 y a2 => ?_)))))
    ·rintro f9 E W ⟨O, b, e4, e5, e6⟩ d7
     refine Wh e6 (LJ d7 (fun c9 E W => ∃ P, ST false mD w W (hp w) P ∧ E 46 = (.bool c9)) 6 ?_ (fun c9 u Z => ?_))
     ·rintro g0 E W ⟨P, b, e7⟩ d8
      exact Wg e7 (lt (rQ d8 b))
     refine bC u (fun t u => ?_) (fun t u => ?_)
     ·refine ug t (lO Ks e4) (ug t (lJ rfl (lX b.has (Mt Mh) rfl isAgg45)) (ug t (lO Ks e5) (ug t (lJ rfl (lX b.has Mh rfl isAgg45)) (bS u fun f4 d9 u => sa t (Eg b call95 (uu (.slice A3 a.tV.length F) a.tV (.slice A9 c.tV.length U) c.tV (.func (.func 96) #[] #[]) (fun (x : (Signed × Signed)) => wB x.1 x.2) _ _ (z.mono rV.mono b.lL) (D.mono rV.mono b.lL) ⟨96, #[], #[], rfl, call96, fun W x vs r hs hR hm => by obtain ⟨_, _, rfl, e8, e9⟩ := hR; obtain ⟨u0, rfl, k0⟩ := e8.out; obtain ⟨t0, rfl, j0⟩ := e9.out; exact (I8 x.1 u0 x.2 t0 r W k0 j0 hm).nz⟩ d9) (fun f2 b => V (mh (cB t) rfl) ?_))))))
      obtain rfl := sj u
      exact Z _ _ ⟨_, (b.lF (Db (Db St))), rfl⟩
     refine un t (un t (un t (un t (un t (V (mi (cB t) rfl) ?_)))))
     obtain rfl := sj u
     exact Z _ _ ⟨_, (b.lF (Db (Db St))), rfl⟩
    refine bC y (fun k y => ?_) (fun k y => ?_)
    ·refine ug k (lO Ju s) (ug k (lJ rfl (lX b.has (Mt Mh) rfl gV)) (ug k (lO Ju v) (ug k (lJ rfl (lX b.has Mh rfl gV)) (bS y fun f5 e0 y => sa k (Eg b call94 (mo.nz (yX (.slice A1 a.tW.length c2) a.tW (.slice A7 c.tW.length R) c.tW _ _ (B.mono (Pl.mono _) b.lL) (G.mono (Pl.mono _) b.lL) e0)) (fun f3 b => V (mh (cB k) rfl) ?_))))))
     obtain rfl := sj y
     exact a2 _ _ ⟨_, (b.lF St), s, v, rfl⟩
    refine un k (un k (un k (un k (un k (V (mi (cB k) rfl) ?_)))))
    obtain rfl := sj y
    exact a2 _ _ ⟨_, (b.lF St), s, v, rfl⟩
   refine bC N (fun j N => ?_) (fun j N => ?_)
   ·refine ug j (lO Qx o) (ug j (lJ rfl (lX b.has (Mt Mh) rfl bO)) (ug j (lO Qx q) (ug j (lJ rfl (lX b.has Mh rfl bO)) (ug j (ux rfl rfl rfl) (V (mh (cB j) rfl) ?_)))))
    obtain rfl := sj N
    exact a3 _ _ ⟨_, (b.lF St), o, q, rfl⟩
   refine un j (un j (un j (un j (un j (V (mi (cB j) rfl) ?_)))))
   obtain rfl := sj N
   exact a3 _ _ ⟨_, (b.lF St), o, q, rfl⟩
  refine bC Q (fun i Q => ?_) (fun i Q => ?_)
  ·refine ug i (lO Q2 m) (ug i (lJ rfl (lX b.has (Mt Mh) rfl cH)) (ug i (lO Q2 n) (ug i (lJ rfl (lX b.has Mh rfl cH)) (ug i (mP rfl rfl rfl) (V (mh (cB i) rfl) ?_)))))
   obtain rfl := sj Q
   exact a4 _ _ ⟨_, (b.lF St), m, n, rfl⟩
  refine un i (un i (un i (un i (un i (V (mi (cB i) rfl) ?_)))))
  obtain rfl := sj Q
  exact a4 _ _ ⟨_, (b.lF St), m, n, rfl⟩
 refine bC T (fun g T => ?_) (fun g T => ?_)
 ·refine ug g (lO QH rfl) (ug g (lJ rfl (lX b.has (Mt Mh) rfl cH)) (ug g (lO QH rfl) (ug g (lJ rfl (lX b.has Mh rfl cH)) (ug g (mP rfl rfl rfl) (V (mh (cB g) rfl) ?_)))))
  obtain rfl := sj T
  exact a5 _ _ ⟨_, (b.lF St), rfl, rfl, rfl⟩
 refine un g (un g (un g (un g (un g (V (mi (cB g) rfl) ?_)))))
 obtain rfl := sj T
 exact a5 _ _ ⟨_, (b.lF St), rfl, rfl, rfl⟩
theorem MM (t : Value) (y : List lC) (u : Value) (K : List lC) (r : Bool) (w : World) (c : Sl (Pl lG) 2 (hp w) t y) (z : Sl (Pl lG) 2 (hp w) u K) (hm : BF y K = some r) :
  mo true pg0 33 [t, u] w (.bool r) := by
 refine cG 26 func33 rfl (fun d => sg (Wa (lS (Wm (V (mV aM rfl c) (Wm (V (mV aM rfl z) (Wi rfl (mz ?_)))))))))
 refine lU (CI hm rfl (fun U hm => ?_) (fun U hm => ?_))
 ·refine sg (Wa (lt (mL ?_)))
  obtain rfl := sj hm
  exact rP d
 refine kS (Wm (V (mV aM rfl c) (Wm (ln (mM (fun i E W => ∃ g, (E 13 = .int .i64 (i : Nat) ∧ E 12 = .int .i64 (y.length : Nat)) ∧ ST true mD w W (hp w) g ∧ E 0 = t ∧ E 1 = u ∧ se K (y.drop i) i = some r) y.length c.len ⟨_, ⟨rfl, rfl⟩, (d.lF St), rfl, rfl, hm⟩ dc dc dc (fun _ _ _ h => by obtain ⟨_, m, _⟩ := h; exact m) ?_ ?_)))))
 ·rintro I E W M ⟨g, ⟨l, o⟩, d, j, k, a⟩
  obtain ⟨J, a3, Q, N, T⟩ := mE M
  rw [Q] at a
  refine bg (Wh l (Wa (ln (mf ?_))))
  replace d := d.drew
  have b := d.has.lF Sn
  refine mT b mB (X 0 rfl b (lP j) (X 1 rfl b (lP rfl) (XQ 2 rfl b (og (enc := lG) (i := (I : Int)) (x0 := J) aM aG rfl rfl c (aF _) N) (fun Y G => XH 3 rfl b (fun _ n => lJ rfl (mr n G aT aG)) (X 4 rfl b (lP k) (X 5 rfl b (lP rfl) (bS a fun B x a => XQ 6 rfl b (og (enc := lG) (i := (I : Int)) (x0 := B) aM aG rfl rfl z (mF x) (mA x)) (fun Z H => XH 7 rfl b (fun _ n => lJ rfl (mr n H aT aG)) (X 8 rfl b (Gk rfl rfl (oI dK) (BW (pX _ J B))) (nh kr (lU (CI a rfl (fun D a => ?_) (fun D a => ?_)))))))))))))
  ·refine sg (Wa (lt (nY (mL (nY (mL ?_))))))
   obtain rfl := sj a
   exact rP d
  exact nf (mJ (lU ⟨l, _, ⟨rfl, o⟩, (d.lF St), j, k, (by rw [T]; exact a)⟩))
 rintro E W ⟨g, ⟨l, o⟩, d, j, k, a⟩
 rw [aI] at a
 exact lU (sg (Wa (lt (rQ a d))))
theorem Ny (t : Value) (y : List lD) (u : Value) (K : List lD) (r : Bool) (w : World) (c : Sl (Pl lE) 9 (hp w) t y) (z : Sl (Pl lE) 9 (hp w) u K) (hm : Bv y K = some r) :
  mo true pg0 12 [t, u] w (.bool r) := by
 refine cG 26 func12 rfl (fun d => sg (Wa (lS (Wm (V (mV aK rfl c) (Wm (V (mV aK rfl z) (Wi rfl (mz ?_)))))))))
 refine lU (CI hm rfl (fun U hm => ?_) (fun U hm => ?_))
 ·refine sg (Wa (lt (mL ?_)))
  obtain rfl := sj hm
  exact rP d
 refine kS (Wm (V (mV aK rfl c) (Wm (ln (mM (fun i E W => ∃ g, (E 13 = .int .i64 (i : Nat) ∧ E 12 = .int .i64 (y.length : Nat)) ∧ ST true mD w W (hp w) g ∧ E 0 = t ∧ E 1 = u ∧ xu K (y.drop i) i = some r) y.length c.len ⟨_, ⟨rfl, rfl⟩, (d.lF St), rfl, rfl, hm⟩ dc dc dc (fun _ _ _ h => by obtain ⟨_, m, _⟩ := h; exact m) ?_ ?_)))))
 ·rintro I E W M ⟨g, ⟨l, o⟩, d, j, k, a⟩
  obtain ⟨J, a3, Q, N, T⟩ := mE M
  rw [Q] at a
  refine bg (Wh l (Wa (ln (mf ?_))))
  replace d := d.drew
  have b := d.has.lF Sn
  refine mT b mB (X 0 rfl b (lP j) (X 1 rfl b (lP rfl) (XQ 2 rfl b (og (enc := lE) (i := (I : Int)) (x0 := J) aK aJ rfl rfl c (aF _) N) (fun Y G => XH 3 rfl b (fun _ n => lJ rfl (mr n G bD aJ)) (X 4 rfl b (lP k) (X 5 rfl b (lP rfl) (bS a fun B x a => XQ 6 rfl b (og (enc := lE) (i := (I : Int)) (x0 := B) aK aJ rfl rfl z (mF x) (mA x)) (fun Z H => XH 7 rfl b (fun _ n => lJ rfl (mr n H bD aJ)) (X 8 rfl b (Gk rfl rfl (oI fN) (BW (wP _ J B))) (nh kr (lU (CI a rfl (fun D a => ?_) (fun D a => ?_)))))))))))))
  ·refine sg (Wa (lt (nY (mL (nY (mL ?_))))))
   obtain rfl := sj a
   exact rP d
  exact nf (mJ (lU ⟨l, _, ⟨rfl, o⟩, (d.lF St), j, k, (by rw [T]; exact a)⟩))
 rintro E W ⟨g, ⟨l, o⟩, d, j, k, a⟩
 rw [aI] at a
 exact lU (sg (Wa (lt (rQ a d))))
set_option maxHeartbeats 1000000 in
theorem GO (c : ng) (d8 e0 e4 g0 f2 f9 m : Value) (a1 : List lC) (d9 : Value) (a2 : List Bool) (r : Bool) (w : World) (k : Sl mC 15 (hp w) d8 c.lH.lZ) (u : Sl mZ 8 (hp w) e0 c.lH.mq) (I : Sl (Pl lE) 9 (hp w) e4 c.lV) (Q : Sl (Pl lE) 9 (hp w) g0 c.Shown) (T : Sl (Pl lG) 2 (hp w) f2 c.ml) (a7 : Sl (Pl lG) 2 (hp w) f9 c.ms) (n7 : Sl (Pl lG) 2 (hp w) m a1) (t4 : Sl (Pl Vs) 1 (hp w) d9 a2) (hm : wS c a1 a2 = some r) :
  mo false pg0 6 [(.agg #[(.string c.lH.Name), d8, e0, (.string c.mU), (.int .i64 c.Room), e4, g0, f2, f9]), m, d9] w (.bool r) := by
 let bn : Value := (.string c.lH.Name)
 refine cG 127 func6 rfl (fun b => sg ?_)
 obtain ⟨A1, c2, rfl⟩ := k.form
 let o : Value := (.slice A1 c.lH.lZ.length c2)
 obtain ⟨A3, c4, rfl⟩ := u.form
 let R : Value := (.slice A3 c.lH.mq.length c4)
 obtain ⟨A5, c6, rfl⟩ := I.form
 let b9 : Value := (.slice A5 c.lV.length c6)
 obtain ⟨A7, c8, rfl⟩ := Q.form
 let b8 : Value := (.slice A7 c.Shown.length c8)
 obtain ⟨A9, G, rfl⟩ := T.form
 let c7 : Value := (.slice A9 c.ml.length G)
 obtain ⟨D, H, rfl⟩ := a7.form
 let g5 : Value := (.slice D c.ms.length H)
 let d := (C2 c.lH.Name A1 c.lH.lZ.length c2 A3 c.lH.mq.length c4 c.mU c.Room A5 c.lV.length c6 A7 c.Shown.length c8 A9 c.ml.length G D c.ms.length H)
 refine VE (mG b rfl (fun dz a5 b => Wa (lS (bS hm fun eg ar hm => VE (Eg b call25 (Mg  _ _  ar) (fun ea b => V (oy rfl) (ln (CI hm rfl (fun ao hm => ?_) (fun ao hm => ?_)))))))))
 ·refine sg (Wa (ln ?_))
  replace b := b.lF (Db St)
  refine mu (mL ?_)
  obtain rfl := sj hm
  exact rP b
 refine kS (VA b Mh d dX dD (bS hm fun eh au hm => VE (Eg b call16 (Mu c o R b9 b8 c7 g5 _ _ (k.mono mK.mono b.lL) (u.mono nH.mono b.lL) (I.mono (Pl.mono _) b.lL) (Q.mono (Pl.mono _) b.lL) (T.mono (Pl.mono _) b.lL) (a7.mono (Pl.mono _) b.lL) au) (fun eb b => Wi rfl (Wm (LJ hm (fun s0 E W => ∃ ai, ST false mD w W (hp w) ((a5, Ol d 36) :: ai) ∧ E 1 = m ∧ E 2 = d9 ∧ E 3 = (.pointer (some ⟨a5, 0, none⟩)) ∧ E 28 = (.bool s0)) 4 ?_ (fun s0 d7 j8 => ?_)))))))
 ·let v : Value := (.pointer (some ⟨a5, 0, none⟩))
  rintro ej E W ⟨ai, b, t1, ak, al, aw⟩ aq
  refine Wh aw (LJ aq (fun r9 E W => ∃ aj, ST false mD w W (hp w) ((a5, Ol d 36) :: aj) ∧ E 1 = m ∧ E 2 = d9 ∧ E 3 = v ∧ E 33 = (.bool r9)) 4 ?_ (fun r9 e8 j7 => ?_))
  ·rintro ek E W ⟨aj, b, ay, az, r0, ba⟩ f3
   refine ln (CI f3 ba (fun ap f3 => ?_) (fun ap f3 => ?_))
   ·refine sg (Wa (ln ?_))
    replace b := b.lF (Db St)
    refine mu (mL ?_)
    obtain rfl := sj f3
    exact rP b
   refine kg (V (lJ r0 (lQ b.has Mh d rfl dX dD)) (VE (my b kU (fun ec q b => VO (mj (.agg d.toArray) (d.toArray) b rfl rfl dD oc nb rfl (fun ed b => lr (Wf wH (Wf xT (VO (mj (.slice none 0 0) (#[bn, (.slice none 0 0), R, (.string c.mU), (.int .i64 c.Room), b9, b8, c7, g5]) b rfl rfl sizeOf22 oc nb rfl (fun ee b => mz ?_)))))))))))
   let F : Value := (.pointer (some ⟨q, 0, none⟩))
   refine lU (sg (V (lJ r0 (lQ b.has (Mt Mh) d rfl dX dD)) (bS f3 fun n6 av f3 => ?_)))
   refine VE (eD b (bI _) call31 (fun hh => (Le c o R b9 b8 c7 g5 _ _ hh (k.mono mK.mono (mx.refl _)) (u.mono nH.mono (mx.refl _)) (I.mono (Pl.mono _) (mx.refl _)) (Q.mono (Pl.mono _) (mx.refl _)) (T.mono (Pl.mono _) (mx.refl _)) (a7.mono (Pl.mono _) (mx.refl _)) av)) ?_ (L0 := []))
   rintro _ ei g3 dy b J ep ⟨g2, n8, rfl, n9⟩
   obtain rfl := n8.symm
   refine Wa (lr (Wa (lS (V (lO wH r0) (Wf xT (VB b (Mt Mh) rfl rfl jE (V (mV dC rfl k) ?_)))))))
   refine Wm (ln (mM (fun i E W => ∃ s b0 f1 n k1, (E 43 = .int .i64 (i : Nat) ∧ E 42 = .int .i64 (c.lH.lZ.length : Nat)) ∧ ST false mD w W g3 ((q, Ob #[bn, b0, R, (.string c.mU), (.int .i64 c.Room), b9, b8, c7, g5] 36) :: ((a5, Ol d 36) :: (n ++ k1))) ∧ E 1 = m ∧ E 2 = d9 ∧ E 3 = v ∧ E 7 = F ∧ E 8 = g2 ∧ E 9 = (.int .i64 s) ∧ E 41 = o ∧ nm 60 mC 15 g3 b0 f1 n ∧ ph n6 c a2 a1 (c.lH.lZ.drop i) s f1 = some r) c.lH.lZ.length k.len ⟨0, (.slice none 0 0), ([]), [], _, ⟨rfl, rfl⟩, (b.lF St), ay, az, r0, rfl, rfl, rfl, rfl, (nm.nil _ _ _ _), f3⟩ dc dc dc (fun _ _ _ h => by obtain ⟨_, _, _, _, _, aE, _⟩ := h; exact aE) ?_ ?_))
   ·rintro e3 E W t8 ⟨s, b0, f1, n, k1, ⟨eI, eN⟩, b, h4, p0, f4, f5, k5, p1, k6, e9, A⟩
    let b2 := (#[bn, b0, R, (.string c.mU), (.int .i64 c.Room), b9, b8, c7, g5] : Array Value)
    obtain ⟨a, bo, w2, w1, n0⟩ := mE t8
    rw [w2] at A
    refine bg (VQ (nS (i := (e3 : Int)) (x0 := a) mC.out dC dH k6 eI (k.mono mK.mono J) (aF _) w1) (fun ct ⟨_, ⟨de, df, rfl, m7, m8⟩, u7⟩ => V (lJ rfl (mr b.has u7 jF dH)) (VE (my b eP (fun bt a9 b => ?_)))))
    let t2 : Value := (.int .i64 (e3 : Int))
    let g6 : Value := (.pointer (some ⟨a9, 0, none⟩))
    let c5 : Value := (.int .i64 (c.lH.lZ.length : Int))
    obtain ⟨Y, a3, rfl⟩ := m7.form
    obtain ⟨Z, a4, rfl⟩ := m8.form
    let a0 := (C3 a.Signed.lD.Kind a.Signed.lD.Head.lK a.Signed.lD.Head.lN a.Signed.lD.mX a.Signed.lD.B.lK a.Signed.lD.B.lN a.Signed.lD.C.lK a.Signed.lD.C.lN a.Signed.lD.mQ Y a.Signed.Tag.length a3 a.lM.Op a.lM.K a.lM.lC.lK a.lM.lC.lN Z a.lM.Kids.length a4)
    refine VO (mj (.agg a0.toArray) (a0.toArray) b rfl rfl dH oc nb rfl (fun bu b => lr (Wa (lS (Wh k5 (V (mV cD rfl n9) (Wm (mz ?_))))))))
    refine lU (CJ A (fun m0 E W => ∃ o1, ST false mD w W g3 ((a9, Ol a0 60) :: ((q, Obj.cells b2 36 (0, 0)) :: ((a5, Ol d 36) :: (n ++ o1)))) ∧ E 1 = m ∧ E 2 = d9 ∧ E 3 = v ∧ E 7 = F ∧ E 8 = g2 ∧ E 9 = (.int .i64 s) ∧ E 11 = g6 ∧ E 12 = (.bool m0) ∧ E 41 = o ∧ E 42 = c5 ∧ E 43 = t2) (fun m0 u2 => ?_) ?_)
    ·refine mM (fun i E W => ∃ g1 k2, (E 49 = .int .i64 (i : Nat) ∧ E 48 = .int .i64 (n6.length : Nat)) ∧ ST false mD w W g3 ((a9, Ol a0 60) :: ((q, Obj.cells b2 36 (0, 0)) :: ((a5, Ol d 36) :: (n ++ k2)))) ∧ E 1 = m ∧ E 2 = d9 ∧ E 3 = v ∧ E 7 = F ∧ E 8 = g2 ∧ E 9 = (.int .i64 s) ∧ E 11 = g6 ∧ E 12 = (.bool g1) ∧ E 41 = o ∧ E 42 = c5 ∧ E 43 = t2 ∧ E 47 = g2 ∧ rb a (n6.drop i) g1 = some m0) n6.length n9.len ⟨false, _, ⟨rfl, rfl⟩, (b.lF St), h4, p0, f4, f5, k5, p1, rfl, rfl, k6, eN, eI, rfl, u2⟩ dc dc dc (fun _ _ _ h => by obtain ⟨_, _, aE, _⟩ := h; exact aE) ?_ ?_
     ·rintro r1 E W t9 ⟨g1, k2, ⟨eI, eN⟩, b, h5, h6, h7, h8, h9, i0, f7, f8, i1, i2, i3, i4, d2⟩
      obtain ⟨x, bp, w5, w4, w6⟩ := mE t9
      rw [w5] at d2
      refine bg (VQ (nS (i := (r1 : Int)) (x0 := x) mZ.out cD dA i4 eI n9 (aF _) w4) (fun cv ⟨_, ⟨dh, di, rfl, v9, m9⟩, u9⟩ => V (lJ rfl (mr b.has u9 js dA)) (VE (my b fY (fun ca co b => ?_)))))
      obtain ⟨o0, o9, rfl⟩ := v9.form
      obtain ⟨k0, k4, rfl⟩ := m9.form
      let j1 := (C6 x.lC.lK x.lC.lN x.lM.Op x.lM.K x.lM.lC.lK x.lM.lC.lN o0 x.lM.Kids.length o9 k0 x.nj.length k4)
      refine VO (mj (.agg j1.toArray) (j1.toArray) b rfl rfl dA oc nb rfl (fun cb b => ln (ma (Wh f8 (Wm (LJ d2 (fun r5 E W => ∃ o5, ST false mD w W g3 ((a9, Ol a0 60) :: ((q, Obj.cells b2 36 (0, 0)) :: ((a5, Ol d 36) :: (n ++ o5)))) ∧ E 1 = m ∧ E 2 = d9 ∧ E 3 = v ∧ E 7 = F ∧ E 8 = g2 ∧ E 9 = (.int .i64 s) ∧ E 11 = g6 ∧ E 12 = (.bool g1) ∧ E 41 = o ∧ E 42 = c5 ∧ E 43 = t2 ∧ E 47 = g2 ∧ E 48 = (.int .i64 (n6.length : Int)) ∧ E 49 = (.int .i64 (r1 : Int)) ∧ E 61 = (.bool r5)) 7 ?_ (fun r5 d3 j3 => ?_)))))))
      ·rintro ah E W ⟨o5, b, y6, y7, y8, y9, z0, z1, z2, cr, z3, z4, z5, z6, z7, z8, z9⟩ u3
       exact Wg z9 (mz (mJ (lU ⟨z8, ah, _, ⟨rfl, z7⟩, (b.lF St), y6, y7, y8, y9, z0, z1, z2, rfl, z3, z4, z5, z6, (by rw [w6]; exact u3)⟩)))
      refine bC d3 (fun z d3 => ?_) (fun z d3 => ?_)
      ·refine un z (un z (un z (un z (un z (un z (V (mh (cB z) rfl) ?_))))))
       obtain rfl := sj d3
       exact j3 _ _ ⟨_, (b.lF (Db St)), h5, h6, h7, h8, h9, i0, f7, f8, i1, i2, i3, i4, eN, eI, rfl⟩
      refine ug z (lO Ea rfl) (ug z (lJ rfl (lX b.has Mh rfl eH)) (ug z (lO xZ f7) (ug z (lO xh rfl) (ug z (lJ rfl (lQ b.has (Mt Mh) (lE a.Signed.lD) rfl bD aJ)) (bS d3 fun cx v2 d3 => sa z (Eg b call30 (mo.nz (Im (.slice k0 x.nj.length k4) x.nj a.Signed.lD _ _ (m9.mono (Pl.mono _) b.lL) v2)) (fun cc b => V (mi (cB z) rfl) ?_)))))))
      obtain rfl := sj d3
      exact j3 _ _ ⟨_, (b.lF (Db St)), h5, h6, h7, h8, h9, i0, f7, f8, i1, i2, i3, i4, eN, eI, rfl⟩
     rintro E W ⟨g1, k2, ⟨eI, eN⟩, b, h5, h6, h7, h8, h9, i0, f7, f8, i1, i2, i3, i4, d2⟩
     rw [aI] at d2
     refine lU ?_
     obtain rfl := sj d2
     exact ⟨_, (b.lF St), h5, h6, h7, h8, h9, i0, f7, f8, i1, i2, i3⟩
    rintro dl E W ⟨o1, b, p2, p3, k7, p4, p5, p6, k8, x3, p7, p8, p9⟩ u0
    refine mf (VJ u0 (fun r2 E W => ∃ o2, ST false mD w W g3 ((a9, Ol a0 60) :: ((q, Obj.cells b2 36 (0, 0)) :: ((a5, Ol d 36) :: (n ++ o2)))) ∧ E 1 = m ∧ E 2 = d9 ∧ E 3 = v ∧ E 7 = F ∧ E 8 = g2 ∧ E 9 = (.int .i64 r2) ∧ E 11 = g6 ∧ E 41 = o ∧ E 42 = c5 ∧ E 43 = t2) (fun r2 u1 e5 => ?_) ?_)
    ·refine sg (Wh x3 (Wm (LJ u1 (fun r4 E W => ∃ o3, ST false mD w W g3 ((a9, Ol a0 60) :: ((q, Obj.cells b2 36 (0, 0)) :: ((a5, Ol d 36) :: (n ++ o3)))) ∧ E 1 = m ∧ E 2 = d9 ∧ E 3 = v ∧ E 7 = F ∧ E 8 = g2 ∧ E 9 = (.int .i64 s) ∧ E 11 = g6 ∧ E 41 = o ∧ E 42 = c5 ∧ E 43 = t2 ∧ E 72 = (.bool r4)) 8 ?_ (fun r4 d1 j0 => ?_))))
     ·rintro dm E W ⟨o3, b, l0, f6, l1, l2, l3, q0, l4, l5, l6, l7, y3⟩ e6
      refine ln (CI e6 y3 (fun t6 e6 => ?_) (fun t6 e6 => ?_))
      ·refine sg (Wh q0 (Wi rfl (Wa (lr (Wm (Wh f6 (V (mV underlying84 rfl t4) (Wi rfl (Wm (LJ e6 (fun r3 E W => ∃ o4, ST false mD w W g3 ((a9, Ol a0 60) :: ((q, Obj.cells b2 36 (0, 0)) :: ((a5, Ol d 36) :: (n ++ o4)))) ∧ E 1 = m ∧ E 2 = d9 ∧ E 3 = v ∧ E 7 = F ∧ E 8 = g2 ∧ E 9 = (.int .i64 (wi0 .i64 (s + 1))) ∧ E 11 = g6 ∧ E 41 = o ∧ E 42 = c5 ∧ E 43 = t2 ∧ E 85 = (.bool r3)) 6 ?_ (fun r3 d0 i9 => ?_)))))))))))
       ·rintro dn E W ⟨o4, b, q1, q2, q3, q4, q5, q6, y4, q7, q8, q9, y5⟩ e7
        refine ln (CI e7 y5 (fun t7 e7 => ?_) (fun t7 e7 => ?_))
        ·refine pk (oR (tE (bS e7 fun af v0 w3 => ?_)))
         obtain rfl := sj w3
         replace e5 : some af = some r := e5
         replace e5 := (fQ e5).symm; subst e5
         refine lU ?_
         replace b := b.lF (Db St)
         exact ⟨q9, (wi0 .i64 (s + 1)), b0, f1, n, _, ⟨rfl, q8⟩, (b.lF St), q1, q2, q3, q4, q5, q6, q7, e9, (by rw [n0]; exact v0)⟩
        refine kn ?_
        obtain rfl := sj e7
        exact ⟨_, rfl, _, (b.lF St), q1, q2, q3, q4, q5, q6, y4, q7, q8, q9⟩
       refine bC d0 (fun K d0 => ?_) (fun K d0 => ?_)
       ·refine ug K (lP f6) (ug K (lP rfl) (ug K (mP rfl rfl rfl) (bS d0 fun s1 n1 d0 => WX K (og (enc := Vs) (i := (wi0 .i64 ((wi0 .i64 (s + 1)) - 1))) (x0 := s1) underlying84 sizeOf4 rfl rfl (t4.mono (Pl.mono _) J) (mF n1) (mA n1)) (fun cu u8 => ug K (lJ rfl (po b.has (y := (.bool s1)) u8 isAgg4)) (V (mh (cB K) rfl) ?_)))))
        obtain rfl := sj d0
        exact i9 _ _ ⟨_, (b.lF St), l0, f6, l1, l2, l3, rfl, l4, l5, l6, l7, rfl⟩
       refine un K (un K (un K (un K (un K (V (mi (cB K) rfl) ?_)))))
       obtain rfl := sj d0
       exact i9 _ _ ⟨_, (b.lF St), l0, f6, l1, l2, l3, rfl, l4, l5, l6, l7, rfl⟩
      refine kn ?_
      obtain rfl := sj e6
      exact ⟨_, rfl, _, (b.lF St), l0, f6, l1, l2, l3, q0, l4, l5, l6, l7⟩
     refine bC d1 (fun t d1 => ?_) (fun t d1 => ?_)
     ·refine ug t (lO Ax k7) (ug t (lJ rfl (lX b.has (Mt (Mt Mh)) rfl eH)) (ug t (lO xZ k8) (ug t (lO xh rfl) (ug t (lJ rfl (lQ b.has Mh (lE a.Signed.lD) rfl bD aJ)) (bS d1 fun cw v1 d1 => sa t (Eg b call30 (mo.nz (Im b8 c.Shown a.Signed.lD _ _ (Q.mono (Pl.mono _) (J.trans b.lL)) v1)) (fun bz b => ug t (oy rfl) (V (mh (cB t) rfl) ?_))))))))
      obtain rfl := sj d1
      exact j0 _ _ ⟨_, (b.lF St), p2, p3, k7, p4, p5, p6, k8, p7, p8, p9, rfl⟩
     refine un t (un t (un t (un t (un t (un t (un t (V (mi (cB t) rfl) ?_)))))))
     obtain rfl := sj d1
     exact j0 _ _ ⟨_, (b.lF St), p2, p3, k7, p4, p5, p6, k8, p7, p8, p9, rfl⟩
    rintro ag E W ⟨o2, b, x4, x5, x6, k9, x7, x8, x9, y0, y1, y2⟩ i6
    refine ma (V (lO wH k9) (Wf xT (VB b (Mt Mh) rfl rfl jE (V (lJ x9 (lQ b.has Mh a0 rfl jF dH)) (VE (mH (cs := a0.toArray) b (oE rfl) (ot dC dH eP) (fun bv cn b => ?_)))))))
    replace b := b.perm (Nr (Qb (Qb (Qb (Qb Qz)))) Nz)
    refine bS i6 fun i5 t5 i6 => VE (wk (B := n) mK b dc dC Kj.1 Kj.2.1 rfl Kj.2.2.1 Kj.2.2.2 rfl rfl e9 (D5.lit mK (l := [a]) (.cons (ys := C3 a.Signed.lD.Kind a.Signed.lD.Head.lK a.Signed.lD.Head.lN a.Signed.lD.mX a.Signed.lD.B.lK a.Signed.lD.B.lN a.Signed.lD.C.lK a.Signed.lD.C.lN a.Signed.lD.mQ Y a.Signed.Tag.length a3 a.lM.Op a.lM.K a.lM.lC.lK a.lM.lC.lN Z a.lM.Kids.length a4) (mC.mk ⟨(.slice Y a.Signed.Tag.length a3), (.slice Z a.lM.Kids.length a4), rfl, m7, m8⟩) .nil) rfl nb (b.at_ (Ma Mh))) t5 (fun bw dg x2 b m6 => V (lO wH k9) (Wf xT ?_)))
    obtain ⟨j9, k3, rfl⟩ := m6.form
    replace b := b.perm (Nb (Pr (Pb (Pb Pz))) Nz)
    refine VO (mj (.slice j9 i5.length k3) ((C2 c.lH.Name j9 i5.length k3 A3 c.lH.mq.length c4 c.mU c.Room A5 c.lV.length c6 A7 c.Shown.length c8 A9 c.ml.length G D c.ms.length H).toArray) b rfl rfl sizeOf22 oc nb rfl (fun bx b => mz (mJ (lU ?_))))
    replace b := b.lF (Kb (Kr (Db (Db St))))
    exact ⟨y2, ag, (.slice j9 i5.length k3), i5, x2, _, ⟨rfl, y1⟩, (b.lF (Kb (Sb (Pr Pz) St))), x4, x5, x6, k9, x7, x8, y0, m6, (by rw [n0]; exact i6)⟩
   rintro E W ⟨s, b0, f1, n, k1, ⟨eI, eN⟩, b, h4, p0, f4, f5, k5, p1, k6, e9, A⟩
   rw [aI] at A
   refine lU (sg (Wh h4 (bS A fun g v3 A => ?_)))
   let cg : Value := (.int .i64 ((g.1).xU))
   let cd : Value := (.int .i64 ((g.1).Kind))
   refine VE (eD b (Cb (Pb Pz) Cn) call28 (fun hh => (zj a5 c o R b9 b8 c7 g5 m a1 _ _ hh (k.mono mK.mono J) (u.mono nH.mono J) (I.mono (Pl.mono _) J) (Q.mono (Pl.mono _) J) (T.mono (Pl.mono _) J) (a7.mono (Pl.mono _) J) (n7.mono (Pl.mono _) J) v3)) ?_ (ha := WV f4 rfl))
   rintro _ dj dw bq b P cS ⟨ds, dt, s2, s3, s4, m1, s5, m2, i7, rfl, n2, n3, bd, be, bf, w7, bh, w8⟩
   let t0 := (#[(.string (((g.2.2).lH).Name)), s2, s3, (.string ((g.2.2).mU)), (.int .i64 ((g.2.2).Room)), s4, m1, s5, m2] : Array Value)
   obtain rfl := i7.symm
   replace b := b.perm (Tb Tn)
   refine Wm (Wx rfl (Wx rfl (VE (my b gW (fun ce cp b => ?_)))))
   obtain ⟨g4, h0, rfl⟩ := n2.form
   let t3 : Value := (.slice g4 ((g.1).tW).length h0)
   obtain ⟨g7, h1, rfl⟩ := n3.form
   let am : Value := (.slice g7 ((g.1).tV).length h1)
   refine VO (mj (.agg #[cd, cg, (.int .i64 ((g.1).E)), (.string ((g.1).Name)), t3, am]) (#[cd, cg, (.int .i64 ((g.1).E)), (.string ((g.1).Name)), t3, am]) b rfl rfl iz oc nb rfl (fun cf b => Wa (lr (Wh h4 ?_))))
   replace b := b.perm (Nr (Qb (Qb (Qb Qz))) Nz)
   have bc := (e9.mono mK P).Lt b (fun p hq => (Ml hq))
   obtain ⟨dx, b, U, en, w0⟩ := ST.yZ mK b (e9.mono mK P)
   refine bS A fun j v4 A => ?_
   let ef : Value := (.int .i64 ((j.1).xU))
   let dd : Value := (.int .i64 ((j.1).Kind))
   refine VE (eD b (Cb (Pb (Pb Pz)) Cn) call28 (fun hh => (zj q (⟨(⟨c.lH.Name, f1, c.lH.mq⟩ : lH), c.mU, c.Room, c.lV, c.Shown, c.ml, c.ms⟩ : ng) b0 R b9 b8 c7 g5 m a1 _ _ hh (w0.mono mK.mono (mx.refl _)) (u.mono nH.mono ((J.trans P).trans U)) (I.mono (Pl.mono _) ((J.trans P).trans U)) (Q.mono (Pl.mono _) ((J.trans P).trans U)) (T.mono (Pl.mono _) ((J.trans P).trans U)) (a7.mono (Pl.mono _) ((J.trans P).trans U)) (n7.mono (Pl.mono _) ((J.trans P).trans U)) v4)) ?_ (ha := WV f5 rfl))
   rintro _ dk m5 bs b f0 eo ⟨du, dv, s6, s7, s8, m3, s9, m4, i8, rfl, n4, n5, bi, bj, bk, w9, bl, x1⟩
   let j2 := (#[(.string (((j.2.2).lH).Name)), s6, s7, (.string ((j.2.2).mU)), (.int .i64 ((j.2.2).Room)), s8, m3, s9, m4] : Array Value)
   obtain rfl := i8.symm
   replace b := b.perm (Tb Tn)
   refine Wm (Wx rfl (Wx rfl (VE (my b gW (fun ch cq b => ?_)))))
   obtain ⟨g8, h2, rfl⟩ := n4.form
   let an : Value := (.slice g8 ((j.1).tW).length h2)
   obtain ⟨g9, h3, rfl⟩ := n5.form
   let bb : Value := (.slice g9 ((j.1).tV).length h3)
   refine VO (mj (.agg #[dd, ef, (.int .i64 ((j.1).E)), (.string ((j.1).Name)), an, bb]) (#[dd, ef, (.int .i64 ((j.1).E)), (.string ((j.1).Name)), an, bb]) b rfl rfl iz oc nb rfl (fun ci b => Wa (lr (Wm (Wm (Wi rfl (Wm (LJ A (fun r8 E W => ∃ o6, ST false mD w W m5 ((q, Obj.cells j2 36 (0, 0)) :: ((a5, Obj.cells t0 36 (0, 0)) :: o6)) ∧ E 3 = v ∧ E 7 = F ∧ E 112 = (.bool r8)) 4 ?_ (fun r8 d6 j6 => ?_)))))))))
   ·rintro dp E W ⟨o6, b, l8, l9, aa⟩ u4
    refine Wh aa (LJ u4 (fun r7 E W => ∃ o7, ST false mD w W m5 ((q, Obj.cells j2 36 (0, 0)) :: ((a5, Obj.cells t0 36 (0, 0)) :: o7)) ∧ E 3 = v ∧ E 7 = F ∧ E 119 = (.bool r7)) 6 ?_ (fun r7 d5 j5 => ?_))
    ·rintro dq E W ⟨o7, b, ab, ac, ad⟩ u5
     refine Wh ad (LJ u5 (fun r6 E W => ∃ o8, ST false mD w W m5 o8 ∧ E 126 = (.bool r6)) 6 ?_ (fun r6 d4 j4 => ?_))
     ·rintro dr E W ⟨o8, b, ae⟩ u6
      exact Wg ae (lt (rQ u6 b))
     refine bC d4 (fun N d4 => ?_) (fun N d4 => ?_)
     ·refine ug N (lO Ax ab) (ug N (lJ rfl (lX b.has (Mt Mh) rfl eH)) (ug N (lO Ax ac) (ug N (lJ rfl (lX b.has Mh rfl eH)) (bS d4 fun cy v5 d4 => sa N (Eg b call12 (mo.nz (Ny m1 ((g.2.2).Shown) m3 ((j.2.2).Shown) _ _ (w7.mono (Pl.mono _) ((U.trans f0).trans b.lL)) (w9.mono (Pl.mono _) b.lL) v5)) (fun cj b => V (mh (cB N) rfl) ?_))))))
      obtain rfl := sj d4
      exact j4 _ _ ⟨_, (b.lF (Db (Db St))), rfl⟩
     refine un N (un N (un N (un N (un N (V (mi (cB N) rfl) ?_)))))
     obtain rfl := sj d4
     exact j4 _ _ ⟨_, (b.lF (Db (Db St))), rfl⟩
    refine bC d5 (fun M d5 => ?_) (fun M d5 => ?_)
    ·refine ug M (lO CK l8) (ug M (lJ rfl (lX b.has (Mt Mh) rfl gV)) (ug M (lO CK l9) (ug M (lJ rfl (lX b.has Mh rfl gV)) (bS d5 fun cz v6 d5 => sa M (Eg b call33 (mo.nz (MM m2 ((g.2.2).ms) m4 ((j.2.2).ms) _ _ (w8.mono (Pl.mono _) ((U.trans f0).trans b.lL)) (x1.mono (Pl.mono _) b.lL) v6)) (fun ck b => V (mh (cB M) rfl) ?_))))))
     obtain rfl := sj d5
     exact j5 _ _ ⟨_, (b.lF St), l8, l9, rfl⟩
    refine un M (un M (un M (un M (un M (V (mi (cB M) rfl) ?_)))))
    obtain rfl := sj d5
    exact j5 _ _ ⟨_, (b.lF St), l8, l9, rfl⟩
   refine bC d6 (fun c1 d6 => ?_) (fun c1 d6 => ?_)
   ·refine ug c1 (lJ rfl (lQ b.has (Mt (Mt Mh)) [cd, cg, (.int .i64 ((g.1).E)), (.string ((g.1).Name)), t3, am] rfl isAgg78 iz)) (ug c1 (lJ rfl (lQ b.has Mh [dd, ef, (.int .i64 ((j.1).E)), (.string ((j.1).Name)), an, bb] rfl isAgg78 iz)) (bS d6 fun da v7 d6 => sa c1 (Eg b call32 (PS (⟨(g.1).Kind, (g.1).xU, (g.1).E, (g.1).Name, (g.1).tW, (g.1).tV⟩ : DR) t3 am j.1 an bb _ _ (n2.mono (Pl.mono _) ((U.trans f0).trans b.lL)) (n3.mono rV.mono ((U.trans f0).trans b.lL)) (n4.mono (Pl.mono _) b.lL) (n5.mono rV.mono b.lL) v7) (fun cl b => V (mh (cB c1) rfl) ?_))))
    obtain rfl := sj d6
    exact j6 _ _ ⟨_, (b.lF (Db (Kb (Db St)))), f4, f5, rfl⟩
   refine un c1 (un c1 (un c1 (V (mi (cB c1) rfl) ?_)))
   obtain rfl := sj d6
   exact j6 _ _ ⟨_, (b.lF (Db (Kb (Db St)))), f4, f5, rfl⟩
  refine bC e8 (fun O e8 => ?_) (fun O e8 => ?_)
  ·refine un O (un O (un O (V (mh (cB O) rfl) ?_)))
   obtain rfl := sj e8
   exact j7 _ _ ⟨_, (b.lF St), t1, ak, al, rfl⟩
  refine ug O (lP t1) (ug O (mV aM rfl n7) (ug O (mP rfl rfl rfl) (V (mi (cB O) rfl) ?_)))
  obtain rfl := sj e8
  exact j7 _ _ ⟨_, (b.lF St), t1, ak, al, rfl⟩
 refine bC d7 (fun L d7 => ?_) (fun L d7 => ?_)
 ·refine un L (un L (un L (V (mh (cB L) rfl) ?_)))
  obtain rfl := sj d7
  exact j8 _ _ ⟨_, (b.lF St), rfl, rfl, rfl, rfl⟩
 refine ug L (lJ rfl (lQ b.has Mh d rfl dX dD)) (bS d7 fun db v8 d7 => sa L (Eg b call26 (Ni c o R b9 b8 c7 g5 _ _ (k.mono mK.mono b.lL) (u.mono nH.mono b.lL) (I.mono (Pl.mono _) b.lL) (Q.mono (Pl.mono _) b.lL) (T.mono (Pl.mono _) b.lL) (a7.mono (Pl.mono _) b.lL) v8) (fun cm b => ug L (oy rfl) (V (mi (cB L) rfl) ?_))))
 obtain rfl := sj d7
 exact j8 _ _ ⟨_, (b.lF St), rfl, rfl, rfl, rfl⟩
end Go.Proofs.YtklbhegeiijbjaaGreat
