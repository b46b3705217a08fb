/- a part of a proof of ThriftHides -/
import Derived.Test.YtklbhegeiijbjaaGreatTHW1q
set_option linter.all false
namespace Go.Proofs.YtklbhegeiijbjaaGreat
open Go.IntKind renaming wrap → wi0
open Go.Proofs.Tryz renaming prog → pg0
open Go.RowKit
set_option maxRecDepth 10000
open Tryz
theorem Mc (a : Formula) (k : Value) (c : Formula) (t : Value) (r : (Formula × Int)) (w : World) {N : mN} (q : pC N [] w) (i : Sl lI 5 N k a.Kids) (j : Sl lI 5 N t c.Kids) (hm : AM a c = some r) :
  nO false pg0 133 [(.agg #[(.int .i64 a.Op), (.int .i64 a.K), (.string a.lC.lK), (.string a.lC.lN), k]), (.agg #[(.int .i64 c.Op), (.int .i64 c.K), (.string c.lC.lK), (.string c.lC.lN), t])] w N [] (fun v Z μ1 => ∃ Y, v = (.tuple #[(.agg #[(.int .i64 ((r.1).Op)), (.int .i64 ((r.1).K)), (.string (((r.1).lC).lK)), (.string (((r.1).lC).lN)), Y]), (.int .i64 (r.2))]) ∧ Z = [] ∧ Sl lI 5 μ1 Y ((r.1).Kids)) := by
 refine wj q 13 func133 rfl (fun b => sg ?_)
 obtain ⟨u, z, rfl⟩ := i.form
 let a3 : Value := (.slice u a.Kids.length z)
 refine VE (mG b rfl (fun W4 R b => ?_))
 obtain ⟨y, G, rfl⟩ := j.form
 let n : Value := (.slice y c.Kids.length G)
 refine VE (mG b rfl (fun W8 W b => VE (my b bG (fun a5 b9 b => Wa (lr (VA b (Mt (Mt Mh)) (C1 a.Op a.K a.lC.lK a.lC.lN u a.Kids.length z) aV aC (VA b (Mt Mh) (C1 c.Op c.K c.lC.lK c.lC.lN y c.Kids.length G) aV aC (VE (mH (cs := #[(.int .i64 a.Op), (.int .i64 a.K), (.string a.lC.lK), (.string a.lC.lN), a3, (.int .i64 c.Op), (.int .i64 c.K), (.string c.lC.lK), (.string c.lC.lN), n]) b (qV rfl rfl) (ot aH aC bG) (fun A I b => V (nW (v := (.agg #[(.int .i64 2), (.int .i64 0), (.string zS), (.string zS), (.slice (some ⟨I, 0, none⟩) 2 2)])) (qV rfl rfl) (nw bG cP (DI _ cP) kr)) ?_))))))))))
 obtain ⟨O, b, K, d, U⟩ := ST.yZ (B := [(I, Ob #[(.int .i64 a.Op), (.int .i64 a.K), (.string a.lC.lK), (.string a.lC.lN), a3, (.int .i64 c.Op), (.int .i64 c.K), (.string c.lC.lK), (.string c.lC.lN), n] 58)]) mg b (nm.lit mg (l := [a, c]) (.cons (ys := C1 a.Op a.K a.lC.lK a.lC.lN u a.Kids.length z) (lI.mk ⟨a3, rfl, i⟩) (.cons (ys := C1 c.Op c.K c.lC.lK c.lC.lN y c.Kids.length G) (lI.mk ⟨n, rfl, j⟩) .nil)) rfl nb rfl)
 refine bS hm fun g T hm => ?_
 let o : Value := (.int .i64 ((g.1).Op))
 let a2 : Value := (.string (((g.1).lC).lN))
 let m : Value := (.string (((g.1).lC).lK))
 refine VE (eD b (bI _) call132 (fun s => (Iv (⟨2, 0, K0, [a, c]⟩ : Formula) (.slice (some ⟨I, 0, none⟩) 2 2) _ _ s (U.mono mg.mono (mx.refl _)) T)) ?_ (L0 := []))
 rintro _ a9 P a4 b M h ⟨L, H, rfl, J⟩
 obtain rfl := H.symm
 refine Wx rfl (Wx rfl ?_)
 obtain ⟨x, D, rfl⟩ := J.form
 let a0 : Value := (.slice x ((g.1).Kids).length D)
 let Q : Value := (.agg #[o, (.int .i64 ((g.1).K)), m, a2, a0])
 refine VO (mj Q (#[o, (.int .i64 ((g.1).K)), m, a2, a0]) b rfl rfl aC oc nb rfl (fun F b => Wa (ln ?_)))
 replace b := b.lF (Kb (Db (Db St)))
 refine mu ?_
 obtain rfl := sj hm
 exact tk (v0 := Q) (v1 := (.int .i64 g.2)) rfl rfl (lQ b.has Mh [o, (.int .i64 ((g.1).K)), m, a2, a0] rfl aV aC) rfl ⟨_, _, _, rfl, (b.ov Sn), (K.trans M), (d.trans h), (ST.nt b (oT.mem Sn)), a0, rfl, rfl, J⟩
theorem N7 (d1 : Value) (a0 : List Formula) (r : (Formula × Int)) (w : World) {μ0 : mN} (h0 : pC μ0 [] w) (c7 : Sl lI 5 μ0 d1 a0) (hm : yS a0 = some r) :
  nO false pg0 71 [d1] w μ0 [] (fun v L1 μ1 => ∃ y1, v = (.tuple #[(.agg #[(.int .i64 ((r.1).Op)), (.int .i64 ((r.1).K)), (.string (((r.1).lC).lK)), (.string (((r.1).lC).lN)), y1]), (.int .i64 (r.2))]) ∧ L1 = [] ∧ Sl lI 5 μ1 y1 ((r.1).Kids)) := by
 let e5 := (a0.drop (Int.toNat 1))
 refine wj h0 36 func71 rfl (fun b => sg (VE (my b bG (fun W2 A b => Wa (lr (Wm (bS hm fun x6 e3 hm => VQ (nS (i := 0) (x0 := x6) lI.out aH aC rfl rfl c7 (mF e3) (mA e3)) (fun p3 ⟨_, ⟨v8, rfl, f2⟩, f1⟩ => V (lJ rfl (mr b.has f1 aV aC)) (bS hm fun j e6 hm => ?_)))))))))
 refine VE (eD b (bI _) call132 (fun hh => (Iv x6 v8 _ _ hh (f2.mono mg.mono (mx.refl _)) e6)) ?_ (L0 := []))
 rintro _ i4 a9 i0 b a4 m ⟨i5, b6, rfl, d0⟩
 obtain rfl := b6.symm
 refine Wm (Wx rfl (Wx rfl (VE (my b bG (fun i2 F b => ?_)))))
 obtain ⟨c2, c5, rfl⟩ := d0.form
 let d2 : Value := (.slice c2 ((j.1).Kids).length c5)
 refine VO (mj (.agg #[(.int .i64 ((j.1).Op)), (.int .i64 ((j.1).K)), (.string (((j.1).lC).lK)), (.string (((j.1).lC).lN)), d2]) (#[(.int .i64 ((j.1).Op)), (.int .i64 ((j.1).K)), (.string (((j.1).lC).lK)), (.string (((j.1).lC).lN)), d2]) b rfl rfl aC oc nb rfl (fun i3 b => Wa (lS (Wm (bS hm fun _ c8 hm => VQ (EV (i := 1) aH aC rfl rfl (c7.mono mg.mono a4) (ue c8) (tL c8)) (fun f3 R => V (mV aH rfl R.1) (Wm (ln (CJ hm (fun u E W => ∃ q U c3, mx a9 U ∧ Lo (keys []) w a9 U ∧ ST false (keys []) w W U ((F, Ob #[(.int .i64 u.2.1), (.int .i64 u.2.2.1), (.string u.2.2.2.1.lK), (.string u.2.2.2.1.lN), q] 58) :: ((A, Ol C8 58) :: c3)) ∧ E 2 = (.pointer (some ⟨A, 0, none⟩)) ∧ E 4 = (.pointer (some ⟨F, 0, none⟩)) ∧ E 5 = (.int .i64 u.1) ∧ Sl lI 5 U q u.2.2.2.2) (fun u d7 => ?_) ?_)))))))))
 ·refine mM (fun i E W => ∃ s G H y x N z O, (E 18 = .int .i64 (i : Nat) ∧ E 17 = .int .i64 (e5.length : Nat)) ∧ mx a9 z ∧ Lo (keys []) w a9 z ∧ ST false (keys []) w W z ((F, Ob #[(.int .i64 G), (.int .i64 H), (.string y.lK), (.string y.lN), x] 58) :: ((A, Ol C8 58) :: O)) ∧ E 2 = (.pointer (some ⟨A, 0, none⟩)) ∧ E 4 = (.pointer (some ⟨F, 0, none⟩)) ∧ E 5 = (.int .i64 s) ∧ E 16 = f3 ∧ Sl lI 5 z x N ∧ wm (e5.drop i) s G H y N = some u) e5.length R.1.len ⟨j.2, ((j.1).Op), ((j.1).K), ((j.1).lC), d2, ((j.1).Kids), a9, _, ⟨rfl, rfl⟩, (mx.refl _), Lo.refl, (b.lF St), rfl, rfl, rfl, rfl, d0, d7⟩ dc dc dc (fun _ _ _ h => by obtain ⟨_, _, _, _, _, _, _, _, aa, _⟩ := h; exact aa) ?_ ?_
  ·rintro e7 E W d6 ⟨s, G, H, y, x, N, z, O, ⟨eI, eN⟩, t, d, b, a2, D, a3, P, I, c⟩
   obtain ⟨a, f6, e1, e0, e2⟩ := mE d6
   rw [e1] at c
   refine bg (VQ (nS (i := (e7 : Int)) (x0 := a) lI.out aH aC P eI (R.1.mono mg.mono t) (aF _) e0) (fun h1 ⟨_, ⟨h4, rfl, c0⟩, d8⟩ => V (lJ rfl (mr b.has d8 aV aC)) (VE (my b bG (fun g2 g8 b => ?_)))))
   obtain ⟨Y, Z, rfl⟩ := c0.form
   let b8 := (C1 a.Op a.K a.lC.lK a.lC.lN Y a.Kids.length Z)
   refine VO (mj (.agg b8.toArray) (b8.toArray) b rfl rfl aC oc nb rfl (fun g3 b => lS (Wh a3 (Wi rfl (ln (CI c rfl (fun d5 c => ?_) (fun d5 c => ?_)))))))
   ·refine pk (oR (VW (by simp) (oR (tE (lU ?_)))))
    obtain rfl := sj c
    exact ⟨x, z, _, t, d, (b.lF (Db St)), a2, D, a3, I⟩
   refine kn (ma (V (lJ D (lQ b.has (Mt Mh) [(.int .i64 G), (.int .i64 H), (.string y.lK), (.string y.lN), x] rfl aV aC)) (VA b Mh b8 aV aC (bS c fun g d9 c => ?_))))
   refine VE (eD b (bI _) call133 (fun hh => (Mc (⟨G, H, y, N⟩ : Formula) x a (.slice Y a.Kids.length Z) _ _ hh (I.mono mg.mono (mx.refl _)) (c0.mono mg.mono (mx.refl _)) d9)) ?_ (L0 := []))
   rintro _ h5 f0 f9 b c9 n ⟨h8, a5, rfl, c1⟩
   obtain rfl := a5.symm
   refine Wm (Wx rfl (Wx rfl ?_))
   obtain ⟨b0, b3, rfl⟩ := c1.form
   let d3 : Value := (.slice b0 ((g.1).Kids).length b3)
   replace b := b.perm (Nb (Pb Pz) Nz)
   refine VO (mj (.agg #[(.int .i64 ((g.1).Op)), (.int .i64 ((g.1).K)), (.string (((g.1).lC).lK)), (.string (((g.1).lC).lN)), d3]) (#[(.int .i64 ((g.1).Op)), (.int .i64 ((g.1).K)), (.string (((g.1).lC).lK)), (.string (((g.1).lC).lN)), d3]) b D rfl aC oc nb rfl (fun g7 b => Wa (mz (mJ (lU ?_)))))
   replace b := b.lF (Kb (Db St))
   exact ⟨eI, g.2, ((g.1).Op), ((g.1).K), ((g.1).lC), d3, ((g.1).Kids), f0, _, ⟨rfl, eN⟩, (t.trans c9), (d.trans n), (b.lF St), a2, D, rfl, P, c1, (by rw [e2]; exact c)⟩
  rintro E W ⟨s, G, H, y, x, N, z, O, ⟨eI, eN⟩, t, d, b, a2, D, a3, P, I, c⟩
  rw [aI] at c
  refine lU ?_
  obtain rfl := sj c
  exact ⟨x, z, _, t, d, (b.lF St), a2, D, a3, I⟩
 rintro ⟨e8, Q, T, k, M⟩ E W ⟨q, U, c3, a8, l, b, o, e4, c6, b9⟩ B
 refine mf (sg (Wh c6 (Wi rfl (ln (CI B rfl (fun d4 B => ?_) (fun d4 B => ?_))))))
 ·refine sg (V (nW (v := (.agg C8.toArray)) sM (nw bG cP (DI _ cP) kr)) (Wh c6 ?_))
  replace b := b.perm (Nb (Pb Pz) Nz)
  refine VO (mj (.agg C8.toArray) (C8.toArray) b o rfl aC oc nb rfl (fun g0 b => Wa (ln ?_)))
  replace b := b.lF (Kb (Db St))
  refine mu (mL ?_)
  obtain rfl := sj B
  exact tk (v0 := (.agg C8.toArray)) (v1 := (.int .i64 e8)) rfl o (lQ b.has Mh C8 rfl aV aC) rfl ⟨_, _, _, rfl, (b.ov Sn), (a4.trans a8), (m.trans l), (ST.nt b (oT.mem Sn)), (.slice none 0 0), rfl, rfl, (Sl.nil _ _ _)⟩
 refine kg (V (lJ e4 (lQ b.has Mh [(.int .i64 Q), (.int .i64 T), (.string k.lK), (.string k.lN), q] rfl aV aC)) ?_)
 obtain ⟨J, K, rfl⟩ := b9.form
 let L := (C1 Q T k.lK k.lN J M.length K)
 replace b := b.perm (Nb (Pb Pz) Nz)
 refine VO (mj (.agg L.toArray) (L.toArray) b o rfl aC oc nb rfl (fun g1 b => Wa (ln ?_)))
 replace b := b.lF (Kb (Db St))
 refine mu ?_
 obtain rfl := sj B
 exact tk (v0 := (.agg L.toArray)) (v1 := (.int .i64 0)) rfl o (lQ b.has Mh L rfl aV aC) rfl ⟨_, _, _, rfl, (b.ov Sn), (a4.trans a8), (m.trans l), (ST.nt b (oT.mem Sn)), (.slice J M.length K), rfl, rfl, b9⟩
theorem Dn (k : lH) (G H : Value) (o : lD) (r : (Formula × Int)) (w : World) {μ0 : mN} (h0 : pC μ0 [] w) (t : Sl mC 15 μ0 G k.lZ) (y : Sl mZ 8 μ0 H k.mq) (hm : yz k o = some r) :
  nO false pg0 23 [(.agg #[(.string k.Name), G, H]), (.agg (lE o).toArray)] w μ0 [] (fun v L1 μ1 => ∃ y1, v = (.tuple #[(.agg #[(.int .i64 ((r.1).Op)), (.int .i64 ((r.1).K)), (.string (((r.1).lC).lK)), (.string (((r.1).lC).lN)), y1]), (.int .i64 (r.2))]) ∧ L1 = [] ∧ Sl lI 5 μ1 y1 ((r.1).Kids)) := by
 refine wj h0 41 func23 rfl (fun b => sg ?_)
 obtain ⟨A1, c2, rfl⟩ := t.form
 obtain ⟨A3, P, rfl⟩ := y.form
 let f5 := (C7 k.Name A1 k.lZ.length c2 A3 k.mq.length P)
 refine VE (mG b rfl (fun W6 b5 b => VE (mG b rfl (fun W8 b7 b => VE (my b bG (fun i4 b9 b => Wa (lr (VA b (Mt (Mt Mh)) f5 gU fE (VA b (Mt Mh) (lE o) bD aJ (bS hm fun a e7 hm => ?_))))))))))
 let b8 : Value := (.int .i64 (((a.1).lM).K))
 let q : Value := (.int .i64 (((a.1).lM).Op))
 let b1 := (((a.1).lM).lC)
 let s : Value := (.string (b1.lN))
 let d8 : Value := (.string (b1.lK))
 let a0 := (((a.1).Signed).lD)
 refine VE (eD b (bI _) call69 (fun A => (NN k (.slice A1 k.lZ.length c2) (.slice A3 k.mq.length P) o _ _ A (t.mono mK.mono (mx.refl _)) (y.mono nH.mono (mx.refl _)) e7)) ?_ (L0 := []))
 rintro _ j4 j8 i2 b I d ⟨j6, j7, a5, rfl, e9, c5⟩
 obtain rfl := a5.symm
 refine Wm (Wx rfl (Wx rfl (VE (my b eP (fun i6 j3 b => ?_)))))
 obtain ⟨d9, e1, rfl⟩ := e9.form
 let f8 : Value := (.slice d9 (((a.1).Signed).Tag).length e1)
 obtain ⟨z, D, rfl⟩ := c5.form
 let a2 : Value := (.slice z (((a.1).lM).Kids).length D)
 refine VO (mj (.agg #[(.int .i64 (a0.Kind)), (.string ((a0.Head).lK)), (.string ((a0.Head).lN)), (.string (a0.mX)), (.string ((a0.B).lK)), (.string ((a0.B).lN)), (.string ((a0.C).lK)), (.string ((a0.C).lN)), (.string (a0.mQ)), f8, q, b8, d8, s, a2]) (#[(.int .i64 (a0.Kind)), (.string ((a0.Head).lK)), (.string ((a0.Head).lN)), (.string (a0.mX)), (.string ((a0.B).lK)), (.string ((a0.B).lN)), (.string ((a0.C).lK)), (.string ((a0.C).lN)), (.string (a0.mQ)), f8, q, b8, d8, s, a2]) b rfl rfl dH oc nb rfl (fun i7 b => Wa (lS (Wm (V (oy rfl) (ln (CI hm rfl (fun e6 hm => ?_) (fun e6 hm => ?_))))))))
 ·refine sg (V (nW (v := (.agg C8.toArray)) sM (nw bG cP (DI _ cP) kr)) ?_)
  replace b := b.perm (Nb (Pb Pz) Nz)
  refine VO (mj (.agg C8.toArray) (C8.toArray) b rfl rfl aC oc nb rfl (fun i8 b => Wa (ln ?_)))
  replace b := b.lF (Kb (Db (Db (Db St))))
  refine mu (mL ?_)
  obtain rfl := sj hm
  exact tk (v0 := (.agg C8.toArray)) (v1 := (.int .i64 42)) rfl rfl (lQ b.has Mh C8 rfl aV aC) rfl ⟨_, _, _, rfl, (b.ov Sn), I, d, (ST.nt b (oT.mem Sn)), (.slice none 0 0), rfl, rfl, (Sl.nil _ _ _)⟩
 refine kg (Wf Nu (VA b Mh [q, b8, d8, s, a2] aV aC (VE (mH (cs := #[q, b8, d8, s, a2]) b (oE rfl) (ot aH aC bG) (fun i9 e0 b => Wa (ln ?_))))))
 replace b := b.lF (Kb (Db St))
 refine mf (sg (VA b (Mt (Mt (Mt Mh))) f5 gU fE (VA b (Mt (Mt Mh)) (lE o) bD aJ (bS hm fun R e8 hm => ?_))))
 refine VE (eD b (bI _) call70 (fun A => (Mr k (.slice A1 k.lZ.length c2) (.slice A3 k.mq.length P) o _ _ A (t.mono mK.mono I) (y.mono nH.mono I) e8)) ?_ (L0 := []))
 rintro _ j5 e2 i3 b a8 F ⟨f6, a6, rfl, O⟩
 obtain rfl := a6.symm
 refine V (mV cD rfl O) (Wm (ln ?_))
 replace b := b.lF (Kb (Kb (Db (Db St))))
 replace b := b.Hs
 refine mM (fun i E W => ∃ Q N K Z, (E 27 = .int .i64 (i : Nat) ∧ E 26 = .int .i64 (R.length : Nat)) ∧ ST false (keys []) w W e2 ((b9, Ol C8 58) :: (K ++ Z)) ∧ E 4 = (.pointer (some ⟨b9, 0, none⟩)) ∧ E 8 = Q ∧ E 25 = f6 ∧ nm 58 lI 5 e2 Q N K ∧ xa (R.drop i) N = some r) R.length O.len ⟨(.slice (some ⟨e0, 0, none⟩) 1 1), ([(a.1).lM]), [(e0, Ob #[q, b8, d8, s, a2] 58)], _, ⟨rfl, rfl⟩, (b.lF (Sb (Pr Pz) St)), rfl, rfl, rfl, (nm.lit mg (l := [(a.1).lM]) (.cons (ys := [q, b8, d8, s, a2]) (lI.mk ⟨a2, rfl, (c5.mono mg.mono a8)⟩) .nil) rfl nb rfl), hm⟩ dc dc dc (fun _ _ _ h => by obtain ⟨_, _, _, _, aa, _⟩ := h; exact aa) ?_ ?_
 ·rintro f0 E W d0 ⟨Q, N, K, Z, ⟨eI, eN⟩, b, T, a3, a4, U, j⟩
  obtain ⟨c, f7, d6, d5, d7⟩ := mE d0
  rw [d6] at j
  refine bg (VQ (nS (i := (f0 : Int)) (x0 := c) mZ.out cD dA a4 eI O (aF _) d5) (fun h2 ⟨_, ⟨h5, h6, rfl, a9, d3⟩, d1⟩ => V (lJ rfl (mr b.has d1 js dA)) (VE (my b fY (fun g0 g8 b => ?_)))))
  obtain ⟨u, x, rfl⟩ := a9.form
  let c7 := (C1 c.lM.Op c.lM.K c.lM.lC.lK c.lM.lC.lN u c.lM.Kids.length x)
  obtain ⟨b2, b6, rfl⟩ := d3.form
  let c0 := (C6 c.lC.lK c.lC.lN c.lM.Op c.lM.K c.lM.lC.lK c.lM.lC.lN u c.lM.Kids.length x b2 c.nj.length b6)
  refine VO (mj (.agg c0.toArray) (c0.toArray) b rfl rfl dA oc nb rfl (fun g1 b => ln (ma (Wh a3 (Wf D9 (VA b Mh c7 aV aC (VE (mH (cs := c7.toArray) b (oE rfl) (ot aH aC bG) (fun g2 g9 b => ?_)))))))))
  replace b := b.perm (Nr (Qb (Qb (Qb Qz))) Nz)
  refine bS j fun f1 c9 j => VE (wk (B := K) mg b dc aH rq.1 rq.2.1 rfl rq.2.2.1 rq.2.2.2 rfl rfl U (D5.lit mg (l := [c.lM]) (.cons (ys := C1 c.lM.Op c.lM.K c.lM.lC.lK c.lM.lC.lN u c.lM.Kids.length x) (lI.mk ⟨(.slice u c.lM.Kids.length x), rfl, a9⟩) .nil) rfl nb (b.at_ (Ma Mh))) c9 (fun g3 f2 e3 b c8 => Wa (mz (mJ (lU ?_)))))
  replace b := b.lF (Kr (Db (Db St)))
  exact ⟨eI, f2, f1, e3, _, ⟨rfl, eN⟩, (b.lF (Sb (Pr Pz) St)), T, rfl, a4, c8, (by rw [d7]; exact j)⟩
 rintro E W ⟨Q, N, K, Z, ⟨eI, eN⟩, b, T, a3, a4, U, j⟩
 rw [aI] at j
 refine lU (sg (Wh a3 ?_))
 replace b := b.perm (Nr (Qb Qz) Nz)
 obtain ⟨i0, b, c1, m, d4⟩ := ST.yZ mg b U
 refine bS j fun g d2 j => ?_
 let g4 : Value := (.int .i64 ((g.1).Op))
 let f4 : Value := (.string (((g.1).lC).lN))
 let f3 : Value := (.string (((g.1).lC).lK))
 refine VE (eD b (bI _) call71 (fun A => (N7 Q N _ _ A (d4.mono mg.mono (mx.refl _)) d2)) ?_ (L0 := []))
 rintro _ h7 i1 f9 b c3 n ⟨h8, Y, rfl, b0⟩
 obtain rfl := Y.symm
 refine Wx rfl (Wx rfl ?_)
 obtain ⟨J, M, rfl⟩ := b0.form
 let L : Value := (.slice J ((g.1).Kids).length M)
 let b4 : Value := (.agg #[g4, (.int .i64 ((g.1).K)), f3, f4, L])
 refine VO (mj b4 (#[g4, (.int .i64 ((g.1).K)), f3, f4, L]) b T rfl aC oc nb rfl (fun g7 b => Wa (lt ?_)))
 obtain rfl := sj j
 exact tk (v0 := b4) (v1 := (.int .i64 g.2)) rfl T (lQ b.has Mh [g4, (.int .i64 ((g.1).K)), f3, f4, L] rfl aV aC) rfl ⟨_, _, _, rfl, (b.ov Sn), (((I.trans a8).trans c1).trans c3), (((d.trans F).trans m).trans n), (ST.nt b (oT.mem Sn)), L, rfl, rfl, b0⟩
theorem H8 (a : mI) (g c : Value) (H : Nat) (y : ByteArray) (i : Value) (t : List mI) (j : Value) (x : List nx) (r : Bool) (w : World) (u : Sl (Pl (ns .u8)) 1 (hp w) g a.Signed.Tag) (k : Sl lI 5 (hp w) c a.lM.Kids) (B : Sl mC 15 (hp w) i t) (D : Sl mZ 8 (hp w) j x) (I : At (hp w) (.pointer (some ⟨H, 0, none⟩)) [(.string y), i, j]) (hm : xP a y t x = some r) :
  mo false pg0 203 [(.agg #[(.int .i64 a.Signed.lD.Kind), (.string a.Signed.lD.Head.lK), (.string a.Signed.lD.Head.lN), (.string a.Signed.lD.mX), (.string a.Signed.lD.B.lK), (.string a.Signed.lD.B.lN), (.string a.Signed.lD.C.lK), (.string a.Signed.lD.C.lN), (.string a.Signed.lD.mQ), g, (.int .i64 a.lM.Op), (.int .i64 a.lM.K), (.string a.lM.lC.lK), (.string a.lM.lC.lN), c]), (.pointer (some ⟨H, 0, none⟩))] w (.bool r) := by
 refine cG 16 func203 rfl (fun b => sg ?_)
 obtain ⟨U, Z, rfl⟩ := u.form
 obtain ⟨Y, q, rfl⟩ := k.form
 refine VE (mG b rfl (fun W6 o b => Wa (lr (V (lJ rfl (mr b.has I gU fE)) (Wf xZ (Wf xh (VA b Mh (lE a.Signed.lD) bD aJ (bS hm fun z Q hm => ?_))))))))
 refine VE (eD b (bI _) call23 (fun h => (Dn (⟨y, t, x⟩ : lH) i j a.Signed.lD _ _ h (B.mono mK.mono (mx.refl _)) (D.mono nH.mono (mx.refl _)) Q)) ?_ (L0 := []))
 rintro _ l n a2 b T d ⟨m, G, rfl, N⟩
 obtain rfl := G.symm
 refine Wm (Wx rfl (Wx rfl (VE (my b bG (fun a3 a5 b => ?_)))))
 obtain ⟨J, K, rfl⟩ := N.form
 refine VO (mj (.agg #[(.int .i64 ((z.1).Op)), (.int .i64 ((z.1).K)), (.string (((z.1).lC).lK)), (.string (((z.1).lC).lN)), (.slice J ((z.1).Kids).length K)]) (#[(.int .i64 ((z.1).Op)), (.int .i64 ((z.1).K)), (.string (((z.1).lC).lK)), (.string (((z.1).lC).lN)), (.slice J ((z.1).Kids).length K)]) b rfl rfl aC oc nb rfl (fun a4 b => Wa (ln ?_)))
 replace b := b.lF (Db (Db St))
 exact sg (Wm (Wi rfl (Wa (lt (rQ hm b)))))
theorem KR (c : lH) (g j : Value) (r : Bool) (w : World) (a : Sl mC 15 (hp w) g c.lZ) (i : Sl mZ 8 (hp w) j c.mq) (hm : zP c = some r) :
  mo false pg0 143 [(.agg #[(.string c.Name), g, j])] w (.bool r) := by
 refine cG 8 func143 rfl (fun b => sg ?_)
 obtain ⟨k, u, rfl⟩ := a.form
 obtain ⟨y, z, rfl⟩ := i.form
 refine VE (mG b rfl (fun I t b => Wa (lr (Wf xT (VB b Mh rfl rfl jE (V (qz (by exact vc rfl) rfl) (bS hm fun K D hm => VE (Eg b call202 (BJ (.slice k c.lZ.length u) c.lZ (.func (.func 203) #[] #[(.pointer (some ⟨t, 0, none⟩))]) (fun (x : mI) => xP x c.Name c.lZ c.mq) _ _ (a.mono mK.mono b.lL) ⟨203, #[], #[(.pointer (some ⟨t, 0, none⟩))], rfl, call203, fun W x vs r d h hm => by obtain ⟨_, rfl, B⟩ := h; obtain ⟨G, H, rfl, l, m⟩ := B.out; exact H8 x G H t c.Name (.slice k c.lZ.length u) c.lZ (.slice y c.mq.length z) c.mq r W l m (a.mono mK.mono (b.lL.trans d)) (i.mono nH.mono (b.lL.trans d)) (At.of (d _ _ (b.at_ Mh)) _ rfl) hm⟩ D) (fun J b => V (oy rfl) (Wa (ln ?_)))))))))))
 exact mu (rQ hm b)
theorem Gt (a : lH) (u x : Value) (r : Int) (w : World) (g : Sl mC 15 (hp w) u a.lZ) (c : Sl mZ 8 (hp w) x a.mq) (hm : yK a = some r) :
  mo false pg0 79 [(.agg #[(.string a.Name), u, x])] w (.int .i64 r) := by
 refine cG 26 func79 rfl (fun b => sg ?_)
 obtain ⟨D, G, rfl⟩ := g.form
 let b8 : Value := (.slice D a.lZ.length G)
 obtain ⟨z, B, rfl⟩ := c.form
 let a4 : Value := (.slice z a.mq.length B)
 let a0 := (C7 a.Name D a.lZ.length G z a.mq.length B)
 refine VE (mG b rfl (fun W6 d b => Wa (ln (mf (bg (Wf QR (VB b Mh rfl rfl bO (bS hm fun R n hm => VE (Eg b call57 (mo.nz (vj a.Name _ _  n)) (fun W9 b => V (oy rfl) (Wa (mz ?_))))))))))))
 refine lU (CI hm rfl (fun Q hm => ?_) (fun Q hm => ?_))
 ·refine sg (Wa (ln ?_))
  replace b := b.lF (Db St)
  refine mu (nY (mL ?_))
  obtain rfl := sj hm
  exact rP b
 refine sg (VA b Mh a0 gU fE (bS hm fun v Z hm => VE (Eg b call140 (Nc a b8 a4 _ _ (g.mono mK.mono b.lL) (c.mono nH.mono b.lL) Z) (fun a9 b => Wa (ln (CI hm rfl (fun T hm => ?_) (fun T hm => ?_)))))))
 ·refine sg (Wa (ln ?_))
  replace b := b.lF (Db St)
  refine mu (nY (mL ?_))
  obtain rfl := sj hm
  exact rP b
 refine sg (VA b Mh a0 gU fE (bS hm fun A h hm => VE (Eg b call141 (LZ a b8 a4 _ _ (g.mono mK.mono b.lL) (c.mono nH.mono b.lL) h) (fun o b => V (oy rfl) (Wm (LJ hm (fun N E W => ∃ J, ST false mD w W (hp w) ((d, Ol a0 25) :: J) ∧ E 1 = (.pointer (some ⟨d, 0, none⟩)) ∧ E 20 = (.bool N)) 5 ?_ (fun N t I => ?_)))))))
 ·rintro O E W ⟨J, b, a5, l⟩ Y
  refine Wh l (LJ Y (fun M E W => ∃ K, ST false mD w W (hp w) K ∧ E 25 = (.bool M)) 4 ?_ (fun M k H => ?_))
  ·rintro P E W ⟨K, b, m⟩ y
   refine Wg m (ln (CI y rfl (fun U y => ?_) (fun U y => ?_)))
   ·refine sg (Wa (lt (nY (mL ?_))))
    obtain rfl := sj y
    exact rP b
   exact nf (mJ (lU (sg (Wa (lt (rQ y b))))))
  refine bC k (fun j k => ?_) (fun j k => ?_)
  ·refine un j (un j (un j (V (mh (cB j) rfl) ?_)))
   obtain rfl := sj k
   exact H _ _ ⟨_, (b.lF (Db St)), rfl⟩
  refine ug j (lJ a5 (lQ b.has Mh a0 rfl gU fE)) (bS k fun F a2 k => sa j (Eg b call143 (KR a b8 a4 _ _ (g.mono mK.mono b.lL) (c.mono nH.mono b.lL) a2) (fun q b => ug j (oy rfl) (V (mi (cB j) rfl) ?_))))
  obtain rfl := sj k
  exact H _ _ ⟨_, (b.lF (Db St)), rfl⟩
 refine bC t (fun i t => ?_) (fun i t => ?_)
 ·refine un i (un i (un i (un i (V (mh (cB i) rfl) ?_))))
  obtain rfl := sj t
  exact I _ _ ⟨_, (b.lF St), rfl, rfl⟩
 refine ug i (lO DP rfl) (ug i (lJ rfl (lX b.has Mh rfl lA)) (bS t fun L a3 t => sa i (Eg b call142 (NU a4 a.mq _ _ (c.mono nH.mono b.lL) a3) (fun s b => ug i (oy rfl) (V (mi (cB i) rfl) ?_)))))
 obtain rfl := sj t
 exact I _ _ ⟨_, (b.lF St), rfl, rfl⟩
theorem Ng (a : lH) (k z : Value) (B : ByteArray) (I : Int) (r : (ng × Int)) (w : World) {M : mN} (h0 : pC M [] w) (g : Sl mC 15 M k a.lZ) (i : Sl mZ 8 M z a.mq) (hm : zy a B I = some r) :
  nO false pg0 54 [(.agg #[(.string a.Name), k, z]), (.string B), (.int .i64 I)] w M [] (fun v L1 N => ∃ n o q s A a9, v = (.tuple #[(.agg #[(.string (((r.1).lH).Name)), n, o, (.string ((r.1).mU)), (.int .i64 ((r.1).Room)), q, s, A, a9]), (.int .i64 (r.2))]) ∧ L1 = [] ∧ Sl mC 15 N n (((r.1).lH).lZ) ∧ Sl mZ 8 N o (((r.1).lH).mq) ∧ Sl (Pl lE) 9 N q ((r.1).lV) ∧ Sl (Pl lE) 9 N s ((r.1).Shown) ∧ Sl (Pl lG) 2 N A ((r.1).ml) ∧ Sl (Pl lG) 2 N a9 ((r.1).ms)) := by
 refine wj h0 33 func54 rfl (fun b => sg ?_)
 obtain ⟨t, x, rfl⟩ := g.form
 obtain ⟨u, y, rfl⟩ := i.form
 let d := (C7 a.Name t a.lZ.length x u a.mq.length y)
 let a0 := (XM a.Name t a.lZ.length x u a.mq.length y B I)
 refine VE (mG b rfl (fun W6 Q b => VE (my b kU (fun W8 T b => Wa (lr (VA b (Mt Mh) d gU fE (bS hm fun r9 R hm => VE (Eg b call79 (Gt a (.slice t a.lZ.length x) (.slice u a.mq.length y) _ _ (g.mono mK.mono b.lL) (i.mono nH.mono b.lL) R) (fun d7 b => Wa (ln (mf (CJ hm (fun l E W => ∃ U, ST false (keys []) w W M ((T, Ol Nd 36) :: ((Q, Ol d 25) :: U)) ∧ E 1 = (.string B) ∧ E 2 = (.int .i64 I) ∧ E 3 = (.pointer (some ⟨Q, 0, none⟩)) ∧ E 6 = (.pointer (some ⟨T, 0, none⟩)) ∧ E 8 = (.int .i64 l)) (fun l c => ?_) ?_))))))))))))
 ·refine bg (Wm (Wi rfl (Wa (ln (CI c rfl (fun L c => ?_) (fun L c => ?_))))))
  ·refine nf (mJ (lU ?_))
   obtain rfl := sj c
   exact ⟨_, (b.lF St), rfl, rfl, rfl, rfl, rfl⟩
  refine sg (Wm (bS c fun e1 b6 c => VE (Eg b call57 (mo.nz (vj B _ _  b6)) (fun e0 b => V (oy rfl) (Wa (ln (CI c rfl (fun O c => ?_) (fun O c => ?_))))))))
  ·refine ma (Wa (mz (mJ (lU ?_))))
   obtain rfl := sj c
   exact ⟨_, (b.lF St), rfl, rfl, rfl, rfl, rfl⟩
  refine sg (Wm (Wi rfl (Wm (LJ c (fun m E W => ∃ Y, ST false (keys []) w W M ((T, Ol Nd 36) :: ((Q, Ol d 25) :: Y)) ∧ E 1 = (.string B) ∧ E 2 = (.int .i64 I) ∧ E 3 = (.pointer (some ⟨Q, 0, none⟩)) ∧ E 6 = (.pointer (some ⟨T, 0, none⟩)) ∧ E 8 = (.int .i64 r9) ∧ E 24 = (.bool m)) 3 ?_ (fun m H K => ?_)))))
  ·rintro e2 E W ⟨Y, b, a3, a4, a5, h, c3, c5⟩ G
   refine Wg c5 (ln (CI G rfl (fun P G => ?_) (fun P G => ?_)))
   ·refine ma (Wa (mz (mJ (lU ?_))))
    obtain rfl := sj G
    exact ⟨_, (b.lF St), a3, a4, a5, h, rfl⟩
   refine nf (mJ (lU ?_))
   obtain rfl := sj G
   exact ⟨_, (b.lF St), a3, a4, a5, h, c3⟩
  refine bC H (fun j H => ?_) (fun j H => ?_)
  ·refine un j (un j (V (mh (cB j) rfl) ?_))
   obtain rfl := sj H
   exact K _ _ ⟨_, (b.lF St), rfl, rfl, rfl, rfl, rfl, rfl⟩
  refine ug j (lP rfl) (ug j (mP rfl rfl rfl) (V (mi (cB j) rfl) ?_))
  obtain rfl := sj H
  exact K _ _ ⟨_, (b.lF St), rfl, rfl, rfl, rfl, rfl, rfl⟩
 rintro c6 E W ⟨U, b, b9, c0, c1, J, Z⟩ D
 refine mf (sg (Wh Z (Wi rfl (ln (CI D rfl (fun F D => ?_) (fun F D => ?_))))))
 ·refine sg (V (nW (v := (.agg Nd.toArray)) sM (nw kU fD (VF _ fD) kr)) (Wh Z (VO (mj (.agg Nd.toArray) (Nd.toArray) b J rfl dD oc nb rfl (fun d8 b => Wa (ln ?_))))))
  replace b := b.lF (Kb (Db St))
  refine mu (mL ?_)
  obtain rfl := sj D
  exact tk (v0 := (.agg Nd.toArray)) (v1 := (.int .i64 c6)) rfl J (lQ b.has Mh Nd rfl dX dD) rfl ⟨_, _, _, rfl, (b.ov Sn), (mx.refl _), Lo.refl, (ST.nt b (oT.mem Sn)), (.slice none 0 0), (.slice none 0 0), (.slice none 0 0), (.slice none 0 0), (.slice none 0 0), (.slice none 0 0), rfl, rfl, (Sl.nil _ _ _), (Sl.nil _ _ _), (Sl.nil _ _ _), (Sl.nil _ _ _), (Sl.nil _ _ _), (Sl.nil _ _ _)⟩
 refine kg (V (lJ c1 (lQ b.has (Mt Mh) d rfl gU fE)) (Wh b9 (Wh c0 (V (nW (v := (.agg a0.toArray)) (FF rfl rfl rfl) (nw kU fD (VF _ fD) kr)) (VO (mj (.agg a0.toArray) (a0.toArray) b J rfl dD oc nb rfl (fun d9 b => Wa (ln ?_))))))))
 replace b := b.lF (Kb (Db St))
 refine mu ?_
 obtain rfl := sj D
 exact tk (v0 := (.agg a0.toArray)) (v1 := (.int .i64 0)) rfl J (lQ b.has Mh a0 rfl dX dD) rfl ⟨_, _, _, rfl, (b.ov Sn), (mx.refl _), Lo.refl, (ST.nt b (oT.mem Sn)), (.slice t a.lZ.length x), (.slice u a.mq.length y), (.slice none 0 0), (.slice none 0 0), (.slice none 0 0), (.slice none 0 0), rfl, rfl, g, i, (Sl.nil _ _ _), (Sl.nil _ _ _), (Sl.nil _ _ _), (Sl.nil _ _ _)⟩
theorem HP (a : lD) (r : List lC) (w : World) (hm : zu a = some r) :
  nq true pg0 243 [(.agg (lE a).toArray)] w 50 lG 2 r := by
 refine uk 27 func243 rfl (fun b => sg (VE (mG b rfl (fun W2 h b => Wa (lS (VA b Mh (lE a) bD aJ (bS hm fun r3 o hm => VE (Eg b call113 (BD a _ _  o) (fun W5 b => V (oy rfl) (mz ?_))))))))))
 refine lU (CI hm rfl (fun n hm => ?_) (fun n hm => ?_))
 ·refine sg (Wa (ln ?_))
  replace b := b.lF (Db St)
  refine mu (mL ?_)
  obtain rfl := sj hm
  exact nc (v := (.slice none 0 0)) rfl rfl ⟨_, [], rfl, b.oa (fun p d => by cases d) (by simp), mw.nil _ _ _⟩
 refine kg (Wf sD (VA b Mh (lG a.Head) aT aG (VE (mH (cs := (lG a.Head).toArray) b (oE rfl) (ot aM aG dB) (fun W8 y b => Wa (ln (mf (CJ hm (fun I E W => ∃ j i z, ST true mD w W (hp w) ((h, Ol (lE a) 52) :: (i ++ z)) ∧ E 1 = (.pointer (some ⟨h, 0, none⟩)) ∧ E 3 = j ∧ mw 50 lG 2 j I i) (fun I g => ?_) ?_))))))))
 ·refine sg (Wf sx (VB b (Mt Mh) rfl rfl cH (Wi rfl (ln (CI g rfl (fun Q g => ?_) (fun Q g => ?_))))))
  ·refine ma (Wm (Wf pK (VA b (Mt Mh) (lG a.B) aT aG (VE (mH (cs := (lG a.B).toArray) b (oE rfl) (ot aM aG dB) (fun F a4 b => ?_))))))
   replace b := b.perm (Nb (Pb Pz) Nz)
   refine bS g fun c0 T g => VE (oK (enc := lG) (v := (.slice (some ⟨y, 0, none⟩) 1 1)) (vs := (.slice (some ⟨a4, 0, none⟩) 1 1)) (R := [(y, Ol (lG a.Head) 50)]) b nF dc pJ aM oz.1 oz.2.1 rfl oz.2.2.1 oz.2.2.2 rfl rfl (mw.lit (l := [a.Head]) (enc := lG) rfl dc rfl rfl) (Sl.lit (enc := lG) (l := [a.B]) nF rfl nb rfl (b.at_ (Mt Mh))) T (fun L a9 m b K => Wa (ln ?_)))
   obtain rfl := sj g
   exact ⟨a9, m, _, (b.lF (Sb (Pr (Pb Pz)) (Kr (Db St)))), rfl, rfl, K⟩
  refine kn ?_
  obtain rfl := sj g
  replace b := b.Hs
  exact ⟨(.slice (some ⟨y, 0, none⟩) 1 1), [(y, Ol (lG a.Head) 50)], _, (b.lF (Sb (Pr Pz) St)), rfl, rfl, (mw.lit (l := [a.Head]) (enc := lG) rfl dc rfl rfl)⟩
 rintro O E W ⟨j, i, z, b, D, G, u⟩ U
 refine mf (CJ U (fun H E W => ∃ t k B, ST true mD w W (hp w) (k ++ B) ∧ E 3 = t ∧ mw 50 lG 2 t H k) (fun H c => ?_) ?_)
 ·refine sg (V (lO sx D) (VB b Mh rfl rfl cH (Wi rfl (ln (CI c rfl (fun M c => ?_) (fun M c => ?_))))))
  ·refine ma (Wh G (V (lO vk D) (VA b Mh (lG a.C) aT aG (VE (mH (cs := (lG a.C).toArray) b (oE rfl) (ot aM aG dB) (fun s a3 b => ?_))))))
   replace b := b.perm (Nr (Qb (Qb Qz)) Nz)
   refine bS c fun b9 N c => VE (oK (enc := lG) (v := j) (vs := (.slice (some ⟨a3, 0, none⟩) 1 1)) (R := i) b nF dc pJ aM oz.1 oz.2.1 rfl oz.2.2.1 oz.2.2.2 rfl rfl u (Sl.lit (enc := lG) (l := [a.C]) nF rfl nb rfl (b.at_ (Ma Mh))) N (fun A q Z b J => Wa (ln ?_)))
   obtain rfl := sj c
   exact ⟨q, Z, _, (b.lF (Kr (Db (Db St)))), rfl, J⟩
  refine kn ?_
  obtain rfl := sj c
  exact ⟨j, i, _, (b.lF (Db St)), G, u⟩
 rintro P E W ⟨t, k, B, b, a5, x⟩ Y
 refine sg (Wh a5 (Wa (lt ?_)))
 obtain rfl := sj Y
 exact nc (v := t) rfl rfl ⟨_, k, rfl, b.oa (fun p d => (Ml d)) x.nd, x⟩
theorem Gl (M : Nat) (u : Value) (a9 : List (lC × (List (ByteArray × Bool)))) (G : LO) (D : Value) (a0 : List lD) (B : LO) (a : Value) (Y : List (lC × (List lD))) (I : LO) (c : Value) (K : List (ByteArray × (List lD))) (t : LO) (j : Value) (a4 : List mc) (y : LO) (J : Int) (H : lD) (r : ((List lD) × (List (lC × (List lD))) × (List (ByteArray × (List lD))))) (w : World) {μ0 : mN} (h0 : pC μ0 ((M, Ob #[u, D, a, c, j, (.int .i64 J)] 189) :: (G ++ (B ++ (I ++ (t ++ (y ++ [])))))) w) (e9 : nV (fun (x : lC) => (.agg (lG x).toArray)) (na Value.string (fun (x : Bool) => (Value.bool x))) u a9 G) (a6 : mw 52 lE 9 D a0 B) (b2 : nV (fun (x : lC) => (.agg (lG x).toArray)) (mw 52 lE 9) a Y I) (T : nV Value.string (mw 52 lE 9) c K t) (e1 : sy 111 mS 3 j a4 y) (hm : wi a9 a0 Y K a4 J H = some r) :
  nJ true pg0 187 [(.pointer (some ⟨M, 0, none⟩)), (.agg (lE H).toArray)] w ((M, Ob #[u, D, a, c, j, (.int .i64 J)] 189) :: (G ++ (B ++ (I ++ (t ++ (y ++ [])))))) (fun v L1 W' => ∃ y1 S2 S4 S6, v = (.tuple #[]) ∧ L1 = ((M, Ob #[u, y1, a, c, j, (.int .i64 J)] 189) :: (G ++ (S2 ++ (S4 ++ (S6 ++ (y ++ [])))))) ∧ mw 52 lE 9 y1 r.1 S2 ∧ nV (fun (x : lC) => (.agg (lG x).toArray)) (mw 52 lE 9) a r.2.1 S4 ∧ nV Value.string (mw 52 lE 9) c r.2.2 S6) := by
 refine Bo h0 55 func187 rfl (fun d => sg (VE (mG d rfl (fun W2 b1 d => ln (mf ?_)))))
 replace d := d.drew
 have m := d.has.lF (Kb Sn)
 have n := d.has.lF (Db (Kb Sn))
 refine yi 10 m n mB (nv 0 rfl kr (.inl rfl) rfl dc (fun _ _ h => ⟨h.1, nQ br h.2⟩) ⟨m, fun _ => n⟩ (fun _ _ _ _ => lP rfl) (nv 1 rfl kr (.inl rfl) rfl dc (fun _ _ h => ⟨h.1, nQ br h.2⟩) ⟨m, fun _ => n⟩ (fun _ _ _ _ => lP rfl) (nv 2 rfl kr (.inl rfl) rfl dc (fun _ _ h => ⟨h.1, nQ br h.2⟩) ⟨m, fun _ => n⟩ (fun _ _ _ _ => nN rfl) (nv 3 rfl kr (.inl rfl) rfl dc (fun _ _ h => ⟨h.1, nQ br h.2⟩) ⟨m, fun _ => n⟩ (fun _ _ _ _ => lO Ld rfl) (nv 4 rfl kr (.inl rfl) rfl dc (fun _ _ h => ⟨h.1, nQ br h.2⟩) ⟨m, fun _ => n⟩ (fun l W s A => have q := (A.2 (s.GB 10 [4] kr rfl)); lJ rfl (lX q Mh rfl eH)) (nv 5 rfl kr (.inl rfl) rfl dc (fun _ _ h => ⟨h.1, nQ br h.2⟩) ⟨m, fun _ => n⟩ (fun l W s A => have q := A.1; lJ rfl (lQ q Mh (lE H) rfl bD aJ)) (XE 6 rfl (mH (cs := (lE H).toArray) d (oE rfl) (ot aK aJ cL) (fun k0 g0 d => ?_)))))))))
 have m := d.has.lF (Db (Kb Sn))
 have n := d.has.lF (Db (Db (Kb Sn)))
 refine ⟨⟨m, fun _ => n⟩, ?_⟩
 replace d := d.perm (Nr (Qb (Qb (Qb (Qr Qz)))) Nz)
 refine bS hm fun a5 f0 hm => XE 7 rfl (oK (enc := lE) (v := D) (vs := (.slice (some ⟨g0, 0, none⟩) 1 1)) (R := B) d nl dc pc aK oA.1 oA.2.1 rfl oA.2.2.1 oA.2.2.2 rfl rfl a6 (Sl.lit (enc := lE) (l := [H]) nl rfl nb rfl (d.at_ (Ma Mh))) f0 (fun k1 k4 b7 d b5 => ?_))
 have m := d.has.lF (Dr (Db (Kb Sn)))
 have n := d.has.lF (Dr (Db (Db (Kb Sn))))
 refine ⟨⟨m, fun _ => n⟩, (nv 8 rfl kr (.inl rfl) rfl dc (fun _ _ h => ⟨h.1, nQ br h.2⟩) ⟨m, fun _ => n⟩ (fun _ _ _ _ => nN rfl) (nv 9 rfl kr (.inl rfl) rfl dc (fun _ _ h => ⟨h.1, nQ br h.2⟩) ⟨m, fun _ => n⟩ (fun _ _ _ _ => lO Ld rfl) ?_))⟩
 obtain ⟨a8, b0, rfl⟩ := b5.form
 let F : Value := (.slice a8 a5.length b0)
 replace d := d.perm (Nb (Pr (Pb (Pb Pz))) Nz)
 refine XO 10 rfl (mj F (#[u, F, a, c, j, (.int .i64 J)]) d rfl rfl iM oc nb rfl (fun k2 d => ?_))
 have m := d.has.lF (Db (Dr (Db (Kb Sn))))
 refine ⟨⟨m, fun h => CC kr h⟩, (nh kr (lU ?_))⟩
 replace d := d.lF (Kb (Kr (Db St)))
 refine mf (sg (VA d (Mt (Ma Mh)) (lE H) bD aJ (bS hm fun c1 f1 hm => VE (pA d call243 (HP H _ _  f1) (fun k3 k5 k6 j9 d g4 ab e8 => ?_)))))
 let b8 := (c1.drop (Int.toNat 1))
 obtain ⟨g3, d, g7, ad, f2⟩ := ST.Ap d e8 nF
 refine bS hm fun _ b9 hm => VQ (EV (i := 1) aM aG rfl rfl f2 (ue b9) (tL b9)) (fun g1 b6 => V (mV aM rfl b6.1) (Wm (ln (mM (fun i E W => ∃ a3 U O, (E 20 = .int .i64 (i : Nat) ∧ E 19 = .int .i64 (b8.length : Nat)) ∧ ST true (keys ((M, Ob #[u, D, a, c, j, (.int .i64 J)] 189) :: (G ++ (B ++ (I ++ (t ++ (y ++ []))))))) w W g3 ((M, Ob #[u, F, a, c, j, (.int .i64 J)] 189) :: ((b1, Ol (lE H) 52) :: (U ++ (b7 ++ (G ++ (t ++ (y ++ O))))))) ∧ E 0 = (.pointer (some ⟨M, 0, none⟩)) ∧ E 3 = (.pointer (some ⟨b1, 0, none⟩)) ∧ E 18 = g1 ∧ nV (fun (x : lC) => (.agg (lG x).toArray)) (mw 52 lE 9) a a3 U ∧ qL H K a5 (b8.drop i) a3 = some r) b8.length b6.1.len ⟨Y, I, _, ⟨rfl, rfl⟩, (d.lF (Kb (Sb (Pr Pz) (Sr (Qr (Qr Qz)) St)))), rfl, rfl, rfl, b2, hm⟩ dc dc dc (fun _ _ _ h => by obtain ⟨_, _, _, aa, _⟩ := h; exact aa) ?_ ?_))))
 ·rintro f3 E W d3 ⟨a3, U, O, ⟨eI, eN⟩, d, a2, N, P, Z, g⟩
  obtain ⟨Q, h4, d8, d7, d9⟩ := mE d3
  rw [d8] at g
  refine bg (VQ (og (enc := lG) (i := (f3 : Int)) (x0 := Q) aM aG P eI b6.1 (aF _) d7) (fun j4 d4 => V (lJ rfl (mr d.has d4 aT aG)) (VE (my d dB (fun i1 j0 d => VO (mj (.agg (lG Q).toArray) ((lG Q).toArray) d rfl rfl aG (pJ Q) nb rfl (fun i2 d => ln ?_)))))))
  replace d := d.drew
  have m := d.has.lF (Kb (Kb (Kb Sn)))
  refine mT m mB (X 0 rfl m (lP a2) (X 1 rfl m (nN rfl) (X 2 rfl m (lO OP rfl) (XH 3 rfl m (fun _ q => lJ rfl (lX q (Mt Mh) rfl isAgg185)) (XH 4 rfl m (fun _ q => lJ rfl (lQ q Mh (lG Q) rfl aT aG)) (XH 5 rfl m (fun _ q => lJ N (lQ q (Mt (Mt Mh)) (lE H) rfl bD aJ)) (XE 6 rfl (mH (cs := (lE H).toArray) d (oE rfl) (ot aK aJ cL) (fun i3 e6 d => ?_)))))))))
  have m := d.has.lF (Db (Kb (Kb (Kb Sn))))
  refine ⟨m, ?_⟩
  obtain ⟨h1, d1⟩ := Z
  replace d := d.perm (Nr (Qb (Qb (Qb (Qb Qz)))) Nz)
  refine XE 7 rfl (PF (k := Q) (x0 := [])  mn A0 underlying185 jL (mw.nil _ _ _) d d1 rfl rfl (fun i4 f5 h3 h6 e2 d c3 c2 => ?_))
  have m := d.has.lF (Dr (Dr (Db (Kb (Kb (Kb Sn))))))
  refine ⟨m, (X 8 rfl m (xy rfl rfl) (X 10 rfl m (xy rfl rfl) ?_))⟩
  replace d := d.perm (Nr (Qr Qz) Nz)
  refine bS g fun c0 c8 g => XE 9 rfl (oK (enc := lE) (v := f5) (vs := (.slice (some ⟨e6, 0, none⟩) 1 1)) (R := e2) d nl dc pc aK oA.1 oA.2.1 rfl oA.2.2.1 oA.2.2.2 rfl rfl c3 (Sl.lit (enc := lE) (l := [H]) nl rfl nb rfl (d.at_ (Ma (Ma Mh)))) c8 (fun i5 j5 h7 d c4 => ?_))
  have m := d.has.lF (Dr (Dr (Db (Kb (Kb (Kb Sn))))))
  refine ⟨m, ?_⟩
  replace d := d.perm (Nr (Qr Qz) Nz)
  refine XO 11 rfl (NO (e := 0) (z := c0)  mn A0 d c2 rfl rfl rfl c4 (fun i6 h2 e3 d c5 => ?_))
  have m := d.has.lF (Dr (Db (Kb (Kb (Kb Sn)))))
  refine ⟨m, (nh kr (mJ (lU ?_)))⟩
  replace d := d.lF (Kr (Db (Db St)))
  exact ⟨eI, (pu me a3 Q c0), e3, _, ⟨rfl, eN⟩, (d.lF (Sb (Pr Pz) (Sb (Pr Pz) St))), a2, N, P, c5.e, (by rw [d9]; exact g)⟩
 rintro E W ⟨a3, U, O, ⟨eI, eN⟩, d, a2, N, P, Z, g⟩
 rw [aI] at g
 refine lU (sg (V (lO sx N) (VB d (Mt Mh) rfl rfl cH (Wi rfl (ln (CI g rfl (fun c9 g => ?_) (fun c9 g => ?_)))))))
 ·replace d := d.drew
  have m := d.has.lF (Kb (Kb Sn))
  have n := d.has.lF (Db (Db (Dr (Dr (Dr (Kr Sn))))))
  refine yi 15 m n mB (nv 0 rfl kr (.inl rfl) rfl dc (fun _ _ h => ⟨h.1, nQ br h.2⟩) ⟨m, fun _ => n⟩ (fun _ _ _ _ => lP a2) (nv 1 rfl kr (.inl rfl) rfl dc (fun _ _ h => ⟨h.1, nQ br h.2⟩) ⟨m, fun _ => n⟩ (fun _ _ _ _ => nN rfl) (nv 2 rfl kr (.inl rfl) rfl dc (fun _ _ h => ⟨h.1, nQ br h.2⟩) ⟨m, fun _ => n⟩ (fun _ _ _ _ => lO Kw rfl) (nv 3 rfl kr (.inl rfl) rfl dc (fun _ _ h => ⟨h.1, nQ br h.2⟩) ⟨m, fun _ => n⟩ (fun l W s A => have q := A.1; lJ rfl (lX q Mh rfl isAgg186)) (nv 4 rfl kr (.inl rfl) rfl dc (fun _ _ h => ⟨h.1, nQ br h.2⟩) ⟨m, fun _ => n⟩ (fun _ _ _ _ => lO wK N) (nv 5 rfl kr (.inl rfl) rfl dc (fun _ _ h => ⟨h.1, nQ br h.2⟩) ⟨m, fun _ => n⟩ (fun l W s A => have q := A.1; lJ rfl (lX q (Mt Mh) rfl bO)) (nv 6 rfl kr (.inl rfl) rfl dc (fun _ _ h => ⟨h.1, nQ br h.2⟩) ⟨m, fun _ => n⟩ (fun _ _ _ _ => lP a2) (nv 7 rfl kr (.inl rfl) rfl dc (fun _ _ h => ⟨h.1, nQ br h.2⟩) ⟨m, fun _ => n⟩ (fun _ _ _ _ => nN rfl) (nv 8 rfl kr (.inl rfl) rfl dc (fun _ _ h => ⟨h.1, nQ br h.2⟩) ⟨m, fun _ => n⟩ (fun _ _ _ _ => lO Kw rfl) (nv 9 rfl kr (.inl rfl) rfl dc (fun _ _ h => ⟨h.1, nQ br h.2⟩) ⟨m, fun _ => n⟩ (fun l W s A => have q := A.1; lJ rfl (lX q Mh rfl isAgg186)) (nv 10 rfl kr (.inl rfl) rfl dc (fun _ _ h => ⟨h.1, nQ br h.2⟩) ⟨m, fun _ => n⟩ (fun _ _ _ _ => lO wK N) (nv 11 rfl kr (.inl rfl) rfl dc (fun _ _ h => ⟨h.1, nQ br h.2⟩) ⟨m, fun _ => n⟩ (fun l W s A => have q := A.1; lJ rfl (lX q (Mt Mh) rfl bO)) ?_))))))))))))
  obtain ⟨e0, L⟩ := T
  obtain ⟨h8, g8, g9⟩ := oX.rowAt nU.1 L H.mQ
  refine nv 12 rfl kr (.inl rfl) rfl dc (fun _ _ h => ⟨h.1, nQ br h.2⟩) ⟨m, fun _ => n⟩ (fun l W s A => have q := (A.2 (s.GB 15 [12] kr rfl)); rG (k := H.mQ) (z := (.slice none 0 0)) Hp underlying186 jL rfl rfl L (fun b o hq => q.2 b o (Ml hq))) (nv 13 rfl kr (.inl rfl) rfl dc (fun _ _ h => ⟨h.1, nQ br h.2⟩) ⟨m, fun _ => n⟩ (fun l W s A => have q := A.1; lJ N (lQ q (Mt Mh) (lE H) rfl bD aJ)) (XE 14 rfl (mH (cs := (lE H).toArray) d (oE rfl) (ot aK aJ cL) (fun i7 e7 d => ?_))))
  have m := d.has.lF (Db (Kb (Kb Sn)))
  have n := d.has.lF (Db (Db (Db (Dr (Dr (Dr (Kr Sn)))))))
  refine ⟨⟨m, fun _ => n⟩, ?_⟩
  replace d := d.perm (Nr (Qb (Qb (Qb (Qr (Qr (Qr Qz)))))) Nz)
  obtain ⟨h9, e4, d5, d6, d2⟩ := oX.open nU.1 (mw.nil _ _ _) L H.mQ
  replace d := d.perm (XG d5)
  replace d := d.perm (Nr (Qr Qz) Nz)
  refine bS g fun f4 d0 g => XE 15 rfl (oK (enc := lE) (v := (uw np e0 H.mQ (.slice none 0 0))) (vs := (.slice (some ⟨e7, 0, none⟩) 1 1)) (R := e4) d nl dc pc aK oA.1 oA.2.1 rfl oA.2.2.1 oA.2.2.2 rfl rfl d6 (Sl.lit (enc := lE) (l := [H]) nl rfl nb rfl (d.at_ (Ma (Ma Mh)))) d0 (fun i8 j6 i0 d c6 => ?_))
  have m := d.has.lF (Dr (Dr (Db (Kb (Kb Sn)))))
  refine ⟨⟨m, fun h => CC kr h⟩, ?_⟩
  replace d := d.perm (Nr (Qr Qz) Nz)
  refine XO 16 rfl (UX (k := H.mQ) (z := f4)  Hp underlying186 d d2 rfl rfl rfl c6 (fun i9 e5 d c7 => ?_))
  have m := d.has.lF (Dr (Db (Kb (Kb Sn))))
  refine ⟨⟨m, fun h => CC kr h⟩, (nh kr (rR ?_))⟩
  obtain rfl := sj g
  exact qv rfl ⟨_, _, rfl, (d.ov (Sb (Pr (Pb Pz)) (Sr (Qr (Qb (Qb (Qr (Qr Qz))))) (Sr (Qr (Qb (Qb (Qr Qz)))) (Sr (Qr (Qb (Qb Qz))) (Kr (Db (Db (Kr Sn))))))))), F, b7, U, e5, rfl, rfl, b5, Z, c7.e⟩
 refine nf (rR ?_)
 obtain rfl := sj g
 exact qv rfl ⟨_, _, rfl, (d.ov (Kb (Db (Sr (Qr (Qr Qz)) (Sr (Qr Qz) (Kr (Kr (Kr Sn)))))))), F, b7, U, t, rfl, rfl, b5, Z, T⟩
theorem tN (J : Nat) (g : Value) (a0 : List (lC × (List (ByteArray × Bool)))) (D : LO) (a : Value) (M : List lD) (u : LO) (j : Value) (Z : List (lC × (List lD))) (B : LO) (c : Value) (N : List (ByteArray × (List lD))) (y : LO) (i : Value) (Y : List mc) (t : LO) (H : Int) (G : lC) (U : ByteArray) (r : ((List (lC × (List (ByteArray × Bool)))) × (List mc) × Int)) (w : World) {μ0 : mN} (h0 : pC μ0 ((J, Ob #[g, a, j, c, i, (.int .i64 H)] 189) :: (D ++ (u ++ (B ++ (y ++ (t ++ [])))))) w) (a5 : nV (fun (x : lC) => (.agg (lG x).toArray)) (na Value.string (fun (x : Bool) => (Value.bool x))) g a0 D) (b5 : mw 52 lE 9 a M u) (c3 : nV (fun (x : lC) => (.agg (lG x).toArray)) (mw 52 lE 9) j Z B) (b6 : nV Value.string (mw 52 lE 9) c N y) (K : sy 111 mS 3 i Y t) (hm : pW a0 M Z N Y H G U = some r) :
  nJ true pg0 244 [(.pointer (some ⟨J, 0, none⟩)), (.agg (lG G).toArray), (.string U)] w ((J, Ob #[g, a, j, c, i, (.int .i64 H)] 189) :: (D ++ (u ++ (B ++ (y ++ (t ++ [])))))) (fun v L1 W' => ∃ S1 y3 S4, v = (.tuple #[]) ∧ L1 = ((J, Ob #[g, a, j, c, y3, (.int .i64 (r.2.2))] 189) :: (S1 ++ (u ++ (B ++ (y ++ (S4 ++ [])))))) ∧ nV (fun (x : lC) => (.agg (lG x).toArray)) (na Value.string (fun (x : Bool) => (Value.bool x))) g r.1 S1 ∧ sy 111 mS 3 y3 r.2.1 S4) := by
 let a1 := (#[g, a, j, c, i, (.int .i64 H)] : Array Value)
 refine Bo h0 53 func244 rfl (fun m => sg (VE (mG m rfl (fun W2 b1 m => ln (mf (mf ?_))))))
 replace m := m.drew
 have d := m.has.lF (Kb (Kb (Kr Sn)))
 refine mT d mB (X 0 rfl d (lP rfl) (X 1 rfl d (nN rfl) (X 2 rfl d (lO zW rfl) (XH 3 rfl d (fun _ q => lJ rfl (lX q (Mt Mh) rfl jM)) (XH 4 rfl d (fun _ q => lJ rfl (lQ q Mh (lG G) rfl aT aG)) ?_)))))
 obtain ⟨f4, Q⟩ := a5
 refine XH 5 rfl d (fun _ q => rG (k := G) (z := (.map none)) A0 fZ iv rfl rfl Q (fun b o F => q.2 b o (Mt (Mt (Ml F))))) (X 6 rfl d (lP rfl) (XH 7 rfl d (fun _ q => xi (k := U) (z := false) (vf := (fun (x : Bool) => (Value.bool x))) Hp gC iN rfl rfl (oX.Gb (μ := hp _) mn.1 Q G (fun b o F => q.2 b o (Mt (Mt (Ml F)))))) (nh kr (lU (CI hm rfl (fun d5 hm => ?_) (fun d5 hm => ?_))))))
 ·refine mu (mL ?_)
  obtain rfl := sj hm
  exact qv rfl ⟨_, _, rfl, (m.ov (Db (Kb (Kr (Kr (Kr (Kr (Kr Sn)))))))), D, i, t, rfl, rfl, Q.e, K⟩
 refine kn (mf (CJ hm (fun b2 E W => ∃ O c0, ST true (keys ((J, Obj.cells a1 189 (0, 0)) :: (D ++ (u ++ (B ++ (y ++ (t ++ []))))))) w W μ0 ((b1, Ol (lG G) 50) :: ((J, Obj.cells a1 189 (0, 0)) :: (O ++ (u ++ (B ++ (y ++ (t ++ c0))))))) ∧ E 0 = (.pointer (some ⟨J, 0, none⟩)) ∧ E 2 = (.string U) ∧ E 4 = (.pointer (some ⟨b1, 0, none⟩)) ∧ nV (fun (x : lC) => (.agg (lG x).toArray)) (na Value.string (fun (x : Bool) => (Value.bool x))) g b2 O) (fun b2 I => ?_) ?_))
 ·refine mf ?_
  replace m := m.drew
  have d := m.has.lF (Kb (Kb (Kr Sn)))
  refine mT d mB (X 0 rfl d (lP rfl) (X 1 rfl d (nN rfl) (X 2 rfl d (lO zW rfl) (XH 3 rfl d (fun _ q => lJ rfl (lX q (Mt Mh) rfl jM)) (XH 4 rfl d (fun _ q => lJ rfl (lQ q Mh (lG G) rfl aT aG)) (XH 5 rfl d (fun _ q => rG (k := G) (z := (.map none)) A0 fZ iv rfl rfl Q (fun b o F => q.2 b o (Mt (Mt (Ml F))))) (X 6 rfl d (N8 mn.1 gC Q rfl rfl) (nh kr (lU (CI I rfl (fun b7 I => ?_) (fun b7 I => ?_)))))))))))
  ·replace m := m.drew
   have d := m.has.lF (Kb (Kb Sn))
   refine mT d mB (X 0 rfl d (lP rfl) (X 1 rfl d (nN rfl) (X 2 rfl d (lO zW rfl) (XH 3 rfl d (fun _ q => lJ rfl (lX q (Mt Mh) rfl jM)) (XH 4 rfl d (fun _ q => lJ rfl (lQ q Mh (lG G) rfl aT aG)) (XE 5 rfl (CA (P := pg0) Value.string (fun (x : Bool) => (Value.bool x)) m (fun e1 e7 d9 m b3 => ?_))))))))
   have d := m.has.lF (Dr (Kb (Kb Sn)))
   refine ⟨d, ?_⟩
   replace m := m.perm (Nr (Qr (Qb (Qb Qz))) Nz)
   refine bS I fun e4 b9 I => XO 6 rfl (RS (k := G) (z := ([]))  A0 fZ m Q rfl rfl rfl b3 b9 (fun e2 c4 m b4 => ?_))
   have d := m.has.lF (Dr (Kb (Kb Sn)))
   refine ⟨d, (nh kr (lU ?_))⟩
   obtain rfl := sj I
   exact ⟨c4, _, (m.lF (Sb (Pr Pz) (Sb (Pr Pz) St))), rfl, rfl, rfl, b4.e⟩
  refine kn ?_
  obtain rfl := sj I
  exact ⟨D, _, (m.lF St), rfl, rfl, rfl, Q.e⟩
 rintro f2 E W ⟨O, c0, m, L, c1, c2, c8⟩ T
 refine mf ?_
 replace m := m.drew
 have d := m.has.lF (Kb (Kb Sn))
 have n := m.has.lF (Db (Db (Kr Sn)))
 refine yi 7 d n mB (nv 0 rfl kr (.inl rfl) rfl dc (fun _ _ h => ⟨h.1, nQ br h.2⟩) ⟨d, fun _ => n⟩ (fun _ _ _ _ => lP L) (nv 1 rfl kr (.inl rfl) rfl dc (fun _ _ h => ⟨h.1, nQ br h.2⟩) ⟨d, fun _ => n⟩ (fun _ _ _ _ => nN rfl) (nv 2 rfl kr (.inl rfl) rfl dc (fun _ _ h => ⟨h.1, nQ br h.2⟩) ⟨d, fun _ => n⟩ (fun _ _ _ _ => lO zW rfl) (nv 3 rfl kr (.inl rfl) rfl dc (fun _ _ h => ⟨h.1, nQ br h.2⟩) ⟨d, fun _ => n⟩ (fun l W s A => have q := A.1; lJ rfl (lX q (Mt Mh) rfl jM)) (nv 4 rfl kr (.inl rfl) rfl dc (fun _ _ h => ⟨h.1, nQ br h.2⟩) ⟨d, fun _ => n⟩ (fun l W s A => have q := A.1; lJ c2 (lQ q Mh (lG G) rfl aT aG)) ?_)))))
 obtain ⟨e5, a9⟩ := c8
 refine nv 5 rfl kr (.inl rfl) rfl dc (fun _ _ h => ⟨h.1, nQ br h.2⟩) ⟨d, fun _ => n⟩ (fun l W s A => have q := (A.2 (s.GB 7 [5] kr rfl)); rG (k := G) (z := (.map none)) A0 fZ iv rfl rfl a9 (fun b o F => q.2 b o (Ml F))) (nv 6 rfl kr (.inl rfl) rfl dc (fun _ _ h => ⟨h.1, nQ br h.2⟩) ⟨d, fun _ => n⟩ (fun _ _ _ _ => lP c1) ?_)
 replace m := m.perm (Nr (Qb (Qb Qz)) Nz)
 refine bS T fun f3 c7 T => XO 7 rfl (Qf (k := G) (v := true) (vf := (fun (x : Bool) => (Value.bool x)))  mn.1 Hp gC m a9 rfl rfl rfl c7 (fun e8 c9 m c5 => ?_))
 have d := m.has.lF (Dr (Kb (Kb Sn)))
 refine ⟨⟨d, fun h => CC kr h⟩, (nh kr (lU (sg (Wh L (Wn (Wf HU (VB m (Ma (Mt Mh)) rfl rfl cH (Wi rfl (Wn (Wf HU ?_))))))))))⟩
 replace m := m.perm (Nb (Pr (Pb Pz)) Nz)
 refine VO (mj (.int .i64 (wi0 .i64 (H + 1))) (#[g, a, j, c, i, (.int .i64 (wi0 .i64 (H + 1)))]) m rfl rfl jq (HO _ (wi0 .i64 (H + 1))) nb rfl (fun e9 m => ln ?_))
 replace m := m.drew
 have d := m.has.lF (Db (Dr (Kb Sn)))
 have n := m.has.lF (Kb Sn)
 refine yi 12 d n mB (nv 0 rfl kr (.inl rfl) rfl dc (fun _ _ h => ⟨h.1, nQ br h.2⟩) ⟨d, fun _ => n⟩ (fun _ _ _ _ => lP L) (nv 1 rfl kr (.inl rfl) rfl dc (fun _ _ h => ⟨h.1, nQ br h.2⟩) ⟨d, fun _ => n⟩ (fun _ _ _ _ => lP L) (nv 2 rfl kr (.inl rfl) rfl dc (fun _ _ h => ⟨h.1, nQ br h.2⟩) ⟨d, fun _ => n⟩ (fun _ _ _ _ => nN rfl) (nv 3 rfl kr (.inl rfl) rfl dc (fun _ _ h => ⟨h.1, nQ br h.2⟩) ⟨d, fun _ => n⟩ (fun _ _ _ _ => lO Dz rfl) (nv 4 rfl kr (.inl rfl) rfl dc (fun _ _ h => ⟨h.1, nQ br h.2⟩) ⟨d, fun _ => n⟩ (fun l W s A => have q := (A.2 (s.GB 12 [4] kr rfl)); lJ rfl (lX q Mh rfl isAgg187)) (nv 5 rfl kr (.inl rfl) rfl dc (fun _ _ h => ⟨h.1, nQ br h.2⟩) ⟨d, fun _ => n⟩ (fun l W s A => have q := A.1; lJ c2 (lQ q Mh (lG G) rfl aT aG)) (nv 6 rfl kr (.inl rfl) rfl dc (fun _ _ h => ⟨h.1, nQ br h.2⟩) ⟨d, fun _ => n⟩ (fun _ _ _ _ => lP c1) (nv 7 rfl kr (.inl rfl) rfl dc (fun _ _ h => ⟨h.1, nQ br h.2⟩) ⟨d, fun _ => n⟩ (fun _ _ _ _ => nW (v := (.agg (mS (⟨G, U⟩ : mc)).toArray)) (qV rfl rfl) (nw fU fW (Qa _ fW) kr)) (XE 8 rfl (mH (cs := (mS (⟨G, U⟩ : mc)).toArray) m (oE rfl) (ot cV dS fU) (fun f0 d4 m => ?_)))))))))))
 have d := m.has.lF (Db (Db (Dr (Kb Sn))))
 have n := m.has.lF (Db (Kb Sn))
 refine ⟨⟨d, fun _ => n⟩, ?_⟩
 replace m := m.perm (Nr (Qb (Qb (Qr (Qb (Qr (Qr (Qr Qz))))))) Nz)
 refine bS T fun b0 c6 T => XE 9 rfl (Od (enc := mS) (v := i) (vs := (.slice (some ⟨d4, 0, none⟩) 1 1)) (R := t) m so dc BV cV xd.1 xd.2.1 rfl xd.2.2.1 xd.2.2.2 rfl rfl K (Sl.lit (enc := mS) (l := [(⟨G, U⟩ : mc)]) so rfl nb rfl (m.at_ (Ma Mh))) c6 (fun f1 e6 d0 m a7 => ?_))
 have d := m.has.lF (Dr (Db (Db (Dr (Kb Sn)))))
 have n := m.has.lF (Dr (Db (Kb Sn)))
 refine ⟨⟨d, fun _ => n⟩, (nv 10 rfl kr (.inl rfl) rfl dc (fun _ _ h => ⟨h.1, nQ br h.2⟩) ⟨d, fun _ => n⟩ (fun _ _ _ _ => nN rfl) (nv 11 rfl kr (.inl rfl) rfl dc (fun _ _ h => ⟨h.1, nQ br h.2⟩) ⟨d, fun _ => n⟩ (fun _ _ _ _ => lO Dz rfl) ?_))⟩
 obtain ⟨a3, a4, rfl⟩ := a7.form
 let a2 : Value := (.slice a3 b0.length a4)
 replace m := m.perm (Nb (Pr (Pb Pz)) Nz)
 refine XO 12 rfl (mj a2 (#[g, a, j, c, a2, (.int .i64 (wi0 .i64 (H + 1)))]) m rfl rfl sizeOf187 oc nb rfl (fun e0 m => ?_))
 have d := m.has.lF (Db (Dr (Db (Dr (Kb Sn)))))
 refine ⟨⟨d, fun h => CC kr h⟩, (nh kr (rR ?_))⟩
 obtain rfl := sj T
 exact qv rfl ⟨_, _, rfl, (m.ov (Kb (Sr (Qr (Qb Qz)) (Sr (Qr (Qb (Qb Qz))) (Sr (Qr (Qb (Qb Qz))) (Sr (Qr (Qb (Qb Qz))) (Kr Sn))))))), c9, a2, d0, rfl, rfl, c5.e, a7⟩
theorem yL (a : Value) (g : List (ByteArray × Bool)) (r : Unit) (w : World) (c : sS Value.string (fun (x : Bool) => (Value.bool x)) (hp w) a g) (hm : qW g = some r) :
  nJ true pg0 283 [a] w [] (fun v k W' => ∃ i, v = (.func (.func 319) #[] #[(.pointer (some ⟨i, 0, none⟩))]) ∧ k = ((i, Ob #[a] 190) :: [])) := by
 refine uk 4 func283 rfl (fun b => sg ?_)
 obtain ⟨t, rfl⟩ := c.form
 refine VE (mG b rfl (fun u j b => Wa (lr (V (qz (by exact vc rfl) rfl) (Wa (lt ?_))))))
 obtain rfl := sj hm
 exact nc (v := (.func (.func 319) #[] #[(.pointer (some ⟨j, 0, none⟩))])) rfl rfl ⟨_, _, rfl, (b.QV (Kb Sn)), j, rfl, rfl⟩
theorem KJ {β : Type} {vf : β → Value} {l : List (ByteArray × β)} {b : Nat} {a : Value} {W : World} {r : List ByteArray} (c : W.heap[b]? = some (.cells #[a] 190 (0, 0))) (hm : sS Value.string vf (hp W) a l) (hk : Jz l = some r) : nq false pg0 282 [.func (.func 319) #[] #[.pointer (some ⟨b, 0, none⟩)]] W 9 wc 1 r := NW (P := pg0) Ut Uo Vc rfl bQ call319 call310 c hm hk
theorem A8 (T : Nat) (a : Value) (u : List (lC × (List (ByteArray × Bool)))) (c : Value) (t : List lD) (j : Value) (G : List (lC × (List lD))) (g : Value) (B : List (ByteArray × (List lD))) (i : Value) (D : List mc) (Q : Int) (H : lC) (r : List ByteArray) (w : World) (J : uA (fun (x : lC) => (.agg (lG x).toArray)) (na Value.string (fun (x : Bool) => (Value.bool x))) (hp w) a u) (Z : Sl (Pl lE) 9 (hp w) c t) (a4 : uA (fun (x : lC) => (.agg (lG x).toArray)) (mw 52 lE 9) (hp w) j G) (a0 : uA Value.string (mw 52 lE 9) (hp w) g B) (a3 : Sl (Pl mS) 3 (hp w) i D) (Y : At (hp w) (.pointer (some ⟨T, 0, none⟩)) [a, c, j, g, i, (.int .i64 Q)]) (hm : tm u t G B D Q H = some r) :
  nq false pg0 245 [(.pointer (some ⟨T, 0, none⟩)), (.agg (lG H).toArray)] w 9 wc 1 r := by
 refine uk 15 func245 rfl (fun d => sg (VE (mG d rfl (fun W2 R d => Wa (lS (Wm (V (uc underlying132 rfl rfl) (ln (qx rfl ?_)))))))))
 refine kn (mf ?_)
 replace d := d.drew
 have h := d.has.lF (Kb Sn)
 refine mT h mB (X 0 rfl h (lP rfl) (X 1 rfl h (nN rfl) (XQ 2 rfl h (uq [a] zW rfl Y rfl) (fun b9 A => XH 3 rfl h (fun _ l => lJ rfl (po l (y := a) A jM)) (XH 4 rfl h (fun _ l => lJ rfl (lQ l Mh (lG H) rfl aT aG)) ?_)))))
 obtain ⟨a9, b4, K, M⟩ := J
 refine XH 5 rfl h (fun _ l => rG (k := H) (z := (.map none)) A0 fZ iv rfl rfl K (fun b o m => l.1 b o (M b o m))) (bS hm fun c0 F hm => ?_)
 refine XE 6 rfl (Gz d (bI _) call283 (fun _ _ _ _ => nJ.nz (yL (uw me a9 H (.map none)) ((nE me u H).getD []) _ _ ((oX.Gb mn.1 K H M).mono d.lL) F)) (fun b5 c2 c3 W d I q n a5 => ?_) (L0 := []))
 obtain ⟨b7, N, rfl⟩ := a5
 replace N := N.symm; subst N
 replace d := d.perm (Tb Tn)
 have h := d.has.pN I (Db (Kb Sn))
 refine ⟨h, (bS hm fun c1 L hm => XE 7 rfl (pA d call282 (KJ (vf := (fun (x : Bool) => (Value.bool x))) (d.has.2 _ _ Mh) ((oX.Gb mn.1 K H M).mono (fun b o m => d.has.1 b o (I b o m))) L) (fun b6 P c4 O d a2 s U => ?_)))⟩
 have h := d.has.pN (I.trans a2) (Dr (Db (Kb Sn)))
 refine ⟨h, (X 8 rfl h (oD rfl) (nh kr (lU ?_)))⟩
 replace d := d.lF (Kr (Db (Db St)))
 refine mu ?_
 obtain rfl := sj hm
 exact nc (v := P) rfl rfl ⟨_, O, rfl, d.oa (fun p m => (Ml m)) U.nd, U⟩
theorem GG (K : Nat) (g : Value) (N : List (lC × (List (ByteArray × Bool)))) (G : LO) (a : Value) (H : List lD) (k : LO) (j : Value) (J : List (lC × (List lD))) (u : LO) (c : Value) (I : List (ByteArray × (List lD))) (t : LO) (z : Value) (M : List mc) (B : LO) (Z : Int) (A a2 : lC) (r : ((List (lC × (List (ByteArray × Bool)))) × (List mc) × Int)) (w : World) {μ0 : mN} (h0 : pC μ0 ((K, Ob #[g, a, j, c, z, (.int .i64 Z)] 189) :: (G ++ (k ++ (u ++ (t ++ (B ++ [])))))) w) (a5 : nV (fun (x : lC) => (.agg (lG x).toArray)) (na Value.string (fun (x : Bool) => (Value.bool x))) g N G) (Q : mw 52 lE 9 a H k) (a4 : nV (fun (x : lC) => (.agg (lG x).toArray)) (mw 52 lE 9) j J u) (T : nV Value.string (mw 52 lE 9) c I t) (a3 : sy 111 mS 3 z M B) (hm : wV N H J I M Z A a2 = some r) :
  nJ false pg0 284 [(.pointer (some ⟨K, 0, none⟩)), (.agg (lG A).toArray), (.agg (lG a2).toArray)] w ((K, Ob #[g, a, j, c, z, (.int .i64 Z)] 189) :: (G ++ (k ++ (u ++ (t ++ (B ++ [])))))) (fun v L1 W' => ∃ S1 y3 S4, v = (.tuple #[]) ∧ L1 = ((K, Ob #[g, a, j, c, y3, (.int .i64 (r.2.2))] 189) :: (S1 ++ (k ++ (u ++ (t ++ (S4 ++ [])))))) ∧ nV (fun (x : lC) => (.agg (lG x).toArray)) (na Value.string (fun (x : Bool) => (Value.bool x))) g r.1 S1 ∧ sy 111 mS 3 y3 r.2.1 S4) := by
 refine Bo h0 21 func284 rfl (fun d => sg (VE (mG d rfl (fun W2 b1 d => VE (mG d rfl (fun W4 b3 d => lr (Wm (VA d (Mt Mh) (lG A) aT aG (bS hm fun r5 e6 hm => VE (pA d call245 (A8 K g N a H j J c I z M Z A _ _ (a5.at (fun b o l => d.at_ (Mt (Mt (Mt (Ml l)))))) (Q.sl nl (fun b o l => d.at_ (Mt (Mt (Mt (Ma (Ml l))))))) (a4.at (fun b o l => d.at_ (Mt (Mt (Mt (Ma (Ma (Ml l)))))))) (T.at (fun b o l => d.at_ (Mt (Mt (Mt (Ma (Ma (Ma (Ml l))))))))) ((a3.Fj so).mono (Pl.mono _) (oB (fun b o l => d.at_ (Mt (Mt (Mt (Ma (Ma (Ma (Ma (Ml l))))))))))) (At.of (d.at_ (Mt (Mt Mh))) _ rfl) e6) (fun W7 e7 s e2 d f5 ae a9 => V (oZ dL rfl a9) (Wm ?_))))))))))))
 refine ln ?_
 replace d := d.lF (Kr (Kb (Db St)))
 refine vv (mM (fun i E W => ∃ m U a0 n Y q F P, (E 12 = .int .i64 (i : Nat) ∧ E 11 = .int .i64 (r5.length : Nat)) ∧ mx s F ∧ ST false (keys ((K, Ob #[g, a, j, c, z, (.int .i64 Z)] 189) :: (G ++ (k ++ (u ++ (t ++ (B ++ []))))))) w W F ((K, Ob #[g, a, j, c, a0, (.int .i64 q)] 189) :: ((b3, Ol (lG a2) 50) :: (U ++ (k ++ (u ++ (t ++ (Y ++ (e2 ++ P)))))))) ∧ E 0 = (.pointer (some ⟨K, 0, none⟩)) ∧ E 5 = (.pointer (some ⟨b3, 0, none⟩)) ∧ E 10 = e7 ∧ nV (fun (x : lC) => (.agg (lG x).toArray)) (na Value.string (fun (x : Bool) => (Value.bool x))) g m U ∧ sy 111 mS 3 a0 n Y ∧ sv H J I a2 (r5.drop i) m n q = some r) r5.length a9.len ⟨N, G, z, M, B, Z, s, _, ⟨rfl, rfl⟩, (mx.refl _), (d.lF (Sb (Pr (Pb Pz)) (Sb (Pr Pz) (Sr (Qr Qz) (Sr (Qr Qz) (Sr (Qr Qz) (Sr (Qr Qz) (Sr (Qr Qz) St)))))))), rfl, rfl, rfl, a5, a3, hm⟩ dc dc dc (fun _ _ _ h => by obtain ⟨_, _, _, _, _, _, _, _, aa, _⟩ := h; exact aa) ?_ ?_)
 ·rintro d8 E W c9 ⟨m, U, a0, n, Y, q, F, P, ⟨eI, eN⟩, b6, d, R, c1, c2, L, O, D⟩
  obtain ⟨c4, f0, d2, c5, d3⟩ := mE c9
  rw [d2] at D
  refine bg (VQ (oS (i := (d8 : Int)) (x0 := c4) dL gK c2 eI a9 (aF _) c5) (fun f6 d0 => V (lJ rfl (FL d.has (fun p l => (Mt (Mt (Ma (Ma (Ma (Ma (Ma (Ml l))))))))) a9 (fun _ => rfl) d0 c5 (y := (.string c4)) rfl bO)) (Wa (ln (ma (Wh R (V (lJ c1 (lQ d.has (Mt Mh) (lG a2) rfl aT aG)) (Wm (bS D fun c3 d1 D => ?_)))))))))
  refine VE (eM d (Cb Pz (Cr (Qb Qz) (Cr (Qb Qz) (Cr (Qb Qz) (Cr (Qb Qz) (Cr (Qb Qz) Cn)))))) call244 (fun hh _ => nJ.nz (tN K g m U a H k j J u c I t a0 n Y q a2 c4 _ _ hh L Q a4 T O d1)) ?_)
  rintro _ f7 e1 f2 d c7 ab ad ⟨d6, e0, d7, b4, rfl, d4, d5⟩
  obtain rfl := b4.symm
  replace d := d.perm (Tb (Tr (Tr (Tr (Tr (Tr Tn))))))
  exact mz (mJ (lU ⟨eI, c3.1, d6, e0, c3.2.1, d7, c3.2.2, e1, _, ⟨rfl, eN⟩, (b6.trans c7), (d.lF (Kb (Sb (Pr (Pr (Pr (Pr (Pr Pz))))) St))), R, c1, c2, d4, d5, (by rw [d3]; exact D)⟩))
 rintro E W ⟨m, U, a0, n, Y, q, F, P, ⟨eI, eN⟩, b6, d, R, c1, c2, L, O, D⟩
 rw [aI] at D
 refine lU ?_
 replace d := d.lF (Kb (Db (Kr (Kr (Kr (Kr (Kr (Dr St))))))))
 refine rR ?_
 obtain rfl := sj D
 exact qv rfl ⟨_, _, rfl, (d.ov (Kb (Kr (Kr (Kr (Kr (Kr Sn))))))), U, a0, Y, rfl, rfl, L, O⟩
theorem BO (K : Nat) (G : Value) (Z : List (lC × (List (ByteArray × Bool)))) (D : LO) (g : Value) (I : List lD) (a : LO) (B : Value) (N : List (lC × (List lD))) (y : LO) (i : Value) (J : List (ByteArray × (List lD))) (c : LO) (t : Value) (M : List mc) (j : LO) (a0 : Int) (Q : lD) (a2 : mc) (r : ((List (lC × (List (ByteArray × Bool)))) × (List mc) × Int)) (w : World) {μ0 : mN} (h0 : pC μ0 ((K, Ob #[G, g, B, i, t, (.int .i64 a0)] 189) :: (D ++ (a ++ (y ++ (c ++ (j ++ [])))))) w) (U : nV (fun (x : lC) => (.agg (lG x).toArray)) (na Value.string (fun (x : Bool) => (Value.bool x))) G Z D) (T : mw 52 lE 9 g I a) (a3 : nV (fun (x : lC) => (.agg (lG x).toArray)) (mw 52 lE 9) B N y) (Y : nV Value.string (mw 52 lE 9) i J c) (H : sy 111 mS 3 t M j) (hm : uz Z I N J M a0 Q a2 = some r) :
  nJ false pg0 246 [(.pointer (some ⟨K, 0, none⟩)), (.agg (lE Q).toArray), (.agg (mS a2).toArray)] w ((K, Ob #[G, g, B, i, t, (.int .i64 a0)] 189) :: (D ++ (a ++ (y ++ (c ++ (j ++ [])))))) (fun v L1 W' => ∃ S1 y3 S4, v = (.tuple #[]) ∧ L1 = ((K, Ob #[G, g, B, i, y3, (.int .i64 (r.2.2))] 189) :: (S1 ++ (a ++ (y ++ (c ++ (S4 ++ [])))))) ∧ nV (fun (x : lC) => (.agg (lG x).toArray)) (na Value.string (fun (x : Bool) => (Value.bool x))) G r.1 S1 ∧ sy 111 mS 3 y3 r.2.1 S4) := by
 let A := (#[G, g, B, i, t, (.int .i64 a0)] : Array Value)
 refine Bo h0 57 func246 rfl (fun d => sg (VE (mG d rfl (fun W2 F d => VE (mG d rfl (fun W4 O d => lr (Wf sx (VB d (Mt Mh) rfl rfl cH (ln (nL (mf ?_)))))))))))
 refine ma (Wi rfl (Wa (ln (CI hm rfl (fun e5 hm => ?_) (fun e5 hm => ?_)))))
 ·refine ma (Wm (Wf sD (VA d (Mt Mh) (lG Q.Head) aT aG (Wf yU (VB d Mh rfl rfl bO (bS hm fun r6 e6 hm => ?_))))))
  refine VE (eM d (Cb (Pb (Pb Pz)) (Cr (Qb (Qb Qz)) (Cr (Qb (Qb Qz)) (Cr (Qb (Qb Qz)) (Cr (Qb (Qb Qz)) (Cr (Qb (Qb Qz)) Cn)))))) call244 (fun s _ => nJ.nz (tN K G Z D g I a B N y i J c t M j a0 Q.Head a2.mX _ _ s U T a3 Y H e6)) ?_)
  rintro _ g7 ad f8 d f2 a6 m ⟨d2, e7, d3, a8, rfl, c5, c6⟩
  obtain rfl := a8.symm
  replace d := d.perm (Tb (Tr (Tr (Tr (Tr (Tr Tn))))))
  refine mz (mJ (rR ?_))
  obtain rfl := sj hm
  exact qv rfl ⟨_, _, rfl, (d.ov (Kb (Kr (Kr (Kr (Kr (Kr Sn))))))), d2, e7, d3, rfl, rfl, c5, c6⟩
 refine sg (Wi rfl (Wa (ln (CI hm rfl (fun c0 hm => ?_) (fun c0 hm => ?_)))))
 ·refine ma (Wm (Wf yU (VB d Mh rfl rfl bO (Wf wK (VB d (Mt Mh) rfl rfl bO (V (nW (v := (.agg (lG (⟨a2.mX, Q.mQ⟩ : lC)).toArray)) (qV rfl rfl) (nw dB cW (KQ _ cW) kr)) (Wf sD (VA d (Mt Mh) (lG Q.Head) aT aG (bS hm fun g3 c3 hm => ?_)))))))))
  refine VE (eM d (Cb (Pb (Pb Pz)) (Cr (Qb (Qb Qz)) (Cr (Qb (Qb Qz)) (Cr (Qb (Qb Qz)) (Cr (Qb (Qb Qz)) (Cr (Qb (Qb Qz)) Cn)))))) call284 (fun s _ => (GG K G Z D g I a B N y i J c t M j a0 (⟨a2.mX, Q.mQ⟩ : lC) Q.Head _ _ s U T a3 Y H c3)) ?_)
  rintro _ g8 h2 f9 d f3 aa m ⟨d4, e9, d5, a9, rfl, c7, c8⟩
  obtain rfl := a9.symm
  replace d := d.perm (Tb (Tr (Tr (Tr (Tr (Tr Tn))))))
  refine mz (mJ (rR ?_))
  obtain rfl := sj hm
  exact qv rfl ⟨_, _, rfl, (d.ov (Kb (Kr (Kr (Kr (Kr (Kr Sn))))))), d4, e9, d5, rfl, rfl, c7, c8⟩
 refine sg (Wi rfl (Wa (ln (CI hm rfl (fun c1 hm => ?_) (fun c1 hm => ?_)))))
 ·refine mf ?_
  replace d := d.drew
  have h := d.has.lF (Kb (Kb (Kb (Kr Sn))))
  refine mT h mB (X 0 rfl h (lP rfl) (X 1 rfl h (nN rfl) (X 2 rfl h (lO zW rfl) (XH 3 rfl h (fun _ l => lJ rfl (lX l (Mt (Mt Mh)) rfl jM)) (X 4 rfl h (lO pK rfl) (XH 5 rfl h (fun _ l => lJ rfl (lQ l (Mt Mh) (lG Q.B) rfl aT aG)) ?_))))))
  obtain ⟨f7, a5⟩ := U
  refine XH 6 rfl h (fun _ l => rG (k := Q.B) (z := (.map none)) A0 fZ iv rfl rfl a5 (fun b o n => l.2 b o (Mt (Mt (Mt (Ml n)))))) (X 7 rfl h (lO yU rfl) (XH 8 rfl h (fun _ l => lJ rfl (lX l Mh rfl bO)) (XH 9 rfl h (fun _ l => xi (k := a2.mX) (z := false) (vf := (fun (x : Bool) => (Value.bool x))) Hp gC iN rfl rfl (oX.Gb (μ := hp _) mn.1 a5 Q.B (fun b o n => l.2 b o (Mt (Mt (Mt (Ml n))))))) (X 10 rfl h (lP rfl) (PJ hm (fun R E W => ∃ P, ST false (keys ((K, Obj.cells A 189 (0, 0)) :: (D ++ (a ++ (y ++ (c ++ (j ++ []))))))) w W μ0 ((O, Ol (mS a2) 111) :: ((F, Ol (lE Q) 52) :: ((K, Obj.cells A 189 (0, 0)) :: (D ++ (a ++ (y ++ (c ++ (j ++ P)))))))) ∧ E 0 = (.pointer (some ⟨K, 0, none⟩)) ∧ E 4 = (.pointer (some ⟨F, 0, none⟩)) ∧ E 5 = (.pointer (some ⟨O, 0, none⟩)) ∧ E 50 = (.bool R)) (bm 22 4194303) 0 ?_ (fun R q L => ?_))))))
  ·rintro h1 E W ⟨P, d, e1, e2, e3, e4⟩ a4
   refine nh kr (lU (CI a4 e4 (fun c2 a4 => ?_) (fun c2 a4 => ?_)))
   ·refine ma (Wh e1 (V (lO sD e2) (VA d (Mt Mh) (lG Q.Head) aT aG (V (lO yU e3) (VB d Mh rfl rfl bO (bS a4 fun g4 c4 a4 => ?_))))))
    refine VE (eM d (Cb (Pb (Pb Pz)) (Cr (Qb (Qb Qz)) (Cr (Qb (Qb Qz)) (Cr (Qb (Qb Qz)) (Cr (Qb (Qb Qz)) (Cr (Qb (Qb Qz)) Cn)))))) call244 (fun s _ => nJ.nz (tN K G Z D g I a B N y i J c t M j a0 Q.Head a2.mX _ _ s a5.e T a3 Y H c4)) ?_)
    rintro _ g9 h3 g0 d f4 ab m ⟨d7, f0, d8, b0, rfl, c9, d0⟩
    obtain rfl := b0.symm
    replace d := d.perm (Tb (Tr (Tr (Tr (Tr (Tr Tn))))))
    refine mz (mJ (rR ?_))
    obtain rfl := sj a4
    exact qv rfl ⟨_, _, rfl, (d.ov (Kb (Kr (Kr (Kr (Kr (Kr Sn))))))), d7, f0, d8, rfl, rfl, c9, d0⟩
   refine nf (mJ (rR ?_))
   obtain rfl := sj a4
   exact qv rfl ⟨_, _, rfl, (d.ov (Db (Db (Kb (Kr (Kr (Kr (Kr (Kr Sn))))))))), D, t, j, rfl, rfl, a5.e, H⟩
  refine bC q (fun u q => ?_) (fun u q => ?_)
  ·refine Xg 11 rfl rfl (cB u) h (lP rfl) (Xg 12 rfl rfl (cB u) h (nN rfl) (Xg 13 rfl rfl (cB u) h (lO zW rfl) (rz 14 rfl rfl (cB u) h (fun _ l => lJ rfl (lX l (Mt (Mt Mh)) rfl jM)) (Xg 15 rfl rfl (cB u) h (lO vk rfl) (rz 16 rfl rfl (cB u) h (fun _ l => lJ rfl (lQ l (Mt Mh) (lG Q.C) rfl aT aG)) (rz 17 rfl rfl (cB u) h (fun _ l => rG (k := Q.C) (z := (.map none)) A0 fZ iv rfl rfl a5 (fun b o n => l.2 b o (Mt (Mt (Mt (Ml n)))))) (Xg 18 rfl rfl (cB u) h (lO yU rfl) (rz 19 rfl rfl (cB u) h (fun _ l => lJ rfl (lX l Mh rfl bO)) (rz 20 rfl rfl (cB u) h (fun _ l => xi (k := a2.mX) (z := false) (vf := (fun (x : Bool) => (Value.bool x))) Hp gC iN rfl rfl (oX.Gb (μ := hp _) mn.1 a5 Q.C (fun b o n => l.2 b o (Mt (Mt (Mt (Ml n))))))) (X 21 rfl h (mh (cB u) rfl) ?_))))))))))
   obtain rfl := sj q
   refine nu kr (L _ _ ⟨_, (d.lF St), rfl, rfl, rfl, rfl⟩)
  refine Xn 11 rfl rfl (cB u) h (Xn 12 rfl rfl (cB u) h (Xn 13 rfl rfl (cB u) h (Xn 14 rfl rfl (cB u) h (Xn 15 rfl rfl (cB u) h (Xn 16 rfl rfl (cB u) h (Xn 17 rfl rfl (cB u) h (Xn 18 rfl rfl (cB u) h (Xn 19 rfl rfl (cB u) h (Xn 20 rfl rfl (cB u) h (X 21 rfl h (mi (cB u) rfl) ?_))))))))))
  obtain rfl := sj q
  refine nu kr (L _ _ ⟨_, (d.lF St), rfl, rfl, rfl, rfl⟩)
 refine nf (mJ (rR ?_))
 obtain rfl := sj hm
 exact qv rfl ⟨_, _, rfl, (d.ov (Db (Db (Kb (Kr (Kr (Kr (Kr (Kr Sn))))))))), D, t, j, rfl, rfl, U, H⟩
theorem Fx (K : Nat) (g : Value) (T : List (lC × (List (ByteArray × Bool)))) (D : LO) (a : Value) (G : List lD) (j : LO) (t : Value) (J : List (lC × (List lD))) (u : LO) (c : Value) (H : List (ByteArray × (List lD))) (k : LO) (z : Value) (M : List mc) (B : LO) (a0 : Int) (Z : lD) (r : ((List (lC × (List (ByteArray × Bool)))) × (List mc) × Int)) (w : World) {μ0 : mN} (h0 : pC μ0 ((K, Ob #[g, a, t, c, z, (.int .i64 a0)] 189) :: (D ++ (j ++ (u ++ (k ++ (B ++ [])))))) w) (a2 : nV (fun (x : lC) => (.agg (lG x).toArray)) (na Value.string (fun (x : Bool) => (Value.bool x))) g T D) (N : mw 52 lE 9 a G j) (Y : nV (fun (x : lC) => (.agg (lG x).toArray)) (mw 52 lE 9) t J u) (Q : nV Value.string (mw 52 lE 9) c H k) (U : sy 111 mS 3 z M B) (hm : vz T G J H M a0 Z = some r) :
  nJ false pg0 188 [(.pointer (some ⟨K, 0, none⟩)), (.agg (lE Z).toArray)] w ((K, Ob #[g, a, t, c, z, (.int .i64 a0)] 189) :: (D ++ (j ++ (u ++ (k ++ (B ++ [])))))) (fun v L1 W' => ∃ S1 y3 S4, v = (.tuple #[]) ∧ L1 = ((K, Ob #[g, a, t, c, y3, (.int .i64 (r.2.2))] 189) :: (S1 ++ (j ++ (u ++ (k ++ (S4 ++ [])))))) ∧ nV (fun (x : lC) => (.agg (lG x).toArray)) (na Value.string (fun (x : Bool) => (Value.bool x))) g r.1 S1 ∧ sy 111 mS 3 y3 r.2.1 S4) := by
 refine Bo h0 33 func188 rfl (fun d => sg (VE (mG d rfl (fun W2 b1 d => lr (Wf sx (VB d Mh rfl rfl cH (ln (bg ?_))))))))
 refine Wi rfl (Wa (ln (CI hm rfl (fun f1 hm => ?_) (fun f1 hm => ?_))))
 ·refine ma (Wm (Wf sD (VA d Mh (lG Z.Head) aT aG (Wf zz (VB d Mh rfl rfl bO (bS hm fun r4 f2 hm => ?_))))))
  refine VE (eM d (Cb (Pb Pz) (Cr (Qb Qz) (Cr (Qb Qz) (Cr (Qb Qz) (Cr (Qb Qz) (Cr (Qb Qz) Cn)))))) call244 (fun hh _ => nJ.nz (tN K g T D a G j t J u c H k z M B a0 Z.Head Z.mX _ _ hh a2 N Y Q U f2)) ?_)
  rintro _ h1 ae g8 d g2 ad m ⟨e7, f4, e8, c2, rfl, e0, e1⟩
  obtain rfl := c2.symm
  replace d := d.perm (Tb (Tr (Tr (Tr (Tr (Tr Tn))))))
  refine mz (mJ (rR ?_))
  obtain rfl := sj hm
  exact qv rfl ⟨_, _, rfl, (d.ov (Kb (Kr (Kr (Kr (Kr (Kr Sn))))))), e7, f4, e8, rfl, rfl, e0, e1⟩
 refine sg (Wm (Wf pK (VA d Mh (lG Z.B) aT aG (bS hm fun c6 d9 hm => VE (pA d call245 (A8 K g T a G t J c H z M a0 Z.B _ _ (a2.at (fun b o l => d.at_ (Mt (Mt (Ml l))))) (N.sl nl (fun b o l => d.at_ (Mt (Mt (Ma (Ml l)))))) (Y.at (fun b o l => d.at_ (Mt (Mt (Ma (Ma (Ml l))))))) (Q.at (fun b o l => d.at_ (Mt (Mt (Ma (Ma (Ma (Ml l)))))))) ((U.Fj so).mono (Pl.mono _) (oB (fun b o l => d.at_ (Mt (Mt (Ma (Ma (Ma (Ma (Ml l)))))))))) (At.of (d.at_ (Mt Mh)) _ rfl) d9) (fun g9 f3 d5 e5 d f6 ab F => V (oZ dL rfl F) (Wm (ln (vv (mM (fun i E W => ∃ n a3 a5 q a4 a9 L R, (E 13 = .int .i64 (i : Nat) ∧ E 12 = .int .i64 (c6.length : Nat)) ∧ mx d5 L ∧ ST false (keys ((K, Ob #[g, a, t, c, z, (.int .i64 a0)] 189) :: (D ++ (j ++ (u ++ (k ++ (B ++ []))))))) w W L ((K, Ob #[g, a, t, c, a5, (.int .i64 a9)] 189) :: ((b1, Ol (lE Z) 52) :: (a3 ++ (j ++ (u ++ (k ++ (a4 ++ (e5 ++ R)))))))) ∧ E 0 = (.pointer (some ⟨K, 0, none⟩)) ∧ E 3 = (.pointer (some ⟨b1, 0, none⟩)) ∧ E 11 = f3 ∧ nV (fun (x : lC) => (.agg (lG x).toArray)) (na Value.string (fun (x : Bool) => (Value.bool x))) g n a3 ∧ sy 111 mS 3 a5 q a4 ∧ rI G J H Z (c6.drop i) n q a9 = some r) c6.length F.len ⟨T, D, z, M, B, a0, d5, _, ⟨rfl, rfl⟩, (mx.refl _), (d.lF (Sb (Pr (Pb Pz)) (Sb (Pr Pz) (Sr (Qr Qz) (Sr (Qr Qz) (Sr (Qr Qz) (Sr (Qr Qz) (Sr (Qr Qz) St)))))))), rfl, rfl, rfl, a2, U, hm⟩ dc dc dc (fun _ _ _ h => by obtain ⟨_, _, _, _, _, _, _, _, a1, _⟩ := h; exact a1) ?_ ?_))))))))))
 ·rintro e2 E W c8 ⟨n, a3, a5, q, a4, a9, L, R, ⟨eI, eN⟩, b7, d, c0, A, c1, O, P, I⟩
  obtain ⟨s, f7, d1, c4, d2⟩ := mE c8
  rw [d1] at I
  refine bg (VQ (oS (i := (e2 : Int)) (x0 := s) dL gK c1 eI F (aF _) c4) (fun g3 c9 => V (lJ rfl (FL d.has (fun p l => (Mt (Mt (Ma (Ma (Ma (Ma (Ma (Ml l))))))))) F (fun _ => rfl) c9 c4 (y := (.string s)) rfl bO)) (Wa (ln (ma (Wh c0 (V (lJ A (lQ d.has (Mt Mh) (lE Z) rfl bD aJ)) (V (lO pK A) (VA d (Mt Mh) (lG Z.B) aT aG (Wm (V (nW (v := (.agg (mS (⟨Z.B, s⟩ : mc)).toArray)) (qV rfl rfl) (nw fU fW (Qa _ fW) kr)) ?_)))))))))))
  refine bS I fun c3 d0 I => ?_
  refine VE (eM d (Cb Pz (Cr (Qb Qz) (Cr (Qb Qz) (Cr (Qb Qz) (Cr (Qb Qz) (Cr (Qb Qz) Cn)))))) call246 (fun hh _ => (BO K g n a3 a G j t J u c H k a5 q a4 a9 Z (⟨Z.B, s⟩ : mc) _ _ hh O N Y Q P d0)) ?_)
  rintro _ g4 e4 f9 d c5 aa m ⟨d6, e3, d7, b5, rfl, d3, d4⟩
  obtain rfl := b5.symm
  replace d := d.perm (Tb (Tr (Tr (Tr (Tr (Tr Tn))))))
  exact mz (mJ (lU ⟨eI, c3.1, d6, e3, c3.2.1, d7, c3.2.2, e4, _, ⟨rfl, eN⟩, (b7.trans c5), (d.lF (Kb (Sb (Pr (Pr (Pr (Pr (Pr Pz))))) St))), c0, A, c1, d3, d4, (by rw [d2]; exact I)⟩))
 rintro E W ⟨n, a3, a5, q, a4, a9, L, R, ⟨eI, eN⟩, b7, d, c0, A, c1, O, P, I⟩
 rw [aI] at I
 refine lU ?_
 replace d := d.lF (Kb (Db (Kr (Kr (Kr (Kr (Kr (Dr St))))))))
 refine mJ (rR ?_)
 obtain rfl := sj I
 exact qv rfl ⟨_, _, rfl, (d.ov (Kb (Kr (Kr (Kr (Kr (Kr Sn))))))), a3, a5, a4, rfl, rfl, O, P⟩
theorem EY (I : Nat) (a : Value) (e8 : List (lC × (List (ByteArray × Bool)))) (K : LO) (c : Value) (Q : List lD) (j : LO) (u : Value) (N : List (lC × (List lD))) (y : LO) (g : Value) (H : List (ByteArray × (List lD))) (t : LO) (G : Value) (d4 : List mc) (D : LO) (a0 : Int) (r : ((List (lC × (List (ByteArray × Bool)))) × (List mc) × Int)) (w : World) {μ0 : mN} (h0 : pC μ0 ((I, Ob #[a, c, u, g, G, (.int .i64 a0)] 189) :: (K ++ (j ++ (y ++ (t ++ (D ++ [])))))) w) (h4 : nV (fun (x : lC) => (.agg (lG x).toArray)) (na Value.string (fun (x : Bool) => (Value.bool x))) a e8 K) (c1 : mw 52 lE 9 c Q j) (g7 : nV (fun (x : lC) => (.agg (lG x).toArray)) (mw 52 lE 9) u N y) (c2 : nV Value.string (mw 52 lE 9) g H t) (g4 : sy 111 mS 3 G d4 D) (hm : xE e8 Q N H d4 a0 = some r) :
  nJ false pg0 189 [(.pointer (some ⟨I, 0, none⟩))] w ((I, Ob #[a, c, u, g, G, (.int .i64 a0)] 189) :: (K ++ (j ++ (y ++ (t ++ (D ++ [])))))) (fun v L1 W' => ∃ S1 y3 S4, v = (.tuple #[]) ∧ L1 = ((I, Ob #[a, c, u, g, y3, (.int .i64 (r.2.2))] 189) :: (S1 ++ (j ++ (y ++ (t ++ (S4 ++ [])))))) ∧ nV (fun (x : lC) => (.agg (lG x).toArray)) (na Value.string (fun (x : Bool) => (Value.bool x))) a r.1 S1 ∧ sy 111 mS 3 y3 r.2.1 S4) := by
 let g5 : Value := (.pointer (some ⟨I, 0, none⟩))
 let b8 := ((I, Ob #[a, c, u, g, G, (.int .i64 a0)] 189) :: (K ++ (j ++ (y ++ (t ++ (D ++ []))))))
 refine Bo h0 75 func189 rfl (fun d => vv (nL (pn (fun m E W => ∃ e3 b7 e4 a1 b9 d1 b4 h5, mx μ0 b4 ∧ ST false (keys b8) w W b4 ((I, Ob #[a, c, u, g, e4, (.int .i64 d1)] 189) :: (b7 ++ (j ++ (y ++ (t ++ (b9 ++ h5)))))) ∧ E 0 = g5 ∧ nV (fun (x : lC) => (.agg (lG x).toArray)) (na Value.string (fun (x : Bool) => (Value.bool x))) a e3 b7 ∧ sy 111 mS 3 e4 a1 b9 ∧ py Q N H m e3 a1 d1 = some r) mR ⟨e8, K, G, d4, D, a0, μ0, _, (mx.refl _), (d.lF St), rfl, h4, g4, hm⟩ ?_)))
 rintro m E W ⟨e3, b7, e4, a1, b9, d1, b4, h5, i0, d, L, g9, c5, M⟩
 cases m with
 | zero => rw [py] at M; cases M
 | succ n0 =>
  refine mf (sg (Wh L (Wn (Wf Dz (VB d Mh rfl rfl isAgg187 (V (SY cV rfl c5) (Wi rfl (ln (CI M rfl (fun i7 M => ?_) (fun i7 M => ?_))))))))))
  ·refine kn (bg (Wh L (Wn (Wf Dz (VB d Mh rfl rfl isAgg187 (bS M fun B h2 M => VQ (og (enc := mS) (i := 0) (x0 := B) cV dS rfl rfl (c5.Fj so) (mF h2) (mA h2)) (fun q0 j7 => V (lJ rfl (mr (qc.hp _) (j7.mono (oB (fun b o q => d.has.2 b o (Mt (Ma (Ma (Ma (Ma (Ml q))))))))) jt dS)) (VE (my d fU (fun o9 a5 d => VO (mj (.agg (mS B).toArray) ((mS B).toArray) d rfl rfl dS (BV B) nb rfl (fun p0 d => mz ?_))))))))))))
   let j2 := ((nE me N B.lC).getD [])
   let j1 : Value := (.pointer (some ⟨a5, 0, none⟩))
   let i6 := ((mS B).toArray : Array Value)
   let i5 := ((nE np H B.lC.lN).getD [])
   refine lU (sg (Wh L (Wh L (Wn (Wf Dz (VB d (Mt Mh) rfl rfl isAgg187 (bS M fun _ g8 M => VQ (PC (i := 1) cV dS rfl rfl so c5 (ue g8) (tL g8)) (fun q3 h1 => Wn (Wf Dz ?_)))))))))
   obtain ⟨f7, g0, rfl⟩ := h1.form
   let g6 : Value := (.slice f7 (a1.drop (Int.toNat 1)).length g0)
   replace d := d.perm (Nb (Pb Pz) Nz)
   refine VO (mj g6 (#[a, c, u, g, g6, (.int .i64 d1)]) d rfl rfl sizeOf187 oc nb rfl (fun p1 d => ln (mf (mf ?_))))
   replace d := d.drew
   have l := d.has.lF (Kb (Kb (Dr (Dr (Kr Sn)))))
   refine mT l mB (X 0 rfl l (lP L) (X 1 rfl l (nN rfl) (X 2 rfl l (lO OP rfl) (XH 3 rfl l (fun _ n => lJ rfl (lX n Mh rfl isAgg185)) (X 4 rfl l (lO Ad rfl) (XH 5 rfl l (fun _ n => lJ rfl (lQ n (Mt Mh) (lG B.lC) rfl aT aG)) ?_))))))
   obtain ⟨l7, c3⟩ := g7
   obtain ⟨o7, f0, k2⟩ := oX.rowAt mn.1 c3 B.lC
   refine XH 6 rfl l (fun _ n => rG (k := B.lC) (z := (.slice none 0 0)) A0 underlying185 jL rfl rfl c3 (fun b o q => n.2 b o (Mt (Mt (Ml q))))) (X 7 rfl l (mV aK rfl (f0.Fj nl)) (X 8 rfl l (lP rfl) (nh kr (lU (CJ M (fun d0 E W => ∃ d6 e5 d7 b5 h6, mx b4 b5 ∧ ST false (keys b8) w W b5 ((I, Ob #[a, c, u, g, e5, (.int .i64 d0.2.2)] 189) :: ((a5, Obj.cells i6 111 (0, 0)) :: (d6 ++ (j ++ (y ++ (t ++ (d7 ++ h6))))))) ∧ E 0 = g5 ∧ E 2 = j1 ∧ nV (fun (x : lC) => (.agg (lG x).toArray)) (na Value.string (fun (x : Bool) => (Value.bool x))) a d0.1 d6 ∧ sy 111 mS 3 e5 d0.2.1 d7) (fun d0 j6 => ?_) ?_)))))
   ·refine mM (fun i E W => ∃ c7 a3 R c8 a4 d2 d3 f9, (E 35 = .int .i64 (i : Nat) ∧ E 34 = .int .i64 (j2.length : Nat)) ∧ mx b4 d3 ∧ ST false (keys b8) w W d3 ((I, Ob #[a, c, u, g, R, (.int .i64 d2)] 189) :: ((a5, Obj.cells i6 111 (0, 0)) :: (a3 ++ (j ++ (y ++ (t ++ (a4 ++ f9))))))) ∧ E 0 = g5 ∧ E 2 = j1 ∧ E 33 = (uw me l7 B.lC (.slice none 0 0)) ∧ nV (fun (x : lC) => (.agg (lG x).toArray)) (na Value.string (fun (x : Bool) => (Value.bool x))) a c7 a3 ∧ sy 111 mS 3 R c8 a4 ∧ rp Q N H B (j2.drop i) c7 c8 d2 = some d0) j2.length (f0.Fj nl).len ⟨e3, b7, g6, (a1.drop (Int.toNat 1)), b9, d1, b4, _, ⟨rfl, rfl⟩, (mx.refl _), (d.lF St), L, rfl, rfl, g9, h1, j6⟩ dc dc dc (fun _ _ _ h => by obtain ⟨_, _, _, _, _, _, _, _, A, _⟩ := h; exact A) ?_ ?_
    ·rintro m5 E W j0 ⟨c7, a3, R, c8, a4, d2, d3, f9, ⟨s, eN⟩, d5, d, e1, e2, g1, f3, f4, T⟩
     obtain ⟨b3, o3, l1, l0, l2⟩ := mE j0
     rw [l1] at T
     refine bg (VQ (og (enc := lE) (i := (m5 : Int)) (x0 := b3) aK aJ g1 s (f0.Fj nl) (aF _) l0) (fun q2 j9 => V (lJ rfl (mr (qc.hp _) (j9.mono (oB (fun b o q => d.has.2 b o (Mt (Mt (Ma (Ma (Ml (k2 b o q))))))))) bD aJ)) (VE (my d cL (fun p5 p9 d => VO (mj (.agg (lE b3).toArray) ((lE b3).toArray) d rfl rfl aJ (pc b3) nb rfl (fun p6 d => ln (ma (Wh e1 (VA d Mh (lE b3) bD aJ (V (lJ e2 (lQ d.has (Mt (Mt Mh)) (mS B) rfl jt dS)) (bS T fun g3 k1 T => ?_))))))))))))
     refine VE (eM d (Cb (Pb Pz) (Cr (Qb (Qb Qz)) (Cr (Qb (Qb Qz)) (Cr (Qb (Qb Qz)) (Cr (Qb (Qb Qz)) (Cr (Qb (Qb Qz)) Cn)))))) call246 (fun hh _ => (BO I a c7 a3 c Q j u N y g H t R c8 a4 d2 b3 B _ _ hh f3 c1 c3.e c2 f4 k1)) ?_)
     rintro _ q5 n6 o6 d i4 ab F ⟨m1, n4, m2, f6, rfl, l5, l6⟩
     obtain rfl := f6.symm
     replace d := d.perm (Tb (Tr (Tr (Tr (Tr (Tr Tn))))))
     refine mz (mJ (lU ?_))
     replace d := d.lF (Kb (Kr (Kr (Kr (Kr (Kr (Db St)))))))
     exact ⟨s, g3.1, m1, n4, g3.2.1, m2, g3.2.2, n6, _, ⟨rfl, eN⟩, (d5.trans i4), (d.lF (Kb (Sb (Pr (Pr (Pr (Pr (Pr Pz))))) St))), e1, e2, g1, l5, l6, (by rw [l2]; exact T)⟩
    rintro E W ⟨c7, a3, R, c8, a4, d2, d3, f9, ⟨s, eN⟩, d5, d, e1, e2, g1, f3, f4, T⟩
    rw [aI] at T
    refine lU ?_
    obtain rfl := sj T
    exact ⟨a3, R, a4, d3, _, d5, (d.lF St), e1, e2, f3, f4⟩
   rintro ⟨m6, m7, n1⟩ E W ⟨d6, e5, d7, b5, h6, i1, d, h8, h9, k3, k4⟩ j3
   refine mf ?_
   replace d := d.drew
   have l := d.has.lF (Kb (Kb (Dr (Dr (Dr (Kr Sn))))))
   refine mT l mB (X 0 rfl l (lP h8) (X 1 rfl l (nN rfl) (X 2 rfl l (lO Kw rfl) (XH 3 rfl l (fun _ n => lJ rfl (lX n Mh rfl isAgg186)) (X 4 rfl l (lO Ad h9) (X 5 rfl l (lO vS rfl) (XH 6 rfl l (fun _ n => lJ rfl (lX n (Mt Mh) rfl bO)) ?_)))))))
   obtain ⟨l8, e9⟩ := c2
   obtain ⟨o8, f1, k5⟩ := oX.rowAt nU.1 e9 B.lC.lN
   refine XH 7 rfl l (fun _ n => rG (k := B.lC.lN) (z := (.slice none 0 0)) Hp underlying186 jL rfl rfl e9 (fun b o q => n.2 b o (Mt (Mt (Ml q))))) (X 8 rfl l (mV aK rfl (f1.Fj nl)) (X 9 rfl l (lP rfl) (nh kr (lU (vv (CJ j3 (fun c9 E W => ∃ d8 e6 d9 e7 h7, mx b5 e7 ∧ ST false (keys b8) w W e7 ((I, Ob #[a, c, u, g, e6, (.int .i64 c9.2.2)] 189) :: (d8 ++ (j ++ (y ++ (t ++ (d9 ++ h7)))))) ∧ E 0 = g5 ∧ nV (fun (x : lC) => (.agg (lG x).toArray)) (na Value.string (fun (x : Bool) => (Value.bool x))) a c9.1 d8 ∧ sy 111 mS 3 e6 c9.2.1 d9) (fun c9 j5 => ?_) ?_))))))
   ·refine mM (fun i E W => ∃ a9 Y a2 P Z b2 b6 f8, (E 53 = .int .i64 (i : Nat) ∧ E 52 = .int .i64 (i5.length : Nat)) ∧ mx b5 b6 ∧ ST false (keys b8) w W b6 ((I, Ob #[a, c, u, g, a2, (.int .i64 b2)] 189) :: ((a5, Obj.cells i6 111 (0, 0)) :: (Y ++ (j ++ (y ++ (t ++ (Z ++ f8))))))) ∧ E 0 = g5 ∧ E 2 = j1 ∧ E 51 = (uw np l8 B.lC.lN (.slice none 0 0)) ∧ nV (fun (x : lC) => (.agg (lG x).toArray)) (na Value.string (fun (x : Bool) => (Value.bool x))) a a9 Y ∧ sy 111 mS 3 a2 P Z ∧ qa B Q N H (i5.drop i) a9 P b2 = some c9) i5.length (f1.Fj nl).len ⟨m6, d6, e5, m7, d7, n1, b5, _, ⟨rfl, rfl⟩, (mx.refl _), (d.lF St), h8, h9, rfl, k3, k4, j5⟩ dc dc dc (fun _ _ _ h => by obtain ⟨_, _, _, _, _, _, _, _, A, _⟩ := h; exact A) ?_ ?_
    ·rintro m4 E W i9 ⟨a9, Y, a2, P, Z, b2, b6, f8, ⟨s, eN⟩, a8, d, O, c0, e0, f2, c6, J⟩
     obtain ⟨U, o2, k9, k8, h3⟩ := mE i9
     rw [k9] at J
     refine bg (VQ (og (enc := lE) (i := (m4 : Int)) (x0 := U) aK aJ e0 s (f1.Fj nl) (aF _) k8) (fun q1 j8 => V (lJ rfl (mr (qc.hp _) (j8.mono (oB (fun b o q => d.has.2 b o (Mt (Mt (Ma (Ma (Ma (Ml (k5 b o q)))))))))) bD aJ)) (VE (my d cL (fun p2 p8 d => VO (mj (.agg (lE U).toArray) ((lE U).toArray) d rfl rfl aJ (pc U) nb rfl (fun p3 d => ln (mf ?_))))))))
     replace d := d.drew
     have l := d.has.lF (Kb (Kb (Kb (Kr Sn))))
     refine mT l mB (X 0 rfl l (lP O) (X 1 rfl l (nN rfl) (X 2 rfl l (lO zW rfl) (XH 3 rfl l (fun _ n => lJ rfl (lX n (Mt Mh) rfl jM)) (X 4 rfl l (lO pK rfl) (XH 5 rfl l (fun _ n => lJ rfl (lQ n Mh (lG U.B) rfl aT aG)) ?_))))))
     obtain ⟨o0, c4⟩ := f2
     refine XH 6 rfl l (fun _ n => rG (k := U.B) (z := (.map none)) A0 fZ iv rfl rfl c4 (fun b o q => n.2 b o (Mt (Mt (Mt (Ml q)))))) (X 7 rfl l (lO Ad c0) (X 8 rfl l (lO rn rfl) (XH 9 rfl l (fun _ n => lJ rfl (lX n (Mt (Mt Mh)) rfl bO)) (XH 10 rfl l (fun _ n => xi (k := B.lC.lK) (z := false) (vf := (fun (x : Bool) => (Value.bool x))) Hp gC iN rfl rfl (oX.Gb (μ := hp _) mn.1 c4 U.B (fun b o q => n.2 b o (Mt (Mt (Mt (Ml q))))))) (nh kr (lU (CI J rfl (fun i8 J => ?_) (fun i8 J => ?_))))))))
     ·refine ma (Wh O (Wf sD (VA d Mh (lG U.Head) aT aG (V (lO yU c0) (VB d (Mt (Mt Mh)) rfl rfl bO (bS J fun g2 k0 J => ?_))))))
      refine VE (eM d (Cb (Pb Pz) (Cr (Qb (Qb Qz)) (Cr (Qb (Qb Qz)) (Cr (Qb (Qb Qz)) (Cr (Qb (Qb Qz)) (Cr (Qb (Qb Qz)) Cn)))))) call244 (fun hh _ => nJ.nz (tN I a a9 Y c Q j u N y g H t a2 P Z b2 U.Head B.mX _ _ hh c4.e c1 c3.e e9.e c6 k0)) ?_)
      rintro _ q4 n5 o5 d i3 aa F ⟨l9, n3, m0, f5, rfl, l3, l4⟩
      obtain rfl := f5.symm
      replace d := d.perm (Tb (Tr (Tr (Tr (Tr (Tr Tn))))))
      refine mz (mJ (lU ?_))
      replace d := d.lF (Kb (Kr (Kr (Kr (Kr (Kr (Db St)))))))
      exact ⟨s, g2.1, l9, n3, g2.2.1, m0, g2.2.2, n5, _, ⟨rfl, eN⟩, (a8.trans i3), (d.lF (Kb (Sb (Pr (Pr (Pr (Pr (Pr Pz))))) St))), O, c0, e0, l3, l4, (by rw [h3]; exact J)⟩
     refine nf (mJ (lU ?_))
     replace d := d.lF (Db St)
     exact ⟨s, a9, Y, a2, P, Z, b2, b6, _, ⟨rfl, eN⟩, a8, (d.lF St), O, c0, e0, c4.e, c6, (by rw [h3]; exact J)⟩
    rintro E W ⟨a9, Y, a2, P, Z, b2, b6, f8, ⟨s, eN⟩, a8, d, O, c0, e0, f2, c6, J⟩
    rw [aI] at J
    refine lU ?_
    obtain rfl := sj J
    exact ⟨Y, a2, Z, b6, _, a8, (d.lF (Kb (Db St))), O, f2, c6⟩
   rintro ⟨m8, m9, n2⟩ E W ⟨d8, e6, d9, e7, h7, i2, d, m3, k6, k7⟩ j4
   exact mJ (lU ⟨n0, bF _, m8, d8, e6, m9, d9, n2, e7, _, ((i0.trans i1).trans i2), (d.lF St), m3, k6, k7, j4⟩)
  refine pk (oR (oR (tE (lU (rR ?_)))))
  obtain rfl := sj M
  exact qv rfl ⟨_, _, rfl, (d.ov (Kb (Kr (Kr (Kr (Kr (Kr Sn))))))), b7, e4, b9, rfl, rfl, g9, c5⟩
theorem GK (H : Nat) (g : Value) (c2 : List (lC × (List (ByteArray × Bool)))) (G : LO) (u : Value) (a7 : List lD) (k : LO) (c : Value) (b7 : List (lC × (List lD))) (z : LO) (a : Value) (a8 : List (ByteArray × (List lD))) (t : LO) (B : Value) (b6 : List mc) (y : LO) (K : Int) (d1 : Value) (q : List lD) (r : (Int × (List (lC × (List (ByteArray × Bool)))) × (List lD) × (List (lC × (List lD))) × (List (ByteArray × (List lD))) × (List mc) × Int)) (w : World) {μ0 : mN} (h0 : pC μ0 ((H, Ob #[g, u, c, a, B, (.int .i64 K)] 189) :: (G ++ (k ++ (z ++ (t ++ (y ++ [])))))) w) (d6 : nV (fun (x : lC) => (.agg (lG x).toArray)) (na Value.string (fun (x : Bool) => (Value.bool x))) g c2 G) (c6 : mw 52 lE 9 u a7 k) (d3 : nV (fun (x : lC) => (.agg (lG x).toArray)) (mw 52 lE 9) c b7 z) (c7 : nV Value.string (mw 52 lE 9) a a8 t) (d2 : sy 111 mS 3 B b6 y) (d7 : Sl (Pl lE) 9 μ0 d1 q) (hm : wU c2 a7 b7 a8 b6 K q = some r) :
  nJ false pg0 125 [(.pointer (some ⟨H, 0, none⟩)), d1] w ((H, Ob #[g, u, c, a, B, (.int .i64 K)] 189) :: (G ++ (k ++ (z ++ (t ++ (y ++ [])))))) (fun v L1 W' => ∃ S1 y3 S4 S6 S8 i1 i0, v = (.int .i64 (r.1)) ∧ L1 = ((H, Ob #[g, y3, c, a, i1, (.int .i64 (r.2.2.2.2.2.2))] 189) :: (S1 ++ (S4 ++ (S6 ++ (S8 ++ (i0 ++ [])))))) ∧ nV (fun (x : lC) => (.agg (lG x).toArray)) (na Value.string (fun (x : Bool) => (Value.bool x))) g r.2.1 S1 ∧ mw 52 lE 9 y3 r.2.2.1 S4 ∧ nV (fun (x : lC) => (.agg (lG x).toArray)) (mw 52 lE 9) c r.2.2.2.1 S6 ∧ nV Value.string (mw 52 lE 9) a r.2.2.2.2.1 S8 ∧ sy 111 mS 3 i1 r.2.2.2.2.2.1 i0) := by
 let b8 := ((H, Ob #[g, u, c, a, B, (.int .i64 K)] 189) :: (G ++ (k ++ (z ++ (t ++ (y ++ []))))))
 refine Bo h0 46 func125 rfl (fun d => sg (Wa (lS (Wm (V (uc underlying132 rfl rfl) (ln (qx rfl (nf ?_))))))))
 refine lU (sg (Wm (Wn (Wf HU (VB d Mh rfl rfl cH (Wa (lS (Wm (V (mV aK rfl d7) ?_)))))))))
 refine Wm (ln (mM (fun i E W => ∃ a3 N M a4 Q a9 T n U a0 a5 Y a2 c1 d5, (E 16 = .int .i64 (i : Nat) ∧ E 15 = .int .i64 (q.length : Nat)) ∧ mx μ0 c1 ∧ ST false (keys b8) w W c1 ((H, Ob #[g, M, c, a, a0, (.int .i64 a2)] 189) :: (N ++ (Q ++ (T ++ (U ++ (Y ++ d5)))))) ∧ E 0 = (.pointer (some ⟨H, 0, none⟩)) ∧ E 5 = (.int .i64 K) ∧ E 14 = d1 ∧ nV (fun (x : lC) => (.agg (lG x).toArray)) (na Value.string (fun (x : Bool) => (Value.bool x))) g a3 N ∧ mw 52 lE 9 M a4 Q ∧ nV (fun (x : lC) => (.agg (lG x).toArray)) (mw 52 lE 9) c a9 T ∧ nV Value.string (mw 52 lE 9) a n U ∧ sy 111 mS 3 a0 a5 Y ∧ pY K (q.drop i) a3 a4 a9 n a5 a2 = some r) q.length d7.len ⟨c2, G, u, a7, k, b7, z, a8, t, B, b6, y, K, μ0, _, ⟨rfl, rfl⟩, (mx.refl _), (d.lF St), rfl, rfl, rfl, d6, c6, d3, c7, d2, hm⟩ dc dc dc (fun _ _ _ h => by obtain ⟨_, _, _, _, _, _, _, _, _, _, _, _, _, _, _, aa, _⟩ := h; exact aa) ?_ ?_))
 ·rintro f6 E W g3 ⟨a3, N, M, a4, Q, a9, T, n, U, a0, a5, Y, a2, c1, d5, ⟨eI, eN⟩, b1, d, A, c3, c4, L, s, O, P, R, D⟩
  obtain ⟨I, j8, h4, h3, d9⟩ := mE g3
  rw [h4] at D
  refine bg (VQ (og (enc := lE) (i := (f6 : Int)) (x0 := I) aK aJ c4 eI (d7.mono (Pl.mono _) b1) (aF _) h3) (fun l1 g4 => V (lJ rfl (mr d.has g4 bD aJ)) (VE (my d cL (fun k3 e8 d => VO (mj (.agg (lE I).toArray) ((lE I).toArray) d rfl rfl aJ (pc I) nb rfl (fun k4 d => ln (mf ?_))))))))
  replace d := d.drew
  have l := d.has.lF (Kb (Kb Sn))
  refine mT l mB (XH 0 rfl l (fun _ hS => lJ rfl (lQ hS Mh (lE I) rfl bD aJ)) (bS D fun l2 g7 D => XE 1 rfl (Eg d call113 (mo.nz (BD I _ _  g7)) (fun k5 d => ?_))))
  have l := d.has.lF (Kb (Kb Sn))
  refine ⟨l, (X 2 rfl l (lP rfl) (PJ D (fun f7 E W => ∃ e4, ST false (keys b8) w W c1 ((e8, Ol (lE I) 52) :: ((H, Ob #[g, M, c, a, a0, (.int .i64 a2)] 189) :: (N ++ (Q ++ (T ++ (U ++ (Y ++ e4))))))) ∧ E 0 = (.pointer (some ⟨H, 0, none⟩)) ∧ E 5 = (.int .i64 K) ∧ E 7 = (.pointer (some ⟨e8, 0, none⟩)) ∧ E 14 = d1 ∧ E 15 = (.int .i64 (q.length : Int)) ∧ E 16 = (.int .i64 (f6 : Int)) ∧ E 30 = (.bool f7)) (bm 11 2047) 0 ?_ (fun f7 Z d4 => ?_)))⟩
  ·rintro l7 E W ⟨e4, d, c5, e9, f0, f1, f2, f3, i6⟩ J
   refine nh kr (lU (CI J i6 (fun g2 J => ?_) (fun g2 J => ?_)))
   ·refine sg (Wh c5 (V (lJ f0 (lQ d.has Mh (lE I) rfl bD aJ)) (bS J fun F g8 J => ?_)))
    refine VE (eM d (Cb (Pb Pz) (Cr (Qb Qz) (Cr (Qb Qz) (Cr (Qb Qz) (Cr (Qb Qz) (Cr (Qb Qz) Cn)))))) call187 (fun hh _ => nJ.nz (Gl H g a3 N M a4 Q c a9 T a n U a0 a5 Y a2 I _ _ hh L s O P R g8)) ?_)
    rintro _ l4 l8 k0 d f4 ab m ⟨f8, e5, e6, e7, c8, rfl, e0, e1, e2⟩
    obtain rfl := c8.symm
    replace d := d.perm (Tb (Tr (Tr (Tr (Tr (Tr Tn))))))
    refine ln (ma (Wh c5 (V (lJ f0 (lQ d.has (Mt (Ma (Ma (Ma (Ma (Ma Mh)))))) (lE I) rfl bD aJ)) (bS J fun d8 g9 J => ?_))))
    refine VE (eM d (Cb Pz (Cr Qz (Cr Qz (Cr Qz (Cr Qz (Cr Qz Cn)))))) call188 (fun hh _ => (Fx H g a3 N f8 F.1 e5 c F.2.1 e6 a F.2.2 e7 a0 a5 Y a2 I _ _ hh L e0 e1 e2 R g9)) ?_)
    rintro _ l5 j0 k1 d f5 ad m ⟨i2, i8, i3, c9, rfl, h5, h6⟩
    obtain rfl := c9.symm
    replace d := d.perm (Tb (Tr (Tr (Tr (Tr (Tr Tn))))))
    refine mz (mJ (lU ?_))
    replace d := d.lF (Kb (Kr (Kr (Kr (Kr (Kr (Db St)))))))
    exact ⟨f3, d8.1, i2, f8, F.1, e5, F.2.1, e6, F.2.2, e7, i8, d8.2.1, i3, d8.2.2, j0, _, ⟨rfl, f2⟩, ((b1.trans f4).trans f5), (d.lF St), c5, e9, f1, h5, e0, e1, e2, h6, (by rw [d9]; exact J)⟩
   refine nf (mJ (lU ?_))
   replace d := d.lF (Db St)
   exact ⟨f3, a3, N, M, a4, Q, a9, T, n, U, a0, a5, Y, a2, c1, _, ⟨rfl, f2⟩, b1, (d.lF St), c5, e9, f1, L, s, O, P, R, (by rw [d9]; exact J)⟩
  refine bC Z (fun j Z => ?_) (fun j Z => ?_)
  ·refine Xg 3 rfl rfl (cB j) l (lP A) (Xg 4 rfl rfl (cB j) l (nN rfl) (Xg 5 rfl rfl (cB j) l (lO Ld rfl) (rz 6 rfl rfl (cB j) l (fun _ hS => lJ rfl (lX hS (Mt Mh) rfl eH)) (rz 7 rfl rfl (cB j) l (fun _ hS => lJ rfl (lQ hS Mh (lE I) rfl bD aJ)) (bS Z fun l3 h1 Z => zG 8 rfl rfl (cB j) (Eg d call60 (mo.nz (Br M a4 I _ _ (s.sl nl (fun b o hq => d.at_ (Mt (Mt (Ma (Ml hq)))))) h1)) (fun k8 d => ?_)))))))
   have l := d.has.lF (Kb (Kb Sn))
   refine ⟨l, (Xg 9 rfl rfl (cB j) l (oy rfl) (X 10 rfl l (mh (cB j) rfl) ?_))⟩
   obtain rfl := sj Z
   refine nu kr (d4 _ _ ⟨_, (d.lF St), A, c3, rfl, c4, eN, eI, rfl⟩)
  refine Xn 3 rfl rfl (cB j) l (Xn 4 rfl rfl (cB j) l (Xn 5 rfl rfl (cB j) l (Xn 6 rfl rfl (cB j) l (Xn 7 rfl rfl (cB j) l (Xn 8 rfl rfl (cB j) l (Xn 9 rfl rfl (cB j) l (X 10 rfl l (mi (cB j) rfl) ?_)))))))
  obtain rfl := sj Z
  refine nu kr (d4 _ _ ⟨_, (d.lF St), A, c3, rfl, c4, eN, eI, rfl⟩)
 rintro E W ⟨a3, N, M, a4, Q, a9, T, n, U, a0, a5, Y, a2, c1, d5, ⟨eI, eN⟩, b1, d, A, c3, c4, L, s, O, P, R, D⟩
 rw [aI] at D
 refine lU (sg (Wh A (bS D fun i7 h2 D => ?_)))
 refine VE (eM d (Cb Pz (Cr Qz (Cr Qz (Cr Qz (Cr Qz (Cr Qz Cn)))))) call189 (fun hh _ => (EY H g a3 N M a4 Q c a9 T a n U a0 a5 Y a2 _ _ hh L s O P R h2)) ?_)
 rintro _ l6 l9 k2 d j6 ae m ⟨i4, i9, i5, d0, rfl, h7, h8⟩
 obtain rfl := d0.symm
 replace d := d.perm (Tb (Tr (Tr (Tr (Tr (Tr Tn))))))
 refine lr (Wh A (Wn (Wf HU (VB d Mh rfl rfl cH (Wh c3 (Wi rfl (Wa (lt ?_))))))))
 obtain rfl := sj D
 exact nc (v := (.int .i64 (wi0 .i64 (i7.2.2 - K)))) rfl rfl ⟨_, _, rfl, (d.ov (Kb (Kr (Kr (Kr (Kr (Kr Sn))))))), i4, M, Q, T, U, i9, i5, rfl, rfl, h7, s, O, P, h8⟩
theorem Ki (j : Value) (H : List lD) (r : ((List (lC × (List (ByteArray × Bool)))) × (List lD) × (List (lC × (List lD))) × (List (ByteArray × (List lD))) × (List mc) × Int)) (w : World) (J : Sl (Pl lE) 9 (hp w) j H) (hm : yq H = some r) :
  nJ false pg0 62 [j] w [] (fun v L1 W' => ∃ l n S3 o S6 q S9 D u G y, v = (.pointer (some ⟨l, 0, none⟩)) ∧ L1 = ((l, Ob #[n, o, q, D, G, (.int .i64 (r.2.2.2.2.2))] 189) :: (S3 ++ (S6 ++ (S9 ++ (u ++ (y ++ [])))))) ∧ nV (fun (x : lC) => (.agg (lG x).toArray)) (na Value.string (fun (x : Bool) => (Value.bool x))) n r.1 S3 ∧ mw 52 lE 9 o r.2.1 S6 ∧ nV (fun (x : lC) => (.agg (lG x).toArray)) (mw 52 lE 9) q r.2.2.1 S9 ∧ nV Value.string (mw 52 lE 9) D r.2.2.2.1 u ∧ sy 111 mS 3 G r.2.2.2.2.1 y) := by
 refine uk 13 func62 rfl (fun b => sg (Wa (lr (VE (FQ (P := pg0) (fun (x : lC) => (.agg (lG x).toArray)) (na Value.string (fun (x : Bool) => (Value.bool x))) b (fun W1 v4 R2 b z => VE (FQ (P := pg0) (fun (x : lC) => (.agg (lG x).toArray)) (mw 52 lE 9) b (fun W5 v8 R6 b B => VE (FQ (P := pg0) Value.string (mw 52 lE 9) b (fun W9 R Y b t => ?_))))))))))
 obtain ⟨a, rfl⟩ := z.form
 obtain ⟨c, rfl⟩ := B.form
 obtain ⟨g, rfl⟩ := t.form
 refine V (nW (v := (.agg #[(.map (some a)), (.slice none 0 0), (.map (some c)), (.map (some g)), (.slice none 0 0), (.int .i64 0)])) (FF rfl rfl rfl) (nw zeroValue189 fX (WA _ fX) kr)) (VE (mG b rfl (fun c1 k b => Wa (lr (Wm (Wm (bS hm fun O K hm => ?_)))))))
 refine VE (eM b (Cb Pz (Cr (Qr (Qr Qz)) (C0 (Cr (Qr Qz) (Cr Qz (C0 Cn)))))) call125 (fun F h => (GK k (.map (some a)) ([]) R2 (.slice none 0 0) ([]) [] (.map (some c)) ([]) R6 (.map (some g)) ([]) Y (.slice none 0 0) ([]) [] 0 j H _ _ F z (mw.nil _ _ _) B t (sy.nil _ _ _) (J.mono (Pl.mono _) h) K)) ?_)
 rintro _ W c6 L b I m d ⟨Z, s, a2, a3, a4, A, a5, i, rfl, M, N, Q, T, U⟩
 obtain rfl := i.symm
 replace b := b.perm (Tb (Tr (Tr (Tr (Tr (Tr Tn))))))
 refine lr (Wm (Wa (lt ?_)))
 obtain rfl := sj hm
 exact nc (v := (.pointer (some ⟨k, 0, none⟩))) rfl rfl ⟨_, _, rfl, (b.QV (Kb (Kr (Kr (Kr (Kr (Kr Sn))))))), k, (.map (some a)), Z, s, a2, (.map (some c)), a3, (.map (some g)), a4, A, a5, rfl, rfl, M, N, Q, T, U⟩
theorem LH (i : ng) (a c g t j k : Value) (r : ((List (lC × (List (ByteArray × Bool)))) × (List lD) × (List (lC × (List lD))) × (List (ByteArray × (List lD))) × (List mc) × Int × ByteArray × ByteArray × Int)) (w : World) (y : Sl mC 15 (hp w) a i.lH.lZ) (z : Sl mZ 8 (hp w) c i.lH.mq) (u : Sl (Pl lE) 9 (hp w) g i.lV) (G : Sl (Pl lE) 9 (hp w) t i.Shown) (B : Sl (Pl lG) 2 (hp w) j i.ml) (D : Sl (Pl lG) 2 (hp w) k i.ms) (hm : CG i = some r) :
  nJ false pg0 21 [(.agg #[(.string i.lH.Name), a, c, (.string i.mU), (.int .i64 i.Room), g, t, j, k])] w [] (fun v L1 W' => ∃ h l n S4 o S7 q J U K Y M Q, v = (.func (.func 63) #[] #[(.pointer (some ⟨h, 0, none⟩)), (.pointer (some ⟨Q, 0, none⟩))]) ∧ L1 = ((h, Ob #[(.pointer (some ⟨l, 0, none⟩))] 132) :: ((l, Ob #[n, o, q, U, Y, (.int .i64 (r.2.2.2.2.2.1))] 189) :: ((Q, Ob #[(.string (r.2.2.2.2.2.2.1)), a, c, (.string (r.2.2.2.2.2.2.2.1)), (.int .i64 (r.2.2.2.2.2.2.2.2)), g, t, j, k] 36) :: (S4 ++ (S7 ++ (J ++ (K ++ (M ++ [])))))))) ∧ nV (fun (x : lC) => (.agg (lG x).toArray)) (na Value.string (fun (x : Bool) => (Value.bool x))) n r.1 S4 ∧ mw 52 lE 9 o r.2.1 S7 ∧ nV (fun (x : lC) => (.agg (lG x).toArray)) (mw 52 lE 9) q r.2.2.1 J ∧ nV Value.string (mw 52 lE 9) U r.2.2.2.1 K ∧ sy 111 mS 3 Y r.2.2.2.2.1 M) := by
 refine uk 8 func21 rfl (fun b => sg ?_)
 obtain ⟨A1, c2, rfl⟩ := y.form
 obtain ⟨A3, c4, rfl⟩ := z.form
 obtain ⟨A5, R, rfl⟩ := u.form
 obtain ⟨A7, c8, rfl⟩ := G.form
 obtain ⟨A9, c1, rfl⟩ := B.form
 obtain ⟨a7, c3, rfl⟩ := D.form
 refine VE (mG b rfl (fun e6 N b => Wa (lr (Wf D4 (VB b Mh rfl rfl eH (bS hm fun f0 s hm => ?_))))))
 refine VE (Gz b (bI _) call62 (fun _ _ _ _ => (Ki (.slice A5 i.lV.length R) i.lV _ _ (u.mono (Pl.mono _) b.lL) s)) (fun e7 f1 f2 e5 b d6 m d Z => ?_) (L0 := []))
 obtain ⟨I, W, a9, c9, F, d1, L, d2, O, d3, P, H, rfl, a2, a3, a4, a5, A⟩ := Z
 replace H := H.symm; subst H
 replace b := b.perm (Tb (Tr (Tr (Tr (Tr (Tr Tn))))))
 refine VE (my b zeroValue132 (fun e8 T b => VO (mj (.pointer (some ⟨I, 0, none⟩)) (#[(.pointer (some ⟨I, 0, none⟩))]) b rfl rfl sizeOf132 oc nb rfl (fun e9 b => lr (V (qz (by exact yA rfl rfl) rfl) (Wa (lt ?_)))))))
 obtain rfl := sj hm
 exact nc (v := (.func (.func 63) #[] #[(.pointer (some ⟨T, 0, none⟩)), (.pointer (some ⟨N, 0, none⟩))])) rfl rfl ⟨_, _, rfl, (b.QV (Kb (Kb (Sb (Pr (Pr (Pr (Pr (Pr Pz))))) (Kr (Kr (Kr (Kr (Kr Sn))))))))), T, I, W, a9, c9, F, d1, L, d2, O, d3, P, N, rfl, rfl, a2, a3, a4, a5, A⟩
theorem FY (Q : Formula → (lC → Option Bool) → Option Bool) (a5 : ∀ (g : Formula) (k : Value) (t : Value) (J : lC → Option Bool) (r : Bool) (w : World) (c : Sl lI 5 (hp w) k g.Kids) (K : Al pg0 t (hp w) (fun (x : lC) => [(.agg (lG x).toArray)]) (fun (r : Bool) => (.bool r)) J), Q g J = some r → mo false pg0 73 [(.agg #[(.int .i64 g.Op), (.int .i64 g.K), (.string g.lC.lK), (.string g.lC.lN), k]), t] w (.bool r)) (g : Formula) (k t : Value) (J : lC → Option Bool) (r : Bool) (w : World) (c : Sl lI 5 (hp w) k g.Kids) (K : Al pg0 t (hp w) (fun (x : lC) => [(.agg (lG x).toArray)]) (fun (r : Bool) => (.bool r)) J) (hm : yr Q g J = some r) :
  mo false pg0 73 [(.agg #[(.int .i64 g.Op), (.int .i64 g.K), (.string g.lC.lK), (.string g.lC.lN), k]), t] w (.bool r) := by
 refine cG 45 func73 rfl (fun b => sg ?_)
 obtain ⟨A1, c2, rfl⟩ := c.form
 refine VE (mG b rfl (fun W4 n b => Wa (lS (Wf rK (VB b Mh rfl rfl cH (Wi rfl (ln (CI hm rfl (fun a9 hm => ?_) (fun a9 hm => ?_)))))))))
 ·refine sg (Wm (Wf wM (VA b Mh (lG g.lC) aT aG (bS hm fun r6 v hm => VE (NP g.lC b K (mx.refl _) rfl (vc rfl) v (fun W8 b => Wa (ln ?_)))))))
  replace b := b.lF (Db St)
  refine mu (mL ?_)
  obtain rfl := sj hm
  exact rP b
 refine kg (Wa (lS (Wf rH (VB b Mh rfl rfl fH (V (mV aH rfl c) (Wm (mz ?_)))))))
 refine lU (mM (fun i E W => ∃ z I, (E 18 = .int .i64 (i : Nat) ∧ E 17 = .int .i64 (g.Kids.length : Nat)) ∧ ST false mD w W (hp w) ((n, Ol (C1 g.Op g.K g.lC.lK g.lC.lN A1 g.Kids.length c2) 58) :: I) ∧ E 1 = t ∧ E 2 = (.pointer (some ⟨n, 0, none⟩)) ∧ E 5 = (.int .i64 z) ∧ E 16 = (.slice A1 g.Kids.length c2) ∧ rN Q J g (g.Kids.drop i) z = some r) g.Kids.length c.len ⟨0, _, ⟨rfl, rfl⟩, (b.lF St), rfl, rfl, rfl, rfl, hm⟩ dc dc dc (fun _ _ _ h => by obtain ⟨_, _, l, _⟩ := h; exact l) ?_ ?_)
 ·rintro A E W a4 ⟨z, I, ⟨d, m⟩, b, G, u, y, H, a⟩
  obtain ⟨j, c1, s, q, N⟩ := mE a4
  rw [s] at a
  refine bg (VQ (nS (i := (A : Int)) (x0 := j) lI.out aH aC H d c (aF _) q) (fun R ⟨_, ⟨c0, rfl, M⟩, Z⟩ => V (lJ rfl (mr b.has Z aV aC)) (VE (my b bG (fun F P b => ?_)))))
  obtain ⟨B, D, rfl⟩ := M.form
  let a0 := (C1 j.Op j.K j.lC.lK j.lC.lN B j.Kids.length D)
  refine VO (mj (.agg a0.toArray) (a0.toArray) b rfl rfl aC oc nb rfl (fun L b => lr (VA b Mh a0 aV aC (Wh G (bS a fun b9 o a => VE (Eg b call73 (a5 j (.slice B j.Kids.length D) t J _ _ (M.mono mg.mono b.lL) (K.mono b.lL) o) (fun O b => ln ?_)))))))
  replace b := b.lF (Db St)
  refine CI a rfl (fun T a => ?_) (fun T a => ?_)
  ·exact ma (Wh y (Wi rfl (Wa (mz (mJ (lU ⟨d, (wi0 .i64 (z + 1)), _, ⟨rfl, m⟩, (b.lF St), G, u, rfl, H, (by rw [N]; exact a)⟩))))))
  exact nf (mJ (lU ⟨d, z, _, ⟨rfl, m⟩, (b.lF St), G, u, y, H, (by rw [N]; exact a)⟩))
 rintro E W ⟨z, I, ⟨d, m⟩, b, G, u, y, H, a⟩
 rw [aI] at a
 refine lU (mf (sg (V (lO rK u) (VB b Mh rfl rfl cH (ln (bg (Wi rfl (Wa (ln ?_)))))))))
 refine CI a rfl (fun U a => ?_) (fun U a => ?_)
 ·refine sg (Wh y (V (lO rH u) (VB b Mh rfl rfl fH (V (mV aH rfl c) (Wi rfl (Wa (ln ?_)))))))
  replace b := b.lF (Db St)
  refine mu (nY (mL ?_))
  obtain rfl := sj a
  exact rP b
 refine sg (Wi rfl (Wa (ln (CI a rfl (fun Y a => ?_) (fun Y a => ?_)))))
 ·refine sg (Wh y (Wi rfl (Wa (ln ?_))))
  replace b := b.lF (Db St)
  refine mu (nY (mL ?_))
  obtain rfl := sj a
  exact rP b
 refine nf (mJ (lU (sg (Wh y (V (lO xr u) (VB b Mh rfl rfl cH (Wi rfl (Wa (ln ?_)))))))))
 exact mu (rQ a b)
theorem EG : ∀ (n : Nat) (c : Formula) (a : Value) (g : Value) (j : lC → Option Bool) (r : Bool) (w : World) (i : Sl lI 5 (hp w) a c.Kids) (k : Al pg0 g (hp w) (fun (x : lC) => [(.agg (lG x).toArray)]) (fun (r : Bool) => (.bool r)) j) (_ : si n c j = some r),
  mo false pg0 73 [(.agg #[(.int .i64 c.Op), (.int .i64 c.K), (.string c.lC.lK), (.string c.lC.lN), a]), g] w (.bool r)
 | 0 => by intros; rename_i h; simp only [si] at h; cases h
 | n + 1 => FY (si n) (EG n)
theorem BY (a : Formula) (j k : Value) (G : lC → Option Bool) (r : Bool) (w : World) (c : Sl lI 5 (hp w) j a.Kids) (z : Al pg0 k (hp w) (fun (x : lC) => [(.agg (lG x).toArray)]) (fun (r : Bool) => (.bool r)) G) (hm : uQ a G = some r) :
  mo false pg0 24 [(.agg #[(.int .i64 a.Op), (.int .i64 a.K), (.string a.lC.lK), (.string a.lC.lN), j]), k] w (.bool r) := by
 refine cG 16 func24 rfl (fun b => sg ?_)
 obtain ⟨u, y, rfl⟩ := c.form
 let a0 := (C1 a.Op a.K a.lC.lK a.lC.lN u a.Kids.length y)
 refine VE (mG b rfl (fun U Z b => Wa (lr (Wm (V (RK underlying65 z.form rfl rfl) (Wm (Vg rfl rfl (lJ rfl (lQ b.has Mh a0 rfl aV aC)) (bS hm fun d K hm => RA rfl rfl (Eg b call72 (vu a (.slice u a.Kids.length y) _ _ (c.mono mg.mono b.lL) K) (fun Y b => V (mh rfl rfl) (Wm (LJ hm (fun D E W => ∃ B, ST false mD w W (hp w) B ∧ E 4 = (.bool false) ∧ E 15 = (.bool D)) 4 ?_ (fun D g t => ?_)))))))))))))
 ·rintro T E W ⟨B, b, N, J⟩ H
  exact Wg J (lt (rQ H b))
 refine bC g (fun i g => ?_) (fun i g => ?_)
 ·refine ug i (lJ rfl (lQ b.has Mh a0 rfl aV aC)) (ug i (lP rfl) (bS g fun Q I g => sa i (Eg b call73 ((EG mR) a (.slice u a.Kids.length y) k G _ _ (c.mono mg.mono b.lL) (z.mono b.lL) I) (fun M b => V (mh (cB i) rfl) ?_))))
  obtain rfl := sj g
  exact t _ _ ⟨_, (b.lF (Db St)), rfl, rfl⟩
 refine un i (un i (un i (V (mi (cB i) rfl) ?_)))
 obtain rfl := sj g
 exact t _ _ ⟨_, (b.lF (Db St)), rfl, rfl⟩
theorem HH (g : nx) (c i : Value) (u : Nat) (k : Value) (t : lC → Option Bool) (r : Bool) (w : World) (a : Sl lI 5 (hp w) c g.lM.Kids) (j : Sl (Pl lE) 9 (hp w) i g.nj) (G : Al pg0 k (hp w) (fun (x : lC) => [(.agg (lG x).toArray)]) (fun (r : Bool) => (.bool r)) t) (z : At (hp w) (.pointer (some ⟨u, 0, none⟩)) [k]) (hm : xB g t = some r) :
  mo false pg0 196 [(.agg #[(.string g.lC.lK), (.string g.lC.lN), (.int .i64 g.lM.Op), (.int .i64 g.lM.K), (.string g.lM.lC.lK), (.string g.lM.lC.lN), c, i]), (.pointer (some ⟨u, 0, none⟩))] w (.bool r) := by
 refine cG 8 func196 rfl (fun b => sg ?_)
 obtain ⟨B, D, rfl⟩ := a.form
 obtain ⟨I, J, rfl⟩ := j.form
 refine VE (mG b rfl (fun K N b => Wa (lr (Wf D9 (VA b Mh (C1 g.lM.Op g.lM.K g.lM.lC.lK g.lM.lC.lN B g.lM.Kids.length D) aV aC (V (lJ rfl (po b.has (y := k) z isAgg65)) (bS hm fun Q H hm => VE (Eg b call24 (BY g.lM (.slice B g.lM.Kids.length D) k t _ _ (a.mono mg.mono b.lL) (G.mono b.lL) H) (fun M b => Wa (ln ?_))))))))))
 exact mu (rQ hm b)
theorem D0 (K : Nat) (a : Value) (G : List (lC × (List (ByteArray × Bool)))) (c : Value) (t : List lD) (j : Value) (D : List (lC × (List lD))) (g : Value) (u : List (ByteArray × (List lD))) (i : Value) (B : List mc) (J : Int) (I : lC) (a2 : ByteArray) (r : Bool) (w : World) (H : uA (fun (x : lC) => (.agg (lG x).toArray)) (na Value.string (fun (x : Bool) => (Value.bool x))) (hp w) a G) (T : Sl (Pl lE) 9 (hp w) c t) (Z : uA (fun (x : lC) => (.agg (lG x).toArray)) (mw 52 lE 9) (hp w) j D) (U : uA Value.string (mw 52 lE 9) (hp w) g u) (Y : Sl (Pl mS) 3 (hp w) i B) (Q : At (hp w) (.pointer (some ⟨K, 0, none⟩)) [a, c, j, g, i, (.int .i64 J)]) (hm : uN G t D u B J I a2 = some r) :
  mo true pg0 64 [(.pointer (some ⟨K, 0, none⟩)), (.agg (lG I).toArray), (.string a2)] w (.bool r) := by
 refine cG 19 func64 rfl (fun l => sg (VE (mG l rfl (fun W2 s l => Wa (ln (mf ?_))))))
 replace l := l.drew
 have d := l.has.lF (Kb Sn)
 refine mT d mB (X 0 rfl d (lP rfl) (X 1 rfl d (Dt underlying132 rfl rfl) (X 2 rfl d (lP rfl) (Xg 3 rfl rfl rfl d (lP rfl) (Xg 4 rfl rfl rfl d (nN rfl) (uE 5 rfl kr (.inr ⟨2, true, 9, rfl, rfl, by decide, rfl⟩) rfl dc (fun _ _ h => h) d (uq [a] zW rfl Q rfl) (fun q a3 => rz 6 rfl rfl rfl d (fun _ m => lJ rfl (po m (y := a) a3 jM)) (rz 7 rfl rfl rfl d (fun _ m => lJ rfl (lQ m Mh (lG I) rfl aT aG)) ?_))))))))
 obtain ⟨a4, a5, M, N⟩ := H
 refine rz 8 rfl rfl rfl d (fun _ m => rG (k := I) (z := (.map none)) A0 fZ iv rfl rfl M (fun b o n => m.1 b o (N b o n))) (Xg 9 rfl rfl rfl d (lP rfl) (rz 10 rfl rfl rfl d (fun _ m => xi (k := a2) (z := false) (vf := (fun (x : Bool) => (Value.bool x))) Hp gC iN rfl rfl ((oX.Gb mn.1 M I N).mono (fun b o n => m.1 b o n))) (X 11 rfl d (mh rfl rfl) (X 12 rfl d (oD rfl) (nh kr (lU ?_))))))
 exact mu (rQ hm l)
theorem G6 (a0 : lC) (l Z : Nat) (I : Value) (U : List (lC × (List (ByteArray × Bool)))) (g : Value) (G : List lD) (u : Value) (N : List (lC × (List lD))) (i : Value) (H : List (ByteArray × (List lD))) (t : Value) (M : List mc) (d : Int) (m : Nat) (B : ByteArray) (a : Value) (j : List mI) (c : Value) (z : List nx) (k : ByteArray) (a5 : Int) (D : Value) (J : List lD) (T : Value) (a2 : List lD) (K : Value) (Y : List lC) (Q : Value) (h : List lC) (r : Bool) (w : World) (a9 : uA (fun (x : lC) => (.agg (lG x).toArray)) (na Value.string (fun (x : Bool) => (Value.bool x))) (hp w) I U) (a3 : Sl (Pl lE) 9 (hp w) g G) (o : uA (fun (x : lC) => (.agg (lG x).toArray)) (mw 52 lE 9) (hp w) u N) (a4 : uA Value.string (mw 52 lE 9) (hp w) i H) (n : Sl (Pl mS) 3 (hp w) t M) (q : At (hp w) (.pointer (some ⟨Z, 0, none⟩)) [I, g, u, i, t, (.int .i64 d)]) (s : At (hp w) (.pointer (some ⟨l, 0, none⟩)) [(.pointer (some ⟨Z, 0, none⟩))]) (F : Sl mC 15 (hp w) a j) (O : Sl mZ 8 (hp w) c z) (P : Sl (Pl lE) 9 (hp w) D J) (W : Sl (Pl lE) 9 (hp w) T a2) (R : Sl (Pl lG) 2 (hp w) K Y) (c2 : Sl (Pl lG) 2 (hp w) Q h) (c1 : At (hp w) (.pointer (some ⟨m, 0, none⟩)) [(.string B), a, c, (.string k), (.int .i64 a5), D, T, K, Q]) (hm : vt a0 U G N H M d B j z k a5 J a2 Y h = some r) :
  mo true pg0 63 [(.agg (lG a0).toArray), (.pointer (some ⟨l, 0, none⟩)), (.pointer (some ⟨m, 0, none⟩))] w (.bool r) := by
 refine cG 10 func63 rfl (fun b => sg (VE (mG b rfl (fun W2 L b => Wa (lr (V (lJ rfl (po b.has (y := (.pointer (some ⟨Z, 0, none⟩))) s isAgg132)) (VA b Mh (lG a0) aT aG (VQ (uq [(.string k)] HJ rfl c1 rfl) (fun p3 v => V (lJ rfl (po b.has (y := (.string k)) v bO)) (bS hm fun r6 A hm => VE (Eg b call64 (D0 Z I U g G u N i H t M d a0 k _ _ (a9.mono b.lL) (a3.mono (Pl.mono _) b.lL) (o.mono b.lL) (a4.mono b.lL) (n.mono (Pl.mono _) b.lL) (q.mono b.lL) A) (fun W8 b => ?_))))))))))))
 refine Wa (ln ?_)
 exact mu (rQ hm b)
theorem Ez (a : ng) (H K U a1 Y Z : Value) (r : List nx) (w : World) {μ0 : mN} (h0 : pC μ0 [] w) (y : Sl mC 15 μ0 H a.lH.lZ) (j : Sl mZ 8 μ0 K a.lH.mq) (D : Sl (Pl lE) 9 μ0 U a.lV) (Q : Sl (Pl lE) 9 μ0 a1 a.Shown) (M : Sl (Pl lG) 2 μ0 Y a.ml) (N : Sl (Pl lG) 2 μ0 Z a.ms) (hm : xA a = some r) :
  nO false pg0 136 [(.agg #[(.string a.lH.Name), H, K, (.string a.mU), (.int .i64 a.Room), U, a1, Y, Z])] w μ0 [] (fun v L1 μ1 => ∃ y1, v = y1 ∧ L1 = [] ∧ Sl mZ 8 μ1 y1 (r)) := by
 refine wj h0 12 func136 rfl (fun b => sg ?_)
 obtain ⟨A1, c2, rfl⟩ := y.form
 obtain ⟨A3, c4, rfl⟩ := j.form
 let a8 : Value := (.slice A3 a.lH.mq.length c4)
 obtain ⟨A5, c6, rfl⟩ := D.form
 obtain ⟨A7, c8, rfl⟩ := Q.form
 obtain ⟨A9, a6, rfl⟩ := M.form
 obtain ⟨a5, a7, rfl⟩ := N.form
 refine VE (mG b rfl (fun i5 j0 b => Wa (lr (VA b Mh (C2 a.lH.Name A1 a.lH.lZ.length c2 A3 a.lH.mq.length c4 a.mU a.Room A5 a.lV.length c6 A7 a.Shown.length c8 A9 a.ml.length a6 a5 a.ms.length a7) dX dD (bS hm fun c f0 hm => ?_)))))
 refine VE (Gz b (bI _) call21 (fun _ _ _ _ => (LH a (.slice A1 a.lH.lZ.length c2) a8 (.slice A5 a.lV.length c6) (.slice A7 a.Shown.length c8) (.slice A9 a.ml.length a6) (.slice a5 a.ms.length a7) _ _ (y.mono mK.mono b.lL) (j.mono nH.mono b.lL) (D.mono (Pl.mono _) b.lL) (Q.mono (Pl.mono _) b.lL) (M.mono (Pl.mono _) b.lL) (N.mono (Pl.mono _) b.lL) f0)) (fun i6 j4 j6 h8 b I m ab d7 => ?_) (L0 := []))
 obtain ⟨a2, b9, d2, i0, d3, i1, d4, i2, d5, i3, d6, i4, a3, a9, rfl, f4, f5, f6, f7, f8⟩ := d7
 replace a9 := a9.symm; subst a9
 replace b := b.perm (Tb (Tb (Tb (Tr (Tr (Tr (Tr (Tr Tn))))))))
 refine VE (my b zeroValue65 (fun i7 b1 b => VO (mj (.func (.func 63) #[] #[(.pointer (some ⟨a2, 0, none⟩)), (.pointer (some ⟨a3, 0, none⟩))]) (#[(.func (.func 63) #[] #[(.pointer (some ⟨a2, 0, none⟩)), (.pointer (some ⟨a3, 0, none⟩))])]) b rfl rfl sizeOf65 oc nb rfl (fun i8 b => lr (Wf wH (Wf DP (VB b (Mt (Mt (Mt (Mt (Ma (Ma (Ma (Ma (Ma Mh))))))))) rfl rfl lA (bS hm fun g2 f1 hm => ?_))))))))
 let a0 : Value := (.func (.func 63) #[] #[(.pointer (some ⟨a2, 0, none⟩)), (.pointer (some ⟨a3, 0, none⟩))])
 refine VE (eD b (bI _) call130 (fun hh => nO.nz (zA a8 a.lH.mq _ _ hh (j.mono nH.mono I) f1)) ?_ (L0 := []))
 rintro _ j5 j7 h9 b T n ⟨g4, g0, b0, rfl, f9⟩
 obtain rfl := b0.symm
 replace b := b.perm (Tr Tn)
 refine V (qz (by exact vc rfl) rfl) ?_
 replace b := b.perm (Nr (Qr (Qb (Qb (Qb (Qb Qz))))) Nz)
 obtain ⟨j8, b, J, o, e3⟩ := ST.yH b
 replace b := b.perm (Nr (Qr (Qb (Qb (Qb (Qb Qz))))) Nz)
 obtain ⟨j9, b, G, q, f2⟩ := ST.Ap b f5 nl
 replace b := b.perm (Nr (Qr (Qb (Qb (Qb (Qb Qz))))) Nz)
 obtain ⟨k2, b, B, s, e4⟩ := ST.yH b
 replace b := b.perm (Nr (Qr (Qb (Qb (Qb (Qb Qz))))) Nz)
 obtain ⟨k3, b, z, A, e5⟩ := ST.yH b
 replace b := b.perm (Nr (Qr (Qb (Qb (Qb (Qb Qz))))) Nz)
 obtain ⟨k4, b, u, F, f3⟩ := ST.Wl b f8 so
 replace b := b.perm (Nb (Pr (Pb (Pb Pz))) Nz)
 obtain ⟨k5, b, t, L, e6⟩ := ST.yH (R := [(b9, Ob #[d2, d3, d4, d5, d6, (.int .i64 (c.2.2.2.2.2.1))] 189)]) b
 have d9 := At.of (e6 _ _ (.head _)) _ rfl
 replace b := b.perm (Nb (Pr (Pb Pz)) Nz)
 obtain ⟨k6, b, k, O, e7⟩ := ST.yH (R := [(a2, Ob #[(.pointer (some ⟨b9, 0, none⟩))] 132)]) b
 have e0 := At.of (e7 _ _ (.head _)) _ rfl
 replace b := b.perm (Nb (Pr (Pb Pz)) Nz)
 obtain ⟨k7, b, i, P, e8⟩ := ST.yH (R := [(a3, Ol (C2 (c.2.2.2.2.2.2.1) A1 a.lH.lZ.length c2 A3 a.lH.mq.length c4 (c.2.2.2.2.2.2.2.1) (c.2.2.2.2.2.2.2.2) A5 a.lV.length c6 A7 a.Shown.length c8 A9 a.ml.length a6 a5 a.ms.length a7) 36)]) b
 have e1 := At.of (e8 _ _ (.head _)) _ rfl
 replace b := b.perm (Nb (Pr Pz) Nz)
 obtain ⟨k8, b, g, aa, e9⟩ := ST.yH (R := [(b1, Ob #[a0] 65)]) b
 have e2 := At.of (e9 _ _ (.head _)) _ rfl
 refine bS hm fun j3 d0 hm => ?_
 refine VE (eD b (Cr Qz Cn) call129 (fun hh => (wY g4 g2 g0 (.func (.func 196) #[] #[(.pointer (some ⟨b1, 0, none⟩))]) (fun (x : nx) => xB x (fun (x : lC) => vt x c.1 c.2.1 c.2.2.1 c.2.2.2.1 c.2.2.2.2.1 c.2.2.2.2.2.1 c.2.2.2.2.2.2.1 a.lH.lZ a.lH.mq c.2.2.2.2.2.2.2.1 c.2.2.2.2.2.2.2.2 a.lV a.Shown a.ml a.ms)) _ _ hh (f9.mono nH ((((((((J.trans G).trans B).trans z).trans u).trans t).trans k).trans i).trans g)) ⟨196, #[], #[(.pointer (some ⟨b1, 0, none⟩))], rfl, call196, fun W x vs r h hR hm => by obtain ⟨_, rfl, g1⟩ := hR; obtain ⟨u0, u1, rfl, k0, k1⟩ := g1.out; exact HH x u0 u1 b1 a0 (fun (x : lC) => vt x c.1 c.2.1 c.2.2.1 c.2.2.2.1 c.2.2.2.2.1 c.2.2.2.2.2.1 c.2.2.2.2.2.2.1 a.lH.lZ a.lH.mq c.2.2.2.2.2.2.2.1 c.2.2.2.2.2.2.2.2 a.lV a.Shown a.ml a.ms) r W k0 k1 ⟨63, #[], #[(.pointer (some ⟨a2, 0, none⟩)), (.pointer (some ⟨a3, 0, none⟩))], rfl, call63, fun W x r d hm => (G6 x a2 b9 d2 c.1 d3 c.2.1 d4 c.2.2.1 d5 c.2.2.2.1 d6 c.2.2.2.2.1 c.2.2.2.2.2.1 a3 c.2.2.2.2.2.2.1 (.slice A1 a.lH.lZ.length c2) a.lH.lZ a8 a.lH.mq c.2.2.2.2.2.2.2.1 c.2.2.2.2.2.2.2.2 (.slice A5 a.lV.length c6) a.lV (.slice A7 a.Shown.length c8) a.Shown (.slice A9 a.ml.length a6) a.ml (.slice a5 a.ms.length a7) a.ms r W ((f4.at e3).mono (((((((((G.trans B).trans z).trans u).trans t).trans k).trans i).trans g).trans h).trans d)) (f2.mono (Pl.mono _) ((((((((B.trans z).trans u).trans t).trans k).trans i).trans g).trans h).trans d)) ((f6.at e4).mono (((((((z.trans u).trans t).trans k).trans i).trans g).trans h).trans d)) ((f7.at e5).mono ((((((u.trans t).trans k).trans i).trans g).trans h).trans d)) (f3.mono (Pl.mono _) (((((t.trans k).trans i).trans g).trans h).trans d)) (d9.mono ((((k.trans i).trans g).trans h).trans d)) (e0.mono (((i.trans g).trans h).trans d)) (y.mono mK.mono ((((((((((((I.trans T).trans J).trans G).trans B).trans z).trans u).trans t).trans k).trans i).trans g).trans h).trans d)) (j.mono nH.mono ((((((((((((I.trans T).trans J).trans G).trans B).trans z).trans u).trans t).trans k).trans i).trans g).trans h).trans d)) (D.mono (Pl.mono _) ((((((((((((I.trans T).trans J).trans G).trans B).trans z).trans u).trans t).trans k).trans i).trans g).trans h).trans d)) (Q.mono (Pl.mono _) ((((((((((((I.trans T).trans J).trans G).trans B).trans z).trans u).trans t).trans k).trans i).trans g).trans h).trans d)) (M.mono (Pl.mono _) ((((((((((((I.trans T).trans J).trans G).trans B).trans z).trans u).trans t).trans k).trans i).trans g).trans h).trans d)) (N.mono (Pl.mono _) ((((((((((((I.trans T).trans J).trans G).trans B).trans z).trans u).trans t).trans k).trans i).trans g).trans h).trans d)) (e1.mono ((g.trans h).trans d)) hm).nz⟩ (e2.mono ((mx.refl _).trans h)) hm⟩ d0)) ?_)
 rintro _ h5 h7 g9 b c5 l ⟨c7, a4, rfl, d1⟩
 obtain rfl := a4.symm
 refine Wa (ln ?_)
 replace b := b.lF (Db St)
 refine mu ?_
 obtain rfl := sj hm
 exact nc (v := c7) rfl rfl ⟨_, _, _, rfl, (b.ov Sn), (((((((((((I.trans T).trans J).trans G).trans B).trans z).trans u).trans t).trans k).trans i).trans g).trans c5), (((((((((((m.trans n).trans o).trans q).trans s).trans A).trans F).trans L).trans O).trans P).trans aa).trans l), (ST.nt b (oT.mem Sn)), c7, rfl, rfl, d1⟩
theorem HB (c : nx) (a i : Value) (k : Nat) (u : lD) (r : Bool) (w : World) (j : Sl lI 5 (hp w) a c.lM.Kids) (g : Sl (Pl lE) 9 (hp w) i c.nj) (t : At (hp w) (.pointer (some ⟨k, 0, none⟩)) (lE u)) (hm : xD c u = some r) :
  mo true pg0 198 [(.agg #[(.string c.lC.lK), (.string c.lC.lN), (.int .i64 c.lM.Op), (.int .i64 c.lM.K), (.string c.lM.lC.lK), (.string c.lM.lC.lN), a, i]), (.pointer (some ⟨k, 0, none⟩))] w (.bool r) := by
 refine cG 9 func198 rfl (fun b => sg ?_)
 obtain ⟨B, D, rfl⟩ := j.form
 obtain ⟨x, y, rfl⟩ := g.form
 refine VE (mG b rfl (fun G I b => Wa (lr (Wf Ea (VB b Mh rfl rfl eH (V (lJ rfl (mr b.has t bD aJ)) (bS hm fun J z hm => VE (Eg b call60 (Br (.slice x c.nj.length y) c.nj u _ _ (g.mono (Pl.mono _) b.lL) z) (fun H b => V (oy rfl) (Wa (ln ?_)))))))))))
 exact mu (rQ hm b)
theorem Bs (g : Value) (y : List nx) (j : lD) (r : List nx) (w : World) {N : mN} (n : pC N [] w) (D : Sl mZ 8 N g y) (hm : vB y j = some r) :
  nO false pg0 139 [g, (.agg (lE j).toArray)] w N [] (fun v L1 μ1 => ∃ Y, v = Y ∧ L1 = [] ∧ Sl mZ 8 μ1 Y (r)) := by
 refine wj n 9 func139 rfl (fun b => sg (VE (mG b rfl (fun W2 k b => Wa (lr (Wm (bS hm fun A U hm => ?_)))))))
 refine VE (eD b (bI _) call130 (fun l => nO.nz (zA g y _ _ l (D.mono nH.mono (mx.refl _)) U)) ?_ (L0 := []))
 rintro _ v9 O P b H m ⟨Z, Q, a, rfl, K⟩
 obtain rfl := a.symm
 replace b := b.perm (Tr Tn)
 refine V (qz (by exact vc rfl) rfl) ?_
 replace b := b.perm (Nb (Pr Pz) Nz)
 obtain ⟨b4, b, i, d, I⟩ := ST.yH (R := [(k, Ol (lE j) 52)]) b
 have G := At.of (I _ _ (.head _)) _ rfl
 refine bS hm fun b2 J hm => ?_
 refine VE (eD b (Cr Qz Cn) call129 (fun l => (wY Z A Q (.func (.func 198) #[] #[(.pointer (some ⟨k, 0, none⟩))]) (fun (x : nx) => xD x j) _ _ l (K.mono nH i) ⟨198, #[], #[(.pointer (some ⟨k, 0, none⟩))], rfl, call198, fun W x vs r q o hm => by obtain ⟨_, rfl, T⟩ := o; obtain ⟨F, L, rfl, s, z⟩ := T.out; exact (HB x F L k j r W s z (G.mono ((mx.refl _).trans q)) hm).nz⟩ J)) ?_)
 rintro _ b3 b5 a9 b t h ⟨u, c, rfl, M⟩
 obtain rfl := c.symm
 refine Wa (lt ?_)
 obtain rfl := sj hm
 exact nc (v := u) rfl rfl ⟨_, _, _, rfl, (b.ov Sn), ((H.trans i).trans t), ((m.trans d).trans h), (ST.nt b (oT.mem Sn)), u, rfl, rfl, M⟩
theorem GA (g : ng) (u y D Q H N : Value) (r : List lD) (w : World) (c : Sl mC 15 (hp w) u g.lH.lZ) (x : Sl mZ 8 (hp w) y g.lH.mq) (B : Sl (Pl lE) 9 (hp w) D g.lV) (M : Sl (Pl lE) 9 (hp w) Q g.Shown) (G : Sl (Pl lG) 2 (hp w) H g.ml) (K : Sl (Pl lG) 2 (hp w) N g.ms) (hm : vO g = some r) :
  nq false pg0 78 [(.agg #[(.string g.lH.Name), u, y, (.string g.mU), (.int .i64 g.Room), D, Q, H, N])] w 52 lE 9 r := by
 refine uk 46 func78 rfl (fun d => sg ?_)
 obtain ⟨A1, c2, rfl⟩ := c.form
 obtain ⟨A3, c4, rfl⟩ := x.form
 obtain ⟨A5, c6, rfl⟩ := B.form
 obtain ⟨A7, c8, rfl⟩ := M.form
 obtain ⟨A9, d5, rfl⟩ := G.form
 obtain ⟨d0, d6, rfl⟩ := K.form
 refine VE (mG d rfl (fun m4 m6 d => Wa (lr (VA d Mh (C2 g.lH.Name A1 g.lH.lZ.length c2 A3 g.lH.mq.length c4 g.mU g.Room A5 g.lV.length c6 A7 g.Shown.length c8 A9 g.ml.length d5 d0 g.ms.length d6) dX dD (bS hm fun s i4 hm => ?_)))))
 refine VE (eD d (bI _) call136 (fun hh => (Ez g (.slice A1 g.lH.lZ.length c2) (.slice A3 g.lH.mq.length c4) (.slice A5 g.lV.length c6) (.slice A7 g.Shown.length c8) (.slice A9 g.ml.length d5) (.slice d0 g.ms.length d6) _ _ hh (c.mono mK.mono (mx.refl _)) (x.mono nH.mono (mx.refl _)) (B.mono (Pl.mono _) (mx.refl _)) (M.mono (Pl.mono _) (mx.refl _)) (G.mono (Pl.mono _) (mx.refl _)) (K.mono (Pl.mono _) (mx.refl _)) i4)) ?_ (L0 := []))
 rintro _ m7 h0 m3 d f2 ad ⟨e0, c1, rfl, F⟩
 obtain rfl := c1.symm
 refine Wa (lr (Wa (lS (Wf wH (Wf xT (VB d Mh rfl rfl jE (V (mV dC rfl c) ?_)))))))
 refine Wm (ln ?_)
 replace d := d.lF (Db St)
 refine mM (fun i E W => ∃ J U I Z P, (E 15 = .int .i64 (i : Nat) ∧ E 14 = .int .i64 (g.lH.lZ.length : Nat)) ∧ mx h0 Z ∧ ST false mD w W Z (I ++ P) ∧ E 3 = e0 ∧ E 4 = J ∧ E 13 = (.slice A1 g.lH.lZ.length c2) ∧ mw 52 lE 9 J U I ∧ te s (g.lH.lZ.drop i) U = some r) g.lH.lZ.length c.len ⟨(.slice none 0 0), ([]), [], h0, _, ⟨rfl, rfl⟩, (mx.refl _), (d.lF St), rfl, rfl, rfl, (mw.nil _ _ _), hm⟩ dc dc dc (fun _ _ _ h => by obtain ⟨_, _, _, _, _, n, _⟩ := h; exact n) ?_ ?_
 ·rintro i5 E W f0 ⟨J, U, I, Z, P, ⟨m, q⟩, z, d, a2, a3, a4, A, j⟩
  obtain ⟨a, j6, g3, g2, c9⟩ := mE f0
  rw [g3] at j
  refine bg (VQ (nS (i := (i5 : Int)) (x0 := a) mC.out dC dH a4 m (c.mono mK.mono (f2.trans z)) (aF _) g2) (fun l1 ⟨_, ⟨l5, l6, rfl, f8, f9⟩, f4⟩ => V (lJ rfl (mr d.has f4 jF dH)) (VE (my d eP (fun k0 k9 d => ?_)))))
  obtain ⟨d1, d7, rfl⟩ := f8.form
  obtain ⟨d2, d8, rfl⟩ := f9.form
  let a0 := (C3 a.Signed.lD.Kind a.Signed.lD.Head.lK a.Signed.lD.Head.lN a.Signed.lD.mX a.Signed.lD.B.lK a.Signed.lD.B.lN a.Signed.lD.C.lK a.Signed.lD.C.lN a.Signed.lD.mQ d1 a.Signed.Tag.length d7 a.lM.Op a.lM.K a.lM.lC.lK a.lM.lC.lN d2 a.lM.Kids.length d8)
  refine VO (mj (.agg a0.toArray) (a0.toArray) d rfl rfl dH oc nb rfl (fun k1 d => lr (Wh a2 (Wf xZ (Wf xh (VA d Mh (lE a.Signed.lD) bD aJ (bS j fun l3 f6 j => ?_)))))))
  refine VE (eD d (bI _) call139 (fun hh => (Bs e0 s a.Signed.lD _ _ hh (F.mono nH.mono z) f6)) ?_ (L0 := []))
  rintro _ l7 e1 j9 d b1 aa ⟨m1, a7, rfl, g9⟩
  obtain rfl := a7.symm
  refine V (mV cD rfl g9) (Wi rfl (ln (CI j rfl (fun e7 j => ?_) (fun e7 j => ?_))))
  ·refine ma (Wh a3 (Wf xZ (Wf xh (VA d Mh (lE a.Signed.lD) bD aJ (VE (mH (cs := (lE a.Signed.lD).toArray) d (oE rfl) (ot aK aJ cL) (fun k3 h8 d => ?_)))))))
   replace d := d.perm (Nr (Qb (Qb Qz)) Nz)
   refine bS j fun i7 e8 j => VE (oK (enc := lE) (v := J) (vs := (.slice (some ⟨h8, 0, none⟩) 1 1)) (R := I) d nl dc pc aK oA.1 oA.2.1 rfl oA.2.2.1 oA.2.2.2 rfl rfl A (Sl.lit (enc := lE) (l := [a.Signed.lD]) nl rfl nb rfl (d.at_ (Ma Mh))) e8 (fun k4 j0 h5 d e5 => Wa (mz (mJ (lU ?_)))))
   replace d := d.lF (Kr (Db (Db St)))
   exact ⟨m, j0, i7, h5, e1, _, ⟨rfl, q⟩, (z.trans b1), (d.lF St), a2, rfl, a4, e5, (by rw [c9]; exact j)⟩
  refine nf (mJ (lU ?_))
  replace d := d.lF (Db St)
  exact ⟨m, J, U, I, e1, _, ⟨rfl, q⟩, (z.trans b1), (d.lF St), a2, a3, a4, A, (by rw [c9]; exact j)⟩
 rintro E W ⟨J, U, I, Z, P, ⟨m, q⟩, z, d, a2, a3, a4, A, j⟩
 rw [aI] at j
 refine lU (mf (sg (Wh a2 (V (mV cD rfl F) (Wm (ln (CJ j (fun c3 E W => ∃ L b6 d4, ST false mD w W Z (b6 ++ d4) ∧ E 4 = L ∧ mw 52 lE 9 L c3 b6) (fun c3 f3 => ?_) ?_)))))))
 ·refine mM (fun i E W => ∃ Y a9 T b5, (E 35 = .int .i64 (i : Nat) ∧ E 34 = .int .i64 (s.length : Nat)) ∧ ST false mD w W Z (T ++ b5) ∧ E 4 = Y ∧ E 33 = e0 ∧ mw 52 lE 9 Y a9 T ∧ uH (s.drop i) a9 = some c3) s.length F.len ⟨J, U, I, _, ⟨rfl, rfl⟩, (d.lF St), a3, rfl, A, f3⟩ dc dc dc (fun _ _ _ h => by obtain ⟨_, _, _, _, n, _⟩ := h; exact n) ?_ ?_
  ·rintro i6 E W f1 ⟨Y, a9, T, b5, ⟨m, q⟩, d, b9, c0, O, t⟩
   obtain ⟨k, j7, g7, g4, g8⟩ := mE f1
   rw [g7] at t
   refine bg (VQ (nS (i := (i6 : Int)) (x0 := k) mZ.out cD dA c0 m (F.mono nH.mono z) (aF _) g4) (fun l2 ⟨_, ⟨l8, l9, rfl, g1, c7⟩, f5⟩ => V (lJ rfl (mr d.has f5 js dA)) (VE (my d fY (fun k6 l0 d => ?_)))))
   obtain ⟨d3, d9, rfl⟩ := g1.form
   obtain ⟨b3, b7, rfl⟩ := c7.form
   let b8 := (C6 k.lC.lK k.lC.lN k.lM.Op k.lM.K k.lM.lC.lK k.lM.lC.lN d3 k.lM.Kids.length d9 b3 k.nj.length b7)
   refine VO (mj (.agg b8.toArray) (b8.toArray) d rfl rfl dA oc nb rfl (fun k7 d => ln (ma (Wh b9 (Wf Ea (VB d Mh rfl rfl eH ?_))))))
   replace d := d.perm (Nr (Qb Qz) Nz)
   refine bS t fun i9 e9 t => VE (oK (enc := lE) (v := Y) (vs := (.slice b3 k.nj.length b7)) (R := T) d nl dc pc aK oA.1 oA.2.1 rfl oA.2.2.1 oA.2.2.2 rfl rfl O (c7.mono (Pl.mono _) d.lL) e9 (fun k8 j4 h7 d e6 => Wa (mz (mJ (lU ?_)))))
   replace d := d.lF (Kr (Db St))
   exact ⟨m, j4, i9, h7, _, ⟨rfl, q⟩, (d.lF St), rfl, c0, e6, (by rw [g8]; exact t)⟩
  rintro E W ⟨Y, a9, T, b5, ⟨m, q⟩, d, b9, c0, O, t⟩
  rw [aI] at t
  refine lU ?_
  obtain rfl := sj t
  exact ⟨Y, T, _, (d.lF St), b9, O⟩
 rintro i8 E W ⟨L, b6, d4, d, i2, g0⟩ a5
 refine sg (Wh i2 (bS a5 fun l4 f7 a5 => VE (pA d call52 (xp L i8 _ _ (g0.sl nl (fun b o hq => d.at_ (Ml hq))) f7) (fun k5 j3 m2 h6 d j5 ab c5 => Wa (ln ?_)))))
 replace d := d.lF (Kr (Dr St))
 refine mu ?_
 obtain rfl := sj a5
 exact nc (v := j3) rfl rfl ⟨_, h6, rfl, d.oa (fun p hq => (Ml hq)) c5.nd, c5⟩
theorem GL (g : Value) (i r : List lC) (w : World) (a : Sl (Pl lG) 2 (hp w) g i) (hm : uy i = some r) :
  nq true pg0 151 [g] w 50 lG 2 r := by
 unfold uy at hm
 refine uk 8 func151 rfl (fun b => sg (Wa (lS (Wm ?_))))
 obtain ⟨y, B, rfl⟩ := a.form
 refine V (Bc aM rfl rfl) (ln ?_)
 rcases y with _ | z
 ·have u := a.isNil
  replace hm : some [] = some r := by rw [u] at hm; simpa [oH, maxLen] using hm
  refine vX (rfl) (sg (Wa (lt (mL ?_))))
  obtain rfl := sj hm
  exact nc (v := (.slice none 0 0)) rfl rfl ⟨_, [], rfl, b.oa (fun p d => by cases d) (by simp), mw.nil _ _ _⟩
 ·refine qx (rfl) (kg (VE (mH (cs := #[]) b sM (Bf [] aM aG dB dc rfl (by simp) rfl rfl) (fun G k b => Wm (bS hm fun H t hm => VE (oK (enc := lG) (v := (.slice (some ⟨k, 0, none⟩) 0 0)) (vs := (.slice (some z) i.length B)) (R := [(k, Ob #[] 50)]) b nF dc pJ aM oz.1 oz.2.1 rfl oz.2.2.1 oz.2.2.2 rfl rfl (mw.lit (l := []) (enc := lG) rfl dc rfl rfl) (a.mono (Pl.mono _) b.lL) t (fun D x j b c => Wa (lt ?_))))))))
  obtain rfl := sj hm
  exact nc (v := x) rfl rfl ⟨_, j, rfl, b.oa (fun p d => (Ml d)) c.nd, c⟩
theorem Eb (g : Value) (t : List lC) (j : Value) (B : lC → Option Bool) (r : Int) (w : World) (c : Sl (Pl lG) 2 (hp w) g t) (D : Al pg0 j (hp w) (fun (x : lC) => [(.agg (lG x).toArray)]) (fun (r : Bool) => (.bool r)) B) (hm : wX t B = some r) :
  mo false pg0 206 [g, j] w (.int .i64 r) := by
 refine cG 19 func206 rfl (fun b => sg (Wa (lS (Wm (V (mV aM rfl c) (Wm (ln (mM (fun i E W => ∃ k, (E 8 = .int .i64 (i : Nat) ∧ E 7 = .int .i64 (t.length : Nat)) ∧ ST false mD w W (hp w) k ∧ E 0 = g ∧ E 1 = j ∧ qS B (t.drop i) i = some r) t.length c.len ⟨_, ⟨rfl, rfl⟩, (b.lF St), rfl, rfl, hm⟩ dc dc dc (fun _ _ _ h => by obtain ⟨_, l, _⟩ := h; exact l) ?_ ?_))))))))
 ·rintro Q E W H ⟨k, ⟨d, m⟩, b, u, y, a⟩
  obtain ⟨z, T, M, K, N⟩ := mE H
  rw [M] at a
  refine bg (Wh d (Wa (lr (Wh y (Wh u (Wm (VQ (og (enc := lG) (i := (Q : Int)) (x0 := z) aM aG rfl rfl c (aF _) K) (fun Y I => V (lJ rfl (mr b.has I aT aG)) (bS a fun Z J a => ?_)))))))))
  refine VE (NP z b D (mx.refl _) rfl (vc rfl) J (fun U b => ln (CI a rfl (fun G a => ?_) (fun G a => ?_))))
  ·refine sg (Wm (Wa (lt (nY (mL (nY (mL ?_)))))))
   obtain rfl := sj a
   exact rP b
  exact nf (mJ (lU ⟨d, _, ⟨rfl, m⟩, (b.lF St), u, y, (by rw [N]; exact a)⟩))
 rintro E W ⟨k, ⟨d, m⟩, b, u, y, a⟩
 rw [aI] at a
 exact lU (sg (Wa (lt (rQ a b))))
theorem zJ (j : Value) (a0 : List lC) (t : LO) (H : Value) (f1 : lC → Option Bool) (r : List lC) (w : World) {μ0 : mN} (h0 : pC μ0 (t ++ []) w) (T : mw 50 lG 2 j a0 t) (a4 : Al pg0 H μ0 (fun (x : lC) => [(.agg (lG x).toArray)]) (fun (r : Bool) => (.bool r)) f1) (hm : rE a0 f1 = some r) :
  nJ false pg0 148 [j, H] w (t ++ []) (fun v L1 W' => ∃ q S2, v = q ∧ L1 = (S2 ++ []) ∧ mw 50 lG 2 q r S2) := by
 refine Bo h0 42 func148 rfl (fun d => sg (Wa (lr (Wm (Wm (bS hm fun n d3 hm => VE (Eg d call206 (Eb j a0 H f1 _ _ (T.sl nF (fun b o h => d.at_ (Ml h))) (a4.mono d.lL) d3) (fun W3 d => Wa (ln ?_)))))))))
 refine mf (sg (Wm (Wi rfl (ln (CI hm rfl (fun d2 hm => ?_) (fun d2 hm => ?_))))))
 ·refine sg (Wm (Wa (lt (mL ?_))))
  obtain rfl := sj hm
  exact nc (v := j) rfl rfl ⟨_, _, rfl, (d.ov (Kr Sn)), j, t, rfl, rfl, T⟩
 refine kS (Wm (Wi rfl (Wa (ln (nL (pn (fun m E W => ∃ U I B D a2, ST false (keys (t ++ [])) w W μ0 (I ++ a2) ∧ E 0 = j ∧ E 1 = H ∧ E 5 = (.int .i64 B) ∧ E 6 = (.int .i64 D) ∧ mw 50 lG 2 j U I ∧ pI f1 m U B D = some r) mR ⟨a0, t, n, (wi0 .i64 (n + 1)), _, (d.lF St), rfl, rfl, rfl, rfl, T, hm⟩ ?_))))))
 rintro m E W ⟨U, I, B, D, a2, d, y, Q, G, K, g, a⟩
 cases m with
 | zero => rw [pI] at a; cases a
 | succ c8 =>
  refine mf (sg (Wh K (Wh y (V (oZ aM rfl g) (Wi rfl (ln (CI a rfl (fun A a => ?_) (fun A a => ?_))))))))
  ·refine kn (mf (CJ a (fun Y E W => ∃ J a3, ST false (keys (t ++ [])) w W μ0 (J ++ a3) ∧ E 0 = j ∧ E 1 = H ∧ E 5 = (.int .i64 Y.2) ∧ E 6 = (.int .i64 D) ∧ mw 50 lG 2 j Y.1 J) (fun Y c => ?_) ?_))
   ·refine bg (Wh y (Wh K (bS c fun k M c => VQ (oS (i := D) (x0 := k) aM aG rfl rfl g (mF M) (mA M)) (fun e4 O => V (lJ rfl (qp d.has (fun p h => (Ml h)) g nF O (mA M) aT aG)) (VE (my d dB (fun d7 e2 d => VO (mj (.agg (lG k).toArray) ((lG k).toArray) d rfl rfl aG (pJ k) nb rfl (fun d8 d => lr (Wh Q ?_))))))))))
    refine VA d Mh (lG k) aT aG (bS c fun e6 R c => VE (NP k d a4 (mx.refl _) rfl (vc rfl) R (fun d9 d => V (oy rfl) (ln (CI c rfl (fun F c => ?_) (fun F c => ?_))))))
    ·refine sg (Wh y (Wh G (VA d Mh (lG k) aT aG (bS c fun d0 N c => VQ (oS (i := B) (x0 := d0) aM aG rfl rfl g (mF N) (mA N)) (fun e5 P => ?_)))))
     replace d := d.perm (Nr (Qb Qz) Nz)
     refine VO (Bj (u := (.agg (lG k).toArray)) (x1 := k)  d g nF pJ rfl rfl rfl P (mA N) aG (fun e0 c1 d s => ln ?_))
     replace d := d.lF (Kr (Db St))
     refine ma (Wh G (Wi rfl (Wa (mz (mJ (lU ?_))))))
     obtain rfl := sj c
     exact ⟨c1, _, (d.lF St), y, Q, rfl, K, s⟩
    refine nf (mJ (lU ?_))
    obtain rfl := sj c
    exact ⟨I, _, (d.lF (Db St)), y, Q, G, K, g⟩
   rintro ⟨c7, c9⟩ E W ⟨J, a3, d, c3, c4, c5, c6, b6⟩ L
   exact ma (Wh c6 (Wi rfl (Wa (ln ⟨c8, bF _, c7, J, c9, (wi0 .i64 (D + 1)), _, (d.lF St), c3, c4, c5, rfl, b6, L⟩))))
  refine pk (oR (oR (tE (lU (sg (Wh y (Wh G (bS a fun _ Z a => VQ (xG (i := B) aM aG rfl rfl g (ue Z) (tL Z)) (fun e7 b7 => VO (AG (z := K0)  d g nF pJ aM dB b7 rfl rfl (fun e1 c2 d a9 => lr (Wh y ?_))))))))))))
  refine Wh G (bS a fun _ l a => VQ (xn (i := B) aM aG rfl rfl a9 nF (ue l) (tL l)) (fun a5 b9 => Wa (lt ?_)))
  obtain rfl := sj a
  exact nc (v := a5) rfl rfl ⟨_, _, rfl, (d.ov (Kr Sn)), a5, c2, rfl, rfl, b9⟩
theorem Mo (a : lC) (r : Bool) (w : World) (hm : AS a = some r) :
  mo true pg0 152 [(.agg (lG a).toArray)] w (.bool r) := by
 refine cG 6 func152 rfl (fun b => sg (VE (mG b rfl (fun g j b => Wa (lr (VA b Mh (lG a) aT aG (bS hm fun k c hm => VE (Eg b kT (tZ a _ _  c) (fun i b => V (oy rfl) (Wa (mz ?_)))))))))))
 refine lU ?_
 exact mu (rQ hm b)
theorem Qe (c : Value) (k : List lC) (a : LO) (g : Value) (t : (lC × lC) → Option Int) (r : List lC) (w : World) {y : mN} (u : pC y (a ++ []) w) (i : mw 50 lG 2 c k a) (j : Vt pg0 g y (fun (x : (lC × lC)) => [(.agg (lG x.1).toArray), (.agg (lG x.2).toArray)]) (fun (r : Int) => (.int .i64 r)) t) (hm : AT t k = some r) :
  nJ true pg0 154 [c, g] w (a ++ []) (fun v z W' => ∃ S, v = (.tuple #[]) ∧ z = (S ++ []) ∧ mw 50 lG 2 c r S) := IE (P := pg0) (ρ := RN) Vo 2 aT aG lG nF pJ u.H u.S i j hm
theorem FE (j : Value) (a0 : List lC) (x : LO) (r : List lC) (w : World) {μ0 : mN} (h0 : pC μ0 (x ++ []) w) (B : mw 50 lG 2 j a0 x) (hm : vK a0 = some r) :
  nJ true pg0 156 [j] w (x ++ []) (fun v L1 W' => ∃ y1 S2, v = y1 ∧ L1 = (S2 ++ []) ∧ mw 50 lG 2 y1 r S2) := by
 refine Bo h0 61 func156 rfl (fun b => sg (Wa (lS (Wm (V (oZ aM rfl B) (Wi rfl (ln (CI hm rfl (fun g0 hm => ?_) (fun g0 hm => ?_)))))))))
 ·refine sg (Wm (Wa (lt (mL ?_))))
  obtain rfl := sj hm
  exact nc (v := j) rfl rfl ⟨_, _, rfl, (b.ov (Kr Sn)), j, x, rfl, rfl, B⟩
 refine kS (Wa (ln (nL (pn (fun m E W => ∃ t P, ST true (keys (x ++ [])) w W μ0 (x ++ P) ∧ E 0 = j ∧ E 3 = (.int .i64 t) ∧ qu a0 m t = some r) mR ⟨1, _, (b.lF St), rfl, rfl, hm⟩ ?_))))
 rintro m E W ⟨t, P, b, D, H, a⟩
 cases m with
 | zero => rw [qu] at a; cases a
 | succ f5 =>
  refine mf (sg (Wh H (Wh D (V (oZ aM rfl B) (Wi rfl (ln (CI a rfl (fun d0 a => ?_) (fun d0 a => ?_))))))))
  ·refine kn (mf (nL (mf ?_)))
   replace b := b.drew
   have d := b.has.lF (Kr Sn)
   refine mT d mB (X 0 rfl d (lP D) (X 1 rfl d (lP H) (bS a fun c3 Z a => XQ 2 rfl d (oS (i := t) (x0 := c3) aM aG rfl rfl B (mF Z) (mA Z)) (fun g7 d6 => XH 3 rfl d (fun _ l => lJ rfl (qp l (fun p h => (Ml h)) B nF d6 (mA Z) aT aG)) (X 4 rfl d (lP D) (X 5 rfl d (lP H) (X 6 rfl d (mP rfl rfl rfl) (bS a fun c4 n a => XQ 7 rfl d (oS (i := (wi0 .i64 (t - 1))) (x0 := c4) aM aG rfl rfl B (mF n) (mA n)) (fun g8 d7 => XH 8 rfl d (fun _ l => lJ rfl (qp l (fun p h => (Ml h)) B nF d7 (mA n) aT aG)) (X 9 rfl d (vx rfl rfl (oI dK) (rA (pX _ c3 c4))) (nh kr (lU ?_))))))))))))
   refine CI a rfl (fun d1 a => ?_) (fun d1 a => ?_)
   ·refine sg (Wh D (Wh H (bS a fun _ A a => VQ (xG (i := t) aM aG rfl rfl B (ue A) (tL A)) (fun c1 M => Wa (lS (Wa (ln ?_)))))))
    refine CJ a (fun U E W => ∃ o R, ST true (keys (x ++ [])) w W μ0 (o ++ R) ∧ E 0 = j ∧ E 3 = (.int .i64 U.2) ∧ mw 50 lG 2 j U.1 o) (fun U d4 => ?_) ?_
    ·refine nL (pn (fun m E W => ∃ q K Y y b6, ST true (keys (x ++ [])) w W μ0 (K ++ b6) ∧ E 0 = j ∧ E 3 = (.int .i64 Y) ∧ E 4 = c1 ∧ E 5 = (.int .i64 y) ∧ mw 50 lG 2 j q K ∧ ql t m q Y y = some U) mR ⟨a0, x, t, 1, _, (b.lF St), D, H, rfl, rfl, B, d4⟩ ?_)
     rintro m E W ⟨q, K, Y, y, b6, b, Q, T, I, J, g, k⟩
     cases m with
     | zero => rw [ql] at k; cases k
     | succ f6 =>
      refine mf (sg (Wh J (Wh I (V (G0 aM rfl M g) (Wi rfl (ln (CI k rfl (fun d2 k => ?_) (fun d2 k => ?_))))))))
      ·refine kn (mf (CJ k (fun s E W => ∃ N b7, ST true (keys (x ++ [])) w W μ0 (N ++ b7) ∧ E 0 = j ∧ E 3 = (.int .i64 s.2) ∧ E 4 = c1 ∧ E 5 = (.int .i64 y) ∧ mw 50 lG 2 j s.1 N) (fun s c => ?_) ?_))
       ·refine nL (mf ?_)
        replace b := b.drew
        have d := b.has.lF (Kr Sn)
        refine mT d mB (X 0 rfl d (lP I) (X 1 rfl d (lP J) (bS c fun c6 a2 c => XQ 2 rfl d (xJ (i := y) (x0 := c6) aM aG rfl rfl g M (mF a2) (mA a2)) (fun g9 d8 => XH 3 rfl d (fun _ l => lJ rfl (qp l (fun p h => (Ml h)) g nF d8 (zI (mA a2)) aT aG)) (X 4 rfl d (lP I) (X 5 rfl d (lP J) (X 6 rfl d (mP rfl rfl rfl) (bS c fun c7 a3 c => XQ 7 rfl d (xJ (i := (wi0 .i64 (y - 1))) (x0 := c7) aM aG rfl rfl g M (mF a3) (mA a3)) (fun h1 d9 => XH 8 rfl d (fun _ l => lJ rfl (qp l (fun p h => (Ml h)) g nF d9 (zI (mA a3)) aT aG)) (X 9 rfl d (Gk rfl rfl (oI dK) (BW (pX _ c6 c7))) (nh kr (lU ?_))))))))))))
        refine CI c rfl (fun d3 c => ?_) (fun d3 c => ?_)
        ·refine sg (Wh Q (Wh T (Wh I (Wh J (bS c fun a9 a4 c => VQ (xJ (i := y) (x0 := a9) aM aG rfl rfl g M (mF a4) (mA a4)) (fun h2 e0 => V (lJ rfl (qp b.has (fun p h => (Ml h)) g nF e0 (zI (mA a4)) aT aG)) (bS c fun f8 a5 c => VQ (oS (i := Y) (x0 := f8) aM aG rfl rfl g (mF a5) (mA a5)) (fun h3 e1 => VO (Bj (u := (.agg (lG a9).toArray)) (x1 := a9)  b g nF pJ rfl rfl rfl e1 (mA a5) aG (fun g3 e8 b c9 => ln (ma ?_)))))))))))
         refine Wh T (Wi rfl (Wa (mz (mJ (lU ?_)))))
         obtain rfl := sj c
         exact ⟨e8, _, (b.lF St), Q, rfl, I, J, c9⟩
        refine nf (mJ (lU ?_))
        obtain rfl := sj c
        exact ⟨K, _, (b.lF St), Q, T, I, J, g⟩
       rintro ⟨f4, f7⟩ E W ⟨N, b7, b, f0, f1, f2, f3, e4⟩ d5
       exact ma (Wh f3 (Wi rfl (Wa (ln ⟨f6, bF _, f4, N, f7, (wi0 .i64 (y + 1)), _, (b.lF St), f0, f1, f2, rfl, e4, d5⟩))))
      refine pk (oR (oR (tE (lU ?_))))
      obtain rfl := sj k
      exact ⟨K, _, (b.lF St), Q, T, g⟩
    rintro ⟨g4, c5⟩ E W ⟨o, R, b, b9, c0, O⟩ G
    refine sg (Wh b9 (Wh c0 (bS G fun _ F G => VQ (xG (i := c5) aM aG rfl rfl O (ue F) (tL F)) (fun h4 e2 => VO (AG (z := K0)  b O nF pJ aM dB e2 rfl rfl (fun g2 e7 b c8 => lr (Wh b9 (Wh c0 (bS G fun _ L G => VQ (xn (i := c5) aM aG rfl rfl c8 nF (ue L) (tL L)) (fun c2 e3 => ?_))))))))))
    refine Wa (lt (nY (mL (mL (nY (mL ?_))))))
    obtain rfl := sj G
    exact nc (v := c2) rfl rfl ⟨_, _, rfl, (b.ov (Kr Sn)), c2, e7, rfl, rfl, e3⟩
   exact nf (mJ (lU (ma (Wh H (Wi rfl (Wa (ln ⟨f5, bF _, (wi0 .i64 (t + 1)), _, (b.lF St), D, rfl, a⟩)))))))
  refine pk (oR (oR (tE (lU (sg (Wh D (Wa (lt ?_))))))))
  obtain rfl := sj a
  exact nc (v := j) rfl rfl ⟨_, _, rfl, (b.ov (Kr Sn)), j, x, rfl, rfl, B⟩
theorem xg (i : Value) (t r : List lC) (w : World) (B : Sl (Pl lG) 2 (hp w) i t) (hm : pG t = some r) :
  nq false pg0 86 [i] w 50 lG 2 r := by
 refine uk 11 func86 rfl (fun b => sg (Wa (lr (Wm (bS hm fun u T hm => VE (pA b call151 (nq.nz (GL i t _ _ (B.mono (Pl.mono _) b.lL) T)) (fun W3 v7 y R8 b a5 o Q => bS hm fun U D hm => ?_)))))))
 refine VE (eM b (Cr Qz Cn) call148 (fun h _ => (zJ v7 u R8 (.func (.func 152) #[] #[]) (fun (x : lC) => AS x) _ _ h Q ⟨152, #[], #[], rfl, call152, fun W x r s hm => (Mo x r W  hm).nz⟩ D)) ?_)
 rintro _ O b9 A b z l d ⟨k, K, a, rfl, I⟩
 obtain rfl := a.symm
 replace b := b.perm (Tr Tn)
 refine Wa (lr (Wm (bS hm fun Y G hm => ?_)))
 refine VE (eM b (Cr Qz Cn) call154 (fun h _ => nJ.nz (Qe k U K (.func (.func 155) #[] #[]) (fun (x : (lC × lC)) => pQ x.1 x.2) _ _ h I ⟨155, #[], rfl, call155, fun W x r s hm => BR x.1 x.2 r W  hm⟩ G)) ?_)
 rintro _ P c0 a9 b a2 m d ⟨M, c, rfl, J⟩
 obtain rfl := c.symm
 replace b := b.perm (Tr Tn)
 refine lr (Wm (bS hm fun L H hm => ?_))
 refine VE (eM b (Cr Qz Cn) call156 (fun h _ => nJ.nz (FE k Y M _ _ h J H)) ?_)
 rintro _ R c1 F b a3 n d ⟨Z, N, g, rfl, j⟩
 obtain rfl := g.symm
 replace b := b.perm (Tr Tn)
 refine Wa (lt ?_)
 obtain rfl := sj hm
 exact nc (v := Z) rfl rfl ⟨_, N, rfl, b.oa (fun p q => (Ml q)) j.nd, j⟩
theorem GN (Q : Nat) (G : Value) (I : List lD) (c : Value) (t : List (lC × Bool)) (g : Value) (u : List (ByteArray × Bool)) (i : Value) (j : List (lD × Bool)) (J : lD) (r : Bool) (w : World) (Y : Sl (Pl lE) 9 (hp w) G I) (B : sS (fun (x : lC) => (.agg (lG x).toArray)) (fun (x : Bool) => (Value.bool x)) (hp w) c t) (H : sS Value.string (fun (x : Bool) => (Value.bool x)) (hp w) g u) (N : sS (fun (x : lD) => (.agg (lE x).toArray)) (fun (x : Bool) => (Value.bool x)) (hp w) i j) (K : At (hp w) (.pointer (some ⟨Q, 0, none⟩)) [G, c, g, i]) (hm : zb I t u j J = some r) :
  mo true pg0 204 [(.pointer (some ⟨Q, 0, none⟩)), (.agg (lE J).toArray)] w (.bool r) := by
 refine cG 22 func204 rfl (fun l => sg (VE (mG l rfl (fun W2 q l => Wa (ln (mf ?_))))))
 replace l := l.drew
 have d := l.has.lF (Kb Sn)
 refine mT d mB (X 0 rfl d (lP rfl) (X 1 rfl d (nN rfl) (XQ 2 rfl d (uq [c] KM rfl K rfl) (fun s a0 => XH 3 rfl d (fun _ m => lJ rfl (po m (y := c) a0 isAgg75)) (X 4 rfl d (lO sD rfl) (XH 5 rfl d (fun _ m => lJ rfl (lQ m Mh (lG J.Head) rfl aT aG)) (XH 6 rfl d (fun _ m => xi (k := J.Head) (z := false) (vf := (fun (x : Bool) => (Value.bool x))) A0 underlying75 iN rfl rfl (B.mono (fun b o n => m.1 b o n))) (X 7 rfl d (lP rfl) (PJ hm (fun U E W => ∃ T, ST true mD w W (hp w) ((q, Ol (lE J) 52) :: T) ∧ E 4 = (.bool false) ∧ E 21 = (.bool U)) (bm 18 131071) 1 ?_ (fun U D M => ?_))))))))))
 ·rintro A E W ⟨T, l, a5, a3⟩ Z
  have d := l.has.lF (Kb Sn)
  refine X 17 rfl d (oD a3) (nh kr (lU ?_))
  exact mu (rQ Z l)
 refine bC D (fun a D => ?_) (fun a D => ?_)
 ·refine Xn 8 rfl rfl (cB a) d (Xn 9 rfl rfl (cB a) d (Xn 10 rfl rfl (cB a) d (Xn 11 rfl rfl (cB a) d (Xn 12 rfl rfl (cB a) d (Xn 13 rfl rfl (cB a) d (Xn 14 rfl rfl (cB a) d (Xn 15 rfl rfl (cB a) d (X 16 rfl d (mh (cB a) rfl) ?_))))))))
  obtain rfl := sj D
  refine nu kr (M _ _ ⟨_, (l.lF St), rfl, rfl⟩)
 refine Xg 8 rfl rfl (cB a) d (lP rfl) (Xg 9 rfl rfl (cB a) d (nN rfl) (uE 10 rfl kr (.inr ⟨7, false, 12, rfl, rfl, by decide, (cB a)⟩) rfl dc (fun _ _ h => h) d (uq [g] Oz rfl K rfl) (fun v a2 => rz 11 rfl rfl (cB a) d (fun _ m => lJ rfl (po m (y := g) a2 isAgg190)) (Xg 12 rfl rfl (cB a) d (lO sD rfl) (Xg 13 rfl rfl (cB a) d (lO vS rfl) (rz 14 rfl rfl (cB a) d (fun _ m => lJ rfl (lX m Mh rfl bO)) (rz 15 rfl rfl (cB a) d (fun _ m => xi (k := J.Head.lN) (z := false) (vf := (fun (x : Bool) => (Value.bool x))) Hp gC iN rfl rfl (H.mono (fun b o n => m.1 b o n))) (X 16 rfl d (mi (cB a) rfl) ?_))))))))
 obtain rfl := sj D
 refine nu kr (M _ _ ⟨_, (l.lF St), rfl, rfl⟩)
theorem FZ (H : Nat) (z : Value) (a0 : List lD) (a : Value) (D : List (lC × Bool)) (j : LO) (g : Value) (G : List (ByteArray × Bool)) (t : LO) (c : Value) (B : List (lD × Bool)) (u : LO) (U : lD) (r : ((List (lC × Bool)) × (List (ByteArray × Bool)) × (List (lD × Bool)))) (w : World) {μ0 : mN} (h0 : pC μ0 ((H, Ob #[z, a, g, c] 208) :: (j ++ (t ++ (u ++ [])))) w) (b9 : Sl (Pl lE) 9 μ0 z a0) (N : na (fun (x : lC) => (.agg (lG x).toArray)) (fun (x : Bool) => (Value.bool x)) a D j) (I : na Value.string (fun (x : Bool) => (Value.bool x)) g G t) (K : na (fun (x : lD) => (.agg (lE x).toArray)) (fun (x : Bool) => (Value.bool x)) c B u) (hm : wh a0 D G B U = some r) :
  nJ true pg0 205 [(.pointer (some ⟨H, 0, none⟩)), (.agg (lE U).toArray)] w ((H, Ob #[z, a, g, c] 208) :: (j ++ (t ++ (u ++ [])))) (fun v L1 W' => ∃ S1 S3 S5, v = (.tuple #[]) ∧ L1 = ((H, Ob #[z, a, g, c] 208) :: (S1 ++ (S3 ++ (S5 ++ [])))) ∧ na (fun (x : lC) => (.agg (lG x).toArray)) (fun (x : Bool) => (Value.bool x)) a r.1 S1 ∧ na Value.string (fun (x : Bool) => (Value.bool x)) g r.2.1 S3 ∧ na (fun (x : lD) => (.agg (lE x).toArray)) (fun (x : Bool) => (Value.bool x)) c r.2.2 S5) := by
 refine Bo h0 34 func205 rfl (fun b => sg (VE (mG b rfl (fun W2 A b => ln (mf ?_)))))
 replace b := b.drew
 have d := b.has.lF (Kb (Kb Sn))
 refine mT d mB (X 0 rfl d (lP rfl) (X 1 rfl d (nN rfl) (X 2 rfl d (lO Cf rfl) (XH 3 rfl d (fun _ l => lJ rfl (lX l (Mt Mh) rfl lB)) (XH 4 rfl d (fun _ l => lJ rfl (lQ l Mh (lE U) rfl bD aJ)) ?_)))))
 replace b := b.perm (Nr (Qb (Qb (Qr (Qr Qz)))) Nz)
 refine XO 5 rfl (Cl (k := U) (v := true) (vf := (fun (x : Bool) => (Value.bool x)))  RV iS b K rfl rfl rfl (fun W9 a5 b q => ?_))
 have d := b.has.lF (Dr (Kb (Kb Sn)))
 refine ⟨d, (nh kr (lU (mf (sg (VA b (Ma Mh) (lE U) bD aJ (bS hm fun m c0 hm => VE (pA b call243 (HP U _ _  c0) (fun e5 e6 e7 e4 b d3 L b7 => ?_))))))))⟩
 obtain ⟨d2, b, d4, O, c1⟩ := ST.Ap b b7 nF
 refine bS hm fun _ s hm => VQ (EV (i := 1) aM aG rfl rfl c1 (ue s) (tL s)) (fun d0 a4 => V (mV aM rfl a4.1) (Wm (ln (mM (fun i E W => ∃ Q J a2, (E 15 = .int .i64 (i : Nat) ∧ E 14 = .int .i64 ((m.drop (Int.toNat 1)).length : Nat)) ∧ ST true (keys ((H, Ob #[z, a, g, c] 208) :: (j ++ (t ++ (u ++ []))))) w W d2 ((A, Ol (lE U) 52) :: ((H, Ob #[z, a, g, c] 208) :: (J ++ (a5 ++ (t ++ a2))))) ∧ E 0 = (.pointer (some ⟨H, 0, none⟩)) ∧ E 3 = (.pointer (some ⟨A, 0, none⟩)) ∧ E 13 = d0 ∧ na (fun (x : lC) => (.agg (lG x).toArray)) (fun (x : Bool) => (Value.bool x)) a Q J ∧ qK U G B ((m.drop (Int.toNat 1)).drop i) Q = some r) (m.drop (Int.toNat 1)).length a4.1.len ⟨D, j, _, ⟨rfl, rfl⟩, (b.lF (Sb (Pr Pz) (Sb (Pr Pz) (Sr (Qr Qz) St)))), rfl, rfl, rfl, N, hm⟩ dc dc dc (fun _ _ _ h => by obtain ⟨_, _, _, o, _⟩ := h; exact o) ?_ ?_))))
 ·rintro c9 E W b3 ⟨Q, J, a2, ⟨n, F⟩, b, Y, Z, a3, M, y⟩
  obtain ⟨T, e3, c3, c2, c4⟩ := mE b3
  rw [c3] at y
  refine bg (VQ (og (enc := lG) (i := (c9 : Int)) (x0 := T) aM aG a3 n a4.1 (aF _) c2) (fun e2 b4 => V (lJ rfl (mr b.has b4 aT aG)) (VE (my b dB (fun d6 e0 b => VO (mj (.agg (lG T).toArray) ((lG T).toArray) b rfl rfl aG (pJ T) nb rfl (fun d7 b => ln ?_)))))))
  replace b := b.drew
  have d := b.has.lF (Kb (Db (Kb Sn)))
  refine mT d mB (X 0 rfl d (lP Y) (X 1 rfl d (nN rfl) (X 2 rfl d (lO KM rfl) (XH 3 rfl d (fun _ l => lJ rfl (lX l (Mt Mh) rfl isAgg75)) (XH 4 rfl d (fun _ l => lJ rfl (lQ l Mh (lG T) rfl aT aG)) ?_)))))
  replace b := b.perm (Nr (Qb (Qb (Qb Qz))) Nz)
  refine XO 5 rfl (Cl (k := T) (v := true) (vf := (fun (x : Bool) => (Value.bool x)))  A0 underlying75 b M rfl rfl rfl (fun d8 b5 b a9 => ?_))
  have d := b.has.lF (Dr (Kb (Db (Kb Sn))))
  refine ⟨d, (nh kr (mJ (lU ?_)))⟩
  replace b := b.lF (Kr (Db St))
  exact ⟨n, (pu me Q T true), b5, _, ⟨rfl, F⟩, (b.lF (Sb (Pr Pz) (Sb (Pr Pz) St))), Y, Z, a3, a9, (by rw [c4]; exact y)⟩
 rintro E W ⟨Q, J, a2, ⟨n, F⟩, b, Y, Z, a3, M, y⟩
 rw [aI] at y
 refine lU (sg (V (lO sx Z) (VB b Mh rfl rfl cH (Wi rfl (ln (CI y rfl (fun R y => ?_) (fun R y => ?_)))))))
 ·replace b := b.drew
  have d := b.has.lF (Kb (Kb Sn))
  refine mT d mB (X 0 rfl d (lP Y) (X 1 rfl d (nN rfl) (X 2 rfl d (lO Oz rfl) (XH 3 rfl d (fun _ l => lJ rfl (lX l (Mt Mh) rfl isAgg190)) (X 4 rfl d (lO wK Z) (XH 5 rfl d (fun _ l => lJ rfl (lX l Mh rfl bO)) ?_))))))
  replace b := b.perm (Nr (Qb (Qb (Qr (Qr Qz)))) Nz)
  refine XO 6 rfl (Cl (k := U.mQ) (v := true) (vf := (fun (x : Bool) => (Value.bool x)))  Hp gC b I rfl rfl rfl (fun d9 b6 b P => ?_))
  have d := b.has.lF (Dr (Kb (Kb Sn)))
  refine ⟨d, (nh kr (rR ?_))⟩
  obtain rfl := sj y
  exact qv rfl ⟨_, _, rfl, (b.ov (Sb (Pr (Pb Pz)) (Sr (Qr (Qb Qz)) (Kr (Db (Kr Sn)))))), J, b6, a5, rfl, rfl, M, P, q⟩
 refine nf (rR ?_)
 obtain rfl := sj y
 exact qv rfl ⟨_, _, rfl, (b.ov (Db (Kb (Kr (Sr (Qr Qz) (Kr Sn)))))), J, t, a5, rfl, rfl, M, I, q⟩
theorem FP (D : Nat) (j : Value) (G : List lD) (c : Value) (a4 : List (lC × Bool)) (u : LO) (g : Value) (a5 : List (ByteArray × Bool)) (B : LO) (a : Value) (y : List (lD × Bool)) (t : LO) (f7 : Value) (a1 : List lC) (r : (Int × (List (lC × Bool)) × (List (ByteArray × Bool)) × (List (lD × Bool)))) (w : World) {μ0 : mN} (h0 : pC μ0 ((D, Ob #[j, c, g, a] 208) :: (u ++ (B ++ (t ++ [])))) w) (M : Sl (Pl lE) 9 μ0 j G) (d7 : na (fun (x : lC) => (.agg (lG x).toArray)) (fun (x : Bool) => (Value.bool x)) c a4 u) (e4 : na Value.string (fun (x : Bool) => (Value.bool x)) g a5 B) (b2 : na (fun (x : lD) => (.agg (lE x).toArray)) (fun (x : Bool) => (Value.bool x)) a y t) (m3 : Sl (Pl lG) 2 μ0 f7 a1) (hm : tX G a4 a5 y a1 = some r) :
  nJ false pg0 146 [(.pointer (some ⟨D, 0, none⟩)), f7] w ((D, Ob #[j, c, g, a] 208) :: (u ++ (B ++ (t ++ [])))) (fun v L1 W' => ∃ S1 S3 S5, v = (.int .i64 (r.1)) ∧ L1 = ((D, Ob #[j, c, g, a] 208) :: (S1 ++ (S3 ++ (S5 ++ [])))) ∧ na (fun (x : lC) => (.agg (lG x).toArray)) (fun (x : Bool) => (Value.bool x)) c r.2.1 S1 ∧ na Value.string (fun (x : Bool) => (Value.bool x)) g r.2.2.1 S3 ∧ na (fun (x : lD) => (.agg (lE x).toArray)) (fun (x : Bool) => (Value.bool x)) a r.2.2.2 S5) := by
 let h7 : Value := (.int .i64 (y.length : Int))
 let g6 : Value := (.pointer (some ⟨D, 0, none⟩))
 let g5 := (#[j, c, g, a] : Array Value)
 let b8 := ((D, Obj.cells g5 208 (0, 0)) :: (u ++ (B ++ (t ++ []))))
 refine Bo h0 75 func146 rfl (fun d => sg (Wa (lS (Wm (V (uc underlying150 rfl rfl) (ln (qx rfl (nf ?_))))))))
 refine lU (mf (sg (Wm (bS hm fun r1 n3 hm => VE (pA d call86 (xg f7 a1 _ _ (m3.mono (Pl.mono _) d.lL) n3) (fun W3 v7 s R8 d f5 ae h2 => V (oZ aM rfl h2) (Wm (ln (mM (fun i E W => ∃ e1 e8 f3, (E 16 = .int .i64 (i : Nat) ∧ E 15 = .int .i64 (r1.length : Nat)) ∧ ST false (keys b8) w W s ((D, Obj.cells g5 208 (0, 0)) :: (e8 ++ (R8 ++ (B ++ (t ++ f3))))) ∧ E 0 = g6 ∧ E 14 = v7 ∧ na (fun (x : lC) => (.agg (lG x).toArray)) (fun (x : Bool) => (Value.bool x)) c e1 e8 ∧ pM G a5 y (r1.drop i) e1 = some r) r1.length h2.len ⟨a4, u, _, ⟨rfl, rfl⟩, (d.lF (Sb (Pr Pz) (Sr (Qr Qz) St))), rfl, rfl, d7, hm⟩ dc dc dc (fun _ _ _ h => by obtain ⟨_, _, _, R, _⟩ := h; exact R) ?_ ?_)))))))))
 ·rintro n4 E W m4 ⟨e1, e8, f3, ⟨A, eN⟩, d, d6, f4, f6, a6⟩
  obtain ⟨d9, p7, m5, j7, m6⟩ := mE m4
  rw [m5] at a6
  refine bg (VQ (oS (i := (n4 : Int)) (x0 := d9) aM aG f4 A h2 (aF _) j7) (fun p4 l3 => V (lJ rfl (qp d.has (fun p n => (Mt (Ma (Ml n)))) h2 nF l3 j7 aT aG)) (VE (my d dB (fun o9 p2 d => VO (mj (.agg (lG d9).toArray) ((lG d9).toArray) d rfl rfl aG (pJ d9) nb rfl (fun p0 d => ln ?_)))))))
  replace d := d.drew
  have l := d.has.lF (Kb (Kb Sn))
  refine mT l mB (X 0 rfl l (lP d6) (X 1 rfl l (nN rfl) (X 2 rfl l (lO KM rfl) (XH 3 rfl l (fun _ q => lJ rfl (lX q (Mt Mh) rfl isAgg75)) (XH 4 rfl l (fun _ q => lJ rfl (lQ q Mh (lG d9) rfl aT aG)) ?_)))))
  replace d := d.perm (Nr (Qb (Qb Qz)) Nz)
  refine XO 5 rfl (Cl (k := d9) (v := true) (vf := (fun (x : Bool) => (Value.bool x)))  A0 underlying75 d f6 rfl rfl rfl (fun p1 m1 d l2 => ?_))
  have l := d.has.lF (Dr (Kb (Kb Sn)))
  refine ⟨l, (nh kr (mJ (lU ?_)))⟩
  replace d := d.lF (Kr (Db St))
  exact ⟨A, (pu me e1 d9 true), m1, _, ⟨rfl, eN⟩, (d.lF (Sb (Pr Pz) St)), d6, f4, l2, (by rw [m6]; exact a6)⟩
 rintro E W ⟨e1, e8, f3, ⟨A, eN⟩, d, d6, f4, f6, a6⟩
 rw [aI] at a6
 refine lU ?_
 replace d := d.lF (Kb (Kr (Dr St)))
 refine sg (Wh d6 (Wn (Wf Cf (VB d Mh rfl rfl lB (V (FI (vf := (fun (x : Bool) => (Value.bool x))) (kenc := (fun (x : lD) => (.agg (lE x).toArray))) iS rfl (b2.at (fun b o n => d.has.2 b o (Mt (Ma (Ma (Ml n))))))) (Wa (lS (Wa (mz ?_)))))))))
 refine lU (CJ a6 (fun c2 E W => ∃ c4 c5 c6 e7 f8, mx s e7 ∧ ST false (keys b8) w W e7 ((D, Obj.cells g5 208 (0, 0)) :: (c4 ++ (c5 ++ (c6 ++ f8)))) ∧ E 0 = g6 ∧ E 7 = h7 ∧ na (fun (x : lC) => (.agg (lG x).toArray)) (fun (x : Bool) => (Value.bool x)) c c2.1 c4 ∧ na Value.string (fun (x : Bool) => (Value.bool x)) g c2.2.1 c5 ∧ na (fun (x : lD) => (.agg (lE x).toArray)) (fun (x : Bool) => (Value.bool x)) a c2.2.2 c6) (fun c2 i2 => ?_) ?_)
 ·refine nL (pn (fun m E W => ∃ e6 d3 b6 d4 b7 a0 b9 O f9, mx s O ∧ ST false (keys b8) w W O ((D, Obj.cells g5 208 (0, 0)) :: (b6 ++ (b7 ++ (b9 ++ f9)))) ∧ E 0 = g6 ∧ E 7 = h7 ∧ E 8 = (.int .i64 e6) ∧ na (fun (x : lC) => (.agg (lG x).toArray)) (fun (x : Bool) => (Value.bool x)) c d3 b6 ∧ na Value.string (fun (x : Bool) => (Value.bool x)) g d4 b7 ∧ na (fun (x : lD) => (.agg (lE x).toArray)) (fun (x : Bool) => (Value.bool x)) a a0 b9 ∧ qO G m e6 d3 d4 a0 = some c2) mR ⟨(-1), e1, e8, a5, B, y, t, s, _, (mx.refl _), (d.lF St), d6, rfl, rfl, f6, e4, b2, i2⟩ ?_)
  rintro m E W ⟨e6, d3, b6, d4, b7, a0, b9, O, f9, a2, d, c0, g3, k6, f0, f1, c1, K⟩
  let j1 : Value := (.int .i64 (a0.length : Int))
  cases m with
  | zero => rw [qO] at K; cases K
  | succ l8 =>
   refine mf (sg (Wh k6 (Wh c0 (Wn (Wf Cf (VB d Mh rfl rfl lB (V (FI (vf := (fun (x : Bool) => (Value.bool x))) (kenc := (fun (x : lD) => (.agg (lE x).toArray))) iS rfl (c1.at (fun b o n => d.has.2 b o (Mt (Ma (Ma (Ml n))))))) (Wi rfl (ln (CI K rfl (fun h8 K => ?_) (fun h8 K => ?_)))))))))))
   ·refine kn (bg (Wh c0 (Wn (Wf Cf (VB d Mh rfl rfl lB (V (FI (vf := (fun (x : Bool) => (Value.bool x))) (kenc := (fun (x : lD) => (.agg (lE x).toArray))) iS rfl (c1.at (fun b o n => d.has.2 b o (Mt (Ma (Ma (Ml n))))))) (Wa (lr ?_))))))))
    refine Wh c0 (Wn (Wf OG (VB d Mh rfl rfl eH (V (mV aK rfl M) (Wm (ln (vv (CJ K (fun c3 E W => ∃ c7 c8 c9 d5 g0, mx O d5 ∧ ST false (keys b8) w W d5 ((D, Obj.cells g5 208 (0, 0)) :: (c7 ++ (c8 ++ (c9 ++ g0)))) ∧ E 0 = g6 ∧ E 7 = h7 ∧ E 8 = j1 ∧ na (fun (x : lC) => (.agg (lG x).toArray)) (fun (x : Bool) => (Value.bool x)) c c3.1 c7 ∧ na Value.string (fun (x : Bool) => (Value.bool x)) g c3.2.1 c8 ∧ na (fun (x : lD) => (.agg (lE x).toArray)) (fun (x : Bool) => (Value.bool x)) a c3.2.2 c9) (fun c3 i4 => ?_) ?_))))))))
    ·refine mM (fun i E W => ∃ F U L Y a9 Z P e2, (E 48 = .int .i64 (i : Nat) ∧ E 47 = .int .i64 (G.length : Nat)) ∧ mx O P ∧ ST false (keys b8) w W P ((D, Obj.cells g5 208 (0, 0)) :: (U ++ (Y ++ (Z ++ e2)))) ∧ E 0 = g6 ∧ E 7 = h7 ∧ E 8 = j1 ∧ E 46 = j ∧ na (fun (x : lC) => (.agg (lG x).toArray)) (fun (x : Bool) => (Value.bool x)) c F U ∧ na Value.string (fun (x : Bool) => (Value.bool x)) g L Y ∧ na (fun (x : lD) => (.agg (lE x).toArray)) (fun (x : Bool) => (Value.bool x)) a a9 Z ∧ pO G (G.drop i) F L a9 = some c3) G.length M.len ⟨d3, b6, d4, b7, a0, b9, O, _, ⟨rfl, rfl⟩, (mx.refl _), (d.lF St), c0, g3, rfl, rfl, f0, f1, c1, i4⟩ dc dc dc (fun _ _ _ h => by obtain ⟨_, _, _, _, _, _, _, _, R, _⟩ := h; exact R) ?_ ?_
     ·rintro h3 E W i0 ⟨F, U, L, Y, a9, Z, P, e2, ⟨A, eN⟩, J, d, b5, d0, d1, d2, b3, b4, a3, N⟩
      obtain ⟨I, n5, j6, j5, f2⟩ := mE i0
      rw [j6] at N
      refine bg (VQ (og (enc := lE) (i := (h3 : Int)) (x0 := I) aK aJ d2 A (M.mono (Pl.mono _) ((f5.trans a2).trans J)) (aF _) j5) (fun o3 i5 => V (lJ rfl (mr d.has i5 bD aJ)) (VE (my d cL (fun n7 g2 d => VO (mj (.agg (lE I).toArray) ((lE I).toArray) d rfl rfl aJ (pc I) nb rfl (fun n8 d => ln (mf ?_))))))))
      replace d := d.drew
      have l := d.has.lF (Kb (Kb (Dr (Dr (Kr Sn)))))
      refine mT l mB (X 0 rfl l (lP b5) (X 1 rfl l (nN rfl) (X 2 rfl l (lO Cf rfl) (XH 3 rfl l (fun _ q => lJ rfl (lX q (Mt Mh) rfl lB)) (XH 4 rfl l (fun _ q => lJ rfl (lQ q Mh (lE I) rfl bD aJ)) (XH 5 rfl l (fun _ q => xi (k := I) (z := false) (vf := (fun (x : Bool) => (Value.bool x))) RV iS iN rfl rfl (a3.at (fun b o n => q.2 b o (Mt (Mt (Ml n)))))) (X 6 rfl l (oy rfl) (X 7 rfl l (lP rfl) (PJ N (fun h4 E W => ∃ g1, ST false (keys b8) w W P ((g2, Ol (lE I) 52) :: ((D, Obj.cells g5 208 (0, 0)) :: (U ++ (Y ++ (Z ++ g1))))) ∧ E 0 = g6 ∧ E 7 = h7 ∧ E 8 = j1 ∧ E 10 = (.pointer (some ⟨g2, 0, none⟩)) ∧ E 46 = j ∧ E 47 = (.int .i64 (G.length : Int)) ∧ E 48 = (.int .i64 (h3 : Int)) ∧ E 63 = (.bool h4)) (bm 12 4095) 0 ?_ (fun h4 T e0 => ?_))))))))))
      ·rintro o6 E W ⟨g1, d, e3, g4, g7, l0, g8, g9, h1, l1⟩ Q
       refine nh kr (lU (CI Q l1 (fun h9 Q => ?_) (fun h9 Q => ?_)))
       ·refine ma (Wh e3 (V (lJ l0 (lQ d.has Mh (lE I) rfl bD aJ)) (bS Q fun e5 i6 Q => ?_)))
        refine VE (eM d (Cb (Pb Pz) (Cr (Qb Qz) (Cr (Qb Qz) (Cr (Qb Qz) Cn)))) call205 (fun hh ad => nJ.nz (FZ D j G c F U g L Y a a9 Z I _ _ hh (M.mono (Pl.mono _) (((f5.trans a2).trans J).trans ad)) b3 b4 a3 i6)) ?_)
        rintro _ o5 l9 n6 d h6 aa ab ⟨k1, k2, k3, d8, rfl, j8, j9, k0⟩
        obtain rfl := d8.symm
        replace d := d.perm (Tb (Tr (Tr (Tr Tn))))
        refine mz (mJ (lU ?_))
        replace d := d.lF (Kb (Kr (Kr (Kr (Db St)))))
        exact ⟨h1, e5.1, k1, e5.2.1, k2, e5.2.2, k3, l9, _, ⟨rfl, g9⟩, (J.trans h6), (d.lF St), e3, g4, g7, g8, j8, j9, k0, (by rw [f2]; exact Q)⟩
       refine nf (mJ (lU ?_))
       replace d := d.lF (Db St)
       exact ⟨h1, F, U, L, Y, a9, Z, P, _, ⟨rfl, g9⟩, J, (d.lF St), e3, g4, g7, g8, b3, b4, a3, (by rw [f2]; exact Q)⟩
      refine bC T (fun H T => ?_) (fun H T => ?_)
      ·refine Xg 8 rfl rfl (cB H) l (lP b5) (rz 9 rfl rfl (cB H) l (fun _ q => lJ rfl (lQ q Mh (lE I) rfl bD aJ)) (bS T fun o4 i7 T => zG 10 rfl rfl (cB H) (Eg d call204 (mo.nz (GN D j G c F g L a a9 I _ _ (M.mono (Pl.mono _) (((f5.trans a2).trans J).trans d.lL)) (b3.at (fun b o n => d.at_ (Mt (Mt (Ml n))))) (b4.at (fun b o n => d.at_ (Mt (Mt (Ma (Ml n)))))) (a3.at (fun b o n => d.at_ (Mt (Mt (Ma (Ma (Ml n))))))) (At.of (d.at_ (Mt Mh)) _ rfl) i7)) (fun o0 d => ?_))))
       have l := d.has.lF (Kb (Kb (Dr (Dr (Kr Sn)))))
       refine ⟨l, (X 11 rfl l (mh (cB H) rfl) ?_)⟩
       obtain rfl := sj T
       refine nu kr (e0 _ _ ⟨_, (d.lF St), b5, d0, d1, rfl, d2, eN, A, rfl⟩)
      refine Xn 8 rfl rfl (cB H) l (Xn 9 rfl rfl (cB H) l (Xn 10 rfl rfl (cB H) l (X 11 rfl l (mi (cB H) rfl) ?_)))
      obtain rfl := sj T
      refine nu kr (e0 _ _ ⟨_, (d.lF St), b5, d0, d1, rfl, d2, eN, A, rfl⟩)
     rintro E W ⟨F, U, L, Y, a9, Z, P, e2, ⟨A, eN⟩, J, d, b5, d0, d1, d2, b3, b4, a3, N⟩
     rw [aI] at N
     refine lU ?_
     obtain rfl := sj N
     exact ⟨U, Y, Z, P, _, J, (d.lF St), b5, d0, d1, b3, b4, a3⟩
    rintro ⟨l5, l6, l7⟩ E W ⟨c7, c8, c9, d5, g0, h5, d, k7, k8, k9, j0, j3, j4⟩ i3
    exact mJ (lU ⟨l8, bF _, (a0.length : Int), l5, c7, l6, c8, l7, c9, d5, _, (a2.trans h5), (d.lF St), k7, k8, k9, j0, j3, j4, i3⟩)
   refine pk (oR (oR (tE (lU ?_))))
   obtain rfl := sj K
   exact ⟨b6, b7, b9, O, _, a2, (d.lF St), c0, g3, f0, f1, c1⟩
 rintro ⟨o1, o2, l4⟩ E W ⟨c4, c5, c6, e7, f8, m9, d, k4, k5, i8, i9, e9⟩ i1
 refine sg (Wh k4 (Wn (Wf Cf (VB d Mh rfl rfl lB (V (FI (vf := (fun (x : Bool) => (Value.bool x))) (kenc := (fun (x : lD) => (.agg (lE x).toArray))) iS rfl (e9.at (fun b o n => d.has.2 b o (Mt (Ma (Ma (Ml n))))))) (Wh k5 (Wi rfl (Wa (lt ?_)))))))))
 obtain rfl := sj i1
 exact nc (v := (.int .i64 (wi0 .i64 ((l4.length : Int) - (y.length : Int))))) rfl rfl ⟨_, _, rfl, (d.ov (Kb (Kr (Kr (Kr Sn))))), c4, c5, c6, rfl, rfl, i8, i9, e9⟩
theorem NX (t : Value) (Q : List lD) (u : Value) (T : List lC) (r : ((List lD) × (List (lC × Bool)) × (List (ByteArray × Bool)) × (List (lD × Bool)))) (w : World) (Y : Sl (Pl lE) 9 (hp w) t Q) (Z : Sl (Pl lG) 2 (hp w) u T) (hm : Cw Q T = some r) :
  nJ false pg0 83 [t, u] w [] (fun v L1 W' => ∃ m l q S6 s S9 N M, v = (.pointer (some ⟨m, 0, none⟩)) ∧ L1 = ((m, Ob #[l, q, s, N] 208) :: (S6 ++ (S9 ++ (M ++ [])))) ∧ Sl (Pl lE) 9 (wW W' L1) l r.1 ∧ Fr w.heap.size l ∧ na (fun (x : lC) => (.agg (lG x).toArray)) (fun (x : Bool) => (Value.bool x)) q r.2.1 S6 ∧ na Value.string (fun (x : Bool) => (Value.bool x)) s r.2.2.1 S9 ∧ na (fun (x : lD) => (.agg (lE x).toArray)) (fun (x : Bool) => (Value.bool x)) N r.2.2.2 M) := by
 refine uk 17 func83 rfl (fun b => sg (Wa (lr (Wm (bS hm fun y c1 hm => VE (pA b call52 (xp t Q _ _ (Y.mono (Pl.mono _) b.lL) c1) (fun W3 v7 a8 R8 b a3 a1 H => VE (CA (P := pg0) (fun (x : lC) => (.agg (lG x).toArray)) (fun (x : Bool) => (Value.bool x)) b (fun c5 d1 L b B => VE (CA (P := pg0) Value.string (fun (x : Bool) => (Value.bool x)) b (fun c6 d2 O b D => VE (CA (P := pg0) (fun (x : lD) => (.agg (lE x).toArray)) (fun (x : Bool) => (Value.bool x)) b (fun c7 d3 R b G => ?_)))))))))))))
 obtain ⟨a, c, rfl⟩ := H.form
 replace b := b.perm (Nr (Qr (Qr (Qr Qz))) Nz)
 have a2 := H.Lt b (fun p hq => (Ml hq))
 obtain ⟨d5, b, J, n, I⟩ := ST.Ap b H nl
 obtain ⟨g, rfl⟩ := B.form
 obtain ⟨i, rfl⟩ := D.form
 obtain ⟨j, rfl⟩ := G.form
 refine V (nW (v := (.agg #[(.slice a y.length c), (.map (some g)), (.map (some i)), (.map (some j))])) (Q0 rfl rfl rfl rfl) (nw zeroValue208 iA (We _ iA) kr)) (VE (mG b rfl (fun c8 z b => Wa (lr (Wm (Wm (bS hm fun d0 a4 hm => ?_)))))))
 refine VE (eM b (Cb Pz (Cr (Qr (Qr Qz)) (Cr (Qr Qz) (Cr Qz Cn)))) call146 (fun hh d => (FP z (.slice a y.length c) y (.map (some g)) ([]) L (.map (some i)) ([]) O (.map (some j)) ([]) R u T _ _ hh (I.mono (Pl.mono _) d) B D G (Z.mono (Pl.mono _) ((a3.trans J).trans d)) a4)) ?_)
 rintro _ d4 d6 c4 b K o h ⟨U, W, b6, k, rfl, a5, A, F⟩
 obtain rfl := k.symm
 replace b := b.perm (Tb (Tr (Tr (Tr Tn))))
 refine lr (Wm (Wa (lt ?_)))
 obtain rfl := sj hm
 exact nc (v := (.pointer (some ⟨z, 0, none⟩))) rfl rfl ⟨_, _, rfl, (b.QV (Kb (Kr (Kr (Kr Sn))))), z, (.slice a y.length c), (.map (some g)), U, (.map (some i)), W, (.map (some j)), b6, rfl, rfl, (I.mono (Pl.mono _) (K.trans (ST.nt b (oT.mem (Kb (Kr (Kr (Kr Sn)))))))), a2, a5, A, F⟩
theorem Dk (I : lD) (J G : Nat) (B : Value) (D : List lD) (c : Value) (i : List (lC × Bool)) (j : Value) (u : List (ByteArray × Bool)) (a : Value) (g : List (lD × Bool)) (r : Bool) (w : World) (Q : Sl (Pl lE) 9 (hp w) B D) (H : sS (fun (x : lC) => (.agg (lG x).toArray)) (fun (x : Bool) => (Value.bool x)) (hp w) c i) (M : sS Value.string (fun (x : Bool) => (Value.bool x)) (hp w) j u) (t : sS (fun (x : lD) => (.agg (lE x).toArray)) (fun (x : Bool) => (Value.bool x)) (hp w) a g) (K : At (hp w) (.pointer (some ⟨G, 0, none⟩)) [B, c, j, a]) (N : At (hp w) (.pointer (some ⟨J, 0, none⟩)) [(.pointer (some ⟨G, 0, none⟩))]) (hm : tq I D i u g = some r) :
  mo true pg0 147 [(.agg (lE I).toArray), (.pointer (some ⟨J, 0, none⟩))] w (.bool r) := by
 refine cG 11 func147 rfl (fun h => sg (VE (mG h rfl (fun U Y h => Wa (ln (mf ?_))))))
 replace h := h.drew
 have d := h.has.lF (Kb Sn)
 refine mT d mB (XH 0 rfl d (fun _ l => lJ rfl (po l (y := (.pointer (some ⟨G, 0, none⟩))) N isAgg150)) (X 1 rfl d (nN rfl) (XQ 2 rfl d (uq [a] Cf rfl K rfl) (fun Z T => XH 3 rfl d (fun _ l => lJ rfl (po l (y := a) T lB)) (XH 4 rfl d (fun _ l => lJ rfl (lQ l Mh (lE I) rfl bD aJ)) (XH 5 rfl d (fun _ l => xi (k := I) (z := false) (vf := (fun (x : Bool) => (Value.bool x))) RV iS iN rfl rfl (t.mono (fun b o m => l.1 b o m))) (X 6 rfl d (oy rfl) (X 7 rfl d (oD rfl) (nh kr (lU ?_))))))))))
 exact mu (rQ hm h)
theorem ER (H : Nat) (a : Value) (u : List lD) (j : Value) (i : List (lC × Bool)) (t : Value) (k : List (ByteArray × Bool)) (g : Value) (c : List (lD × Bool)) (r : List lD) (w : World) (D : Sl (Pl lE) 9 (hp w) a u) (G : sS (fun (x : lC) => (.agg (lG x).toArray)) (fun (x : Bool) => (Value.bool x)) (hp w) j i) (I : sS Value.string (fun (x : Bool) => (Value.bool x)) (hp w) t k) (B : sS (fun (x : lD) => (.agg (lE x).toArray)) (fun (x : Bool) => (Value.bool x)) (hp w) g c) (K : At (hp w) (.pointer (some ⟨H, 0, none⟩)) [a, j, t, g]) (hm : vg u i k c = some r) :
  nq false pg0 84 [(.pointer (some ⟨H, 0, none⟩))] w 52 lE 9 r := by
 refine uk 12 func84 rfl (fun b => sg (VE (mG b rfl (fun W2 N b => Wa (lS (VB b Mh rfl rfl isAgg150 (V (uc underlying150 rfl rfl) (ln (qx rfl ?_)))))))))
 refine kg (VB b Mh rfl rfl isAgg150 (Wn (VQ (uq [a] OG rfl K rfl) (fun p3 a0 => V (lJ rfl (po b.has (y := a) a0 eH)) (bS hm fun F q hm => VE (pA b call61 (nq.nz (BL a u _ _ (D.mono (Pl.mono _) b.lL) q)) (fun W8 a2 L Y b z n T => V (qz (by exact vc rfl) rfl) (bS hm fun R U hm => ?_))))))))
 refine VE (Gz b (Cr Qz Cn) call111 (fun hH s d m => (ud a2 F Y (.func (.func 147) #[] #[(.pointer (some ⟨N, 0, none⟩))]) (fun (x : lD) => tq x u i k c) _ _ ⟨hH, s, mx.refl _⟩ T ⟨147, #[], #[(.pointer (some ⟨N, 0, none⟩))], rfl, call147, fun W x r h hm => (Dk x N H a u j i t k g c r W (D.mono (Pl.mono _) ((z.trans d).trans h)) (G.mono ((z.trans d).trans h)) (I.mono ((z.trans d).trans h)) (B.mono ((z.trans d).trans h)) (K.mono ((z.trans d).trans h)) (At.of (h _ _ (m _ _ Mh)) _ rfl) hm).nz⟩ U)) (fun P a9 b0 O b a4 o l Q => ?_))
 obtain ⟨a3, Z, J, rfl, M⟩ := Q
 replace J := J.symm; subst J
 replace b := b.perm (Tr Tn)
 refine Wa (ln ?_)
 replace b := b.lF (Kr (Db St))
 refine mu ?_
 obtain rfl := sj hm
 exact nc (v := a3) rfl rfl ⟨_, Z, rfl, b.oa (fun p A => (Ml A)) M.nd, M⟩
theorem B9 (a : ng) (g j u G x D : Value) (r : List lD) (w : World) (c : Sl mC 15 (hp w) g a.lH.lZ) (i : Sl mZ 8 (hp w) j a.lH.mq) (t : Sl (Pl lE) 9 (hp w) u a.lV) (z : Sl (Pl lE) 9 (hp w) G a.Shown) (k : Sl (Pl lG) 2 (hp w) x a.ml) (y : Sl (Pl lG) 2 (hp w) D a.ms) (hm : pq a = some r) :
  nq false pg0 27 [(.agg #[(.string a.lH.Name), g, j, (.string a.mU), (.int .i64 a.Room), u, G, x, D])] w 52 lE 9 r := by
 refine uk 9 func27 rfl (fun d => sg ?_)
 obtain ⟨A1, c2, rfl⟩ := c.form
 obtain ⟨A3, L, rfl⟩ := i.form
 obtain ⟨A5, O, rfl⟩ := t.form
 obtain ⟨A7, P, rfl⟩ := z.form
 obtain ⟨Y, M, rfl⟩ := k.form
 obtain ⟨Q, T, rfl⟩ := y.form
 refine VE (mG d rfl (fun e5 e6 d => Wa (ln (mf ?_))))
 replace d := d.drew
 have h := d.has.lF (Kb Sn)
 refine mT h mB (XH 0 rfl h (fun _ n => lJ rfl (lQ n Mh (C2 a.lH.Name A1 a.lH.lZ.length c2 A3 a.lH.mq.length L a.mU a.Room A5 a.lV.length O A7 a.Shown.length P Y a.ml.length M Q a.ms.length T) rfl dX dD)) (X 2 rfl h (lO Ft rfl) (XH 3 rfl h (fun _ n => lJ rfl (lX n Mh rfl gV)) (bS hm fun d1 a2 hm => XE 1 rfl (pA d call78 (GA a (.slice A1 a.lH.lZ.length c2) (.slice A3 a.lH.mq.length L) (.slice A5 a.lV.length O) (.slice A7 a.Shown.length P) (.slice Y a.ml.length M) (.slice Q a.ms.length T) _ _ (c.mono mK.mono d.lL) (i.mono nH.mono d.lL) (t.mono (Pl.mono _) d.lL) (z.mono (Pl.mono _) d.lL) (k.mono (Pl.mono _) d.lL) (y.mono (Pl.mono _) d.lL) a2) (fun d7 c1 e2 d3 d B q R => ?_))))))
 have h := d.has.pN B (Dr (Kb Sn))
 refine ⟨h, (bS hm fun J a3 hm => ?_)⟩
 have F := d.size
 refine XE 4 rfl (Gz d (bI _) call83 (fun _ _ _ _ => (NX c1 d1 (.slice Y a.ml.length M) a.ml _ _ (R.sl nl (fun b o l => d.at_ (Ml l))) (k.mono (Pl.mono _) (B.trans d.lL)) a3)) (fun d8 e1 e3 d2 d K s m Z => ?_) (L0 := []))
 obtain ⟨b5, c5, c7, d4, c9, d5, d0, d6, I, rfl, W, H, a7, a8, a9⟩ := Z
 replace I := I.symm; subst I
 have a5 := W.lift H m
 replace H := H.mono F
 replace d := d.perm (Tb (Tr (Tr (Tr Tn))))
 have h := d.has.pN (B.trans K) (Db (Dr (Dr (Dr (Dr (Kb Sn))))))
 refine ⟨h, (bS hm fun e0 a4 hm => XE 5 rfl (pA d call84 (ER b5 c5 J.1 c7 J.2.1 c9 J.2.2.1 d0 J.2.2.2 _ _ (a5.mono (Pl.mono _) d.lL) (a7.at (fun b o l => d.at_ (Mt (Ml l)))) (a8.at (fun b o l => d.at_ (Mt (Ma (Ml l))))) (a9.at (fun b o l => d.at_ (Mt (Ma (Ma (Ml l)))))) (At.of (d.at_ Mh) _ rfl) a4) (fun d9 c3 e4 b4 d U A N => ?_)))⟩
 have h := d.has.pN ((B.trans K).trans U) (Dr (Db (Dr (Dr (Dr (Dr (Kb Sn)))))))
 refine ⟨h, (X 6 rfl h (oD rfl) (nh kr (lU ?_)))⟩
 replace d := d.lF (Kr (Db (Dr (Dr (Dr (Dr (Db St)))))))
 refine mu ?_
 obtain rfl := sj hm
 exact nc (v := c3) rfl rfl ⟨_, b4, rfl, d.oa (fun p l => (Ml l)) N.nd, N⟩
theorem Gh (N : Formula → Option (List lC)) (F : ∀ (g : Formula) (k : Value) (r : List lC) (w : World) (j : Sl lI 5 (hp w) k g.Kids), N g = some r → nq false pg0 250 [(.agg #[(.int .i64 g.Op), (.int .i64 g.K), (.string g.lC.lK), (.string g.lC.lN), k])] w 50 lG 2 r) (g : Formula) (k : Value) (r : List lC) (w : World) (j : Sl lI 5 (hp w) k g.Kids) (hm : yn N g = some r) :
  nq false pg0 250 [(.agg #[(.int .i64 g.Op), (.int .i64 g.K), (.string g.lC.lK), (.string g.lC.lN), k])] w 50 lG 2 r := by
 refine uk 25 func250 rfl (fun b => sg ?_)
 obtain ⟨A1, c2, rfl⟩ := j.form
 refine VE (mG b rfl (fun W4 b3 b => Wa (lS (Wf rK (VB b Mh rfl rfl cH (Wi rfl (ln (CI hm rfl (fun b7 hm => ?_) (fun b7 hm => ?_)))))))))
 ·refine sg (Wf wM (VA b Mh (lG g.lC) aT aG (VE (mH (cs := (lG g.lC).toArray) b (oE rfl) (ot aM aG dB) (fun W7 q b => Wa (ln ?_))))))
  replace b := b.lF (Kb (Db St))
  refine mu (mL ?_)
  obtain rfl := sj hm
  exact nc (v := (.slice (some ⟨q, 0, none⟩) 1 1)) rfl rfl ⟨_, [(q, Ol (lG g.lC) 50)], rfl, b.oa (fun p d => by rw [bP] at d; subst d; exact Mh) (by simp), (mw.lit (l := [g.lC]) (enc := lG) rfl dc rfl rfl)⟩
 refine kg (Wa (lS (Wf rH (VB b Mh rfl rfl fH (V (mV aH rfl j) (Wm (mz ?_)))))))
 refine lU ?_
 replace b := b.lF (Db St)
 refine mM (fun i E W => ∃ u D t G H, (E 15 = .int .i64 (i : Nat) ∧ E 14 = .int .i64 (g.Kids.length : Nat)) ∧ mx (hp w) G ∧ ST false mD w W G (t ++ H) ∧ E 3 = u ∧ E 13 = (.slice A1 g.Kids.length c2) ∧ mw 50 lG 2 u D t ∧ th N (g.Kids.drop i) D = some r) g.Kids.length j.len ⟨(.slice none 0 0), ([]), [], (hp w), _, ⟨rfl, rfl⟩, (mx.refl _), (b.lF St), rfl, rfl, (mw.nil _ _ _), hm⟩ dc dc dc (fun _ _ _ h => by obtain ⟨_, _, _, _, _, n, _⟩ := h; exact n) ?_ ?_
 ·rintro L E W Y ⟨u, D, t, G, H, ⟨m, s⟩, y, b, I, J, x, c⟩
  obtain ⟨a, b9, a3, a2, a4⟩ := mE Y
  rw [a3] at c
  refine bg (VQ (nS (i := (L : Int)) (x0 := a) lI.out aH aC J m (j.mono mg.mono y) (aF _) a2) (fun c7 ⟨_, ⟨c9, rfl, K⟩, Z⟩ => V (lJ rfl (mr b.has Z aV aC)) (VE (my b bG (fun c1 c6 b => ?_)))))
  obtain ⟨z, B, rfl⟩ := K.form
  let a0 := (C1 a.Op a.K a.lC.lK a.lC.lN z a.Kids.length B)
  refine VO (mj (.agg a0.toArray) (a0.toArray) b rfl rfl aC oc nb rfl (fun c3 b => ln (ma (Wh I (VA b Mh a0 aV aC (bS c fun c8 A c => VE (pA b call250 (F a (.slice z a.Kids.length B) _ _ (K.mono mg.mono b.lL) A) (fun c4 a9 b1 c0 b M o Q => ?_))))))))
  replace b := b.perm (Nr (Qr (Qb Qz)) Nz)
  refine bS c fun O U c => VE (oK (enc := lG) (v := u) (vs := a9) (R := t) b nF dc pJ aM oz.1 oz.2.1 rfl oz.2.2.1 oz.2.2.2 rfl rfl x (Q.Tw nF b (fun p d => (Ma (Ml d)))) U (fun c5 P a5 b T => Wa (mz (mJ (lU ?_)))))
  replace b := b.lF (Kr (Dr (Db St)))
  exact ⟨m, P, O, a5, b1, _, ⟨rfl, s⟩, (y.trans M), (b.lF St), rfl, J, T, (by rw [a4]; exact c)⟩
 rintro E W ⟨u, D, t, G, H, ⟨m, s⟩, y, b, I, J, x, c⟩
 rw [aI] at c
 refine lU (sg (Wh I (Wa (lt ?_))))
 obtain rfl := sj c
 exact nc (v := u) rfl rfl ⟨_, t, rfl, b.oa (fun p d => (Ml d)) x.nd, x⟩
theorem Es : ∀ (n : Nat) (c : Formula) (a : Value) (r : List lC) (w : World) (g : Sl lI 5 (hp w) a c.Kids) (_ : tJ n c = some r),
  nq false pg0 250 [(.agg #[(.int .i64 c.Op), (.int .i64 c.K), (.string c.lC.lK), (.string c.lC.lN), a])] w 50 lG 2 r
 | 0 => by intros; rename_i h; simp only [tJ] at h; cases h
 | n + 1 => Gh (tJ n) (Es n)
theorem Ec (a : Formula) (g : Value) (r : List lC) (w : World) (c : Sl lI 5 (hp w) g a.Kids) (hm : vE a = some r) :
  nq false pg0 197 [(.agg #[(.int .i64 a.Op), (.int .i64 a.K), (.string a.lC.lK), (.string a.lC.lN), g])] w 50 lG 2 r := by
 refine uk 6 func197 rfl (fun d => sg ?_)
 obtain ⟨j, k, rfl⟩ := c.form
 refine VE (mG d rfl (fun N T d => Wa (lr (VA d Mh (C1 a.Op a.K a.lC.lK a.lC.lN j a.Kids.length k) aV aC (bS hm fun H y hm => VE (pA d call250 ((Es mR) a (.slice j a.Kids.length k) _ _ (c.mono mg.mono d.lL) y) (fun Q z U I d G l t => bS hm fun K u hm => VE (pA d call86 (xg z H _ _ (t.sl nF (fun b o h => d.at_ (Ml h))) u) (fun J B M x d D m i => Wa (ln ?_))))))))))
 replace d := d.lF (Kr (Dr (Db St)))
 refine mu ?_
 obtain rfl := sj hm
 exact nc (v := B) rfl rfl ⟨_, x, rfl, d.oa (fun p h => (Ml h)) i.nd, i⟩
theorem JA (a : ng) (B D J N K M : Value) (n : lD) (r : Bool) (w : World) (c : Sl mC 15 (hp w) B a.lH.lZ) (i : Sl mZ 8 (hp w) D a.lH.mq) (y : Sl (Pl lE) 9 (hp w) J a.lV) (I : Sl (Pl lE) 9 (hp w) N a.Shown) (G : Sl (Pl lG) 2 (hp w) K a.ml) (H : Sl (Pl lG) 2 (hp w) M a.ms) (hm : BB a n = some r) :
  mo false pg0 19 [(.agg #[(.string a.lH.Name), B, D, (.string a.mU), (.int .i64 a.Room), J, N, K, M]), (.agg (lE n).toArray)] w (.bool r) := by
 refine cG 22 func19 rfl (fun d => sg ?_)
 obtain ⟨A1, c2, rfl⟩ := c.form
 let a9 : Value := (.slice A1 a.lH.lZ.length c2)
 obtain ⟨A3, P, rfl⟩ := i.form
 let O : Value := (.slice A3 a.lH.mq.length P)
 obtain ⟨A5, R, rfl⟩ := y.form
 obtain ⟨A7, c8, rfl⟩ := I.form
 obtain ⟨A9, Y, rfl⟩ := G.form
 obtain ⟨T, Z, rfl⟩ := H.form
 let a0 := (C2 a.lH.Name A1 a.lH.lZ.length c2 A3 a.lH.mq.length P a.mU a.Room A5 a.lV.length R A7 a.Shown.length c8 A9 a.ml.length Y T a.ms.length Z)
 refine VE (mG d rfl (fun g3 e7 d => VE (mG d rfl (fun g4 h0 d => Wa (lr (Wf wH (VA d (Mt Mh) (C7 a.lH.Name A1 a.lH.lZ.length c2 A3 a.lH.mq.length P) gU fE (VA d Mh (lE n) bD aJ (bS hm fun j e0 hm => ?_)))))))))
 let v : Value := (.int .i64 ((j.1).K))
 let s : Value := (.int .i64 ((j.1).Op))
 let q : Value := (.string (((j.1).lC).lN))
 let a5 : Value := (.string (((j.1).lC).lK))
 refine VE (eD d (bI _) call23 (fun hh => (Dn a.lH a9 O n _ _ hh (c.mono mK.mono (mx.refl _)) (i.mono nH.mono (mx.refl _)) e0)) ?_ (L0 := []))
 rintro _ h1 d6 g2 d t ad ⟨h2, b0, rfl, c1⟩
 obtain rfl := b0.symm
 refine Wm (Wx rfl (Wx rfl (VE (my d bG (fun g8 e8 d => ?_)))))
 obtain ⟨U, a2, rfl⟩ := c1.form
 let a4 : Value := (.slice U ((j.1).Kids).length a2)
 refine VO (mj (.agg #[s, v, a5, q, a4]) (#[s, v, a5, q, a4]) d rfl rfl aC oc nb rfl (fun g9 d => Wa (ln ?_)))
 replace d := d.lF (Kb (Db St))
 refine mf ?_
 replace d := d.drew
 have h := d.has.lF (Kb (Kb Sn))
 refine mT h mB (X 0 rfl h (lP rfl) (X 1 rfl h (mP rfl rfl rfl) (X 2 rfl h (lP rfl) (PJ hm (fun c3 E W => ∃ L b5, mx d6 L ∧ ST false mD w W L ((e8, Ob #[s, v, a5, q, a4] 58) :: ((e7, Ol a0 36) :: b5)) ∧ E 4 = (.bool false) ∧ E 21 = (.bool c3)) (bm 9 255) 1 ?_ (fun c3 z a3 => ?_)))))
 ·rintro g1 E W ⟨L, b5, c0, d, f8, d8⟩ c7
  have h := d.has.pN c0 (Kb (Kb Sn))
  refine X 8 rfl h (oD d8) (nh kr (lU ?_))
  exact mu (rQ c7 d)
 refine bC z (fun u z => ?_) (fun u z => ?_)
 ·refine rz 3 rfl rfl (cB u) h (fun _ hS => lJ rfl (lQ hS Mh [s, v, a5, q, a4] rfl aV aC)) (rz 4 rfl rfl (cB u) h (fun _ hS => lJ rfl (lQ hS (Mt Mh) a0 rfl dX dD)) (bS z fun g c9 z => ?_))
  refine zG 5 rfl rfl (cB u) (Gz d (bI _) call21 (fun _ _ _ _ => (LH a a9 O (.slice A5 a.lV.length R) (.slice A7 a.Shown.length c8) (.slice A9 a.ml.length Y) (.slice T a.ms.length Z) _ _ (c.mono mK.mono (t.trans d.lL)) (i.mono nH.mono (t.trans d.lL)) (y.mono (Pl.mono _) (t.trans d.lL)) (I.mono (Pl.mono _) (t.trans d.lL)) (G.mono (Pl.mono _) (t.trans d.lL)) (H.mono (Pl.mono _) (t.trans d.lL)) c9)) (fun f6 g0 e6 f0 d k aa ab c5 => ?_) (L0 := []))
  obtain ⟨A, d7, e1, f1, e2, f2, e3, f3, e4, f4, e5, f5, F, Q, rfl, d1, d2, d3, d4, d5⟩ := c5
  replace Q := Q.symm; subst Q
  replace d := d.perm (Tb (Tb (Tb (Tr (Tr (Tr (Tr (Tr Tn))))))))
  have h := d.has.pN k (Db (Db (Db (Dr (Dr (Dr (Dr (Dr (Kb (Kb Sn))))))))))
  refine ⟨h, (bS z fun f9 d0 z => zG 6 rfl rfl (cB u) (Eg d call24 (BY j.1 a4 (.func (.func 63) #[] #[(.pointer (some ⟨A, 0, none⟩)), (.pointer (some ⟨F, 0, none⟩))]) (fun (x : lC) => vt x g.1 g.2.1 g.2.2.1 g.2.2.2.1 g.2.2.2.2.1 g.2.2.2.2.2.1 g.2.2.2.2.2.2.1 a.lH.lZ a.lH.mq g.2.2.2.2.2.2.2.1 g.2.2.2.2.2.2.2.2 a.lV a.Shown a.ml a.ms) _ _ (c1.mono mg.mono (k.trans d.lL)) ⟨63, #[], #[(.pointer (some ⟨A, 0, none⟩)), (.pointer (some ⟨F, 0, none⟩))], rfl, call63, fun W x r m hm => (G6 x A d7 e1 g.1 e2 g.2.1 e3 g.2.2.1 e4 g.2.2.2.1 e5 g.2.2.2.2.1 g.2.2.2.2.2.1 F g.2.2.2.2.2.2.1 a9 a.lH.lZ O a.lH.mq g.2.2.2.2.2.2.2.1 g.2.2.2.2.2.2.2.2 (.slice A5 a.lV.length R) a.lV (.slice A7 a.Shown.length c8) a.Shown (.slice A9 a.ml.length Y) a.ml (.slice T a.ms.length Z) a.ms r W (d1.at (fun b o l => m _ _ ((fun b o l => d.at_ (Mt (Mt (Mt (Ml l))))) b o l))) (d2.sl nl (fun b o l => m _ _ ((fun b o l => d.at_ (Mt (Mt (Mt (Ma (Ml l)))))) b o l))) (d3.at (fun b o l => m _ _ ((fun b o l => d.at_ (Mt (Mt (Mt (Ma (Ma (Ml l))))))) b o l))) (d4.at (fun b o l => m _ _ ((fun b o l => d.at_ (Mt (Mt (Mt (Ma (Ma (Ma (Ml l)))))))) b o l))) ((d5.Fj so).mono (Pl.mono _) (oB (fun b o l => m _ _ ((fun b o l => d.at_ (Mt (Mt (Mt (Ma (Ma (Ma (Ma (Ml l))))))))) b o l)))) (At.of (m _ _ (d.at_ (Mt Mh))) _ rfl) (At.of (m _ _ (d.at_ Mh)) _ rfl) (c.mono mK.mono (((t.trans k).trans d.lL).trans m)) (i.mono nH.mono (((t.trans k).trans d.lL).trans m)) (y.mono (Pl.mono _) (((t.trans k).trans d.lL).trans m)) (I.mono (Pl.mono _) (((t.trans k).trans d.lL).trans m)) (G.mono (Pl.mono _) (((t.trans k).trans d.lL).trans m)) (H.mono (Pl.mono _) (((t.trans k).trans d.lL).trans m)) (At.of (m _ _ (d.at_ (Mt (Mt Mh)))) _ rfl) hm).nz⟩ d0) (fun f7 d => ?_)))⟩
  have h := d.has.pN k (Db (Db (Db (Dr (Dr (Dr (Dr (Dr (Kb (Kb Sn))))))))))
  refine ⟨h, (X 7 rfl h (mh (cB u) rfl) ?_)⟩
  obtain rfl := sj z
  refine nu kr (a3 _ _ ⟨e6, _, k, (d.lF (Db (Db (Db (Dr (Dr (Dr (Dr (Dr St))))))))), rfl, rfl⟩)
 refine Xn 3 rfl rfl (cB u) h (Xn 4 rfl rfl (cB u) h (Xn 5 rfl rfl (cB u) h (Xn 6 rfl rfl (cB u) h (X 7 rfl h (mi (cB u) rfl) ?_))))
 obtain rfl := sj z
 refine nu kr (a3 _ _ ⟨d6, _, (mx.refl _), (d.lF St), rfl, rfl⟩)
theorem Kx (a : ng) (D G J a3 M Z n : Value) (l : List nx) (T : lD) (r : List lC) (w : World) (u : Sl mC 15 (hp w) D a.lH.lZ) (x : Sl mZ 8 (hp w) G a.lH.mq) (I : Sl (Pl lE) 9 (hp w) J a.lV) (Y : Sl (Pl lE) 9 (hp w) a3 a.Shown) (K : Sl (Pl lG) 2 (hp w) M a.ml) (U : Sl (Pl lG) 2 (hp w) Z a.ms) (e9 : Sl mZ 8 (hp w) n l) (hm : uL a l T = some r) :
  nq false pg0 137 [(.agg #[(.string a.lH.Name), D, G, (.string a.mU), (.int .i64 a.Room), J, a3, M, Z]), n, (.agg (lE T).toArray)] w 50 lG 2 r := by
 refine uk 48 func137 rfl (fun b => sg ?_)
 obtain ⟨A1, c2, rfl⟩ := u.form
 obtain ⟨A3, F, rfl⟩ := x.form
 obtain ⟨A5, c6, rfl⟩ := I.form
 obtain ⟨A7, c8, rfl⟩ := Y.form
 obtain ⟨A9, b9, rfl⟩ := K.form
 obtain ⟨b7, c0, rfl⟩ := U.form
 let a0 := (C2 a.lH.Name A1 a.lH.lZ.length c2 A3 a.lH.mq.length F a.mU a.Room A5 a.lV.length c6 A7 a.Shown.length c8 A9 a.ml.length b9 b7 a.ms.length c0)
 refine VE (mG b rfl (fun m7 d5 b => VE (mG b rfl (fun m8 d6 b => Wa (lr (Wa (lS (Wm (VA b Mh (lE T) bD aJ ?_)))))))))
 refine bS hm fun f1 i2 hm => ?_
 refine VE (eD b (bI _) call139 (fun o => (Bs n l T _ _ o (e9.mono nH.mono (mx.refl _)) i2)) ?_ (L0 := []))
 rintro _ n0 h4 m6 b B ag ⟨j5, d3, rfl, d4⟩
 obtain rfl := d3.symm
 refine V (mV cD rfl d4) (Wm (ln (mM (fun i E W => ∃ Q s N A c7, (E 16 = .int .i64 (i : Nat) ∧ E 15 = .int .i64 (f1.length : Nat)) ∧ mx h4 A ∧ ST false mD w W A ((d6, Ol (lE T) 52) :: ((d5, Ol a0 36) :: (N ++ c7))) ∧ E 1 = n ∧ E 3 = (.pointer (some ⟨d5, 0, none⟩)) ∧ E 5 = (.pointer (some ⟨d6, 0, none⟩)) ∧ E 7 = Q ∧ E 14 = j5 ∧ mw 50 lG 2 Q s N ∧ oW l T a (f1.drop i) s = some r) f1.length d4.len ⟨(.slice none 0 0), ([]), [], h4, _, ⟨rfl, rfl⟩, (mx.refl _), (b.lF St), rfl, rfl, rfl, rfl, rfl, (mw.nil _ _ _), hm⟩ dc dc dc (fun _ _ _ h => by obtain ⟨_, _, _, _, _, aa, _⟩ := h; exact aa) ?_ ?_)))
 ·rintro i3 E W g0 ⟨Q, s, N, A, c7, ⟨eI, eN⟩, g, b, d1, m, a4, q, d2, a5, k⟩
  obtain ⟨c, j6, h1, h0, h2⟩ := mE g0
  rw [h1] at k
  refine bg (VQ (nS (i := (i3 : Int)) (x0 := c) mZ.out cD dA d2 eI (d4.mono nH.mono g) (aF _) h0) (fun l2 ⟨_, ⟨l7, l8, rfl, d8, g9⟩, g1⟩ => V (lJ rfl (mr b.has g1 js dA)) (VE (my b fY (fun k0 l0 b => ?_)))))
  obtain ⟨L, O, rfl⟩ := d8.form
  obtain ⟨e0, e6, rfl⟩ := g9.form
  let a2 := (C6 c.lC.lK c.lC.lN c.lM.Op c.lM.K c.lM.lC.lK c.lM.lC.lN L c.lM.Kids.length O e0 c.nj.length e6)
  refine VO (mj (.agg a2.toArray) (a2.toArray) b rfl rfl dA oc nb rfl (fun k1 b => ln (ma (Wh q (Wf D9 (VA b Mh (C1 c.lM.Op c.lM.K c.lM.lC.lK c.lM.lC.lN L c.lM.Kids.length O) aV aC (bS k fun l3 g2 k => VE (pA b call197 (Ec c.lM (.slice L c.lM.Kids.length O) _ _ (d8.mono mg.mono b.lL) g2) (fun k2 i5 i8 j9 b f0 ab f5 => ?_)))))))))
  replace b := b.perm (Nr (Qr (Qb (Qb (Qb Qz)))) Nz)
  refine bS k fun i4 f7 k => VE (oK (enc := lG) (v := Q) (vs := i5) (R := N) b nF dc pJ aM oz.1 oz.2.1 rfl oz.2.2.1 oz.2.2.2 rfl rfl a5 (f5.Tw nF b (fun p d => (Ma (Ml d)))) f7 (fun k3 i6 h5 b f6 => Wa (mz (mJ (lU ?_)))))
  replace b := b.lF (Kr (Dr (Db St)))
  exact ⟨eI, i6, i4, h5, i8, _, ⟨rfl, eN⟩, (g.trans f0), (b.lF (Sb (Pr Pz) (Sb (Pr Pz) St))), d1, m, a4, rfl, d2, f6, (by rw [h2]; exact k)⟩
 rintro E W ⟨Q, s, N, A, c7, ⟨eI, eN⟩, g, b, d1, m, a4, q, d2, a5, k⟩
 rw [aI] at k
 refine lU (mf (sg (Wh d1 (V (lJ a4 (lQ b.has Mh (lE T) rfl bD aJ)) (bS k fun l4 g3 k => ?_)))))
 refine VE (eD b (bI _) call139 (fun o => (Bs n l T _ _ o (e9.mono nH.mono (B.trans g)) g3)) ?_ (L0 := []))
 rintro _ l9 i9 j7 b y ad ⟨m2, b3, rfl, h3⟩
 obtain rfl := b3.symm
 refine V (mV cD rfl h3) (Wi rfl (Wm (LJ k (fun f2 E W => ∃ e4, ST false mD w W i9 ((d6, Ol (lE T) 52) :: ((d5, Ol a0 36) :: (N ++ e4))) ∧ E 3 = (.pointer (some ⟨d5, 0, none⟩)) ∧ E 5 = (.pointer (some ⟨d6, 0, none⟩)) ∧ E 7 = Q ∧ E 35 = (.bool f2)) 4 ?_ (fun f2 H c1 => ?_))))
 ·rintro m1 E W ⟨e4, b, h7, h8, h9, i0⟩ t
  refine ln (CI t i0 (fun f8 t => ?_) (fun f8 t => ?_))
  ·refine sg (Wh h9 (Wa (ln ?_)))
   replace b := b.lF (Db (Db St))
   refine mu (mL ?_)
   obtain rfl := sj t
   exact nc (v := Q) rfl rfl ⟨_, N, rfl, b.oa (fun p d => (Ml d)) a5.nd, a5⟩
  refine kn ?_
  replace b := b.lF (Kb (Kb (Dr St)))
  refine sg (V (lO wH h7) (VA b (Mt Mh) (C7 a.lH.Name A1 a.lH.lZ.length c2 A3 a.lH.mq.length F) gU fE (V (lJ h8 (lQ b.has Mh (lE T) rfl bD aJ)) (bS t fun j g4 t => ?_))))
  let c5 : Value := (.string (((j.1).lC).lN))
  let P : Value := (.string (((j.1).lC).lK))
  refine VE (eD b (bI _) call23 (fun o => (Dn a.lH (.slice A1 a.lH.lZ.length c2) (.slice A3 a.lH.mq.length F) T _ _ o (u.mono mK.mono ((B.trans g).trans y)) (x.mono nH.mono ((B.trans g).trans y)) g4)) ?_ (L0 := []))
  rintro _ m0 m4 j8 b j3 ae ⟨m3, b4, rfl, d9⟩
  obtain rfl := b4.symm
  refine Wm (Wx rfl (Wx rfl (VE (my b bG (fun k6 l1 b => ?_)))))
  obtain ⟨a9, b1, rfl⟩ := d9.form
  let b8 : Value := (.slice a9 ((j.1).Kids).length b1)
  refine VO (mj (.agg #[(.int .i64 ((j.1).Op)), (.int .i64 ((j.1).K)), P, c5, b8]) (#[(.int .i64 ((j.1).Op)), (.int .i64 ((j.1).K)), P, c5, b8]) b rfl rfl aC oc nb rfl (fun k7 b => Wa (ln ?_)))
  replace b := b.lF (Kb (Db (Db St)))
  refine mf (sg (Wm (Wi rfl (ln (CI t rfl (fun f9 t => ?_) (fun f9 t => ?_))))))
  ·refine sg (Wa (ln ?_))
   replace b := b.lF (Db St)
   refine mu (mL ?_)
   obtain rfl := sj t
   exact nc (v := (.slice none 0 0)) rfl rfl ⟨_, [], rfl, b.oa (fun p d => by cases d) (by simp), mw.nil _ _ _⟩
  refine kg (VA b Mh [(.int .i64 ((j.1).Op)), (.int .i64 ((j.1).K)), P, c5, b8] aV aC (bS t fun l5 g7 t => VE (pA b call197 (Ec j.1 b8 _ _ (d9.mono mg.mono b.lL) g7) (fun k8 i7 m5 h6 b j4 af d7 => Wa (ln ?_)))))
  replace b := b.lF (Kr (Db St))
  refine mu ?_
  obtain rfl := sj t
  exact nc (v := i7) rfl rfl ⟨_, h6, rfl, b.oa (fun p d => (Ml d)) d7.nd, d7⟩
 refine bC H (fun z H => ?_) (fun z H => ?_)
 ·refine un z (un z (un z (V (mh (cB z) rfl) ?_)))
  obtain rfl := sj H
  exact c1 _ _ ⟨_, (b.lF St), m, a4, q, rfl⟩
 refine ug z (lJ m (lQ b.has (Mt Mh) a0 rfl dX dD)) (ug z (lJ a4 (lQ b.has Mh (lE T) rfl bD aJ)) (bS H fun l6 g8 H => sa z (Eg b call19 (JA a (.slice A1 a.lH.lZ.length c2) (.slice A3 a.lH.mq.length F) (.slice A5 a.lV.length c6) (.slice A7 a.Shown.length c8) (.slice A9 a.ml.length b9) (.slice b7 a.ms.length c0) T _ _ (u.mono mK.mono (((B.trans g).trans y).trans b.lL)) (x.mono nH.mono (((B.trans g).trans y).trans b.lL)) (I.mono (Pl.mono _) (((B.trans g).trans y).trans b.lL)) (Y.mono (Pl.mono _) (((B.trans g).trans y).trans b.lL)) (K.mono (Pl.mono _) (((B.trans g).trans y).trans b.lL)) (U.mono (Pl.mono _) (((B.trans g).trans y).trans b.lL)) g8) (fun k9 b => V (mi (cB z) rfl) ?_))))
 obtain rfl := sj H
 exact c1 _ _ ⟨_, (b.lF St), m, a4, q, rfl⟩
theorem Fv (a : ng) (B D H K I J : Value) (r : List lC) (w : World) (c : Sl mC 15 (hp w) B a.lH.lZ) (g : Sl mZ 8 (hp w) D a.lH.mq) (k : Sl (Pl lE) 9 (hp w) H a.lV) (z : Sl (Pl lE) 9 (hp w) K a.Shown) (x : Sl (Pl lG) 2 (hp w) I a.ml) (y : Sl (Pl lG) 2 (hp w) J a.ms) (hm : pP a = some r) :
  nq false pg0 76 [(.agg #[(.string a.lH.Name), B, D, (.string a.mU), (.int .i64 a.Room), H, K, I, J])] w 50 lG 2 r := by
 refine uk 25 func76 rfl (fun d => sg ?_)
 obtain ⟨A1, c2, rfl⟩ := c.form
 let a4 : Value := (.slice A1 a.lH.lZ.length c2)
 obtain ⟨A3, c4, rfl⟩ := g.form
 let a5 : Value := (.slice A3 a.lH.mq.length c4)
 obtain ⟨A5, c6, rfl⟩ := k.form
 let n : Value := (.slice A5 a.lV.length c6)
 obtain ⟨A7, c8, rfl⟩ := z.form
 let q : Value := (.slice A7 a.Shown.length c8)
 obtain ⟨A9, T, rfl⟩ := x.form
 let s : Value := (.slice A9 a.ml.length T)
 obtain ⟨Q, U, rfl⟩ := y.form
 let a9 : Value := (.slice Q a.ms.length U)
 let a0 := (C2 a.lH.Name A1 a.lH.lZ.length c2 A3 a.lH.mq.length c4 a.mU a.Room A5 a.lV.length c6 A7 a.Shown.length c8 A9 a.ml.length T Q a.ms.length U)
 refine VE (mG d rfl (fun h1 d7 d => Wa (lr (VA d Mh a0 dX dD (bS hm fun d8 e4 hm => ?_)))))
 refine VE (eD d (bI _) call136 (fun hh => (Ez a a4 a5 n q s a9 _ _ hh (c.mono mK.mono (mx.refl _)) (g.mono nH.mono (mx.refl _)) (k.mono (Pl.mono _) (mx.refl _)) (z.mono (Pl.mono _) (mx.refl _)) (x.mono (Pl.mono _) (mx.refl _)) (y.mono (Pl.mono _) (mx.refl _)) e4)) ?_ (L0 := []))
 rintro _ h4 h5 h0 d t ae ⟨d9, b9, rfl, e6⟩
 obtain rfl := b9.symm
 refine Wa (lr (Wa (lS (VA d Mh a0 dX dD (bS hm fun c5 e5 hm => VE (pA d call27 (B9 a a4 a5 n q s a9 _ _ (c.mono mK.mono (t.trans d.lL)) (g.mono nH.mono (t.trans d.lL)) (k.mono (Pl.mono _) (t.trans d.lL)) (z.mono (Pl.mono _) (t.trans d.lL)) (x.mono (Pl.mono _) (t.trans d.lL)) (y.mono (Pl.mono _) (t.trans d.lL)) e5) (fun h3 f5 e0 f3 d G af m => V (oZ aK rfl m) ?_)))))))
 refine Wm (ln (mM (fun i E W => ∃ M Z Y a3 A, (E 12 = .int .i64 (i : Nat) ∧ E 11 = .int .i64 (c5.length : Nat)) ∧ mx e0 a3 ∧ ST false mD w W a3 ((d7, Ol a0 36) :: (Y ++ (f3 ++ A))) ∧ E 1 = (.pointer (some ⟨d7, 0, none⟩)) ∧ E 3 = d9 ∧ E 4 = M ∧ E 10 = f5 ∧ mw 50 lG 2 M Z Y ∧ ol a d8 (c5.drop i) Z = some r) c5.length m.len ⟨(.slice none 0 0), ([]), [], e0, _, ⟨rfl, rfl⟩, (mx.refl _), (d.lF (Sb (Pr Pz) St)), rfl, rfl, rfl, rfl, (mw.nil _ _ _), hm⟩ dc dc dc (fun _ _ _ h => by obtain ⟨_, _, _, _, _, aa, _⟩ := h; exact aa) ?_ ?_))
 ·rintro e7 E W d1 ⟨M, Z, Y, a3, A, ⟨eI, eN⟩, u, d, F, L, O, P, a2, j⟩
  obtain ⟨N, f6, d5, c1, d6⟩ := mE d1
  rw [d5] at j
  refine bg (VQ (oS (i := (e7 : Int)) (x0 := N) aK aJ P eI m (aF _) c1) (fun g4 d2 => V (lJ rfl (qp d.has (fun p l => (Mt (Ma (Ml l)))) m nl d2 c1 bD aJ)) (VE (my d cL (fun f8 g3 d => VO (mj (.agg (lE N).toArray) ((lE N).toArray) d rfl rfl aJ (pc N) nb rfl (fun f9 d => ln (ma (Wh O (V (lJ F (lQ d.has (Mt Mh) a0 rfl dX dD)) (Wh L (VA d Mh (lE N) bD aJ (bS j fun g7 d3 j => ?_)))))))))))))
  refine VE (pA d call137 (Kx a a4 a5 n q s a9 d9 d8 N _ _ (c.mono mK.mono (((t.trans G).trans u).trans d.lL)) (g.mono nH.mono (((t.trans G).trans u).trans d.lL)) (k.mono (Pl.mono _) (((t.trans G).trans u).trans d.lL)) (z.mono (Pl.mono _) (((t.trans G).trans u).trans d.lL)) (x.mono (Pl.mono _) (((t.trans G).trans u).trans d.lL)) (y.mono (Pl.mono _) (((t.trans G).trans u).trans d.lL)) (e6.mono nH.mono ((G.trans u).trans d.lL)) d3) (fun g0 e9 f2 f7 d c3 ab c7 => ?_))
  replace d := d.perm (Nr (Qr (Qb (Qb Qz))) Nz)
  refine bS j fun e8 d0 j => VE (oK (enc := lG) (v := M) (vs := e9) (R := Y) d nF dc pJ aM oz.1 oz.2.1 rfl oz.2.2.1 oz.2.2.2 rfl rfl a2 (c7.Tw nF d (fun p l => (Ma (Ml l)))) d0 (fun g1 f0 e1 d c9 => Wa (mz (mJ (lU ?_)))))
  replace d := d.lF (Kr (Dr (Db St)))
  exact ⟨eI, f0, e8, e1, f2, _, ⟨rfl, eN⟩, (u.trans c3), (d.lF (Sb (Pr Pz) St)), F, L, rfl, P, c9, (by rw [d6]; exact j)⟩
 rintro E W ⟨M, Z, Y, a3, A, ⟨eI, eN⟩, u, d, F, L, O, P, a2, j⟩
 rw [aI] at j
 refine lU ?_
 replace d := d.lF (Db (Kr (Dr St)))
 refine sg (Wh O (bS j fun g8 d4 j => VE (pA d call86 (xg M Z _ _ (a2.sl nF (fun b o l => d.at_ (Ml l))) d4) (fun g2 f1 g9 e2 d f4 ad c0 => Wa (ln ?_)))))
 replace d := d.lF (Kr (Dr St))
 refine mu ?_
 obtain rfl := sj j
 exact nc (v := f1) rfl rfl ⟨_, e2, rfl, d.oa (fun p l => (Ml l)) c0.nd, c0⟩
theorem E0 (I : Int) (r : List lC) (w : World) (hm : vh I = some r) :
  nq true pg0 157 [(.slice none 0 0), (.int .i64 I)] w 50 lG 2 r := by
 refine uk 27 func157 rfl (fun b => sg (Wa (lS (Wm (Wi rfl (ln (CI hm rfl (fun K hm => ?_) (fun K hm => ?_))))))))
 ·cases hm
 refine kn (mf (CJ hm (fun u E W => ∃ g c t, ST true mD w W (hp w) (c ++ t) ∧ E 0 = g ∧ mw 50 lG 2 g u c) (fun u a => ?_) ?_))
 ·refine sg (Wm (Wm (V (F8 aM rfl) (Wm (V (Ac aM rfl) (Wi rfl (Wi rfl (Wa (lr (Wm ?_))))))))))
  refine Wi rfl (ln (CI a rfl (fun y a => ?_) (fun y a => ?_)))
  ·refine ma (Wm (Wm (V (F8 aM rfl) (V (Kt aM aG rfl rfl) (Wm (bS a fun T B a => VE (G3 (enc := lG) (z := K0) b nF dc aM eK oz.1 oz.2.1 oz.2.2.1 oz.2.2.2 rfl rfl rfl B (fun N U H b x => Wm (V (Ac aM rfl) (bS a fun _ j a => VQ (xn (i := 0) aM aG rfl rfl x nF (ue j) (tL j)) (fun M G => Wa (ln ?_))))))))))))
   obtain rfl := sj a
   exact ⟨M, H, _, (b.lF St), rfl, G⟩
  refine kn ?_
  obtain rfl := sj a
  exact ⟨(.slice none 0 0), [], _, (b.lF St), rfl, (mw.nil _ _ _)⟩
 rintro Q E W ⟨g, c, t, b, J, k⟩ D
 refine sg (Wh J (Wa (lt ?_)))
 obtain rfl := sj D
 exact nc (v := g) rfl rfl ⟨_, c, rfl, b.oa (fun p d => (Ml d)) k.nd, k⟩
theorem yC (t : Value) (z : List (List lC)) (r : List lC) (w : World) (j : Sl (Fi lG 2) 1 (hp w) t z) (hm : rY z = some r) :
  nq true pg0 87 [t] w 50 lG 2 r := by
 refine uk 36 func87 rfl (fun b => sg (Wa (lr (Wa (lS (Wm ?_))))))
 refine V (mV iB rfl j) (Wm (ln (mM (fun i E W => ∃ u Q, (E 11 = .int .i64 (i : Nat) ∧ E 10 = .int .i64 (z.length : Nat)) ∧ ST true mD w W (hp w) Q ∧ E 0 = t ∧ E 3 = (.int .i64 u) ∧ E 9 = t ∧ qM z (z.drop i) u = some r) z.length j.len ⟨0, _, ⟨rfl, rfl⟩, (b.lF St), rfl, rfl, rfl, hm⟩ dc dc dc (fun _ _ _ h => by obtain ⟨_, _, l, _⟩ := h; exact l) ?_ ?_)))
 ·rintro d1 E W b9 ⟨u, Q, ⟨d, m⟩, b, T, U, Y, a⟩
  obtain ⟨n, e0, c4, c3, c5⟩ := mE b9
  rw [c4] at a
  refine bg (VQ (F7 (enc := lG) (k2 := 2) (i := (d1 : Int)) (x0 := n) iB jr Y d j (aF _) c3) (fun e2 ⟨d3, c0, c2⟩ => V (lJ rfl (po b.has (y := d3) c0 gV)) (Wa (lr (Wh U (Wm (V (mV aM rfl c2) (Wi rfl (Wa ?_)))))))))
  refine lr (Wm (Wi rfl (ln (CI a rfl (fun b7 a => ?_) (fun b7 a => ?_)))))
  ·cases a
  exact nf (mJ (lU ⟨d, (wi0 .i64 (u + (n.length : Int))), _, ⟨rfl, m⟩, (b.lF St), T, rfl, Y, (by rw [c5]; exact a)⟩))
 rintro E W ⟨u, Q, ⟨d, m⟩, b, T, U, Y, a⟩
 rw [aI] at a
 refine lU (sg (Wh U (bS a fun d2 c1 a => VE (pA b call157 (E0 u _ _  c1) (fun e1 d4 o d0 b a4 q b6 => Wa (lS (Wh T (V (mV iB rfl j) (Wm ?_)))))))))
 refine ln (CJ a (fun K E W => ∃ G x N, ST true mD w W o (x ++ N) ∧ E 6 = G ∧ mw 50 lG 2 G K x) (fun K A => ?_) ?_)
 ·refine mM (fun i E W => ∃ k D g H, (E 27 = .int .i64 (i : Nat) ∧ E 26 = .int .i64 (z.length : Nat)) ∧ ST true mD w W o (g ++ H) ∧ E 6 = k ∧ E 25 = t ∧ mw 50 lG 2 k D g ∧ qJ (z.drop i) D = some K) z.length j.len ⟨d4, d2, d0, _, ⟨rfl, rfl⟩, (b.lF St), rfl, rfl, b6, A⟩ dc dc dc (fun _ _ _ h => by obtain ⟨_, _, _, _, l, _⟩ := h; exact l) ?_ ?_
  ·rintro c6 E W a3 ⟨k, D, g, H, ⟨d, m⟩, b, I, J, B, c⟩
   obtain ⟨c9, d5, O, a9, P⟩ := mE a3
   rw [O] at c
   refine bg (VQ (F7 (enc := lG) (k2 := 2) (i := (c6 : Int)) (x0 := c9) iB jr J d (j.mono (Fi.mono _ _) a4) (aF _) a9) (fun d8 ⟨Z, F, L⟩ => V (lJ rfl (po b.has (y := Z) F gV)) (Wa (ln (ma (Wh I (Wm (bS c fun c7 a2 c => VE (oK (enc := lG) (v := k) (vs := Z) (R := g) b nF dc pJ aM oz.1 oz.2.1 rfl oz.2.2.1 oz.2.2.2 rfl rfl B (L.mono (Pl.mono _) b.lL) a2 (fun d6 c8 b4 b s => Wa (mz ?_)))))))))))
   exact mJ (lU ⟨d, c8, c7, b4, _, ⟨rfl, m⟩, (b.lF St), rfl, J, s, (by rw [P]; exact c)⟩)
  rintro E W ⟨k, D, g, H, ⟨d, m⟩, b, I, J, B, c⟩
  rw [aI] at c
  refine lU ?_
  obtain rfl := sj c
  exact ⟨k, g, _, (b.lF St), I, B⟩
 rintro d7 E W ⟨G, x, N, b, b5, M⟩ a5
 refine sg (Wh b5 (Wa (lt ?_)))
 obtain rfl := sj a5
 exact nc (v := G) rfl rfl ⟨_, x, rfl, b.oa (fun p hq => (Ml hq)) M.nd, M⟩
theorem GI (j : Value) (t : List lC) (c : lC) (r : Int) (w : World) (g : Sl (Pl lG) 2 (hp w) j t) (hm : yW t c = some r) :
  mo true pg0 251 [j, (.agg (lG c).toArray)] w (.int .i64 r) := by
 refine cG 19 func251 rfl (fun b => sg (VE (mG b rfl (fun Q J b => Wa (lS (Wm (V (mV aM rfl g) (Wm (ln ?_)))))))))
 refine mM (fun i E W => ∃ k, (E 8 = .int .i64 (i : Nat) ∧ E 7 = .int .i64 (t.length : Nat)) ∧ ST true mD w W (hp w) ((J, Ol (lG c) 50) :: k) ∧ E 0 = j ∧ E 3 = (.pointer (some ⟨J, 0, none⟩)) ∧ sF c (t.drop i) i = some r) t.length g.len ⟨_, ⟨rfl, rfl⟩, (b.lF St), rfl, rfl, hm⟩ dc dc dc (fun _ _ _ h => by obtain ⟨_, m, _⟩ := h; exact m) ?_ ?_
 ·rintro K E W B ⟨k, ⟨l, o⟩, b, u, x, a⟩
  obtain ⟨y, M, H, G, I⟩ := mE B
  rw [H] at a
  refine bg (Wh l (Wa (ln (mf ?_))))
  replace b := b.drew
  have d := b.has.lF (Kb Sn)
  refine mT d mB (XH 0 rfl d (fun _ n => lJ x (lQ n Mh (lG c) rfl aT aG)) (X 1 rfl d (lP u) (X 2 rfl d (lP rfl) (XQ 3 rfl d (og (enc := lG) (i := (K : Int)) (x0 := y) aM aG rfl rfl g (aF _) G) (fun N D => XH 4 rfl d (fun _ n => lJ rfl (mr n D aT aG)) (X 5 rfl d (vx rfl rfl (oI dK) (rA (pX _ c y))) (nh kr (lU (CI a rfl (fun z a => ?_) (fun z a => ?_))))))))))
  ·refine sg (Wm (Wa (ln ?_)))
   replace b := b.lF (Db St)
   refine mu (nY (mL (nY (mL ?_))))
   obtain rfl := sj a
   exact rP b
  exact nf (mJ (lU ⟨l, _, ⟨rfl, o⟩, (b.lF St), u, x, (by rw [I]; exact a)⟩))
 rintro E W ⟨k, ⟨l, o⟩, b, u, x, a⟩
 rw [aI] at a
 refine lU ?_
 replace b := b.lF (Db St)
 exact sg (Wa (lt (rQ a b)))
theorem E5 (a : Value) (g : List lC) (c : lC) (r : Bool) (w : World) (i : Sl (Pl lG) 2 (hp w) a g) (hm : xF g c = some r) :
  mo true pg0 207 [a, (.agg (lG c).toArray)] w (.bool r) := by
 refine cG 9 func207 rfl (fun b => sg (VE (mG b rfl (fun k u b => Wa (lr (Wm (VA b Mh (lG c) aT aG (bS hm fun x j hm => VE (Eg b call251 (GI a g c _ _ (i.mono (Pl.mono _) b.lL) j) (fun t b => Wi rfl (Wa ?_)))))))))))
 refine ln ?_
 exact mu (rQ hm b)
theorem Pg (a : Value) (g : List lC) (c : lC) (r : Bool) (w : World) (i : Sl (Pl lG) 2 (hp w) a g) (hm : Ds g c = some r) :
  mo true pg0 150 [a, (.agg (lG c).toArray)] w (.bool r) := by
 refine cG 8 func150 rfl (fun b => sg (VE (mG b rfl (fun k u b => Wa (lr (Wm (VA b Mh (lG c) aT aG (bS hm fun x j hm => VE (Eg b call207 (E5 a g c _ _ (i.mono (Pl.mono _) b.lL) j) (fun t b => Wa (mz ?_)))))))))))
 refine lU ?_
 exact mu (rQ hm b)
theorem Jl (Q : lC) (T : Nat) (k : ByteArray) (c : Value) (i : List mI) (g : Value) (j : List nx) (H : ByteArray) (I : Int) (t : Value) (u : List lD) (B : Value) (G : List lD) (x : Value) (D : List lC) (a : Value) (z : List lC) (r : Bool) (w : World) (K : Sl mC 15 (hp w) c i) (M : Sl mZ 8 (hp w) g j) (N : Sl (Pl lE) 9 (hp w) t u) (Z : Sl (Pl lE) 9 (hp w) B G) (U : Sl (Pl lG) 2 (hp w) x D) (J : Sl (Pl lG) 2 (hp w) a z) (Y : At (hp w) (.pointer (some ⟨T, 0, none⟩)) [(.string k), c, g, (.string H), (.int .i64 I), t, B, x, a]) (hm : wE Q k i j H I u G D z = some r) :
  mo true pg0 149 [(.agg (lG Q).toArray), (.pointer (some ⟨T, 0, none⟩))] w (.bool r) := by
 refine cG 8 func149 rfl (fun b => sg (VE (mG b rfl (fun W2 h b => Wa (lr (VQ (uq [a] CK rfl Y rfl) (fun l d => V (lJ rfl (po b.has (y := a) d gV)) (VA b Mh (lG Q) aT aG (bS hm fun m a2 hm => VE (Eg b call150 (Pg a z Q _ _ (J.mono (Pl.mono _) b.lL) a2) (fun W8 b => Wa ?_)))))))))))
 refine ln ?_
 exact mu (rQ hm b)
theorem Gu (a : ng) (t u G M J K b2 : Value) (Q r : List lC) (w : World) (c : Sl mC 15 (hp w) t a.lH.lZ) (g : Sl mZ 8 (hp w) u a.lH.mq) (j : Sl (Pl lE) 9 (hp w) G a.lV) (B : Sl (Pl lE) 9 (hp w) M a.Shown) (y : Sl (Pl lG) 2 (hp w) J a.ml) (z : Sl (Pl lG) 2 (hp w) K a.ms) (R : Sl (Pl lG) 2 (hp w) b2 Q) (hm : qU a Q = some r) :
  nq false pg0 85 [(.agg #[(.string a.lH.Name), t, u, (.string a.mU), (.int .i64 a.Room), G, M, J, K]), b2] w 50 lG 2 r := by
 refine uk 19 func85 rfl (fun d => sg ?_)
 obtain ⟨A1, c2, rfl⟩ := c.form
 obtain ⟨A3, s, rfl⟩ := g.form
 obtain ⟨A5, A, rfl⟩ := j.form
 obtain ⟨A7, F, rfl⟩ := B.form
 obtain ⟨A9, a2, rfl⟩ := y.form
 obtain ⟨U, a3, rfl⟩ := z.form
 refine VE (mG d rfl (fun e7 q d => Wa (lr (VA d Mh (C2 a.lH.Name A1 a.lH.lZ.length c2 A3 a.lH.mq.length s a.mU a.Room A5 a.lV.length A A7 a.Shown.length F A9 a.ml.length a2 U a.ms.length a3) dX dD (bS hm fun N d1 hm => VE (pA d call76 (Fv a (.slice A1 a.lH.lZ.length c2) (.slice A3 a.lH.mq.length s) (.slice A5 a.lV.length A) (.slice A7 a.Shown.length F) (.slice A9 a.ml.length a2) (.slice U a.ms.length a3) _ _ (c.mono mK.mono d.lL) (g.mono nH.mono d.lL) (j.mono (Pl.mono _) d.lL) (B.mono (Pl.mono _) d.lL) (y.mono (Pl.mono _) d.lL) (z.mono (Pl.mono _) d.lL) d1) (fun e8 f3 f6 e5 d D a1 P => Wm ?_)))))))
 obtain ⟨Y, a4, rfl⟩ := P.form
 obtain ⟨Z, a5, rfl⟩ := R.form
 refine VE (mH (cs := #[(.slice Y N.length a4), (.slice Z Q.length a5)]) d (qV rfl rfl) (ot iB jr zeroValue34) (fun e9 d7 d => bS hm fun d8 d2 hm => VE (pA d call87 (nq.nz (yC (.slice (some ⟨d7, 0, none⟩) 2 2) ([N, Q]) _ _ (Fi.lit (l := [N, Q]) (vs := [(.slice Y N.length a4), (.slice Z Q.length a5)]) rfl nb (d.at_ Mh) (.cons (P.sl nF (fun b o n => d.at_ (Mt (Ml n)))) (.cons (R.mono (Pl.mono _) (D.trans d.lL)) .nil))) d2)) (fun f0 e0 f7 e6 d H aa c9 => bS hm fun d9 d3 hm => VE (pA d call86 (xg e0 d8 _ _ (c9.sl nF (fun b o n => d.at_ (Ml n))) d3) (fun f1 e1 f8 d5 d I ab d0 => V (qz (by exact vc rfl) rfl) (bS hm fun c5 d4 hm => ?_)))))))
 refine VE (Gz d (Cr Qz Cn) call148 (fun hH hN h O => (zJ e1 d9 d5 (.func (.func 149) #[] #[(.pointer (some ⟨q, 0, none⟩))]) (fun (x : lC) => wE x a.lH.Name a.lH.lZ a.lH.mq a.mU a.Room a.lV a.Shown a.ml a.ms) _ _ ⟨hH, hN, mx.refl _⟩ d0 ⟨149, #[], #[(.pointer (some ⟨q, 0, none⟩))], rfl, call149, fun W x r m hm => (Jl x q a.lH.Name (.slice A1 a.lH.lZ.length c2) a.lH.lZ (.slice A3 a.lH.mq.length s) a.lH.mq a.mU a.Room (.slice A5 a.lV.length A) a.lV (.slice A7 a.Shown.length F) a.Shown (.slice A9 a.ml.length a2) a.ml (.slice U a.ms.length a3) a.ms r W (c.mono mK.mono ((((D.trans H).trans I).trans h).trans m)) (g.mono nH.mono ((((D.trans H).trans I).trans h).trans m)) (j.mono (Pl.mono _) ((((D.trans H).trans I).trans h).trans m)) (B.mono (Pl.mono _) ((((D.trans H).trans I).trans h).trans m)) (y.mono (Pl.mono _) ((((D.trans H).trans I).trans h).trans m)) (z.mono (Pl.mono _) ((((D.trans H).trans I).trans h).trans m)) (At.of (m _ _ (O _ _ (Ma (Mt (Ma Mh))))) _ rfl) hm).nz⟩ d4)) (fun f2 f4 f9 e4 d e3 ad L c7 => ?_))
 obtain ⟨f5, d6, T, rfl, b1⟩ := c7
 replace T := T.symm; subst T
 replace d := d.perm (Tr Tn)
 refine Wa (ln ?_)
 replace d := d.lF (Kr (Dr (Db (Dr (Db St)))))
 refine sg (Wm (Wm (V (oZ aM rfl b1) (V (RP (k := .i64) rfl rfl) (bS hm fun _ a9 hm => VQ (xn (i := (if 16 < (c5.length : Int) then 16 else (c5.length : Int))) aM aG rfl rfl b1 nF (ue a9) (tL a9)) (fun e2 b0 => Wa (lt ?_)))))))
 obtain rfl := sj hm
 exact nc (v := e2) rfl rfl ⟨_, d6, rfl, d.oa (fun p n => (Ml n)) b0.nd, b0⟩
theorem Nw (c : Value) (D : List lD) (G : ByteArray) (r : ((List (lC × (List (ByteArray × Bool)))) × (List lD) × (List (lC × (List lD))) × (List (ByteArray × (List lD))) × (List mc) × Int × ByteArray)) (w : World) (I : Sl (Pl lE) 9 (hp w) c D) (hm : By D G = some r) :
  nJ false pg0 51 [c, (.string G)] w [] (fun v L1 W' => ∃ g h l S4 m S7 n j z k B t u, v = (.func (.func 110) #[] #[(.pointer (some ⟨g, 0, none⟩)), (.pointer (some ⟨u, 0, none⟩))]) ∧ L1 = ((g, Ob #[(.pointer (some ⟨h, 0, none⟩))] 132) :: ((h, Ob #[l, m, n, z, B, (.int .i64 (r.2.2.2.2.2.1))] 189) :: ((u, Ob #[(.string (r.2.2.2.2.2.2))] 9) :: (S4 ++ (S7 ++ (j ++ (k ++ (t ++ [])))))))) ∧ nV (fun (x : lC) => (.agg (lG x).toArray)) (na Value.string (fun (x : Bool) => (Value.bool x))) l r.1 S4 ∧ mw 52 lE 9 m r.2.1 S7 ∧ nV (fun (x : lC) => (.agg (lG x).toArray)) (mw 52 lE 9) n r.2.2.1 j ∧ nV Value.string (mw 52 lE 9) z r.2.2.2.1 k ∧ sy 111 mS 3 B r.2.2.2.2.1 t) := by
 refine uk 9 func51 rfl (fun b => sg (VE (mG b rfl (fun W2 g b => Wa (lr (Wm (bS hm fun W o hm => ?_)))))))
 refine VE (Gz b (bI _) call62 (fun _ _ _ _ => (Ki c D _ _ (I.mono (Pl.mono _) b.lL) o)) (fun W5 v9 O R b P L d H => ?_) (L0 := []))
 obtain ⟨i, q, T, s, U, a9, Y, A, Z, F, a2, a, rfl, J, K, M, N, Q⟩ := H
 replace a := a.symm; subst a
 replace b := b.perm (Tb (Tr (Tr (Tr (Tr (Tr Tn))))))
 refine VE (my b zeroValue132 (fun c1 y b => VO (mj (.pointer (some ⟨i, 0, none⟩)) (#[(.pointer (some ⟨i, 0, none⟩))]) b rfl rfl sizeOf132 oc nb rfl (fun c2 b => lr (V (qz (by exact yA rfl rfl) rfl) (Wa (lt ?_)))))))
 obtain rfl := sj hm
 exact nc (v := (.func (.func 110) #[] #[(.pointer (some ⟨y, 0, none⟩)), (.pointer (some ⟨g, 0, none⟩))])) rfl rfl ⟨_, _, rfl, (b.QV (Kb (Kb (Sb (Pr (Pr (Pr (Pr (Pr Pz))))) (Kr (Kr (Kr (Kr (Kr Sn))))))))), y, i, q, T, s, U, a9, Y, A, Z, F, a2, g, rfl, rfl, J, K, M, N, Q⟩
theorem J4 (N : lC) (Q D : Nat) (t : Value) (B : List (lC × (List (ByteArray × Bool)))) (a : Value) (j : List lD) (i : Value) (z : List (lC × (List lD))) (c : Value) (k : List (ByteArray × (List lD))) (g : Value) (u : List mc) (I : Int) (T : Nat) (Y : ByteArray) (r : Bool) (w : World) (M : uA (fun (x : lC) => (.agg (lG x).toArray)) (na Value.string (fun (x : Bool) => (Value.bool x))) (hp w) t B) (G : Sl (Pl lE) 9 (hp w) a j) (K : uA (fun (x : lC) => (.agg (lG x).toArray)) (mw 52 lE 9) (hp w) i z) (H : uA Value.string (mw 52 lE 9) (hp w) c k) (J : Sl (Pl mS) 3 (hp w) g u) (U : At (hp w) (.pointer (some ⟨D, 0, none⟩)) [t, a, i, c, g, (.int .i64 I)]) (Z : At (hp w) (.pointer (some ⟨Q, 0, none⟩)) [(.pointer (some ⟨D, 0, none⟩))]) (d : At (hp w) (.pointer (some ⟨T, 0, none⟩)) [(.string Y)]) (hm : vG N B j z k u I Y = some r) :
  mo true pg0 110 [(.agg (lG N).toArray), (.pointer (some ⟨Q, 0, none⟩)), (.pointer (some ⟨T, 0, none⟩))] w (.bool r) := by
 refine cG 9 func110 rfl (fun b => sg (VE (mG b rfl (fun W2 h b => Wa (lr (V (lJ rfl (po b.has (y := (.pointer (some ⟨D, 0, none⟩))) Z isAgg132)) (VA b Mh (lG N) aT aG (V (lJ rfl (po b.has (y := (.string Y)) d bO)) (bS hm fun l a2 hm => VE (Eg b call64 (D0 D t B a j i z c k g u I N Y _ _ (M.mono b.lL) (G.mono (Pl.mono _) b.lL) (K.mono b.lL) (H.mono b.lL) (J.mono (Pl.mono _) b.lL) (U.mono b.lL) a2) (fun W5 b => Wa ?_)))))))))))
 refine ln ?_
 exact mu (rQ hm b)
theorem M1 (k : lH) (H K c1 : Value) (L : List lD) (a2 : ByteArray) (r : List lD) (w : World) (g : Sl mC 15 (hp w) H k.lZ) (J : Sl mZ 8 (hp w) K k.mq) (h5 : Sl (Pl lE) 9 (hp w) c1 L) (hm : sC k L a2 = some r) :
  nq false pg0 13 [(.agg #[(.string k.Name), H, K]), c1, (.string a2)] w 52 lE 9 r := by
 refine uk 47 func13 rfl (fun d => sg ?_)
 obtain ⟨A1, c2, rfl⟩ := g.form
 let c8 : Value := (.slice A1 k.lZ.length c2)
 obtain ⟨A3, c4, rfl⟩ := J.form
 let O := (C7 k.Name A1 k.lZ.length c2 A3 k.mq.length c4)
 refine VE (mG d rfl (fun W6 A d => Wa (lr (Wm (Wm (bS hm fun B i5 hm => ?_))))))
 refine VE (Gz d (bI _) call51 (fun _ _ _ _ => (Nw c1 L a2 _ _ (h5.mono (Pl.mono _) d.lL) i5)) (fun W9 l1 g4 l0 d a5 af ae h4 => ?_) (L0 := []))
 obtain ⟨N, q, e0, f9, e1, g0, e2, g1, e3, g2, e4, g3, Q, c0, rfl, h6, h7, h8, h9, i0⟩ := h4
 replace c0 := c0.symm; subst c0
 replace d := d.perm (Tb (Tb (Tb (Tr (Tr (Tr (Tr (Tr Tn))))))))
 refine Wa (lr (Wa (lS (Wf xT (VB d (Mt (Mt (Mt (Ma (Ma (Ma (Ma (Ma Mh)))))))) rfl rfl jE (V (mV dC rfl g) (Wm ?_)))))))
 refine ln (mM (fun i E W => ∃ D I G s P, (E 19 = .int .i64 (i : Nat) ∧ E 18 = .int .i64 (k.lZ.length : Nat)) ∧ mx g4 s ∧ ST false mD w W s ((N, Ob #[(.pointer (some ⟨q, 0, none⟩))] 132) :: ((q, Ob #[e0, e1, e2, e3, e4, (.int .i64 B.2.2.2.2.2.1)] 189) :: ((Q, Ob #[(.string B.2.2.2.2.2.2)] 9) :: ((A, Ol O 25) :: (G ++ (f9 ++ (g0 ++ (g1 ++ (g2 ++ (g3 ++ P)))))))))) ∧ E 3 = (.pointer (some ⟨A, 0, none⟩)) ∧ E 7 = (.func (.func 110) #[] #[(.pointer (some ⟨N, 0, none⟩)), (.pointer (some ⟨Q, 0, none⟩))]) ∧ E 8 = D ∧ E 17 = c8 ∧ mw 52 lE 9 D I G ∧ tR k B (k.lZ.drop i) I = some r) k.lZ.length g.len ⟨(.slice none 0 0), ([]), [], g4, _, ⟨rfl, rfl⟩, (mx.refl _), (d.lF (Kb (Kb (Kb (Sb (Pr (Pr (Pr (Pr (Pr Pz))))) St))))), rfl, rfl, rfl, rfl, (mw.nil _ _ _), hm⟩ dc dc dc (fun _ _ _ h => by obtain ⟨_, _, _, _, _, aa, _⟩ := h; exact aa) ?_ ?_)
 ·let b6 : Value := (.func (.func 110) #[] #[(.pointer (some ⟨N, 0, none⟩)), (.pointer (some ⟨Q, 0, none⟩))])
  rintro d8 E W f0 ⟨D, I, G, s, P, ⟨F, eN⟩, u, d, Y, Z, a3, a4, M, j⟩
  obtain ⟨a, i6, f8, f7, c6⟩ := mE f0
  rw [f8] at j
  refine bg (VQ (nS (i := (d8 : Int)) (x0 := a) mC.out dC dH a4 F (g.mono mK.mono (a5.trans u)) (aF _) f7) (fun k1 ⟨_, ⟨k4, k5, rfl, f5, f6⟩, f1⟩ => V (lJ rfl (mr d.has f1 jF dH)) (VE (my d eP (fun i9 d0 d => ?_)))))
  obtain ⟨b2, b7, rfl⟩ := f5.form
  obtain ⟨b3, b9, rfl⟩ := f6.form
  let a0 := (C3 a.Signed.lD.Kind a.Signed.lD.Head.lK a.Signed.lD.Head.lN a.Signed.lD.mX a.Signed.lD.B.lK a.Signed.lD.B.lN a.Signed.lD.C.lK a.Signed.lD.C.lN a.Signed.lD.mQ b2 a.Signed.Tag.length b7 a.lM.Op a.lM.K a.lM.lC.lK a.lM.lC.lN b3 a.lM.Kids.length b9)
  refine VO (mj (.agg a0.toArray) (a0.toArray) d rfl rfl dH oc nb rfl (fun j0 d => lr (V (lJ Y (lQ d.has (Mt (Mt (Mt (Mt Mh)))) O rfl gU fE)) (Wf xZ (Wf xh (VA d Mh (lE a.Signed.lD) bD aJ (bS j fun c f2 j => ?_)))))))
  let e5 : Value := (.string (((c.1).lC).lN))
  let d1 : Value := (.string (((c.1).lC).lK))
  refine VE (eD d (bI _) call23 (fun hh => (Dn k c8 (.slice A3 k.mq.length c4) a.Signed.lD _ _ hh (g.mono mK.mono (a5.trans u)) (J.mono nH.mono (a5.trans u)) f2)) ?_ (L0 := []))
  rintro _ k6 c3 i8 d a9 ab ⟨k8, a6, rfl, c7⟩
  obtain rfl := a6.symm
  refine Wm (Wx rfl (Wx rfl (VE (my d bG (fun j4 k0 d => ?_)))))
  obtain ⟨T, U, rfl⟩ := c7.form
  let b8 : Value := (.slice T ((c.1).Kids).length U)
  refine VO (mj (.agg #[(.int .i64 ((c.1).Op)), (.int .i64 ((c.1).K)), d1, e5, b8]) (#[(.int .i64 ((c.1).Op)), (.int .i64 ((c.1).K)), d1, e5, b8]) d rfl rfl aC oc nb rfl (fun j5 d => Wa (lr (Wm (Wi rfl (Wm (LJ j (fun d9 E W => ∃ c9, ST false mD w W c3 ((d0, Ol a0 60) :: ((N, Ob #[(.pointer (some ⟨q, 0, none⟩))] 132) :: ((q, Ob #[e0, e1, e2, e3, e4, (.int .i64 B.2.2.2.2.2.1)] 189) :: ((Q, Ob #[(.string B.2.2.2.2.2.2)] 9) :: ((A, Ol O 25) :: (G ++ (f9 ++ (g0 ++ (g1 ++ (g2 ++ (g3 ++ c9))))))))))) ∧ E 3 = (.pointer (some ⟨A, 0, none⟩)) ∧ E 7 = b6 ∧ E 8 = D ∧ E 10 = (.pointer (some ⟨d0, 0, none⟩)) ∧ E 17 = c8 ∧ E 18 = (.int .i64 (k.lZ.length : Int)) ∧ E 19 = (.int .i64 (d8 : Int)) ∧ E 37 = (.bool d9)) 4 ?_ (fun d9 z b0 => ?_))))))))
  ·rintro k7 E W ⟨c9, d, d2, d3, d4, h2, d5, d6, d7, h3⟩ y
   refine ln (CI y h3 (fun e8 y => ?_) (fun e8 y => ?_))
   ·refine ma (Wh d4 (V (lO xZ h2) (Wf xh (VA d Mh (lE a.Signed.lD) bD aJ (VE (mH (cs := (lE a.Signed.lD).toArray) d (oE rfl) (ot aK aJ cL) (fun j6 h1 d => ?_)))))))
    replace d := d.perm (Nr (Qb (Qb (Qb (Qb (Qb (Qb Qz)))))) Nz)
    refine bS y fun i1 e9 y => VE (oK (enc := lE) (v := D) (vs := (.slice (some ⟨h1, 0, none⟩) 1 1)) (R := G) d nl dc pc aK oA.1 oA.2.1 rfl oA.2.2.1 oA.2.2.2 rfl rfl M (Sl.lit (enc := lE) (l := [a.Signed.lD]) nl rfl nb rfl (d.at_ (Ma Mh))) e9 (fun j7 i2 g7 d e7 => Wa (mz (mJ (lU ?_)))))
    replace d := d.lF (Kr (Db (Db St)))
    exact ⟨d7, i2, i1, g7, c3, _, ⟨rfl, d6⟩, (u.trans a9), (d.lF (Sb (Pr Pz) (Sb (Pr Pz) (Sb (Pr Pz) (Sb (Pr Pz) St))))), d2, d3, rfl, d5, e7, (by rw [c6]; exact y)⟩
   refine nf (mJ (lU ?_))
   replace d := d.lF (Db St)
   exact ⟨d7, D, I, G, c3, _, ⟨rfl, d6⟩, (u.trans a9), (d.lF St), d2, d3, d4, d5, M, (by rw [c6]; exact y)⟩
  refine bC z (fun t z => ?_) (fun t z => ?_)
  ·refine ug t (lJ rfl (lQ d.has Mh [(.int .i64 ((c.1).Op)), (.int .i64 ((c.1).K)), d1, e5, b8] rfl aV aC)) (ug t (lP Z) (bS z fun k2 f3 z => sa t (Eg d call24 (BY c.1 b8 b6 (fun (x : lC) => vG x B.1 B.2.1 B.2.2.1 B.2.2.2.1 B.2.2.2.2.1 B.2.2.2.2.2.1 B.2.2.2.2.2.2) _ _ (c7.mono mg.mono d.lL) ⟨110, #[], #[(.pointer (some ⟨N, 0, none⟩)), (.pointer (some ⟨Q, 0, none⟩))], rfl, call110, fun W x r n hm => (J4 x N q e0 B.1 e1 B.2.1 e2 B.2.2.1 e3 B.2.2.2.1 e4 B.2.2.2.2.1 B.2.2.2.2.2.1 Q B.2.2.2.2.2.2 r W (h6.at (fun b o m => n _ _ ((fun b o m => d.at_ (Mt (Mt (Mt (Mt (Mt (Mt (Ma (Ml m))))))))) b o m))) (h7.sl nl (fun b o m => n _ _ ((fun b o m => d.at_ (Mt (Mt (Mt (Mt (Mt (Mt (Ma (Ma (Ml m)))))))))) b o m))) (h8.at (fun b o m => n _ _ ((fun b o m => d.at_ (Mt (Mt (Mt (Mt (Mt (Mt (Ma (Ma (Ma (Ml m))))))))))) b o m))) (h9.at (fun b o m => n _ _ ((fun b o m => d.at_ (Mt (Mt (Mt (Mt (Mt (Mt (Ma (Ma (Ma (Ma (Ml m)))))))))))) b o m))) ((i0.Fj so).mono (Pl.mono _) (oB (fun b o m => n _ _ ((fun b o m => d.at_ (Mt (Mt (Mt (Mt (Mt (Mt (Ma (Ma (Ma (Ma (Ma (Ml m))))))))))))) b o m)))) (At.of (n _ _ (d.at_ (Mt (Mt (Mt Mh))))) _ rfl) (At.of (n _ _ (d.at_ (Mt (Mt Mh)))) _ rfl) (At.of (n _ _ (d.at_ (Mt (Mt (Mt (Mt Mh)))))) _ rfl) hm).nz⟩ f3) (fun j8 d => V (mh (cB t) rfl) ?_))))
   obtain rfl := sj z
   exact b0 _ _ ⟨_, (d.lF (Db St)), Y, Z, a3, rfl, a4, eN, F, rfl⟩
  refine un t (un t (un t (V (mi (cB t) rfl) ?_)))
  obtain rfl := sj z
  exact b0 _ _ ⟨_, (d.lF (Db St)), Y, Z, a3, rfl, a4, eN, F, rfl⟩
 rintro E W ⟨D, I, G, s, P, ⟨F, eN⟩, u, d, Y, Z, a3, a4, M, j⟩
 rw [aI] at j
 refine lU ?_
 replace d := d.lF (Db (Db (Db (Db (Kr (Dr (Dr (Dr (Dr (Dr St))))))))))
 refine sg (Wh a3 (bS j fun k3 f4 j => VE (pA d call52 (xp D I _ _ (M.sl nl (fun b o m => d.at_ (Ml m))) f4) (fun j9 i3 k9 g8 d i4 ad c5 => Wa (ln ?_)))))
 replace d := d.lF (Kr (Dr St))
 refine mu ?_
 obtain rfl := sj j
 exact nc (v := i3) rfl rfl ⟨_, g8, rfl, d.oa (fun p m => (Ml m)) c5.nd, c5⟩
theorem KU (Q : lD) (T : Nat) (k : ByteArray) (c : Value) (i : List mI) (g : Value) (j : List nx) (H : ByteArray) (I : Int) (t : Value) (u : List lD) (a : Value) (z : List lD) (x : Value) (D : List lC) (B : Value) (G : List lC) (r : Bool) (w : World) (K : Sl mC 15 (hp w) c i) (M : Sl mZ 8 (hp w) g j) (N : Sl (Pl lE) 9 (hp w) t u) (J : Sl (Pl lE) 9 (hp w) a z) (U : Sl (Pl lG) 2 (hp w) x D) (Z : Sl (Pl lG) 2 (hp w) B G) (Y : At (hp w) (.pointer (some ⟨T, 0, none⟩)) [(.string k), c, g, (.string H), (.int .i64 I), t, a, x, B]) (hm : zV Q k i j H I u z D G = some r) :
  mo true pg0 120 [(.agg (lE Q).toArray), (.pointer (some ⟨T, 0, none⟩))] w (.bool r) := by
 refine cG 8 func120 rfl (fun b => sg (VE (mG b rfl (fun W2 h b => Wa (lr (VQ (uq [a] Ax rfl Y rfl) (fun l d => V (lJ rfl (po b.has (y := a) d eH)) (VA b Mh (lE Q) bD aJ (bS hm fun m a2 hm => VE (Eg b call60 (Br a z Q _ _ (J.mono (Pl.mono _) b.lL) a2) (fun W8 b => Wa ?_)))))))))))
 refine ln ?_
 exact mu (rQ hm b)
theorem N1 (a : ng) (j k t H z G : Value) (r : List lD) (w : World) (c : Sl mC 15 (hp w) j a.lH.lZ) (g : Sl mZ 8 (hp w) k a.lH.mq) (i : Sl (Pl lE) 9 (hp w) t a.lV) (D : Sl (Pl lE) 9 (hp w) H a.Shown) (y : Sl (Pl lG) 2 (hp w) z a.ml) (B : Sl (Pl lG) 2 (hp w) G a.ms) (hm : AH a = some r) :
  nq false pg0 55 [(.agg #[(.string a.lH.Name), j, k, (.string a.mU), (.int .i64 a.Room), t, H, z, G])] w 52 lE 9 r := by
 refine uk 12 func55 rfl (fun b => sg ?_)
 obtain ⟨M, Q, rfl⟩ := c.form
 obtain ⟨N, T, rfl⟩ := g.form
 obtain ⟨A5, n, rfl⟩ := i.form
 obtain ⟨A7, P, rfl⟩ := D.form
 obtain ⟨A9, Y, rfl⟩ := y.form
 obtain ⟨U, Z, rfl⟩ := B.form
 refine VE (mG b rfl (fun b7 J b => Wa (lr (Wf wH (VA b Mh (C7 a.lH.Name M a.lH.lZ.length Q N a.lH.mq.length T) gU fE (Wf D4 (VB b Mh rfl rfl eH (Wf HJ (VB b Mh rfl rfl bO (bS hm fun F a5 hm => VE (pA b call13 (M1 a.lH (.slice M a.lH.lZ.length Q) (.slice N a.lH.mq.length T) (.slice A5 a.lV.length n) a.lV a.mU _ _ (c.mono mK.mono b.lL) (g.mono nH.mono b.lL) (i.mono (Pl.mono _) b.lL) a5) (fun b9 L c5 a9 b u o a4 => V (qz (by exact vc rfl) rfl) ?_))))))))))))
 refine bS hm fun c1 s hm => ?_
 refine VE (Gz b (Cr Qz Cn) call111 (fun hH R d m => (ud L F a9 (.func (.func 120) #[] #[(.pointer (some ⟨J, 0, none⟩))]) (fun (x : lD) => zV x a.lH.Name a.lH.lZ a.lH.mq a.mU a.Room a.lV a.Shown a.ml a.ms) _ _ ⟨hH, R, mx.refl _⟩ a4 ⟨120, #[], #[(.pointer (some ⟨J, 0, none⟩))], rfl, call120, fun W x r h hm => (KU x J a.lH.Name (.slice M a.lH.lZ.length Q) a.lH.lZ (.slice N a.lH.mq.length T) a.lH.mq a.mU a.Room (.slice A5 a.lV.length n) a.lV (.slice A7 a.Shown.length P) a.Shown (.slice A9 a.ml.length Y) a.ml (.slice U a.ms.length Z) a.ms r W (c.mono mK.mono ((u.trans d).trans h)) (g.mono nH.mono ((u.trans d).trans h)) (i.mono (Pl.mono _) ((u.trans d).trans h)) (D.mono (Pl.mono _) ((u.trans d).trans h)) (y.mono (Pl.mono _) ((u.trans d).trans h)) (B.mono (Pl.mono _) ((u.trans d).trans h)) (At.of (h _ _ (m _ _ Mh)) _ rfl) hm).nz⟩ s)) (fun c0 c3 c7 b6 b b5 q l a3 => ?_))
 obtain ⟨O, A, I, rfl, K⟩ := a3
 replace I := I.symm; subst I
 replace b := b.perm (Tr Tn)
 refine Wa (ln ?_)
 replace b := b.lF (Kr (Db St))
 refine mu ?_
 obtain rfl := sj hm
 exact nc (v := O) rfl rfl ⟨_, A, rfl, b.oa (fun p hq => (Ml hq)) K.nd, K⟩
theorem Ia (c : lD) (g : Nat) (a : Value) (j : List lD) (r : Bool) (w : World) (k : Sl (Pl lE) 9 (hp w) a j) (i : At (hp w) (.pointer (some ⟨g, 0, none⟩)) [a]) (hm : xR c j = some r) :
  mo true pg0 138 [(.agg (lE c).toArray), (.pointer (some ⟨g, 0, none⟩))] w (.bool r) := by
 refine cG 8 func138 rfl (fun b => sg (VE (mG b rfl (fun u z b => Wa (lr (V (lJ rfl (po b.has (y := a) i eH)) (VA b Mh (lE c) bD aJ (bS hm fun B t hm => VE (Eg b call60 (Br a j c _ _ (k.mono (Pl.mono _) b.lL) t) (fun x b => V (oy rfl) (Wa ?_)))))))))))
 refine ln ?_
 exact mu (rQ hm b)
theorem BX (a : ng) (t u D J H I : Value) (r : List lD) (w : World) (c : Sl mC 15 (hp w) t a.lH.lZ) (g : Sl mZ 8 (hp w) u a.lH.mq) (j : Sl (Pl lE) 9 (hp w) D a.lV) (B : Sl (Pl lE) 9 (hp w) J a.Shown) (y : Sl (Pl lG) 2 (hp w) H a.ml) (z : Sl (Pl lG) 2 (hp w) I a.ms) (hm : qZ a = some r) :
  nq false pg0 77 [(.agg #[(.string a.lH.Name), t, u, (.string a.mU), (.int .i64 a.Room), D, J, H, I])] w 52 lE 9 r := by
 refine uk 16 func77 rfl (fun d => sg ?_)
 obtain ⟨U, c2, rfl⟩ := c.form
 obtain ⟨Z, n, rfl⟩ := g.form
 obtain ⟨A5, q, rfl⟩ := j.form
 obtain ⟨A7, s, rfl⟩ := B.form
 obtain ⟨A9, M, rfl⟩ := y.form
 obtain ⟨K, N, rfl⟩ := z.form
 let a0 := (C2 a.lH.Name U a.lH.lZ.length c2 Z a.lH.mq.length n a.mU a.Room A5 a.lV.length q A7 a.Shown.length s A9 a.ml.length M K a.ms.length N)
 refine VE (mG d rfl (fun d4 e0 d => Wa (lr (VA d Mh a0 dX dD (bS hm fun Q b7 hm => VE (pA d call27 (B9 a (.slice U a.lH.lZ.length c2) (.slice Z a.lH.mq.length n) (.slice A5 a.lV.length q) (.slice A7 a.Shown.length s) (.slice A9 a.ml.length M) (.slice K a.ms.length N) _ _ (c.mono mK.mono d.lL) (g.mono nH.mono d.lL) (j.mono (Pl.mono _) d.lL) (B.mono (Pl.mono _) d.lL) (y.mono (Pl.mono _) d.lL) (z.mono (Pl.mono _) d.lL) b7) (fun d5 e1 e4 d3 d G a7 F => VE (my d jL (fun d6 a4 d => ?_)))))))))
 obtain ⟨Y, a6, rfl⟩ := F.form
 let m : Value := (.slice Y Q.length a6)
 refine VO (mj m (#[m]) d rfl rfl iM oc nb rfl (fun d7 d => lr (VA d (Mt (Ma Mh)) a0 dX dD (bS hm fun c5 b9 hm => VE (pA d call55 (N1 a (.slice U a.lH.lZ.length c2) (.slice Z a.lH.mq.length n) (.slice A5 a.lV.length q) (.slice A7 a.Shown.length s) (.slice A9 a.ml.length M) (.slice K a.ms.length N) _ _ (c.mono mK.mono (G.trans d.lL)) (g.mono nH.mono (G.trans d.lL)) (j.mono (Pl.mono _) (G.trans d.lL)) (B.mono (Pl.mono _) (G.trans d.lL)) (y.mono (Pl.mono _) (G.trans d.lL)) (z.mono (Pl.mono _) (G.trans d.lL)) b9) (fun d8 c7 e5 c1 d d0 a8 b6 => V (qz (by exact vc rfl) rfl) (bS hm fun R c0 hm => ?_)))))))
 refine VE (Gz d (Cr Qz Cn) call111 (fun hH hN ab h => (ud c7 c5 c1 (.func (.func 138) #[] #[(.pointer (some ⟨a4, 0, none⟩))]) (fun (x : lD) => xR x Q) _ _ ⟨hH, hN, mx.refl _⟩ b6 ⟨138, #[], #[(.pointer (some ⟨a4, 0, none⟩))], rfl, call138, fun W x r hs hm => (Ia x a4 m Q r W (F.sl nl (fun b o l => hs _ _ ((fun b o l => h b o (Mt (Ml l))) b o l))) (At.of (hs _ _ (h _ _ Mh)) _ rfl) hm).nz⟩ c0)) (fun d9 e2 e6 d2 d d1 aa A b5 => ?_))
 obtain ⟨e3, c3, T, rfl, P⟩ := b5
 replace T := T.symm; subst T
 replace d := d.perm (Tr Tn)
 refine Wa (ln ?_)
 replace d := d.lF (Kr (Db (Dr (Db St))))
 refine sg (Wm (Wm (V (oZ aK rfl P) (V (RP (k := .i64) rfl rfl) (bS hm fun _ L hm => VQ (xn (i := (if 8 < (R.length : Int) then 8 else (R.length : Int))) aK aJ rfl rfl P nl (ue L) (tL L)) (fun c9 O => Wa (lt ?_)))))))
 obtain rfl := sj hm
 exact nc (v := c9) rfl rfl ⟨_, c3, rfl, d.oa (fun p l => (Ml l)) O.nd, O⟩
theorem Gx (a : ng) (j t z G B D K : Value) (h : List lC) (r : Bool) (w : World) (c : Sl mC 15 (hp w) j a.lH.lZ) (g : Sl mZ 8 (hp w) t a.lH.mq) (i : Sl (Pl lE) 9 (hp w) z a.lV) (y : Sl (Pl lE) 9 (hp w) G a.Shown) (u : Sl (Pl lG) 2 (hp w) B a.ml) (x : Sl (Pl lG) 2 (hp w) D a.ms) (A : Sl (Pl lG) 2 (hp w) K h) (hm : vP a h = some r) :
  mo false pg0 74 [(.agg #[(.string a.lH.Name), j, t, (.string a.mU), (.int .i64 a.Room), z, G, B, D]), K] w (.bool r) := by
 refine cG 14 func74 rfl (fun b => sg ?_)
 obtain ⟨M, Y, rfl⟩ := c.form
 obtain ⟨N, Z, rfl⟩ := g.form
 obtain ⟨Q, l, rfl⟩ := i.form
 obtain ⟨T, m, rfl⟩ := y.form
 obtain ⟨U, I, rfl⟩ := u.form
 obtain ⟨H, J, rfl⟩ := x.form
 let a0 := (C2 a.lH.Name M a.lH.lZ.length Y N a.lH.mq.length Z a.mU a.Room Q a.lV.length l T a.Shown.length m U a.ml.length I H a.ms.length J)
 refine VE (mG b rfl (fun P b6 b => Wa (ln (mf ?_))))
 replace b := b.drew
 have d := b.has.lF (Kb Sn)
 refine mT d mB (XH 0 rfl d (fun _ n => lJ rfl (lQ n Mh a0 rfl dX dD)) (X 1 rfl d (lP rfl) (XH 4 rfl d (fun _ n => lJ rfl (lQ n Mh a0 rfl dX dD)) (bS hm fun b7 a9 hm => XE 2 rfl (pA b call85 (Gu a (.slice M a.lH.lZ.length Y) (.slice N a.lH.mq.length Z) (.slice Q a.lV.length l) (.slice T a.Shown.length m) (.slice U a.ml.length I) (.slice H a.ms.length J) K h _ _ (c.mono mK.mono b.lL) (g.mono nH.mono b.lL) (i.mono (Pl.mono _) b.lL) (y.mono (Pl.mono _) b.lL) (u.mono (Pl.mono _) b.lL) (x.mono (Pl.mono _) b.lL) (A.mono (Pl.mono _) b.lL) a9) (fun R c0 c3 L b k o s => ?_))))))
 have d := b.has.pN k (Dr (Kb Sn))
 refine ⟨d, (X 3 rfl d (oZ aM rfl s) (bS hm fun b9 F hm => XE 5 rfl (pA b call77 (BX a (.slice M a.lH.lZ.length Y) (.slice N a.lH.mq.length Z) (.slice Q a.lV.length l) (.slice T a.Shown.length m) (.slice U a.ml.length I) (.slice H a.ms.length J) _ _ (c.mono mK.mono (k.trans b.lL)) (g.mono nH.mono (k.trans b.lL)) (i.mono (Pl.mono _) (k.trans b.lL)) (y.mono (Pl.mono _) (k.trans b.lL)) (u.mono (Pl.mono _) (k.trans b.lL)) (x.mono (Pl.mono _) (k.trans b.lL)) F) (fun W c1 c5 O b a4 q v => ?_))))⟩
 have d := b.has.pN (k.trans a4) (Dr (Dr (Kb Sn)))
 refine ⟨d, (X 6 rfl d (oZ aK rfl v) (X 7 rfl d (mP rfl rfl rfl) (X 8 rfl d (mP rfl rfl rfl) (X 9 rfl d (oD rfl) (nh kr (lU ?_))))))⟩
 exact mu (rQ hm b)
theorem JN (H : Nat) (k : ng) (a c g j t i a2 : Value) (M : List lC) (r : ng) (w : World) {K : mN} (h0 : pC K ((H, Ob #[(.string k.lH.Name), a, c, (.string k.mU), (.int .i64 k.Room), g, j, t, i] 36) :: []) w) (B : Sl mC 15 K a k.lH.lZ) (D : Sl mZ 8 K c k.lH.mq) (G : Sl (Pl lE) 9 K g k.lV) (J : Sl (Pl lE) 9 K j k.Shown) (z : Sl (Pl lG) 2 K t k.ml) (I : Sl (Pl lG) 2 K i k.ms) (Y : Sl (Pl lG) 2 K a2 M) (hm : xz k M = some r) :
  nO false pg0 75 [(.pointer (some ⟨H, 0, none⟩)), a2] w K ((H, Ob #[(.string k.lH.Name), a, c, (.string k.mU), (.int .i64 k.Room), g, j, t, i] 36) :: []) (fun v L1 N => ∃ A F L O P q, v = (.tuple #[]) ∧ L1 = ((H, Ob #[(.string (((r).lH).Name)), A, F, (.string ((r).mU)), (.int .i64 ((r).Room)), L, O, P, q] 36) :: []) ∧ Sl mC 15 N A (((r).lH).lZ) ∧ Sl mZ 8 N F (((r).lH).mq) ∧ Sl (Pl lE) 9 N L ((r).lV) ∧ Sl (Pl lE) 9 N O ((r).Shown) ∧ Sl (Pl lG) 2 N P ((r).ml) ∧ Sl (Pl lG) 2 N q ((r).ms)) := by
 refine wj h0 17 func75 rfl (fun d => sg (Wm (V (Dt lj rfl rfl) (ln (vX rfl (ma (Wm (Wm (Wn (Wf Ft (VB d Mh rfl rfl gV (Wm ?_))))))))))))
 obtain ⟨A1, c2, rfl⟩ := z.form
 obtain ⟨A3, s, rfl⟩ := Y.form
 refine VE (mH (cs := #[(.slice A1 k.ml.length c2), (.slice A3 M.length s)]) d (qV rfl rfl) (ot iB jr zeroValue34) (fun W6 b5 d => bS hm fun r7 b1 hm => VE (pA d call87 (nq.nz (yC (.slice (some ⟨b5, 0, none⟩) 2 2) ([k.ml, M]) _ _ (Fi.lit (l := [k.ml, M]) (vs := [(.slice A1 k.ml.length c2), (.slice A3 M.length s)]) rfl nb (d.at_ Mh) (.cons (z.mono (Pl.mono _) d.lL) (.cons (Y.mono (Pl.mono _) d.lL) .nil))) b1)) (fun W9 b2 d1 c6 d u h R => bS hm fun Z a9 hm => VE (pA d call86 (xg b2 r7 _ _ (R.sl nF (fun b o hq => d.at_ (Ml hq))) a9) (fun c8 d0 d2 c7 d x m U => Wn (Wf Ft ?_)))))))
 obtain ⟨Q, T, rfl⟩ := U.form
 replace d := d.perm (Nb (Pr (Pr (Pb Pz))) Nz)
 refine VO (mj (.slice Q Z.length T) (#[(.string k.lH.Name), a, c, (.string k.mU), (.int .i64 k.Room), g, j, (.slice Q Z.length T), i]) d rfl rfl jr oc nb rfl (fun c9 d => mz (rR ?_)))
 obtain rfl := sj hm
 refine qv rfl ?_
 replace d := d.perm (Nr (Qb Qz) Nz)
 obtain ⟨d3, d, y, n, W⟩ := ST.Ap d U nF
 exact ⟨_, _, _, rfl, (d.ov (Kb Sn)), ((u.trans x).trans y), ((h.trans m).trans n), (ST.nt d (oT.mem (Kb Sn))), a, c, g, j, (.slice Q Z.length T), i, rfl, rfl, (B.mono mK.mono ((u.trans x).trans y)), (D.mono nH.mono ((u.trans x).trans y)), (G.mono (Pl.mono _) ((u.trans x).trans y)), (J.mono (Pl.mono _) ((u.trans x).trans y)), W, (I.mono (Pl.mono _) ((u.trans x).trans y))⟩
theorem Cx (y : lH) (t x : Value) (D : lD) (r : (Signed × Bool)) (w : World) {M : mN} (F : pC M [] w) (g : Sl mC 15 M t y.lZ) (z : Sl mZ 8 M x y.mq) (hm : AE y D = some r) :
  nO true pg0 66 [(.agg #[(.string y.Name), t, x]), (.agg (lE D).toArray)] w M [] (fun v L1 μ1 => ∃ s, v = (.tuple #[(.agg #[(.int .i64 (((r.1).lD).Kind)), (.string ((((r.1).lD).Head).lK)), (.string ((((r.1).lD).Head).lN)), (.string (((r.1).lD).mX)), (.string ((((r.1).lD).B).lK)), (.string ((((r.1).lD).B).lN)), (.string ((((r.1).lD).C).lK)), (.string ((((r.1).lD).C).lN)), (.string (((r.1).lD).mQ)), s]), (.bool (r.2))]) ∧ L1 = [] ∧ Sl (Pl (ns .u8)) 1 μ1 s ((r.1).Tag)) := by
 refine wj F 24 func66 rfl (fun b => sg ?_)
 obtain ⟨A1, c2, rfl⟩ := g.form
 obtain ⟨A3, c4, rfl⟩ := z.form
 refine VE (mG b rfl (fun W6 b5 b => VE (mG b rfl (fun W8 n b => VE (my b eQ (fun d1 o b => Wa (lS (Wf xT (VB b (Mt (Mt Mh)) rfl rfl jE (V (mV dC rfl g) (Wm (ln ?_))))))))))))
 replace b := b.lF (Kb (Kb (Db St)))
 refine mM (fun i E W => ∃ B, (E 11 = .int .i64 (i : Nat) ∧ E 10 = .int .i64 (y.lZ.length : Nat)) ∧ ST true (keys []) w W M ((o, Ol O4 55) :: ((n, Ol (lE D) 52) :: B)) ∧ E 3 = (.pointer (some ⟨n, 0, none⟩)) ∧ E 4 = (.pointer (some ⟨o, 0, none⟩)) ∧ E 9 = (.slice A1 y.lZ.length c2) ∧ wx D (y.lZ.drop i) = some r) y.lZ.length g.len ⟨_, ⟨rfl, rfl⟩, (b.lF St), rfl, rfl, rfl, hm⟩ dc dc dc (fun _ _ _ h => by obtain ⟨_, l, _⟩ := h; exact l) ?_ ?_
 ·rintro A E W U ⟨B, ⟨d, q⟩, b, G, u, H, c⟩
  obtain ⟨a, c9, Z, Y, a2⟩ := mE U
  rw [Z] at c
  refine bg (VQ (nS (i := (A : Int)) (x0 := a) mC.out dC dH H d g (aF _) Y) (fun c3 ⟨_, ⟨c7, c8, rfl, I, T⟩, Q⟩ => V (lJ rfl (mr b.has Q jF dH)) (VE (my b eP (fun L b6 b => ?_)))))
  obtain ⟨j, k, rfl⟩ := I.form
  let a0 := (C4 a.Signed.lD.Kind a.Signed.lD.Head.lK a.Signed.lD.Head.lN a.Signed.lD.mX a.Signed.lD.B.lK a.Signed.lD.B.lN a.Signed.lD.C.lK a.Signed.lD.C.lN a.Signed.lD.mQ j a.Signed.Tag.length k)
  obtain ⟨J, K, rfl⟩ := T.form
  let m := (C3 a.Signed.lD.Kind a.Signed.lD.Head.lK a.Signed.lD.Head.lN a.Signed.lD.mX a.Signed.lD.B.lK a.Signed.lD.B.lN a.Signed.lD.C.lK a.Signed.lD.C.lN a.Signed.lD.mQ j a.Signed.Tag.length k a.lM.Op a.lM.K a.lM.lC.lK a.lM.lC.lN J a.lM.Kids.length K)
  refine VO (mj (.agg m.toArray) (m.toArray) b rfl rfl dH oc nb rfl (fun O b => lr (Wf xZ (Wf xh (VA b Mh (lE a.Signed.lD) bD aJ (V (lJ G (lQ b.has (Mt (Mt Mh)) (lE D) rfl bD aJ)) (V (vx rfl rfl (oI fN) (rA (wP _ a.Signed.lD D))) (ln (CI c rfl (fun N c => ?_) (fun N c => ?_))))))))))
  ·refine sg (Wf xZ (VA b Mh a0 kV eL ?_))
   replace b := b.perm (Nb (Pb Pz) Nz)
   refine VO (mj (.agg a0.toArray) (a0.toArray) b u rfl eL oc nb rfl (fun P b => Wa (ln ?_)))
   replace b := b.lF (Kb (Db (Db St)))
   refine mu (nY (mL (nY (mL ?_))))
   obtain rfl := sj c
   exact tk (v0 := (.agg a0.toArray)) (v1 := (.bool true)) rfl u (lQ b.has Mh a0 rfl kV eL) rfl ⟨_, _, _, rfl, (b.ov Sn), (mx.refl _), Lo.refl, (ST.nt b (oT.mem Sn)), (.slice j a.Signed.Tag.length k), rfl, rfl, I⟩
  refine nf (mJ (lU ?_))
  replace b := b.lF (Db St)
  exact ⟨d, _, ⟨rfl, q⟩, (b.lF St), G, u, H, (by rw [a2]; exact c)⟩
 rintro E W ⟨B, ⟨d, q⟩, b, G, u, H, c⟩
 rw [aI] at c
 refine lU ?_
 replace b := b.lF (Kb (Db St))
 refine sg (V (nW (v := (.agg O4.toArray)) sM (nw eQ fM (PL _ fM) kr)) (VO (mj (.agg O4.toArray) (O4.toArray) b u rfl eL oc nb rfl (fun R b => Wa (lt ?_)))))
 obtain rfl := sj c
 exact tk (v0 := (.agg O4.toArray)) (v1 := (.bool false)) rfl u (lQ b.has Mh O4 rfl kV eL) rfl ⟨_, _, _, rfl, (b.ov Sn), (mx.refl _), Lo.refl, (ST.nt b (oT.mem Sn)), (.slice none 0 0), rfl, rfl, (Sl.nil _ _ _)⟩
theorem KS (a : ng) (x y B M G K U : Value) (Y : List lD) (r : Int) (w : World) (t : Sl mC 15 (hp w) x a.lH.lZ) (u : Sl mZ 8 (hp w) y a.lH.mq) (z : Sl (Pl lE) 9 (hp w) B a.lV) (J : Sl (Pl lE) 9 (hp w) M a.Shown) (D : Sl (Pl lG) 2 (hp w) G a.ml) (I : Sl (Pl lG) 2 (hp w) K a.ms) (H : Sl (Pl lE) 9 (hp w) U Y) (hm : B0 a Y = some r) :
  mo false pg0 65 [(.agg #[(.string a.lH.Name), x, y, (.string a.mU), (.int .i64 a.Room), B, M, G, K]), U] w (.int .i64 r) := by
 refine cG 41 func65 rfl (fun b => sg ?_)
 obtain ⟨A1, c2, rfl⟩ := t.form
 obtain ⟨A3, q, rfl⟩ := u.form
 obtain ⟨A5, c6, rfl⟩ := z.form
 obtain ⟨A7, c8, rfl⟩ := J.form
 obtain ⟨A9, a5, rfl⟩ := D.form
 obtain ⟨a4, P, rfl⟩ := I.form
 let a0 := (C2 a.lH.Name A1 a.lH.lZ.length c2 A3 a.lH.mq.length q a.mU a.Room A5 a.lV.length c6 A7 a.Shown.length c8 A9 a.ml.length a5 a4 a.ms.length P)
 refine VE (mG b rfl (fun h7 o b => Wa (lS (Wm (V (mV aK rfl H) (Wi rfl (ln (CI hm rfl (fun f1 hm => ?_) (fun f1 hm => ?_)))))))))
 ·refine sg (Wa (ln ?_))
  replace b := b.lF (Db St)
  refine mu (mL ?_)
  obtain rfl := sj hm
  exact rP b
 refine kS (Wm (V (mV aK rfl H) (Wm (ln (mM (fun i E W => ∃ T a9, (E 16 = .int .i64 (i : Nat) ∧ E 15 = .int .i64 (Y.length : Nat)) ∧ mx (hp w) T ∧ ST false mD w W T ((o, Ol a0 36) :: a9) ∧ E 1 = U ∧ E 2 = (.pointer (some ⟨o, 0, none⟩)) ∧ E 14 = U ∧ uh a Y (Y.drop i) = some r) Y.length H.len ⟨(hp w), _, ⟨rfl, rfl⟩, (mx.refl _), (b.lF St), rfl, rfl, rfl, hm⟩ dc dc dc (fun _ _ _ h => by obtain ⟨_, _, l, _⟩ := h; exact l) ?_ ?_)))))
 ·rintro f2 E W d6 ⟨T, a9, ⟨d, m⟩, g, b, v, Z, A, j⟩
  obtain ⟨N, f5, e5, e4, e6⟩ := mE d6
  rw [e5] at j
  refine bg (VQ (og (enc := lE) (i := (f2 : Int)) (x0 := N) aK aJ A d (H.mono (Pl.mono _) g) (aF _) e4) (fun h1 e0 => V (lJ rfl (mr b.has e0 bD aJ)) (VE (my b cL (fun f8 g8 b => VO (mj (.agg (lE N).toArray) ((lE N).toArray) b rfl rfl aJ (pc N) nb rfl (fun f9 b => lr (V (lO wH Z) (VA b (Mt Mh) (C7 a.lH.Name A1 a.lH.lZ.length c2 A3 a.lH.mq.length q) gU fE (VA b Mh (lE N) bD aJ (bS j fun c e2 j => ?_)))))))))))
  let n := (((c.1).lD).Head)
  refine VE (eD b (bI _) call66 (fun hh => nO.nz (Cx a.lH (.slice A1 a.lH.lZ.length c2) (.slice A3 a.lH.mq.length q) N _ _ hh (t.mono mK.mono g) (u.mono nH.mono g) e2)) ?_ (L0 := []))
  rintro _ h4 f4 f7 b d1 O ⟨h6, a3, rfl, f0⟩
  obtain rfl := a3.symm
  refine Wm (Wx rfl (Wx rfl (VE (my b eQ (fun g1 g9 b => ?_)))))
  obtain ⟨R, c7, rfl⟩ := f0.form
  refine VO (mj (.agg #[(.int .i64 (((c.1).lD).Kind)), (.string (n.lK)), (.string (n.lN)), (.string (((c.1).lD).mX)), (.string ((((c.1).lD).B).lK)), (.string ((((c.1).lD).B).lN)), (.string ((((c.1).lD).C).lK)), (.string ((((c.1).lD).C).lN)), (.string (((c.1).lD).mQ)), (.slice R ((c.1).Tag).length c7)]) (#[(.int .i64 (((c.1).lD).Kind)), (.string (n.lK)), (.string (n.lN)), (.string (((c.1).lD).mX)), (.string ((((c.1).lD).B).lK)), (.string ((((c.1).lD).B).lN)), (.string ((((c.1).lD).C).lK)), (.string ((((c.1).lD).C).lN)), (.string (((c.1).lD).mQ)), (.slice R ((c.1).Tag).length c7)]) b rfl rfl eL oc nb rfl (fun g2 b => Wa (ln ?_)))
  replace b := b.lF (Db (Db St))
  refine sg (Wm (V (oy rfl) (ln (CI j rfl (fun d4 j => ?_) (fun d4 j => ?_)))))
  ·refine sg (Wa (ln ?_))
   replace b := b.lF (Db St)
   refine mu (nY (mL (nY (mL ?_))))
   obtain rfl := sj j
   exact rP b
  exact nf (mJ (lU ⟨d, f4, _, ⟨rfl, m⟩, (g.trans d1), (b.lF St), v, Z, A, (by rw [e6]; exact j)⟩))
 rintro E W ⟨T, a9, ⟨d, m⟩, g, b, v, Z, A, j⟩
 rw [aI] at j
 refine lU (mf (sg (Wh v (V (mV aK rfl H) (Wm (ln (VJ j (fun d2 E W => ∃ c5, ST false mD w W T c5) (fun d2 d9 a2 => ?_) ?_)))))))
 ·refine mM (fun i E W => ∃ s, (E 32 = .int .i64 (i : Nat) ∧ E 31 = .int .i64 (Y.length : Nat)) ∧ ST false mD w W T ((o, Ol a0 36) :: s) ∧ E 2 = (.pointer (some ⟨o, 0, none⟩)) ∧ E 30 = U ∧ uf a (Y.drop i) = some d2) Y.length H.len ⟨_, ⟨rfl, rfl⟩, (b.lF St), Z, rfl, d9⟩ dc dc dc (fun _ _ _ h => by obtain ⟨_, l, _⟩ := h; exact l) ?_ ?_
  ·rintro f3 E W d7 ⟨s, ⟨d, m⟩, b, F, L, k⟩
   obtain ⟨Q, f6, e8, e7, e9⟩ := mE d7
   rw [e8] at k
   refine bg (VQ (og (enc := lE) (i := (f3 : Int)) (x0 := Q) aK aJ L d (H.mono (Pl.mono _) g) (aF _) e7) (fun h2 e1 => V (lJ rfl (mr b.has e1 bD aJ)) (VE (my b cL (fun g3 h0 b => VO (mj (.agg (lE Q).toArray) ((lE Q).toArray) b rfl rfl aJ (pc Q) nb rfl (fun g4 b => lr (V (lJ F (lQ b.has (Mt Mh) a0 rfl dX dD)) (VA b Mh (lE Q) bD aJ (bS k fun h3 e3 k => VE (Eg b call19 (JA a (.slice A1 a.lH.lZ.length c2) (.slice A3 a.lH.mq.length q) (.slice A5 a.lV.length c6) (.slice A7 a.Shown.length c8) (.slice A9 a.ml.length a5) (.slice a4 a.ms.length P) Q _ _ (t.mono mK.mono (g.trans b.lL)) (u.mono nH.mono (g.trans b.lL)) (z.mono (Pl.mono _) (g.trans b.lL)) (J.mono (Pl.mono _) (g.trans b.lL)) (D.mono (Pl.mono _) (g.trans b.lL)) (I.mono (Pl.mono _) (g.trans b.lL)) e3) (fun g7 b => ?_))))))))))))
   refine V (oy rfl) (ln ?_)
   replace b := b.lF (Db St)
   refine CI k rfl (fun d5 k => ?_) (fun d5 k => ?_)
   ·refine sg (Wa (ln ?_))
    replace b := b.lF (Db St)
    refine mu (nY (mL (nY (mL ?_))))
    obtain rfl := sj k
    replace a2 : some 44 = some r := a2
    obtain rfl := sj a2
    exact rP b
   exact nf (mJ (lU ⟨d, _, ⟨rfl, m⟩, (b.lF St), F, L, (by rw [e9]; exact k)⟩))
  rintro E W ⟨s, ⟨d, m⟩, b, F, L, k⟩
  rw [aI] at k
  refine lU ?_
  obtain rfl := sj k
  exact ⟨_, rfl, _, (b.lF (Db St))⟩
 rintro ⟨⟩ E W ⟨c5, b⟩ d8
 exact sg (Wa (lt (rQ d8 b)))
theorem GM (g : Value) (i r : List Int) (w : World) (a : Sl (Pl (ns .u8)) 1 (hp w) g i) (hm : wT i = some r) :
  nq true pg0 67 [g] w 5 (ns .u8) 1 r := by
 unfold wT at hm
 refine uk 8 func67 rfl (fun b => sg (Wa (lS (Wm ?_))))
 obtain ⟨y, B, rfl⟩ := a.form
 refine V (Bc cO rfl rfl) (ln ?_)
 rcases y with _ | z
 ·have u := a.isNil
  replace hm : some [] = some r := by rw [u] at hm; simpa [oH, maxLen] using hm
  refine vX (rfl) (sg (Wa (lt (mL ?_))))
  obtain rfl := sj hm
  exact nc (v := (.slice none 0 0)) rfl rfl ⟨_, [], rfl, b.oa (fun p d => by cases d) (by simp), mw.nil _ _ _⟩
 ·refine qx (rfl) (kg (VE (mH (cs := #[]) b sM (Bf [] cO lz kz dc rfl (by simp) rfl rfl) (fun G k b => Wm (bS hm fun H t hm => VE (oK (enc := (ns .u8)) (v := (.slice (some ⟨k, 0, none⟩) 0 0)) (vs := (.slice (some z) i.length B)) (R := [(k, Ob #[] 5)]) b (fun _ => rfl) dc (HO _) cO rC.1 rC.2.1 rfl rC.2.2.1 rC.2.2.2 rfl rfl (mw.lit (l := []) (enc := (ns .u8)) rfl dc rfl rfl) (a.mono (Pl.mono _) b.lL) t (fun D x j b c => Wa (lt ?_))))))))
  obtain rfl := sj hm
  exact nc (v := x) rfl rfl ⟨_, j, rfl, b.oa (fun p d => (Ml d)) c.nd, c⟩
theorem EQ (I : Int) (r : List lD) (w : World) (hm : uY I = some r) :
  nq true pg0 126 [(.slice none 0 0), (.int .i64 I)] w 52 lE 9 r := by
 refine uk 27 func126 rfl (fun b => sg (Wa (lS (Wm (Wi rfl (ln (CI hm rfl (fun K hm => ?_) (fun K hm => ?_))))))))
 ·cases hm
 refine kn (mf (CJ hm (fun u E W => ∃ g c t, ST true mD w W (hp w) (c ++ t) ∧ E 0 = g ∧ mw 52 lE 9 g u c) (fun u a => ?_) ?_))
 ·refine sg (Wm (Wm (V (F8 aK rfl) (Wm (V (Ac aK rfl) (Wi rfl (Wi rfl (Wa (lr (Wm ?_))))))))))
  refine Wi rfl (ln (CI a rfl (fun y a => ?_) (fun y a => ?_)))
  ·refine ma (Wm (Wm (V (F8 aK rfl) (V (Kt aK aJ rfl rfl) (Wm (bS a fun T B a => VE (G3 (enc := lE) (z := Tq) b nl dc aK eK oA.1 oA.2.1 oA.2.2.1 oA.2.2.2 rfl rfl rfl B (fun N U H b x => Wm (V (Ac aK rfl) (bS a fun _ j a => VQ (xn (i := 0) aK aJ rfl rfl x nl (ue j) (tL j)) (fun M G => Wa (ln ?_))))))))))))
   obtain rfl := sj a
   exact ⟨M, H, _, (b.lF St), rfl, G⟩
  refine kn ?_
  obtain rfl := sj a
  exact ⟨(.slice none 0 0), [], _, (b.lF St), rfl, (mw.nil _ _ _)⟩
 rintro Q E W ⟨g, c, t, b, J, k⟩ D
 refine sg (Wh J (Wa (lt ?_)))
 obtain rfl := sj D
 exact nc (v := g) rfl rfl ⟨_, c, rfl, b.oa (fun p d => (Ml d)) k.nd, k⟩
theorem Gq (t : Value) (z : List (List lD)) (r : List lD) (w : World) (j : Sl (Fi lE 9) 1 (hp w) t z) (hm : tO z = some r) :
  nq true pg0 68 [t] w 52 lE 9 r := by
 refine uk 36 func68 rfl (fun b => sg (Wa (lr (Wa (lS (Wm ?_))))))
 refine V (mV jG rfl j) (Wm (ln (mM (fun i E W => ∃ u Q, (E 11 = .int .i64 (i : Nat) ∧ E 10 = .int .i64 (z.length : Nat)) ∧ ST true mD w W (hp w) Q ∧ E 0 = t ∧ E 3 = (.int .i64 u) ∧ E 9 = t ∧ qN z (z.drop i) u = some r) z.length j.len ⟨0, _, ⟨rfl, rfl⟩, (b.lF St), rfl, rfl, rfl, hm⟩ dc dc dc (fun _ _ _ h => by obtain ⟨_, _, l, _⟩ := h; exact l) ?_ ?_)))
 ·rintro d1 E W b9 ⟨u, Q, ⟨d, m⟩, b, T, U, Y, a⟩
  obtain ⟨n, e0, c4, c3, c5⟩ := mE b9
  rw [c4] at a
  refine bg (VQ (F7 (enc := lE) (k2 := 9) (i := (d1 : Int)) (x0 := n) jG iM Y d j (aF _) c3) (fun e2 ⟨d3, c0, c2⟩ => V (lJ rfl (po b.has (y := d3) c0 eH)) (Wa (lr (Wh U (Wm (V (mV aK rfl c2) (Wi rfl (Wa ?_)))))))))
  refine lr (Wm (Wi rfl (ln (CI a rfl (fun b7 a => ?_) (fun b7 a => ?_)))))
  ·cases a
  exact nf (mJ (lU ⟨d, (wi0 .i64 (u + (n.length : Int))), _, ⟨rfl, m⟩, (b.lF St), T, rfl, Y, (by rw [c5]; exact a)⟩))
 rintro E W ⟨u, Q, ⟨d, m⟩, b, T, U, Y, a⟩
 rw [aI] at a
 refine lU (sg (Wh U (bS a fun d2 c1 a => VE (pA b call126 (EQ u _ _  c1) (fun e1 d4 o d0 b a4 q b6 => Wa (lS (Wh T (V (mV jG rfl j) (Wm ?_)))))))))
 refine ln (CJ a (fun K E W => ∃ G x N, ST true mD w W o (x ++ N) ∧ E 6 = G ∧ mw 52 lE 9 G K x) (fun K A => ?_) ?_)
 ·refine mM (fun i E W => ∃ k D g H, (E 27 = .int .i64 (i : Nat) ∧ E 26 = .int .i64 (z.length : Nat)) ∧ ST true mD w W o (g ++ H) ∧ E 6 = k ∧ E 25 = t ∧ mw 52 lE 9 k D g ∧ qI (z.drop i) D = some K) z.length j.len ⟨d4, d2, d0, _, ⟨rfl, rfl⟩, (b.lF St), rfl, rfl, b6, A⟩ dc dc dc (fun _ _ _ h => by obtain ⟨_, _, _, _, l, _⟩ := h; exact l) ?_ ?_
  ·rintro c6 E W a3 ⟨k, D, g, H, ⟨d, m⟩, b, I, J, B, c⟩
   obtain ⟨c9, d5, O, a9, P⟩ := mE a3
   rw [O] at c
   refine bg (VQ (F7 (enc := lE) (k2 := 9) (i := (c6 : Int)) (x0 := c9) jG iM J d (j.mono (Fi.mono _ _) a4) (aF _) a9) (fun d8 ⟨Z, F, L⟩ => V (lJ rfl (po b.has (y := Z) F eH)) (Wa (ln (ma (Wh I (Wm (bS c fun c7 a2 c => VE (oK (enc := lE) (v := k) (vs := Z) (R := g) b nl dc pc aK oA.1 oA.2.1 rfl oA.2.2.1 oA.2.2.2 rfl rfl B (L.mono (Pl.mono _) b.lL) a2 (fun d6 c8 b4 b s => Wa (mz ?_)))))))))))
   exact mJ (lU ⟨d, c8, c7, b4, _, ⟨rfl, m⟩, (b.lF St), rfl, J, s, (by rw [P]; exact c)⟩)
  rintro E W ⟨k, D, g, H, ⟨d, m⟩, b, I, J, B, c⟩
  rw [aI] at c
  refine lU ?_
  obtain rfl := sj c
  exact ⟨k, g, _, (b.lF St), I, B⟩
 rintro d7 E W ⟨G, x, N, b, b5, M⟩ a5
 refine sg (Wh b5 (Wa (lt ?_)))
 obtain rfl := sj a5
 exact nc (v := G) rfl rfl ⟨_, x, rfl, b.oa (fun p hq => (Ml hq)) M.nd, M⟩
theorem IQ (N : Nat) (D : ng) (c g j x k t b9 : Value) (q : List lD) (r : ((List Signed) × Int × ng)) (w : World) {μ0 : mN} (h0 : pC μ0 ((N, Ob #[(.string D.lH.Name), c, g, (.string D.mU), (.int .i64 D.Room), j, x, k, t] 36) :: []) w) (G : Sl mC 15 μ0 c D.lH.lZ) (H : Sl mZ 8 μ0 g D.lH.mq) (Q : Sl (Pl lE) 9 μ0 j D.lV) (U : Sl (Pl lE) 9 μ0 x D.Shown) (a3 : Sl (Pl lG) 2 μ0 k D.ml) (a8 : Sl (Pl lG) 2 μ0 t D.ms) (e4 : Sl (Pl lE) 9 μ0 b9 q) (hm : yx D q = some r) :
  nO false pg0 22 [(.pointer (some ⟨N, 0, none⟩)), b9] w μ0 ((N, Ob #[(.string D.lH.Name), c, g, (.string D.mU), (.int .i64 D.Room), j, x, k, t] 36) :: []) (fun v L1 μ1 => ∃ y1 y3 y5 y7 y9 k4 k5, v = (.tuple #[y1, (.int .i64 (r.2.1))]) ∧ L1 = ((N, Ob #[(.string (((r.2.2).lH).Name)), y3, y5, (.string ((r.2.2).mU)), (.int .i64 ((r.2.2).Room)), y7, y9, k4, k5] 36) :: []) ∧ Sl oY 10 μ1 y1 (r.1) ∧ Sl mC 15 μ1 y3 (((r.2.2).lH).lZ) ∧ Sl mZ 8 μ1 y5 (((r.2.2).lH).mq) ∧ Sl (Pl lE) 9 μ1 y7 ((r.2.2).lV) ∧ Sl (Pl lE) 9 μ1 y9 ((r.2.2).Shown) ∧ Sl (Pl lG) 2 μ1 k4 ((r.2.2).ml) ∧ Sl (Pl lG) 2 μ1 k5 ((r.2.2).ms)) := by
 let f1 : Value := (.string D.lH.Name)
 let a0 := (#[f1, c, g, (.string D.mU), (.int .i64 D.Room), j, x, k, t] : Array Value)
 let b8 := ((N, Obj.cells a0 36 (0, 0)) :: [])
 refine wj h0 60 func22 rfl (fun d => sg (Wa (Wa (lS (Wm (V (uc lj rfl rfl) (ln (qx rfl ?_))))))))
 refine kS (Wm (Wn (VA d Mh [f1, c, g, (.string D.mU), (.int .i64 D.Room), j, x, k, t] dX dD (Wm (bS hm fun r1 k9 hm => VE (Eg d call65 (KS D c g j x k t b9 q _ _ (G.mono mK.mono d.lL) (H.mono nH.mono d.lL) (Q.mono (Pl.mono _) d.lL) (U.mono (Pl.mono _) d.lL) (a3.mono (Pl.mono _) d.lL) (a8.mono (Pl.mono _) d.lL) (e4.mono (Pl.mono _) d.lL) k9) (fun W3 d => Wa (ln (mf ?_)))))))))
 refine ma (Wm (Wi rfl (ln (CI hm rfl (fun k7 hm => ?_) (fun k7 hm => ?_)))))
 ·refine sg (Wm (Wa (Wa (lt (mL ?_)))))
  obtain rfl := sj hm
  exact G1 (v := (.slice none 0 0)) (u := (.int .i64 r1)) rfl rfl rfl ⟨_, _, _, rfl, (d.ov (Kb Sn)), (mx.refl _), Lo.refl, (ST.nt d (oT.mem (Kb Sn))), (.slice none 0 0), c, g, j, x, k, t, rfl, rfl, (Sl.nil _ _ _), G, H, Q, U, a3, a8⟩
 refine kg (Wa (lS (Wm (bS hm fun r5 l0 hm => VE (pA d call52 (xp b9 q _ _ (e4.mono (Pl.mono _) d.lL) l0) (fun W7 k3 ae k2 d T af e3 => V (oZ aK rfl e3) (Wm ?_)))))))
 refine ln (mM (fun i E W => ∃ a9 c7 b2 a2 d8, (E 25 = .int .i64 (i : Nat) ∧ E 24 = .int .i64 (r5.length : Nat)) ∧ mx ae a2 ∧ Lo (keys b8) w ae a2 ∧ ST false (keys b8) w W a2 ((N, Obj.cells a0 36 (0, 0)) :: (b2 ++ (k2 ++ d8))) ∧ E 0 = (.pointer (some ⟨N, 0, none⟩)) ∧ E 1 = b9 ∧ E 7 = a9 ∧ E 23 = k3 ∧ nm 55 oY 10 a2 a9 c7 b2 ∧ sr D q (r5.drop i) c7 = some r) r5.length e3.len ⟨(.slice none 0 0), ([]), [], ae, _, ⟨rfl, rfl⟩, (mx.refl _), Lo.refl, (d.lF (Sb (Pr Pz) St)), rfl, rfl, rfl, rfl, (nm.nil _ _ _ _), hm⟩ dc dc dc (fun _ _ _ h => by obtain ⟨_, _, _, _, _, ag, _⟩ := h; exact ag) ?_ ?_)
 ·rintro h3 E W i7 ⟨a9, c7, b2, a2, d8, ⟨eI, eN⟩, z, n, d, b3, c4, c5, c6, d1, I⟩
  obtain ⟨s, o7, i8, f3, i9⟩ := mE i7
  rw [i8] at I
  refine bg (VQ (oS (i := (h3 : Int)) (x0 := s) aK aJ c6 eI e3 (aF _) f3) (fun n8 f9 => V (lJ rfl (qp d.has (fun p hq => (Mt (Ma (Ml hq)))) e3 nl f9 f3 bD aJ)) (VE (my d cL (fun m2 h5 d => VO (mj (.agg (lE s).toArray) ((lE s).toArray) d rfl rfl aJ (pc s) nb rfl (fun m3 d => ln (mf ?_))))))))
  replace d := d.drew
  have m := d.has.lF (Kb (Kb Sn))
  refine mT m mB (X 0 rfl m (lP b3) (X 1 rfl m (nN rfl) (X 2 rfl m (lO wH rfl) (XH 3 rfl m (fun _ hS => lJ rfl (lQ hS (Mt Mh) [f1, c, g] rfl gU fE)) (XH 4 rfl m (fun _ hS => lJ rfl (lQ hS Mh (lE s) rfl bD aJ)) (PJ I (fun y E W => ∃ d9 e6 c9 b6 f2, mx a2 b6 ∧ Lo (keys b8) w a2 b6 ∧ ST false (keys b8) w W b6 ((d9, Ob #[(.int .i64 y.2.2.2.1.Kind), (.string y.2.2.2.1.Head.lK), (.string y.2.2.2.1.Head.lN), (.string y.2.2.2.1.mX), (.string y.2.2.2.1.B.lK), (.string y.2.2.2.1.B.lN), (.string y.2.2.2.1.C.lK), (.string y.2.2.2.1.C.lN), (.string y.2.2.2.1.mQ), c9] 55) :: ((h5, Ol (lE s) 52) :: ((N, Obj.cells a0 36 (0, 0)) :: (b2 ++ (k2 ++ f2))))) ∧ E 0 = (.pointer (some ⟨N, 0, none⟩)) ∧ E 1 = b9 ∧ E 7 = a9 ∧ E 10 = (.pointer (some ⟨d9, 0, none⟩)) ∧ E 23 = k3 ∧ E 24 = (.int .i64 (r5.length : Int)) ∧ E 25 = (.int .i64 (h3 : Int)) ∧ E 36 = (.agg #[(.int .i64 y.1.Kind), (.string y.1.Head.lK), (.string y.1.Head.lN), (.string y.1.mX), (.string y.1.B.lK), (.string y.1.B.lN), (.string y.1.C.lK), (.string y.1.C.lN), (.string y.1.mQ), e6]) ∧ E 37 = (.bool y.2.2.1) ∧ Sl (Pl (ns .u8)) 1 b6 e6 y.2.1 ∧ Sl (Pl (ns .u8)) 1 b6 c9 y.2.2.2.2 ∧ Fr w.heap.size c9) (bm 12 1023) 2 ?_ (fun y a5 d5 => ?_)))))))
  ·rintro ⟨a, c8, o5, o6, n7⟩ E W ⟨d9, e6, c9, b6, f2, b4, A, d, h9, i0, i1, e2, i2, i3, i4, i5, i6, f0, l1, k8⟩ b1
   obtain ⟨d6, e0, rfl⟩ := f0.form
   let d0 := (C4 a.Kind a.Head.lK a.Head.lN a.mX a.B.lK a.B.lN a.C.lK a.C.lN a.mQ d6 c8.length e0)
   refine XO 10 rfl (mj (.agg d0.toArray) (d0.toArray) d e2 i5 eL oc nb rfl (fun m4 d => ?_))
   have m := d.has.pN b4 (Db (Kb (Kb Sn)))
   refine ⟨m, (X 11 rfl m (oD i6) (nh kr (lU ?_)))⟩
   replace d := d.lF (Kb (Db St))
   replace d := d.drew
   have m := d.has.lF (Kb Sn)
   refine mT m mB (X 0 rfl m (lP i1) (X 1 rfl m (lO xh e2) (XH 2 rfl m (fun _ hS => lJ rfl (lQ hS Mh (lE a) rfl bD aJ)) (X 3 rfl m (lO Hd e2) (XH 4 rfl m (fun _ hS => lJ rfl (lX hS Mh rfl jZ)) (bS b1 fun Z g0 b1 => XE 5 rfl (pA d call67 (nq.nz (GM (.slice d6 c8.length e0) c8 _ _ (f0.mono (Pl.mono _) d.lL) g0)) (fun m5 o1 o8 l9 d a4 F e8 => ?_))))))))
   have m := d.has.pN a4 (Dr (Kb Sn))
   refine ⟨m, ?_⟩
   obtain ⟨a6, a7, rfl⟩ := e8.form
   let e7 := (C4 a.Kind a.Head.lK a.Head.lN a.mX a.B.lK a.B.lN a.C.lK a.C.lN a.mQ a6 Z.length a7)
   refine X 6 rfl m (nW (v := (.agg e7.toArray)) (qV rfl rfl) (nw eQ fM (PL _ fM) kr)) ?_
   obtain ⟨j9, d, b5, L, g7⟩ := ST.Ap d e8 (fun _ => rfl)
   refine XE 7 rfl (mH (cs := e7.toArray) d (oE rfl) (ot eY eL eQ) (fun m6 n6 d => ?_))
   have m := d.has.pN (a4.trans b5) (Db (Kb Sn))
   refine ⟨m, ?_⟩
   replace d := d.perm (Nr (Qb (Qb (Qb Qz))) Nz)
   refine bS b1 fun j0 f8 b1 => XE 8 rfl (wk (B := b2) rV d dc eY Jt.1 Jt.2.1 rfl Jt.2.2.1 Jt.2.2.2 rfl rfl (d1.mono rV ((b4.trans a4).trans b5)) (D5.lit rV (l := [(⟨a, Z⟩ : Signed)]) (.cons (ys := C4 a.Kind a.Head.lK a.Head.lN a.mX a.B.lK a.B.lN a.C.lK a.C.lN a.mQ a6 Z.length a7) (oY.mk ⟨(.slice a6 Z.length a7), rfl, g7⟩) .nil) rfl nb (d.at_ (Ma Mh))) f8 (fun m7 j5 h4 d f6 => ?_))
   have m := d.has.pN (a4.trans b5) (Dr (Db (Kb Sn)))
   refine ⟨m, (X 9 rfl m (oD rfl) (nh kr (mJ (lU ?_))))⟩
   replace d := d.lF (Kr (Db (Db St)))
   exact ⟨i4, j5, j0, h4, j9, _, ⟨rfl, i3⟩, (((z.trans b4).trans a4).trans b5), (((n.trans A).trans F).trans L), (d.lF (Sb (Pr Pz) St)), h9, i0, rfl, i2, f6, (by rw [i9]; exact b1)⟩
  refine He 5 9 rfl rfl kr (.inl rfl) (.inl rfl) rfl rfl dc dc ?_ ?_
  ·refine bS a5 fun n9 g1 a5 => ?_
   refine NR (args := [(.agg #[f1, c, g]), (.agg (lE s).toArray)]) (caps := #[]) [] _ d (bI _) rfl call66 (by exact yA rfl rfl) (fun hH hN ah ai => nO.nz (Cx D.lH c g s _ _ ⟨hH, hN, ah⟩ (G.mono mK.mono (T.trans z)) (H.mono nH.mono (T.trans z)) g1)) (fun m8 o2 k0 l7 d b7 O f4 => ?_)
   obtain ⟨j7, d2, rfl, h1⟩ := f4
   replace d2 := d2.symm; subst d2
   replace d := d.perm Tn
   have m := d.has.pN b7 (Kb (Kb Sn))
   refine ⟨m, (X 6 rfl m (lP rfl) (X 7 rfl m (xy rfl rfl) (X 8 rfl m (xy rfl rfl) (XE 9 rfl (my d eQ (fun m9 h6 d => ?_))))))⟩
   have m := d.has.pN b7 (Db (Kb (Kb Sn)))
   refine ⟨m, ?_⟩
   obtain rfl := sj a5
   refine nu kr (d5 _ _ ⟨h6, j7, (.slice none 0 0), k0, _, b7, O, (d.lF St), b3, c4, c5, rfl, c6, eN, eI, rfl, rfl, h1, (Sl.nil _ _ _), (Fr.nil _)⟩)
  ·refine my d eQ (fun n0 h7 d => ?_)
   have m := d.has.lF (Db (Kb (Kb Sn)))
   refine ⟨m, (bS a5 fun o0 g2 a5 => ?_)⟩
   refine XE 5 rfl (eD d (bI _) call66 (fun hh => nO.nz (Cx D.lH c g s _ _ hh (G.mono mK.mono (T.trans z)) (H.mono nH.mono (T.trans z)) g2)) ?_ (L0 := []))
   rintro _ o3 k1 l8 d d4 P ⟨j8, d3, rfl, h2⟩
   obtain rfl := d3.symm
   have m := d.has.pN d4 (Db (Kb (Kb Sn)))
   refine ⟨m, (X 6 rfl m (lP rfl) (X 7 rfl m (xy rfl rfl) (X 8 rfl m (xy rfl rfl) ?_)))⟩
   obtain rfl := sj a5
   refine nu kr (d5 _ _ ⟨h7, j8, (.slice none 0 0), k1, _, d4, P, (d.lF St), b3, c4, c5, rfl, c6, eN, eI, rfl, rfl, h2, (Sl.nil _ _ _), (Fr.nil _)⟩)
 rintro E W ⟨a9, c7, b2, a2, d8, ⟨eI, eN⟩, z, n, d, b3, c4, c5, c6, d1, I⟩
 rw [aI] at I
 refine lU ?_
 replace d := d.lF (Kb (Kr (Dr St)))
 refine sg (Wh b3 (Wh b3 (Wn (Wf Ax (VB d Mh rfl rfl eH (Wh c4 ?_))))))
 obtain ⟨c0, c2, rfl⟩ := U.form
 obtain ⟨c1, c3, rfl⟩ := e4.form
 refine VE (mH (cs := #[(.slice c0 D.Shown.length c2), (.slice c1 q.length c3)]) d (qV rfl rfl) (ot jG iM jL) (fun n2 h8 d => bS I fun j3 g3 I => VE (pA d call68 (nq.nz (Gq (.slice (some ⟨h8, 0, none⟩) 2 2) ([D.Shown, q]) _ _ (Fi.lit (l := [D.Shown, q]) (vs := [(.slice c0 D.Shown.length c2), (.slice c1 q.length c3)]) rfl nb (d.at_ Mh) (.cons (U.mono (Pl.mono _) ((T.trans z).trans d.lL)) (.cons (e4.mono (Pl.mono _) ((T.trans z).trans d.lL)) .nil))) g3)) (fun n3 j6 o9 m0 d J R f7 => bS I fun e5 g4 I => VE (pA d call52 (xp j6 j3 _ _ (f7.sl nl (fun b o hq => d.at_ (Ml hq))) g4) (fun n4 o4 p0 m1 d K aa e9 => Wn (Wf Ax ?_)))))))
 obtain ⟨d7, e1, rfl⟩ := e9.form
 let f5 : Value := (.slice d7 e5.length e1)
 replace d := d.perm (Nb (Pr (Pr (Pb Pz))) Nz)
 refine VO (mj f5 (#[f1, c, g, (.string D.mU), (.int .i64 D.Room), j, f5, k, t]) d rfl rfl iM oc nb rfl (fun n5 d => ln ?_))
 replace d := d.lF (Kb (Kr (Dr (Db St))))
 refine sg (Wh c5 (Wa (Wa (lt ?_))))
 obtain rfl := sj I
 refine G1 (v := a9) (u := (.int .i64 0)) rfl rfl rfl ?_
 replace d := d.perm (Nr (Qb (Qr Qz)) Nz)
 obtain ⟨p1, d, Y, ab, g8⟩ := ST.yZ rV d (d1.mono rV (J.trans K))
 replace d := d.perm (Nr (Qb Qz) Nz)
 obtain ⟨p2, d, M, ad, g9⟩ := ST.Ap d e9 nl
 exact ⟨_, _, _, rfl, (d.ov (Kb Sn)), (((((T.trans z).trans J).trans K).trans Y).trans M), (((((af.trans n).trans R).trans aa).trans ab).trans ad), (ST.nt d (oT.mem (Kb Sn))), a9, c, g, j, f5, k, t, rfl, rfl, (g8.mono rV.mono M), (G.mono mK.mono (((((T.trans z).trans J).trans K).trans Y).trans M)), (H.mono nH.mono (((((T.trans z).trans J).trans K).trans Y).trans M)), (Q.mono (Pl.mono _) (((((T.trans z).trans J).trans K).trans Y).trans M)), g9, (a3.mono (Pl.mono _) (((((T.trans z).trans J).trans K).trans Y).trans M)), (a8.mono (Pl.mono _) (((((T.trans z).trans J).trans K).trans Y).trans M))⟩
end Go.Proofs.YtklbhegeiijbjaaGreat
