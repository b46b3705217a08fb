/- a part of a proof of LintTexts -/
import Derived.Test.YtjjjihkifgdhgaaGreatDoorDL4W1k
set_option linter.all false
namespace Go.Proofs.YtjjjihkifgdhgaaGreatDoor
open Go.IntKind renaming wrap → wi0
open Go.Proofs.Tryz renaming prog → pg0
open Go.RowKit
set_option maxRecDepth 10000
open Tryz
theorem ye (G : Nat) (a0 : jF) (a1 : Int) (c2 : Value) (a2 : List Formula) (r : (Formula × jF)) (w : World) {μ0 : jx} (h0 : nf μ0 ((G, Ol (ko a0) 224) :: []) w) (c1 : Sl iZ 5 μ0 c2 a2) (hm : oW a0 a1 a2 = some r) :
  lj false pg0 243 [(.pointer (some ⟨G, 0, none⟩)), (.int .i64 a1), c2] w μ0 ((G, Ol (ko a0) 224) :: []) (fun v L1 μ1 => ∃ y1, v = (.agg #[(.int .i64 ((r.1).Op)), (.int .i64 ((r.1).K)), (.string (((r.1).iX).ja)), (.string (((r.1).iX).Word)), y1]) ∧ L1 = ((G, Ol (ko (r.2)) 224) :: []) ∧ Sl iZ 5 μ1 y1 ((r.1).Kids)) := by
 let j8 := ((ko a0).toArray : Array Value)
 refine ud h0 58 func243 rfl (fun b => sg (VE (kq b bL (fun W2 b1 b => lr (Wa (lS (Wm ?_)))))))
 refine V (lT aG rfl c1) (Wm (ln (lu (fun i E W => ∃ x K J N c0, (E 12 = .int .i64 (i : Nat) ∧ E 11 = .int .i64 (a2.length : Nat)) ∧ ST false (keys ((G, Obj.cells j8 224 (0, 0)) :: [])) w W μ0 ((b1, Ol C4 30) :: ((G, Obj.cells j8 224 (0, 0)) :: (N ++ c0))) ∧ E 0 = (.pointer (some ⟨G, 0, none⟩)) ∧ E 1 = (.int .i64 x) ∧ E 6 = (.pointer (some ⟨b1, 0, none⟩)) ∧ E 7 = K ∧ E 10 = c2 ∧ kd 30 iZ 5 μ0 K J N ∧ lC a0 (a2.drop i) x J = some r) a2.length c1.len ⟨a1, (.slice none 0 0), ([]), [], _, ⟨rfl, rfl⟩, (b.jc St), rfl, rfl, rfl, rfl, rfl, (kd.nil _ _ _ _), hm⟩ dc dc dc (fun _ _ _ h => by obtain ⟨_, _, _, _, _, aa, _⟩ := h; exact aa) ?_ ?_)))
 ·rintro h2 E W f2 ⟨x, K, J, N, c0, ⟨R, eN⟩, b, U, H, u, I, P, D, a⟩
  obtain ⟨c, h8, g8, g7, b7⟩ := kL f2
  rw [g8] at a
  refine bg (VQ (mW (i := (h2 : Int)) (x0 := c) iZ.out aG aD P R c1 (aV _) g7) (fun k7 ⟨_, ⟨l0, rfl, Y⟩, f3⟩ => V (jd rfl (jJ b.has f3 aZ aD)) (VE (kq b bL (fun i6 k4 b => ?_)))))
  obtain ⟨y, z, rfl⟩ := Y.form
  let j6 : Value := (.slice y c.Kids.length z)
  let b8 := (C1 c.Op c.K c.iX.ja c.iX.Word y c.Kids.length z)
  refine VO (jz (.agg b8.toArray) (b8.toArray) b rfl rfl aD oc nb rfl (fun i7 b => ln (bg (VA b Mh b8 aZ aD (bS a fun k8 f4 a => VE (Eg b call297 (jO.lI (wU c j6 2 _ _ (Y.mono jj.mono b.jk) f4)) (fun i8 b => Wa (ln (CI a rfl (fun e5 a => ?_) (fun e5 a => ?_))))))))))
  ·refine jq (Wh H (Wi rfl (Wa (jH (jQ (jQ (jo ?_)))))))
   replace b := b.jc (Db St)
   exact ⟨R, (wi0 .i64 (x - 1)), K, J, N, _, ⟨rfl, eN⟩, (b.jc St), U, rfl, u, I, P, D, (by rw [b7]; exact a)⟩
  refine sg (VA b Mh b8 aZ aD (bS a fun k9 f5 a => VE (Eg b call297 (jO.lI (wU c j6 3 _ _ (Y.mono jj.mono b.jk) f5)) (fun i9 b => V (px rfl) (Wa (ln (CI a rfl (fun e6 a => ?_) (fun e6 a => ?_))))))))
  ·refine jq (Wh I (VA b Mh b8 aZ aD (VE (km (cs := b8.toArray) b (mH rfl) (nI aG aD bL) (fun j0 k5 b => ?_)))))
   replace b := b.perm (Nr (Qb (Qb (Qb (Qb Qz)))) Nz)
   refine bS a fun h3 e7 a => VE (tZ (B := N) jj b dc aG nD.1 nD.2.1 rfl nD.2.2.1 nD.2.2.2 rfl rfl D (zp.lit jj (l := [c]) (.cons (ys := C1 c.Op c.K c.iX.ja c.iX.Word y c.Kids.length z) (iZ.mk ⟨j6, rfl, Y⟩) .nil) rfl nb (b.at_ (Ma Mh))) e7 (fun j3 h4 g9 b e4 => Wa (jH (jQ (jQ (jo ?_))))))
   replace b := b.jc (Kr (Db (Db St)))
   exact ⟨R, x, h4, h3, g9, _, ⟨rfl, eN⟩, (b.jc (Sb (Pr Pz) (Sb (Pr Pz) St))), U, H, u, rfl, P, e4, (by rw [b7]; exact a)⟩
  refine kX (jQ (jQ (jo ?_)))
  replace b := b.jc (Db St)
  exact ⟨R, x, K, J, N, _, ⟨rfl, eN⟩, (b.jc St), U, H, u, I, P, D, (by rw [b7]; exact a)⟩
 rintro E W ⟨x, K, J, N, c0, ⟨R, eN⟩, b, U, H, u, I, P, D, a⟩
 rw [bE] at a
 refine jo (jt (bg (Wh H (Wi rfl (Wa (ln (CI a rfl (fun e8 a => ?_) (fun e8 a => ?_))))))))
 ·refine sg (bS a fun g f6 a => ?_)
  let j2 : Value := (.string (((g).iX).Word))
  let h9 : Value := (.string (((g).iX).ja))
  refine VE (eD b (bX _) call115 (fun d => lj.lI (zi  _ _ d  f6)) ?_ (L0 := []))
  rintro _ l1 m2 i0 b c9 m ⟨l6, b2, rfl, c3⟩
  obtain rfl := b2.symm
  obtain ⟨Z, a6, rfl⟩ := c3.form
  let g5 : Value := (.slice Z ((g).Kids).length a6)
  let e0 : Value := (.agg #[(.int .i64 ((g).Op)), (.int .i64 ((g).K)), h9, j2, g5])
  refine VO (jz e0 (#[(.int .i64 ((g).Op)), (.int .i64 ((g).K)), h9, j2, g5]) b u rfl aD oc nb rfl (fun j5 b => ln ?_))
  replace b := b.jc (Kb (Kb (Dr St)))
  refine kl (og (lc ?_))
  obtain rfl := sj a
  exact oU (v := e0) rfl u (jl b.has Mh [(.int .i64 ((g).Op)), (.int .i64 ((g).K)), h9, j2, g5] rfl aZ aD) ⟨_, _, _, rfl, (b.lO (Db (Kb Sn))), c9, m, (ST.kz b (mh.mem (Db (Kb Sn)))), g5, rfl, rfl, c3⟩
 refine sg (Wh H (Wh I (V (vP aG rfl D) (Wi rfl (Wa (ln (CI a rfl (fun e9 a => ?_) (fun e9 a => ?_))))))))
 ·refine sg (bS a fun j f7 a => ?_)
  let j4 : Value := (.string (((j).iX).Word))
  let j1 : Value := (.string (((j).iX).ja))
  refine VE (eD b (bX _) call298 (fun d => lj.lI (EZ  _ _ d  f7)) ?_ (L0 := []))
  rintro _ l2 m3 i1 b d0 n ⟨l7, b3, rfl, c4⟩
  obtain rfl := b3.symm
  obtain ⟨a3, a7, rfl⟩ := c4.form
  let e3 : Value := (.slice a3 ((j).Kids).length a7)
  let d9 : Value := (.agg #[(.int .i64 ((j).Op)), (.int .i64 ((j).K)), j1, j4, e3])
  refine VO (jz d9 (#[(.int .i64 ((j).Op)), (.int .i64 ((j).K)), j1, j4, e3]) b u rfl aD oc nb rfl (fun j7 b => ln ?_))
  replace b := b.jc (Kb (Kb (Dr St)))
  refine kl (og (lc ?_))
  obtain rfl := sj a
  exact oU (v := d9) rfl u (jl b.has Mh [(.int .i64 ((j).Op)), (.int .i64 ((j).K)), j1, j4, e3] rfl aZ aD) ⟨_, _, _, rfl, (b.lO (Db (Kb Sn))), d0, n, (ST.kz b (mh.mem (Db (Kb Sn)))), e3, rfl, rfl, c4⟩
 refine sg (Wh H (Wh I (V (vP aG rfl D) (Wi rfl (Wa (ln (CI a rfl (fun f0 a => ?_) (fun f0 a => ?_))))))))
 ·refine sg (Wh U (Wh I ?_))
  replace b := b.perm (Nr (Qb (Qb Qz)) Nz)
  obtain ⟨m4, b, d1, o, g1⟩ := ST.wB jj b D
  refine bS a fun k f8 a => ?_
  let h6 : Value := (.string (((k.1).iX).Word))
  let h1 : Value := (.string (((k.1).iX).ja))
  refine VE (eD b (Cb (Pb Pz) Cn) call244 (fun d => (rh G a0 2 K J _ _ d (g1.mono jj.mono (jC.refl _)) f8)) ?_)
  rintro _ l3 m5 i2 b d2 p ⟨l8, b4, rfl, c5⟩
  obtain rfl := b4.symm
  replace b := b.perm (Tb Tn)
  obtain ⟨a4, a8, rfl⟩ := c5.form
  let e1 : Value := (.slice a4 ((k.1).Kids).length a8)
  let c8 : Value := (.agg #[(.int .i64 ((k.1).Op)), (.int .i64 ((k.1).K)), h1, h6, e1])
  replace b := b.perm (Nb (Pb Pz) Nz)
  refine VO (jz c8 (#[(.int .i64 ((k.1).Op)), (.int .i64 ((k.1).K)), h1, h6, e1]) b u rfl aD oc nb rfl (fun j9 b => lt (og (lc ?_))))
  obtain rfl := sj a
  exact oU (v := c8) rfl u (jl b.has Mh [(.int .i64 ((k.1).Op)), (.int .i64 ((k.1).K)), h1, h6, e1] rfl aZ aD) ⟨_, _, _, rfl, (b.lO (Db (Kb Sn))), (d1.trans d2), (o.trans p), (ST.kz b (mh.mem (Db (Kb Sn)))), e1, rfl, rfl, c5⟩
 refine sg (Wh H (Wi rfl (Wa (ln (CI a rfl (fun f1 a => ?_) (fun f1 a => ?_))))))
 ·refine sg (Wh U (Wh I ?_))
  replace b := b.perm (Nr (Qb (Qb Qz)) Nz)
  obtain ⟨m6, b, d3, q, g2⟩ := ST.wB jj b D
  refine bS a fun t f9 a => ?_
  let h7 : Value := (.string (((t.1).iX).Word))
  let h5 : Value := (.string (((t.1).iX).ja))
  refine VE (eD b (Cb (Pb Pz) Cn) call244 (fun d => (rh G a0 3 K J _ _ d (g2.mono jj.mono (jC.refl _)) f9)) ?_)
  rintro _ l4 m7 i3 b d4 s ⟨l9, b5, rfl, c6⟩
  obtain rfl := b5.symm
  replace b := b.perm (Tb Tn)
  obtain ⟨a5, a9, rfl⟩ := c6.form
  let e2 : Value := (.slice a5 ((t.1).Kids).length a9)
  let d8 : Value := (.agg #[(.int .i64 ((t.1).Op)), (.int .i64 ((t.1).K)), h5, h7, e2])
  replace b := b.perm (Nb (Pb Pz) Nz)
  refine VO (jz d8 (#[(.int .i64 ((t.1).Op)), (.int .i64 ((t.1).K)), h5, h7, e2]) b u rfl aD oc nb rfl (fun k1 b => lt (og (lc ?_))))
  obtain rfl := sj a
  exact oU (v := d8) rfl u (jl b.has Mh [(.int .i64 ((t.1).Op)), (.int .i64 ((t.1).K)), h5, h7, e2] rfl aZ aD) ⟨_, _, _, rfl, (b.lO (Db (Kb Sn))), (d3.trans d4), (q.trans s), (ST.kz b (mh.mem (Db (Kb Sn)))), e2, rfl, rfl, c6⟩
 refine kX (jQ (jo (sg (Wh H (Wh I ?_)))))
 replace b := b.perm (Nr (Qb (Qb Qz)) Nz)
 obtain ⟨m8, b, d5, A, g3⟩ := ST.wB jj b D
 refine bS a fun T g0 a => ?_
 refine VE (eD b (bX _) call299 (fun d => (AE K J _ _ d (g3.mono jj.mono (jC.refl _)) g0)) ?_ (L0 := []))
 rintro _ l5 m9 i4 b d6 L ⟨m0, i5, b6, rfl, c7⟩
 obtain rfl := b6.symm
 replace b := b.perm (Tr Tn)
 obtain ⟨M, Q, rfl⟩ := c7.form
 let g6 : Value := (.slice M T.length Q)
 let b9 : Value := (.agg #[(.int .i64 4), (.int .i64 x), (.string zS), (.string zS), g6])
 refine V (lY (v := b9) (AL rfl rfl rfl) (li bL cC (yJ _ cC) kr)) ?_
 replace b := b.perm (Nb (Pr Pz) Nz)
 refine VO (jz b9 (#[(.int .i64 4), (.int .i64 x), (.string zS), (.string zS), g6]) b u rfl aD oc nb rfl (fun k3 b => lt ?_))
 obtain rfl := sj a
 refine oU (v := b9) rfl u (jl b.has Mh [(.int .i64 4), (.int .i64 x), (.string zS), (.string zS), g6] rfl aZ aD) ?_
 replace b := b.perm (Nr (Qb Qz) Nz)
 obtain ⟨n0, b, d7, O, g4⟩ := ST.wB jj b c7
 exact ⟨_, _, _, rfl, (b.lO (Db (Kb Sn))), ((d5.trans d6).trans d7), ((A.trans L).trans O), (ST.kz b (mh.mem (Db (Kb Sn)))), g6, rfl, rfl, g4⟩
theorem xd (c9 : jF → Formula → Option (Formula × jF)) (e9 : ∀ (u : Nat) (a0 : jF) (a : Formula) (y : Value) (r : (Formula × jF)) (w : World) {μ0 : jx} (h0 : nf μ0 ((u, Ol (ko a0) 224) :: []) w) (x : Sl iZ 5 μ0 y a.Kids), c9 a0 a = some r → lj false pg0 181 [(.pointer (some ⟨u, 0, none⟩)), (.agg #[(.int .i64 a.Op), (.int .i64 a.K), (.string a.iX.ja), (.string a.iX.Word), y])] w μ0 ((u, Ol (ko a0) 224) :: []) (fun v L1 μ1 => ∃ L, v = (.agg #[(.int .i64 ((r.1).Op)), (.int .i64 ((r.1).K)), (.string (((r.1).iX).ja)), (.string (((r.1).iX).Word)), L]) ∧ L1 = ((u, Ol (ko (r.2)) 224) :: []) ∧ Sl iZ 5 μ1 L ((r.1).Kids))) (u : Nat) (a0 : jF) (a : Formula) (y : Value) (r : (Formula × jF)) (w : World) {μ0 : jx} (h0 : nf μ0 ((u, Ol (ko a0) 224) :: []) w) (x : Sl iZ 5 μ0 y a.Kids) (hm : pQ c9 a0 a = some r) :
  lj false pg0 181 [(.pointer (some ⟨u, 0, none⟩)), (.agg #[(.int .i64 a.Op), (.int .i64 a.K), (.string a.iX.ja), (.string a.iX.Word), y])] w μ0 ((u, Ol (ko a0) 224) :: []) (fun v L1 μ1 => ∃ L, v = (.agg #[(.int .i64 ((r.1).Op)), (.int .i64 ((r.1).K)), (.string (((r.1).iX).ja)), (.string (((r.1).iX).Word)), L]) ∧ L1 = ((u, Ol (ko (r.2)) 224) :: []) ∧ Sl iZ 5 μ1 L ((r.1).Kids)) := by
 let d0 := ((u, Ol (ko a0) 224) :: [])
 refine ud h0 39 func181 rfl (fun b => sg ?_)
 obtain ⟨A1, c2, rfl⟩ := x.form
 let s := (C1 a.Op a.K a.iX.ja a.iX.Word A1 a.Kids.length c2)
 refine VE (jZ b rfl (fun W4 b3 b => VE (kq b bL (fun W6 b5 b => lS (Wf rb (VB b (Mt Mh) rfl rfl cO (Wi rfl (ln (CI hm rfl (fun f8 hm => ?_) (fun f8 hm => ?_))))))))))
 ·refine sg (VA b (Mt Mh) s aZ aD (VO (jz (.agg s.toArray) (s.toArray) b rfl rfl aD oc nb rfl (fun W8 b => ln ?_))))
  replace b := b.jc (Kb (Db St))
  refine kl (lc ?_)
  obtain rfl := sj hm
  exact oU (v := (.agg s.toArray)) rfl rfl (jl b.has Mh s rfl aZ aD) ⟨_, _, _, rfl, (b.lO (Db (Kb Sn))), (jC.refl _), Lo.refl, (ST.kz b (mh.mem (Db (Kb Sn)))), (.slice A1 a.Kids.length c2), rfl, rfl, x⟩
 refine kg (Wa (lS (Wf qS (VB b (Mt Mh) rfl rfl fc (V (lT aG rfl x) (Wm (jH ?_)))))))
 refine jo (lu (fun i E W => ∃ I H T D J b7, (E 15 = .int .i64 (i : Nat) ∧ E 14 = .int .i64 (a.Kids.length : Nat)) ∧ jC μ0 J ∧ Lo (keys d0) w μ0 J ∧ ST false (keys d0) w W J ((u, Ol (ko D) 224) :: ((b5, Ol C4 30) :: ((b3, Ol s 30) :: (T ++ b7)))) ∧ E 0 = (.pointer (some ⟨u, 0, none⟩)) ∧ E 3 = (.pointer (some ⟨b3, 0, none⟩)) ∧ E 4 = (.pointer (some ⟨b5, 0, none⟩)) ∧ E 5 = I ∧ E 13 = (.slice A1 a.Kids.length c2) ∧ kd 30 iZ 5 J I H T ∧ mD c9 a (a.Kids.drop i) H D = some r) a.Kids.length x.len ⟨(.slice none 0 0), ([]), [], a0, μ0, _, ⟨rfl, rfl⟩, (jC.refl _), Lo.refl, (b.jc (Sb (Pb (Pb Pz)) St)), rfl, rfl, rfl, rfl, rfl, (kd.nil _ _ _ _), hm⟩ dc dc dc (fun _ _ _ h => by obtain ⟨_, _, _, _, _, _, aa, _⟩ := h; exact aa) ?_ ?_)
 ·rintro f0 E W d7 ⟨I, H, T, D, J, b7, ⟨eI, eN⟩, z, d, b, a2, a3, G, P, b9, K, c⟩
  obtain ⟨t, f9, e5, e4, e6⟩ := kL d7
  rw [e5] at c
  refine bg (VQ (mW (i := (f0 : Int)) (x0 := t) iZ.out aG aD b9 eI (x.mono jj.mono z) (aV _) e4) (fun h7 ⟨_, ⟨h8, rfl, c0⟩, d8⟩ => V (jd rfl (jJ b.has d8 aZ aD)) (VE (kq b bL (fun g3 h5 b => ?_)))))
  obtain ⟨a7, a9, rfl⟩ := c0.form
  let R := (C1 t.Op t.K t.iX.ja t.iX.Word a7 t.Kids.length a9)
  refine VO (jz (.agg R.toArray) (R.toArray) b rfl rfl aD oc nb rfl (fun g4 b => ln (jq (Wh P (Wh a2 (VA b Mh R aZ aD (bS c fun g d9 c => ?_)))))))
  refine VE (eD b (Cb (Pb Pz) Cn) call181 (fun A => (e9 u D t (.slice a7 t.Kids.length a9) _ _ A (c0.mono jj.mono (jC.refl _)) d9)) ?_)
  rintro _ h9 f4 g0 b b6 m ⟨i2, b1, rfl, c1⟩
  obtain rfl := b1.symm
  replace b := b.perm (Tb Tn)
  obtain ⟨M, U, rfl⟩ := c1.form
  let d1 : Value := (.slice M ((g.1).Kids).length U)
  refine VE (km (cs := #[(.int .i64 ((g.1).Op)), (.int .i64 ((g.1).K)), (.string (((g.1).iX).ja)), (.string (((g.1).iX).Word)), d1]) b (mH rfl) (nI aG aD bL) (fun g8 h6 b => ?_))
  replace b := b.perm (Nr (Qb (Qb (Qb (Qb (Qb Qz))))) Nz)
  refine bS c fun f1 d5 c => VE (tZ (B := T) jj b dc aG nD.1 nD.2.1 rfl nD.2.2.1 nD.2.2.2 rfl rfl (K.mono jj b6) (zp.lit jj (l := [g.1]) (.cons (ys := [(.int .i64 ((g.1).Op)), (.int .i64 ((g.1).K)), (.string (((g.1).iX).ja)), (.string (((g.1).iX).Word)), d1]) (iZ.mk ⟨d1, rfl, c1⟩) .nil) rfl nb (b.at_ (Ma Mh))) d5 (fun g9 f2 e8 b d4 => Wa (jH (jQ (jo ?_)))))
  replace b := b.jc (Kr (Db (Kb (Db St))))
  exact ⟨eI, f2, f1, e8, g.2, f4, _, ⟨rfl, eN⟩, (z.trans b6), (d.trans m), (b.jc (Sb (Pr Pz) (Sb (Pr Pz) (Sb (Pr Pz) St)))), a2, a3, G, rfl, b9, d4, (by rw [e6]; exact c)⟩
 rintro E W ⟨I, H, T, D, J, b7, ⟨eI, eN⟩, z, d, b, a2, a3, G, P, b9, K, c⟩
 rw [bE] at c
 refine jo (jt (sg (V (jm rb a3) (VB b (Mt (Mt Mh)) rfl rfl cO (Wi rfl (ln (CI c rfl (fun d6 c => ?_) (fun d6 c => ?_))))))))
 ·refine sg (Wh a2 (V (jm vS a3) (VB b (Mt (Mt Mh)) rfl rfl cO (Wh P ?_))))
  replace b := b.perm (Nr (Qb (Qb (Qb Qz))) Nz)
  obtain ⟨i5, b, c5, n, e2⟩ := ST.wB jj b K
  refine bS c fun j e0 c => ?_
  let f3 : Value := (.string (((j.1).iX).Word))
  let d3 : Value := (.string (((j.1).iX).ja))
  refine VE (eD b (Cb Pz Cn) call243 (fun A => (ye u D a.K I H _ _ A (e2.mono jj.mono (jC.refl _)) e0)) ?_)
  rintro _ i0 i6 g1 b c6 o ⟨i3, b2, rfl, c3⟩
  obtain rfl := b2.symm
  replace b := b.perm (Tb Tn)
  obtain ⟨N, Y, rfl⟩ := c3.form
  let b8 : Value := (.slice N ((j.1).Kids).length Y)
  let a5 : Value := (.agg #[(.int .i64 ((j.1).Op)), (.int .i64 ((j.1).K)), d3, f3, b8])
  replace b := b.perm (Nb (Pb Pz) Nz)
  refine VO (jz a5 (#[(.int .i64 ((j.1).Op)), (.int .i64 ((j.1).K)), d3, f3, b8]) b G rfl aD oc nb rfl (fun h2 b => ln ?_))
  replace b := b.jc (Kb (Kb (Db St)))
  refine kl (lc ?_)
  obtain rfl := sj c
  exact oU (v := a5) rfl G (jl b.has Mh [(.int .i64 ((j.1).Op)), (.int .i64 ((j.1).K)), d3, f3, b8] rfl aZ aD) ⟨_, _, _, rfl, (b.lO (Db (Kb Sn))), ((z.trans c5).trans c6), ((d.trans n).trans o), (ST.kz b (mh.mem (Db (Kb Sn)))), b8, rfl, rfl, c3⟩
 refine kg (Wh a2 (V (jm rb a3) (VB b (Mt (Mt Mh)) rfl rfl cO (Wh P ?_))))
 replace b := b.perm (Nr (Qb (Qb (Qb Qz))) Nz)
 obtain ⟨i7, b, c7, p, e3⟩ := ST.wB jj b K
 refine bS c fun k e1 c => ?_
 let f5 : Value := (.int .i64 ((k.1).Op))
 let e7 : Value := (.string (((k.1).iX).Word))
 let d2 : Value := (.string (((k.1).iX).ja))
 refine VE (eD b (Cb Pz Cn) call244 (fun A => (rh u D a.Op I H _ _ A (e3.mono jj.mono (jC.refl _)) e1)) ?_)
 rintro _ i1 i8 g2 b c8 q ⟨i4, b4, rfl, c4⟩
 obtain rfl := b4.symm
 replace b := b.perm (Tb Tn)
 obtain ⟨Q, Z, rfl⟩ := c4.form
 let O : Value := (.slice Q ((k.1).Kids).length Z)
 let a4 : Value := (.agg #[f5, (.int .i64 ((k.1).K)), d2, e7, O])
 replace b := b.perm (Nb (Pb Pz) Nz)
 refine VO (jz a4 (#[f5, (.int .i64 ((k.1).K)), d2, e7, O]) b G rfl aD oc nb rfl (fun h4 b => ln ?_))
 replace b := b.jc (Kb (Kb (Db St)))
 refine kl ?_
 obtain rfl := sj c
 exact oU (v := a4) rfl G (jl b.has Mh [f5, (.int .i64 ((k.1).K)), d2, e7, O] rfl aZ aD) ⟨_, _, _, rfl, (b.lO (Db (Kb Sn))), ((z.trans c7).trans c8), ((d.trans p).trans q), (ST.kz b (mh.mem (Db (Kb Sn)))), O, rfl, rfl, c4⟩
theorem uH : ∀ (n : Nat) (c : Nat) (j : jF) (g : Formula) (a : Value) (r : (Formula × jF)) (w : World) {k : jx} (y : nf k ((c, Ol (ko j) 224) :: []) w) (i : Sl iZ 5 k a g.Kids) (_ : lZ n j g = some r),
  lj false pg0 181 [(.pointer (some ⟨c, 0, none⟩)), (.agg #[(.int .i64 g.Op), (.int .i64 g.K), (.string g.iX.ja), (.string g.iX.Word), a])] w k ((c, Ol (ko j) 224) :: []) (fun v u x => ∃ t, v = (.agg #[(.int .i64 ((r.1).Op)), (.int .i64 ((r.1).K)), (.string (((r.1).iX).ja)), (.string (((r.1).iX).Word)), t]) ∧ u = ((c, Ol (ko (r.2)) 224) :: []) ∧ Sl iZ 5 x t ((r.1).Kids))
 | 0 => by intros; rename_i h; simp only [lZ] at h; cases h
 | n + 1 => xd (lZ n) (uH n)
theorem zI (c : Formula) (u : Value) (r : (Formula × Int)) (w : World) {Z : jx} (s : nf Z [] w) (k : Sl iZ 5 Z u c.Kids) (hm : tC c = some r) :
  lj false pg0 114 [(.agg #[(.int .i64 c.Op), (.int .i64 c.K), (.string c.iX.ja), (.string c.iX.Word), u])] w Z [] (fun v L1 μ1 => ∃ p, v = (.tuple #[(.agg #[(.int .i64 ((r.1).Op)), (.int .i64 ((r.1).K)), (.string (((r.1).iX).ja)), (.string (((r.1).iX).Word)), p]), (.int .i64 (r.2))]) ∧ L1 = [] ∧ Sl iZ 5 μ1 p ((r.1).Kids)) := by
 refine ud s 27 func114 rfl (fun b => sg ?_)
 obtain ⟨H, I, rfl⟩ := k.form
 let n := (C1 c.Op c.K c.iX.ja c.iX.Word H c.Kids.length I)
 refine VE (jZ b rfl (fun W4 L b => VE (kq b bL (fun W6 o b => Wa (lS (VA b (Mt Mh) n aZ aD (bS hm fun r7 a5 hm => VE (Eg b call129 (tH c (.slice H c.Kids.length I) _ _ (k.mono jj.mono b.jk) a5) (fun W9 b => V (px rfl) (ln (CI hm rfl (fun Q hm => ?_) (fun Q hm => ?_))))))))))))
 ·refine sg (V (lY (v := (.agg C4.toArray)) sF (li bL cC (yJ _ cC) kr)) (VO (jz (.agg C4.toArray) (C4.toArray) b rfl rfl aD oc nb rfl (fun P b => Wa (ln ?_)))))
  replace b := b.jc (Kb (Db St))
  refine kl (lc ?_)
  obtain rfl := sj hm
  exact tq (v0 := (.agg C4.toArray)) (v1 := (.int .i64 11)) rfl rfl (jl b.has Mh C4 rfl aZ aD) rfl ⟨_, _, _, rfl, (b.lO Sn), (jC.refl _), Lo.refl, (ST.kz b (mh.mem Sn)), (.slice none 0 0), rfl, rfl, (Sl.nil _ _ _)⟩
 refine kg (V (lY (v := (.agg (ko K5).toArray)) sF (li zeroValue224 iu (Pc _ iu) kr)) (VE (jZ b rfl (fun R q b => Wa (lr (Wm (VA b (Mt (Mt Mh)) n aZ aD (bS hm fun a U hm => ?_))))))))
 let m : Value := (.int .i64 ((a.1).K))
 let l : Value := (.int .i64 ((a.1).Op))
 let h : Value := (.string (((a.1).iX).Word))
 let a2 : Value := (.string (((a.1).iX).ja))
 refine VE (eD b (Cb Pz Cn) call181 (fun A => ((uH jB) q K5 c (.slice H c.Kids.length I) _ _ A (k.mono jj.mono (jC.refl _)) U)) ?_)
 rintro _ c7 a9 O b D d ⟨c9, y, rfl, z⟩
 obtain rfl := y.symm
 replace b := b.perm (Tb Tn)
 refine VE (kq b bL (fun c0 K b => ?_))
 obtain ⟨i, j, rfl⟩ := z.form
 let a0 : Value := (.slice i ((a.1).Kids).length j)
 let N : Value := (.agg #[l, m, a2, h, a0])
 refine VO (jz N (#[l, m, a2, h, a0]) b rfl rfl aD oc nb rfl (fun c1 b => ln ?_))
 replace b := b.jc (Kb (Kb (Kb (Db St))))
 refine jt (sg (Wm (Wn (Wf H9 (VB b (Mt Mh) rfl rfl isAgg109 (Wi rfl (Wm (LJ hm (fun M E W => ∃ J, ST false (keys []) w W a9 ((K, Ob #[l, m, a2, h, a0] 30) :: ((o, Ol C4 30) :: J)) ∧ E 2 = (.pointer (some ⟨o, 0, none⟩)) ∧ E 5 = (.pointer (some ⟨K, 0, none⟩)) ∧ E 24 = (.bool M)) 4 ?_ (fun M t G => ?_)))))))))
 ·rintro c8 E W ⟨J, b, B, a3, a4⟩ x
  refine ln (CI x a4 (fun T x => ?_) (fun T x => ?_))
  ·refine sg (V (lY (v := (.agg C4.toArray)) sF (li bL cC (yJ _ cC) kr)) ?_)
   replace b := b.perm (Nb (Pb Pz) Nz)
   refine VO (jz (.agg C4.toArray) (C4.toArray) b B rfl aD oc nb rfl (fun c3 b => Wa (ln ?_)))
   replace b := b.jc (Kb (Db St))
   refine kl (lc ?_)
   obtain rfl := sj x
   exact tq (v0 := (.agg C4.toArray)) (v1 := (.int .i64 12)) rfl B (jl b.has Mh C4 rfl aZ aD) rfl ⟨_, _, _, rfl, (b.lO Sn), D, d, (ST.kz b (mh.mem Sn)), (.slice none 0 0), rfl, rfl, (Sl.nil _ _ _)⟩
  refine kg (V (jd a3 (jl b.has Mh [l, m, a2, h, a0] rfl aZ aD)) ?_)
  replace b := b.perm (Nb (Pb Pz) Nz)
  refine VO (jz N (#[l, m, a2, h, a0]) b B rfl aD oc nb rfl (fun c4 b => Wa (ln ?_)))
  replace b := b.jc (Kb (Db St))
  refine kl ?_
  obtain rfl := sj x
  exact tq (v0 := N) (v1 := (.int .i64 0)) rfl B (jl b.has Mh [l, m, a2, h, a0] rfl aZ aD) rfl ⟨_, _, _, rfl, (b.lO Sn), D, d, (ST.kz b (mh.mem Sn)), a0, rfl, rfl, z⟩
 refine bC t (fun g t => ?_) (fun g t => ?_)
 ·refine un g (un g (un g (V (jW (cB g) rfl) ?_)))
  obtain rfl := sj t
  exact G _ _ ⟨_, (b.jc (Kb (Db St))), rfl, rfl, rfl⟩
 refine ug g (jd rfl (jl b.has Mh [l, m, a2, h, a0] rfl aZ aD)) (bS t fun c6 Y t => uG g (Eg b call129 (tH a.1 a0 _ _ (z.mono jj.mono b.jk) Y) (fun c5 b => ug g (px rfl) (V (jY (cB g) rfl) ?_))))
 obtain rfl := sj t
 exact G _ _ ⟨_, (b.jc (Kb (Db St))), rfl, rfl, rfl⟩
theorem F8 (a : Formula) (k : Value) (c : Formula) (t : Value) (r : (Formula × Int)) (w : World) {N : jx} (p : nf N [] w) (i : Sl iZ 5 N k a.Kids) (j : Sl iZ 5 N t c.Kids) (hm : vi a c = some r) :
  lj false pg0 258 [(.agg #[(.int .i64 a.Op), (.int .i64 a.K), (.string a.iX.ja), (.string a.iX.Word), k]), (.agg #[(.int .i64 c.Op), (.int .i64 c.K), (.string c.iX.ja), (.string c.iX.Word), t])] w N [] (fun v Z μ1 => ∃ Y, v = (.tuple #[(.agg #[(.int .i64 ((r.1).Op)), (.int .i64 ((r.1).K)), (.string (((r.1).iX).ja)), (.string (((r.1).iX).Word)), Y]), (.int .i64 (r.2))]) ∧ Z = [] ∧ Sl iZ 5 μ1 Y ((r.1).Kids)) := by
 refine ud p 13 func258 rfl (fun b => sg ?_)
 obtain ⟨u, z, rfl⟩ := i.form
 let a3 : Value := (.slice u a.Kids.length z)
 refine VE (jZ b rfl (fun W4 P b => ?_))
 obtain ⟨y, G, rfl⟩ := j.form
 let n : Value := (.slice y c.Kids.length G)
 refine VE (jZ b rfl (fun W8 R b => VE (kq b bL (fun a5 W b => Wa (lr (VA b (Mt (Mt Mh)) (C1 a.Op a.K a.iX.ja a.iX.Word u a.Kids.length z) aZ aD (VA b (Mt Mh) (C1 c.Op c.K c.iX.ja c.iX.Word y c.Kids.length G) aZ aD (VE (km (cs := #[(.int .i64 a.Op), (.int .i64 a.K), (.string a.iX.ja), (.string a.iX.Word), a3, (.int .i64 c.Op), (.int .i64 c.K), (.string c.iX.ja), (.string c.iX.Word), n]) b (xC rfl rfl) (nI aG aD bL) (fun s I b => V (lY (v := (.agg #[(.int .i64 2), (.int .i64 0), (.string zS), (.string zS), (.slice (some ⟨I, 0, none⟩) 2 2)])) (xC rfl rfl) (li bL cC (yJ _ cC) kr)) ?_))))))))))
 obtain ⟨L, b, K, d, U⟩ := ST.wB (B := [(I, Ob #[(.int .i64 a.Op), (.int .i64 a.K), (.string a.iX.ja), (.string a.iX.Word), a3, (.int .i64 c.Op), (.int .i64 c.K), (.string c.iX.ja), (.string c.iX.Word), n] 30)]) jj b (kd.lit jj (l := [a, c]) (.cons (ys := C1 a.Op a.K a.iX.ja a.iX.Word u a.Kids.length z) (iZ.mk ⟨a3, rfl, i⟩) (.cons (ys := C1 c.Op c.K c.iX.ja c.iX.Word y c.Kids.length G) (iZ.mk ⟨n, rfl, j⟩) .nil)) rfl nb rfl)
 refine bS hm fun g T hm => ?_
 let o : Value := (.int .i64 ((g.1).Op))
 let a2 : Value := (.string (((g.1).iX).Word))
 let m : Value := (.string (((g.1).iX).ja))
 refine VE (eD b (bX _) call114 (fun q => (zI (⟨2, 0, K0, [a, c]⟩ : Formula) (.slice (some ⟨I, 0, none⟩) 2 2) _ _ q (U.mono jj.mono (jC.refl _)) T)) ?_ (L0 := []))
 rintro _ a9 O a4 b M h ⟨E, H, rfl, J⟩
 obtain rfl := H.symm
 refine Wx rfl (Wx rfl ?_)
 obtain ⟨x, D, rfl⟩ := J.form
 let a0 : Value := (.slice x ((g.1).Kids).length D)
 let Q : Value := (.agg #[o, (.int .i64 ((g.1).K)), m, a2, a0])
 refine VO (jz Q (#[o, (.int .i64 ((g.1).K)), m, a2, a0]) b rfl rfl aD oc nb rfl (fun A b => Wa (ln ?_)))
 replace b := b.jc (Kb (Db (Db St)))
 refine kl ?_
 obtain rfl := sj hm
 exact tq (v0 := Q) (v1 := (.int .i64 g.2)) rfl rfl (jl b.has Mh [o, (.int .i64 ((g.1).K)), m, a2, a0] rfl aZ aD) rfl ⟨_, _, _, rfl, (b.lO Sn), (K.trans M), (d.trans h), (ST.kz b (mh.mem Sn)), a0, rfl, rfl, J⟩
theorem HU (d1 : Value) (a0 : List Formula) (r : (Formula × Int)) (w : World) {μ0 : jx} (h0 : nf μ0 [] w) (c7 : Sl iZ 5 μ0 d1 a0) (hm : tz a0 = some r) :
  lj false pg0 194 [d1] w μ0 [] (fun v L1 μ1 => ∃ y1, v = (.tuple #[(.agg #[(.int .i64 ((r.1).Op)), (.int .i64 ((r.1).K)), (.string (((r.1).iX).ja)), (.string (((r.1).iX).Word)), y1]), (.int .i64 (r.2))]) ∧ L1 = [] ∧ Sl iZ 5 μ1 y1 ((r.1).Kids)) := by
 let e5 := (a0.drop (Int.toNat 1))
 refine ud h0 36 func194 rfl (fun b => sg (VE (kq b bL (fun W2 s b => Wa (lr (Wm (bS hm fun x6 e3 hm => VQ (mW (i := 0) (x0 := x6) iZ.out aG aD rfl rfl c7 (jG e3) (jD e3)) (fun p3 ⟨_, ⟨v8, rfl, f2⟩, f1⟩ => V (jd rfl (jJ b.has f1 aZ aD)) (bS hm fun j e6 hm => ?_)))))))))
 refine VE (eD b (bX _) call114 (fun hh => (zI x6 v8 _ _ hh (f2.mono jj.mono (jC.refl _)) e6)) ?_ (L0 := []))
 rintro _ i4 a9 i0 b a4 m ⟨i5, b6, rfl, d0⟩
 obtain rfl := b6.symm
 refine Wm (Wx rfl (Wx rfl (VE (kq b bL (fun i2 A b => ?_)))))
 obtain ⟨c2, c5, rfl⟩ := d0.form
 let d2 : Value := (.slice c2 ((j.1).Kids).length c5)
 refine VO (jz (.agg #[(.int .i64 ((j.1).Op)), (.int .i64 ((j.1).K)), (.string (((j.1).iX).ja)), (.string (((j.1).iX).Word)), d2]) (#[(.int .i64 ((j.1).Op)), (.int .i64 ((j.1).K)), (.string (((j.1).iX).ja)), (.string (((j.1).iX).Word)), d2]) b rfl rfl aD oc nb rfl (fun i3 b => Wa (lS (Wm (bS hm fun _ c8 hm => VQ (Di (i := 1) aG aD rfl rfl (c7.mono jj.mono a4) (tR c8) (tO c8)) (fun f3 R => V (lT aG rfl R.1) (Wm (ln (CJ hm (fun u E W => ∃ p U c3, jC a9 U ∧ Lo (keys []) w a9 U ∧ ST false (keys []) w W U ((A, Ob #[(.int .i64 u.2.1), (.int .i64 u.2.2.1), (.string u.2.2.2.1.ja), (.string u.2.2.2.1.Word), p] 30) :: ((s, Ol C4 30) :: c3)) ∧ E 2 = (.pointer (some ⟨s, 0, none⟩)) ∧ E 4 = (.pointer (some ⟨A, 0, none⟩)) ∧ E 5 = (.int .i64 u.1) ∧ Sl iZ 5 U p u.2.2.2.2) (fun u d7 => ?_) ?_)))))))))
 ·refine lu (fun i E W => ∃ q G H y x N z O, (E 18 = .int .i64 (i : Nat) ∧ E 17 = .int .i64 (e5.length : Nat)) ∧ jC a9 z ∧ Lo (keys []) w a9 z ∧ ST false (keys []) w W z ((A, Ob #[(.int .i64 G), (.int .i64 H), (.string y.ja), (.string y.Word), x] 30) :: ((s, Ol C4 30) :: O)) ∧ E 2 = (.pointer (some ⟨s, 0, none⟩)) ∧ E 4 = (.pointer (some ⟨A, 0, none⟩)) ∧ E 5 = (.int .i64 q) ∧ E 16 = f3 ∧ Sl iZ 5 z x N ∧ qN (e5.drop i) q G H y N = some u) e5.length R.1.len ⟨j.2, ((j.1).Op), ((j.1).K), ((j.1).iX), d2, ((j.1).Kids), a9, _, ⟨rfl, rfl⟩, (jC.refl _), Lo.refl, (b.jc St), rfl, rfl, rfl, rfl, d0, d7⟩ dc dc dc (fun _ _ _ h => by obtain ⟨_, _, _, _, _, _, _, _, aa, _⟩ := h; exact aa) ?_ ?_
  ·rintro e7 E W d6 ⟨q, G, H, y, x, N, z, O, ⟨eI, eN⟩, t, d, b, a2, D, a3, P, I, c⟩
   obtain ⟨a, f6, e1, e0, e2⟩ := kL d6
   rw [e1] at c
   refine bg (VQ (mW (i := (e7 : Int)) (x0 := a) iZ.out aG aD P eI (R.1.mono jj.mono t) (aV _) e0) (fun h1 ⟨_, ⟨h4, rfl, c0⟩, d8⟩ => V (jd rfl (jJ b.has d8 aZ aD)) (VE (kq b bL (fun g2 g8 b => ?_)))))
   obtain ⟨Y, Z, rfl⟩ := c0.form
   let b8 := (C1 a.Op a.K a.iX.ja a.iX.Word Y a.Kids.length Z)
   refine VO (jz (.agg b8.toArray) (b8.toArray) b rfl rfl aD oc nb rfl (fun g3 b => lS (Wh a3 (Wi rfl (ln (CI c rfl (fun d5 c => ?_) (fun d5 c => ?_)))))))
   ·refine mU (mA (Ot (by simp) (mA (qX (jo ?_)))))
    obtain rfl := sj c
    exact ⟨x, z, _, t, d, (b.jc (Db St)), a2, D, a3, I⟩
   refine kn (jq (V (jd D (jl b.has (Mt Mh) [(.int .i64 G), (.int .i64 H), (.string y.ja), (.string y.Word), x] rfl aZ aD)) (VA b Mh b8 aZ aD (bS c fun g d9 c => ?_))))
   refine VE (eD b (bX _) call258 (fun hh => (F8 (⟨G, H, y, N⟩ : Formula) x a (.slice Y a.Kids.length Z) _ _ hh (I.mono jj.mono (jC.refl _)) (c0.mono jj.mono (jC.refl _)) d9)) ?_ (L0 := []))
   rintro _ h5 f0 f9 b c9 n ⟨h8, a5, rfl, c1⟩
   obtain rfl := a5.symm
   refine Wm (Wx rfl (Wx rfl ?_))
   obtain ⟨b0, b3, rfl⟩ := c1.form
   let d3 : Value := (.slice b0 ((g.1).Kids).length b3)
   replace b := b.perm (Nb (Pb Pz) Nz)
   refine VO (jz (.agg #[(.int .i64 ((g.1).Op)), (.int .i64 ((g.1).K)), (.string (((g.1).iX).ja)), (.string (((g.1).iX).Word)), d3]) (#[(.int .i64 ((g.1).Op)), (.int .i64 ((g.1).K)), (.string (((g.1).iX).ja)), (.string (((g.1).iX).Word)), d3]) b D rfl aD oc nb rfl (fun g7 b => Wa (jH (jQ (jo ?_)))))
   replace b := b.jc (Kb (Db St))
   exact ⟨eI, g.2, ((g.1).Op), ((g.1).K), ((g.1).iX), d3, ((g.1).Kids), f0, _, ⟨rfl, eN⟩, (t.trans c9), (d.trans n), (b.jc St), a2, D, rfl, P, c1, (by rw [e2]; exact c)⟩
  rintro E W ⟨q, G, H, y, x, N, z, O, ⟨eI, eN⟩, t, d, b, a2, D, a3, P, I, c⟩
  rw [bE] at c
  refine jo ?_
  obtain rfl := sj c
  exact ⟨x, z, _, t, d, (b.jc St), a2, D, a3, I⟩
 rintro ⟨e8, Q, T, k, M⟩ E W ⟨p, U, c3, a8, l, b, o, e4, c6, b9⟩ B
 refine jt (sg (Wh c6 (Wi rfl (ln (CI B rfl (fun d4 B => ?_) (fun d4 B => ?_))))))
 ·refine sg (V (lY (v := (.agg C4.toArray)) sF (li bL cC (yJ _ cC) kr)) (Wh c6 ?_))
  replace b := b.perm (Nb (Pb Pz) Nz)
  refine VO (jz (.agg C4.toArray) (C4.toArray) b o rfl aD oc nb rfl (fun g0 b => Wa (ln ?_)))
  replace b := b.jc (Kb (Db St))
  refine kl (lc ?_)
  obtain rfl := sj B
  exact tq (v0 := (.agg C4.toArray)) (v1 := (.int .i64 e8)) rfl o (jl b.has Mh C4 rfl aZ aD) rfl ⟨_, _, _, rfl, (b.lO Sn), (a4.trans a8), (m.trans l), (ST.kz b (mh.mem Sn)), (.slice none 0 0), rfl, rfl, (Sl.nil _ _ _)⟩
 refine kg (V (jd e4 (jl b.has Mh [(.int .i64 Q), (.int .i64 T), (.string k.ja), (.string k.Word), p] rfl aZ aD)) ?_)
 obtain ⟨J, K, rfl⟩ := b9.form
 let L := (C1 Q T k.ja k.Word J M.length K)
 replace b := b.perm (Nb (Pb Pz) Nz)
 refine VO (jz (.agg L.toArray) (L.toArray) b o rfl aD oc nb rfl (fun g1 b => Wa (ln ?_)))
 replace b := b.jc (Kb (Db St))
 refine kl ?_
 obtain rfl := sj B
 exact tq (v0 := (.agg L.toArray)) (v1 := (.int .i64 0)) rfl o (jl b.has Mh L rfl aZ aD) rfl ⟨_, _, _, rfl, (b.lO Sn), (a4.trans a8), (m.trans l), (ST.kz b (mh.mem Sn)), (.slice J M.length K), rfl, rfl, b9⟩
theorem I2 (k : jL) (G H : Value) (o : iY) (r : (Formula × Int)) (w : World) {μ0 : jx} (h0 : nf μ0 [] w) (t : Sl ku 15 μ0 G k.jv) (y : Sl lx 8 μ0 H k.ke) (hm : yi k o = some r) :
  lj false pg0 124 [(.agg #[(.string k.Name), G, H]), (.agg (jb o).toArray)] w μ0 [] (fun v L1 μ1 => ∃ y1, v = (.tuple #[(.agg #[(.int .i64 ((r.1).Op)), (.int .i64 ((r.1).K)), (.string (((r.1).iX).ja)), (.string (((r.1).iX).Word)), y1]), (.int .i64 (r.2))]) ∧ L1 = [] ∧ Sl iZ 5 μ1 y1 ((r.1).Kids)) := by
 refine ud h0 41 func124 rfl (fun b => sg ?_)
 obtain ⟨A1, c2, rfl⟩ := t.form
 obtain ⟨A3, P, rfl⟩ := y.form
 let f5 := (C3 k.Name A1 k.jv.length c2 A3 k.ke.length P)
 refine VE (jZ b rfl (fun W6 b5 b => VE (jZ b rfl (fun W8 b7 b => VE (kq b bL (fun i4 b9 b => Wa (lr (VA b (Mt (Mt Mh)) f5 ed dF (VA b (Mt Mh) (jb o) cJ bn (bS hm fun a e7 hm => ?_))))))))))
 let b8 : Value := (.int .i64 (((a.1).ji).K))
 let p : Value := (.int .i64 (((a.1).ji).Op))
 let b1 := (((a.1).ji).iX)
 let q : Value := (.string (b1.Word))
 let d8 : Value := (.string (b1.ja))
 let a0 := (((a.1).Signed).iY)
 refine VE (eD b (bX _) call192 (fun s => (Hq k (.slice A1 k.jv.length c2) (.slice A3 k.ke.length P) o _ _ s (t.mono lK.mono (jC.refl _)) (y.mono nw.mono (jC.refl _)) e7)) ?_ (L0 := []))
 rintro _ j4 j8 i2 b I d ⟨j6, j7, a5, rfl, e9, c5⟩
 obtain rfl := a5.symm
 refine Wm (Wx rfl (Wx rfl (VE (kq b gx (fun i6 j3 b => ?_)))))
 obtain ⟨d9, e1, rfl⟩ := e9.form
 let f8 : Value := (.slice d9 (((a.1).Signed).Tag).length e1)
 obtain ⟨z, D, rfl⟩ := c5.form
 let a2 : Value := (.slice z (((a.1).ji).Kids).length D)
 refine VO (jz (.agg #[(.int .i64 (a0.Kind)), (.string ((a0.Head).ja)), (.string ((a0.Head).Word)), (.string (a0.jM)), (.string ((a0.B).ja)), (.string ((a0.B).Word)), (.string ((a0.C).ja)), (.string ((a0.C).Word)), (.string (a0.ki)), f8, p, b8, d8, q, a2]) (#[(.int .i64 (a0.Kind)), (.string ((a0.Head).ja)), (.string ((a0.Head).Word)), (.string (a0.jM)), (.string ((a0.B).ja)), (.string ((a0.B).Word)), (.string ((a0.C).ja)), (.string ((a0.C).Word)), (.string (a0.ki)), f8, p, b8, d8, q, a2]) b rfl rfl ef oc nb rfl (fun i7 b => Wa (lS (Wm (V (px rfl) (ln (CI hm rfl (fun e6 hm => ?_) (fun e6 hm => ?_))))))))
 ·refine sg (V (lY (v := (.agg C4.toArray)) sF (li bL cC (yJ _ cC) kr)) ?_)
  replace b := b.perm (Nb (Pb Pz) Nz)
  refine VO (jz (.agg C4.toArray) (C4.toArray) b rfl rfl aD oc nb rfl (fun i8 b => Wa (ln ?_)))
  replace b := b.jc (Kb (Db (Db (Db St))))
  refine kl (lc ?_)
  obtain rfl := sj hm
  exact tq (v0 := (.agg C4.toArray)) (v1 := (.int .i64 42)) rfl rfl (jl b.has Mh C4 rfl aZ aD) rfl ⟨_, _, _, rfl, (b.lO Sn), I, d, (ST.kz b (mh.mem Sn)), (.slice none 0 0), rfl, rfl, (Sl.nil _ _ _)⟩
 refine kg (Wf NJ (VA b Mh [p, b8, d8, q, a2] aZ aD (VE (km (cs := #[p, b8, d8, q, a2]) b (mH rfl) (nI aG aD bL) (fun i9 e0 b => Wa (ln ?_))))))
 replace b := b.jc (Kb (Db St))
 refine jt (sg (VA b (Mt (Mt (Mt Mh))) f5 ed dF (VA b (Mt (Mt Mh)) (jb o) cJ bn (bS hm fun R e8 hm => ?_))))
 refine VE (eD b (bX _) call193 (fun s => (F9 k (.slice A1 k.jv.length c2) (.slice A3 k.ke.length P) o _ _ s (t.mono lK.mono I) (y.mono nw.mono I) e8)) ?_ (L0 := []))
 rintro _ j5 e2 i3 b a8 A ⟨f6, a6, rfl, O⟩
 obtain rfl := a6.symm
 refine V (lT dD rfl O) (Wm (ln ?_))
 replace b := b.jc (Kb (Kb (Db (Db St))))
 replace b := b.NE
 refine lu (fun i E W => ∃ Q N K Z, (E 27 = .int .i64 (i : Nat) ∧ E 26 = .int .i64 (R.length : Nat)) ∧ ST false (keys []) w W e2 ((b9, Ol C4 30) :: (K ++ Z)) ∧ E 4 = (.pointer (some ⟨b9, 0, none⟩)) ∧ E 8 = Q ∧ E 25 = f6 ∧ kd 30 iZ 5 e2 Q N K ∧ rC (R.drop i) N = some r) R.length O.len ⟨(.slice (some ⟨e0, 0, none⟩) 1 1), ([(a.1).ji]), [(e0, Ob #[p, b8, d8, q, a2] 30)], _, ⟨rfl, rfl⟩, (b.jc (Sb (Pr Pz) St)), rfl, rfl, rfl, (kd.lit jj (l := [(a.1).ji]) (.cons (ys := [p, b8, d8, q, a2]) (iZ.mk ⟨a2, rfl, (c5.mono jj.mono a8)⟩) .nil) rfl nb rfl), hm⟩ dc dc dc (fun _ _ _ h => by obtain ⟨_, _, _, _, aa, _⟩ := h; exact aa) ?_ ?_
 ·rintro f0 E W d0 ⟨Q, N, K, Z, ⟨eI, eN⟩, b, T, a3, a4, U, j⟩
  obtain ⟨c, f7, d6, d5, d7⟩ := kL d0
  rw [d6] at j
  refine bg (VQ (mW (i := (f0 : Int)) (x0 := c) lx.out dD dO a4 eI O (aV _) d5) (fun h2 ⟨_, ⟨h5, h6, rfl, a9, d3⟩, d1⟩ => V (jd rfl (jJ b.has d1 iR dO)) (VE (kq b gI (fun g0 g8 b => ?_)))))
  obtain ⟨u, x, rfl⟩ := a9.form
  let c7 := (C1 c.ji.Op c.ji.K c.ji.iX.ja c.ji.iX.Word u c.ji.Kids.length x)
  obtain ⟨b2, b6, rfl⟩ := d3.form
  let c0 := (C6 c.iX.ja c.iX.Word c.ji.Op c.ji.K c.ji.iX.ja c.ji.iX.Word u c.ji.Kids.length x b2 c.mn.length b6)
  refine VO (jz (.agg c0.toArray) (c0.toArray) b rfl rfl dO oc nb rfl (fun g1 b => ln (jq (Wh a3 (Wf MA (VA b Mh c7 aZ aD (VE (km (cs := c7.toArray) b (mH rfl) (nI aG aD bL) (fun g2 g9 b => ?_)))))))))
  replace b := b.perm (Nr (Qb (Qb (Qb Qz))) Nz)
  refine bS j fun f1 c9 j => VE (tZ (B := K) jj b dc aG nD.1 nD.2.1 rfl nD.2.2.1 nD.2.2.2 rfl rfl U (zp.lit jj (l := [c.ji]) (.cons (ys := C1 c.ji.Op c.ji.K c.ji.iX.ja c.ji.iX.Word u c.ji.Kids.length x) (iZ.mk ⟨(.slice u c.ji.Kids.length x), rfl, a9⟩) .nil) rfl nb (b.at_ (Ma Mh))) c9 (fun g3 f2 e3 b c8 => Wa (jH (jQ (jo ?_)))))
  replace b := b.jc (Kr (Db (Db St)))
  exact ⟨eI, f2, f1, e3, _, ⟨rfl, eN⟩, (b.jc (Sb (Pr Pz) St)), T, rfl, a4, c8, (by rw [d7]; exact j)⟩
 rintro E W ⟨Q, N, K, Z, ⟨eI, eN⟩, b, T, a3, a4, U, j⟩
 rw [bE] at j
 refine jo (sg (Wh a3 ?_))
 replace b := b.perm (Nr (Qb Qz) Nz)
 obtain ⟨i0, b, c1, m, d4⟩ := ST.wB jj b U
 refine bS j fun g d2 j => ?_
 let g4 : Value := (.int .i64 ((g.1).Op))
 let f4 : Value := (.string (((g.1).iX).Word))
 let f3 : Value := (.string (((g.1).iX).ja))
 refine VE (eD b (bX _) call194 (fun s => (HU Q N _ _ s (d4.mono jj.mono (jC.refl _)) d2)) ?_ (L0 := []))
 rintro _ h7 i1 f9 b c3 n ⟨h8, Y, rfl, b0⟩
 obtain rfl := Y.symm
 refine Wx rfl (Wx rfl ?_)
 obtain ⟨J, M, rfl⟩ := b0.form
 let L : Value := (.slice J ((g.1).Kids).length M)
 let b4 : Value := (.agg #[g4, (.int .i64 ((g.1).K)), f3, f4, L])
 refine VO (jz b4 (#[g4, (.int .i64 ((g.1).K)), f3, f4, L]) b T rfl aD oc nb rfl (fun g7 b => Wa (lt ?_)))
 obtain rfl := sj j
 exact tq (v0 := b4) (v1 := (.int .i64 g.2)) rfl T (jl b.has Mh [g4, (.int .i64 ((g.1).K)), f3, f4, L] rfl aZ aD) rfl ⟨_, _, _, rfl, (b.lO Sn), (((I.trans a8).trans c1).trans c3), (((d.trans A).trans m).trans n), (ST.kz b (mh.mem Sn)), L, rfl, rfl, b0⟩
theorem Bd (Q : Formula → (iX → Option Bool) → Option Bool) (a5 : ∀ (g : Formula) (k : Value) (t : Value) (J : iX → Option Bool) (r : Bool) (w : World) (c : Sl iZ 5 (hp w) k g.Kids) (K : wL pg0 t (hp w) (fun (x : iX) => [(.agg (jf x).toArray)]) (fun (r : Bool) => (.bool r)) J), Q g J = some r → jO false pg0 130 [(.agg #[(.int .i64 g.Op), (.int .i64 g.K), (.string g.iX.ja), (.string g.iX.Word), k]), t] w (.bool r)) (g : Formula) (k t : Value) (J : iX → Option Bool) (r : Bool) (w : World) (c : Sl iZ 5 (hp w) k g.Kids) (K : wL pg0 t (hp w) (fun (x : iX) => [(.agg (jf x).toArray)]) (fun (r : Bool) => (.bool r)) J) (hm : sX Q g J = some r) :
  jO false pg0 130 [(.agg #[(.int .i64 g.Op), (.int .i64 g.K), (.string g.iX.ja), (.string g.iX.Word), k]), t] w (.bool r) := by
 refine cG 45 func130 rfl (fun b => sg ?_)
 obtain ⟨A1, c2, rfl⟩ := c.form
 refine VE (jZ b rfl (fun W4 n b => Wa (lS (Wf rb (VB b Mh rfl rfl cO (Wi rfl (ln (CI hm rfl (fun a9 hm => ?_) (fun a9 hm => ?_)))))))))
 ·refine sg (Wm (Wf yQ (VA b Mh (jf g.iX) bT bB (bS hm fun r6 s hm => VE (LF g.iX b K (jC.refl _) rfl (uw rfl) s (fun W8 b => Wa (ln ?_)))))))
  replace b := b.jc (Db St)
  refine kl (lc ?_)
  obtain rfl := sj hm
  exact rP b
 refine kg (Wa (lS (Wf qS (VB b Mh rfl rfl fc (V (lT aG rfl c) (Wm (jH ?_)))))))
 refine jo (lu (fun i E W => ∃ z I, (E 18 = .int .i64 (i : Nat) ∧ E 17 = .int .i64 (g.Kids.length : Nat)) ∧ ST false lG w W (hp w) ((n, Ol (C1 g.Op g.K g.iX.ja g.iX.Word A1 g.Kids.length c2) 30) :: I) ∧ E 1 = t ∧ E 2 = (.pointer (some ⟨n, 0, none⟩)) ∧ E 5 = (.int .i64 z) ∧ E 16 = (.slice A1 g.Kids.length c2) ∧ nP Q J g (g.Kids.drop i) z = some r) g.Kids.length c.len ⟨0, _, ⟨rfl, rfl⟩, (b.jc St), rfl, rfl, rfl, rfl, hm⟩ dc dc dc (fun _ _ _ h => by obtain ⟨_, _, l, _⟩ := h; exact l) ?_ ?_)
 ·rintro v E W a4 ⟨z, I, ⟨d, m⟩, b, G, u, y, H, a⟩
  obtain ⟨j, c1, q, p, N⟩ := kL a4
  rw [q] at a
  refine bg (VQ (mW (i := (v : Int)) (x0 := j) iZ.out aG aD H d c (aV _) p) (fun R ⟨_, ⟨c0, rfl, M⟩, Z⟩ => V (jd rfl (jJ b.has Z aZ aD)) (VE (kq b bL (fun A P b => ?_)))))
  obtain ⟨B, D, rfl⟩ := M.form
  let a0 := (C1 j.Op j.K j.iX.ja j.iX.Word B j.Kids.length D)
  refine VO (jz (.agg a0.toArray) (a0.toArray) b rfl rfl aD oc nb rfl (fun L b => lr (VA b Mh a0 aZ aD (Wh G (bS a fun b9 o a => VE (Eg b call130 (a5 j (.slice B j.Kids.length D) t J _ _ (M.mono jj.mono b.jk) (K.mono b.jk) o) (fun O b => ln ?_)))))))
  replace b := b.jc (Db St)
  refine CI a rfl (fun T a => ?_) (fun T a => ?_)
  ·exact jq (Wh y (Wi rfl (Wa (jH (jQ (jo ⟨d, (wi0 .i64 (z + 1)), _, ⟨rfl, m⟩, (b.jc St), G, u, rfl, H, (by rw [N]; exact a)⟩))))))
  exact kX (jQ (jo ⟨d, z, _, ⟨rfl, m⟩, (b.jc St), G, u, y, H, (by rw [N]; exact a)⟩))
 rintro E W ⟨z, I, ⟨d, m⟩, b, G, u, y, H, a⟩
 rw [bE] at a
 refine jo (jt (sg (V (jm rb u) (VB b Mh rfl rfl cO (ln (bg (Wi rfl (Wa (ln ?_)))))))))
 refine CI a rfl (fun U a => ?_) (fun U a => ?_)
 ·refine sg (Wh y (V (jm qS u) (VB b Mh rfl rfl fc (V (lT aG rfl c) (Wi rfl (Wa (ln ?_)))))))
  replace b := b.jc (Db St)
  refine kl (og (lc ?_))
  obtain rfl := sj a
  exact rP b
 refine sg (Wi rfl (Wa (ln (CI a rfl (fun Y a => ?_) (fun Y a => ?_)))))
 ·refine sg (Wh y (Wi rfl (Wa (ln ?_))))
  replace b := b.jc (Db St)
  refine kl (og (lc ?_))
  obtain rfl := sj a
  exact rP b
 refine kX (jQ (jo (sg (Wh y (V (jm vS u) (VB b Mh rfl rfl cO (Wi rfl (Wa (ln ?_)))))))))
 exact kl (rQ a b)
theorem zx : ∀ (n : Nat) (c : Formula) (a : Value) (g : Value) (j : iX → Option Bool) (r : Bool) (w : World) (i : Sl iZ 5 (hp w) a c.Kids) (k : wL pg0 g (hp w) (fun (x : iX) => [(.agg (jf x).toArray)]) (fun (r : Bool) => (.bool r)) j) (_ : om n c j = some r),
  jO false pg0 130 [(.agg #[(.int .i64 c.Op), (.int .i64 c.K), (.string c.iX.ja), (.string c.iX.Word), a]), g] w (.bool r)
 | 0 => by intros; rename_i h; simp only [om] at h; cases h
 | n + 1 => Bd (om n) (zx n)
theorem Av (a : Formula) (j k : Value) (G : iX → Option Bool) (r : Bool) (w : World) (c : Sl iZ 5 (hp w) j a.Kids) (z : wL pg0 k (hp w) (fun (x : iX) => [(.agg (jf x).toArray)]) (fun (r : Bool) => (.bool r)) G) (hm : so a G = some r) :
  jO false pg0 54 [(.agg #[(.int .i64 a.Op), (.int .i64 a.K), (.string a.iX.ja), (.string a.iX.Word), j]), k] w (.bool r) := by
 refine cG 16 func54 rfl (fun b => sg ?_)
 obtain ⟨u, y, rfl⟩ := c.form
 let a0 := (C1 a.Op a.K a.iX.ja a.iX.Word u a.Kids.length y)
 refine VE (jZ b rfl (fun U Z b => Wa (lr (Wm (V (Ky underlying101 z.form rfl rfl) (Wm (Vg rfl rfl (jd rfl (jl b.has Mh a0 rfl aZ aD)) (bS hm fun d K hm => Kh rfl rfl (Eg b call129 (tH a (.slice u a.Kids.length y) _ _ (c.mono jj.mono b.jk) K) (fun Y b => V (jW rfl rfl) (Wm (LJ hm (fun D E W => ∃ B, ST false lG w W (hp w) B ∧ E 4 = (.bool false) ∧ E 15 = (.bool D)) 4 ?_ (fun D g t => ?_)))))))))))))
 ·rintro T E W ⟨B, b, N, J⟩ H
  exact Wg J (lt (rQ H b))
 refine bC g (fun i g => ?_) (fun i g => ?_)
 ·refine ug i (jd rfl (jl b.has Mh a0 rfl aZ aD)) (ug i (jh rfl) (bS g fun Q I g => uG i (Eg b call130 ((zx jB) a (.slice u a.Kids.length y) k G _ _ (c.mono jj.mono b.jk) (z.mono b.jk) I) (fun M b => V (jW (cB i) rfl) ?_))))
  obtain rfl := sj g
  exact t _ _ ⟨_, (b.jc (Db St)), rfl, rfl⟩
 refine un i (un i (un i (V (jY (cB i) rfl) ?_)))
 obtain rfl := sj g
 exact t _ _ ⟨_, (b.jc (Db St)), rfl, rfl⟩
theorem yG (K : Nat) (a : Value) (G : List (iX × (List (ByteArray × Bool)))) (c : Value) (t : List iY) (j : Value) (D : List (iX × (List iY))) (g : Value) (u : List (ByteArray × (List iY))) (i : Value) (B : List jg) (J : Int) (I : iX) (a2 : ByteArray) (r : Bool) (w : World) (H : oV (fun (x : iX) => (.agg (jf x).toArray)) (kD Value.string (fun (x : Bool) => (Value.bool x))) (hp w) a G) (T : Sl (Pl jb) 9 (hp w) c t) (Z : oV (fun (x : iX) => (.agg (jf x).toArray)) (jw 52 jb 9) (hp w) j D) (U : oV Value.string (jw 52 jb 9) (hp w) g u) (Y : Sl (Pl kF) 3 (hp w) i B) (Q : At (hp w) (.pointer (some ⟨K, 0, none⟩)) [a, c, j, g, i, (.int .i64 J)]) (hm : ri G t D u B J I a2 = some r) :
  jO true pg0 128 [(.pointer (some ⟨K, 0, none⟩)), (.agg (jf I).toArray), (.string a2)] w (.bool r) := by
 refine cG 19 func128 rfl (fun l => sg (VE (jZ l rfl (fun W2 q l => Wa (ln (jt ?_))))))
 replace l := l.drew
 have d := l.has.jc (Kb Sn)
 refine kC d jK (X 0 rfl d (jh rfl) (X 1 rfl d (Bg underlying183 rfl rfl) (X 2 rfl d (jh rfl) (Xg 3 rfl rfl rfl d (jh rfl) (Xg 4 rfl rfl rfl d (lR rfl) (sD 5 rfl kr (.inr ⟨2, true, 9, rfl, rfl, by decide, rfl⟩) rfl dc (fun _ _ h => h) d (vO [a] uo rfl Q rfl) (fun p a3 => xY 6 rfl rfl rfl d (fun _ m => jd rfl (oL m (y := a) a3 gw)) (xY 7 rfl rfl rfl d (fun _ m => jd rfl (jl m Mh (jf I) rfl bT bB)) ?_))))))))
 obtain ⟨a4, a5, M, N⟩ := H
 refine xY 8 rfl rfl rfl d (fun _ m => nN (k := I) (z := (.map none)) xR et eP rfl rfl M (fun b o n => m.1 b o (N b o n))) (Xg 9 rfl rfl rfl d (jh rfl) (xY 10 rfl rfl rfl d (fun _ m => xy (k := a2) (z := false) (vf := (fun (x : Bool) => (Value.bool x))) DW eU iH rfl rfl ((lN.AU js.1 M I N).mono (fun b o n => m.1 b o n))) (X 11 rfl d (jW rfl rfl) (X 12 rfl d (oa rfl) (kJ kr (jo ?_))))))
 exact kl (rQ hm l)
theorem D4 (N : iX) (Q D : Nat) (t : Value) (B : List (iX × (List (ByteArray × Bool)))) (a : Value) (j : List iY) (i : Value) (z : List (iX × (List iY))) (c : Value) (k : List (ByteArray × (List iY))) (g : Value) (u : List jg) (I : Int) (T : Nat) (Y : ByteArray) (r : Bool) (w : World) (M : oV (fun (x : iX) => (.agg (jf x).toArray)) (kD Value.string (fun (x : Bool) => (Value.bool x))) (hp w) t B) (G : Sl (Pl jb) 9 (hp w) a j) (K : oV (fun (x : iX) => (.agg (jf x).toArray)) (jw 52 jb 9) (hp w) i z) (H : oV Value.string (jw 52 jb 9) (hp w) c k) (J : Sl (Pl kF) 3 (hp w) g u) (U : At (hp w) (.pointer (some ⟨D, 0, none⟩)) [t, a, i, c, g, (.int .i64 I)]) (Z : At (hp w) (.pointer (some ⟨Q, 0, none⟩)) [(.pointer (some ⟨D, 0, none⟩))]) (d : At (hp w) (.pointer (some ⟨T, 0, none⟩)) [(.string Y)]) (hm : oq N B j z k u I Y = some r) :
  jO true pg0 191 [(.agg (jf N).toArray), (.pointer (some ⟨Q, 0, none⟩)), (.pointer (some ⟨T, 0, none⟩))] w (.bool r) := by
 refine cG 9 func191 rfl (fun b => sg (VE (jZ b rfl (fun W2 h b => Wa (lr (V (jd rfl (oL b.has (y := (.pointer (some ⟨D, 0, none⟩))) Z isAgg183)) (VA b Mh (jf N) bT bB (V (jd rfl (oL b.has (y := (.string Y)) d cY)) (bS hm fun l a2 hm => VE (Eg b call128 (yG D t B a j i z c k g u I N Y _ _ (M.mono b.jk) (G.mono (Pl.mono _) b.jk) (K.mono b.jk) (H.mono b.jk) (J.mono (Pl.mono _) b.jk) (U.mono b.jk) a2) (fun W5 b => Wa ?_)))))))))))
 refine ln ?_
 exact kl (rQ hm b)
theorem BD (g : Value) (i r : List iY) (w : World) (a : Sl (Pl jb) 9 (hp w) g i) (hm : pG i = some r) :
  lJ true pg0 196 [g] w 52 jb 9 r := by
 unfold pG at hm
 refine uU 8 func196 rfl (fun b => sg (Wa (lS (Wm ?_))))
 obtain ⟨y, B, rfl⟩ := a.form
 refine V (zl bo rfl rfl) (ln ?_)
 rcases y with _ | z
 ·have u := a.isNil
  replace hm : some [] = some r := by rw [u] at hm; simpa [kN, maxLen] using hm
  refine uk (rfl) (sg (Wa (lt (lc ?_))))
  obtain rfl := sj hm
  exact kv (v := (.slice none 0 0)) rfl rfl ⟨_, [], rfl, b.nj (fun p d => by cases d) (by simp), jw.nil _ _ _⟩
 ·refine pb (rfl) (kg (VE (km (cs := #[]) b sF (AK [] bo bn dN dc rfl (by simp) rfl rfl) (fun G k b => Wm (bS hm fun H t hm => VE (nL (enc := jb) (v := (.slice (some ⟨k, 0, none⟩) 0 0)) (vs := (.slice (some z) i.length B)) (R := [(k, Ob #[] 52)]) b kA dc py bo nH.1 nH.2.1 rfl nH.2.2.1 nH.2.2.2 rfl rfl (jw.lit (l := []) (enc := jb) rfl dc rfl rfl) (a.mono (Pl.mono _) b.jk) t (fun D x j b c => Wa (lt ?_))))))))
  obtain rfl := sj hm
  exact kv (v := x) rfl rfl ⟨_, j, rfl, b.nj (fun p d => (Ml d)) c.nd, c⟩
theorem uI (g : Value) (t : List iY) (j : Value) (B : iY → Option Bool) (r : Int) (w : World) (c : Sl (Pl jb) 9 (hp w) g t) (D : wL pg0 j (hp w) (fun (x : iY) => [(.agg (jb x).toArray)]) (fun (r : Bool) => (.bool r)) B) (hm : nW t B = some r) :
  jO false pg0 180 [g, j] w (.int .i64 r) := by
 refine cG 19 func180 rfl (fun b => sg (Wa (lS (Wm (V (lT bo rfl c) (Wm (ln (lu (fun i E W => ∃ k, (E 8 = .int .i64 (i : Nat) ∧ E 7 = .int .i64 (t.length : Nat)) ∧ ST false lG w W (hp w) k ∧ E 0 = g ∧ E 1 = j ∧ nt B (t.drop i) i = some r) t.length c.len ⟨_, ⟨rfl, rfl⟩, (b.jc St), rfl, rfl, hm⟩ dc dc dc (fun _ _ _ h => by obtain ⟨_, l, _⟩ := h; exact l) ?_ ?_))))))))
 ·rintro Q E W H ⟨k, ⟨d, m⟩, b, u, y, a⟩
  obtain ⟨z, T, M, K, N⟩ := kL H
  rw [M] at a
  refine bg (Wh d (Wa (lr (Wh y (Wh u (Wm (VQ (pN (enc := jb) (i := (Q : Int)) (x0 := z) bo bn rfl rfl c (aV _) K) (fun Y I => V (jd rfl (jJ b.has I cJ bn)) (bS a fun Z J a => ?_)))))))))
  refine VE (LF z b D (jC.refl _) rfl (uw rfl) J (fun U b => ln (CI a rfl (fun G a => ?_) (fun G a => ?_))))
  ·refine sg (Wm (Wa (lt (og (lc (og (lc ?_)))))))
   obtain rfl := sj a
   exact rP b
  exact kX (jQ (jo ⟨d, _, ⟨rfl, m⟩, (b.jc St), u, y, (by rw [N]; exact a)⟩))
 rintro E W ⟨k, ⟨d, m⟩, b, u, y, a⟩
 rw [bE] at a
 exact jo (sg (Wa (lt (rQ a b))))
theorem yP (j : Value) (a0 : List iY) (t : LO) (H : Value) (f1 : iY → Option Bool) (r : List iY) (w : World) {μ0 : jx} (h0 : nf μ0 (t ++ []) w) (T : jw 52 jb 9 j a0 t) (a4 : wL pg0 H μ0 (fun (x : iY) => [(.agg (jb x).toArray)]) (fun (r : Bool) => (.bool r)) f1) (hm : pu a0 f1 = some r) :
  kw false pg0 195 [j, H] w (t ++ []) (fun v L1 W' => ∃ q S2, v = q ∧ L1 = (S2 ++ []) ∧ jw 52 jb 9 q r S2) := by
 refine xW h0 42 func195 rfl (fun d => sg (Wa (lr (Wm (Wm (bS hm fun n d3 hm => VE (Eg d call180 (uI j a0 H f1 _ _ (T.sl kA (fun b o h => d.at_ (Ml h))) (a4.mono d.jk) d3) (fun W3 d => Wa (ln ?_)))))))))
 refine jt (sg (Wm (Wi rfl (ln (CI hm rfl (fun d2 hm => ?_) (fun d2 hm => ?_))))))
 ·refine sg (Wm (Wa (lt (lc ?_))))
  obtain rfl := sj hm
  exact kv (v := j) rfl rfl ⟨_, _, rfl, (d.lO (Kr Sn)), j, t, rfl, rfl, T⟩
 refine kS (Wm (Wi rfl (Wa (ln (kW (nm (fun m E W => ∃ U I B D a2, ST false (keys (t ++ [])) w W μ0 (I ++ a2) ∧ E 0 = j ∧ E 1 = H ∧ E 5 = (.int .i64 B) ∧ E 6 = (.int .i64 D) ∧ jw 52 jb 9 j U I ∧ mz f1 m U B D = some r) jB ⟨a0, t, n, (wi0 .i64 (n + 1)), _, (d.jc St), rfl, rfl, rfl, rfl, T, hm⟩ ?_))))))
 rintro m E W ⟨U, I, B, D, a2, d, y, Q, G, K, g, a⟩
 cases m with
 | zero => rw [mz] at a; cases a
 | succ c8 =>
  refine jt (sg (Wh K (Wh y (V (ql bo rfl g) (Wi rfl (ln (CI a rfl (fun A a => ?_) (fun A a => ?_))))))))
  ·refine kn (jt (CJ a (fun Y E W => ∃ J a3, ST false (keys (t ++ [])) w W μ0 (J ++ a3) ∧ E 0 = j ∧ E 1 = H ∧ E 5 = (.int .i64 Y.2) ∧ E 6 = (.int .i64 D) ∧ jw 52 jb 9 j Y.1 J) (fun Y c => ?_) ?_))
   ·refine bg (Wh y (Wh K (bS c fun k M c => VQ (pX (i := D) (x0 := k) bo bn rfl rfl g (jG M) (jD M)) (fun e4 P => V (jd rfl (wQ d.has (fun p h => (Ml h)) g kA P (jD M) cJ bn)) (VE (kq d dN (fun d7 e2 d => VO (jz (.agg (jb k).toArray) ((jb k).toArray) d rfl rfl bn (py k) nb rfl (fun d8 d => lr (Wh Q ?_))))))))))
    refine VA d Mh (jb k) cJ bn (bS c fun e6 b5 c => VE (LF k d a4 (jC.refl _) rfl (uw rfl) b5 (fun d9 d => V (px rfl) (ln (CI c rfl (fun L c => ?_) (fun L c => ?_))))))
    ·refine sg (Wh y (Wh G (VA d Mh (jb k) cJ bn (bS c fun d0 N c => VQ (pX (i := B) (x0 := d0) bo bn rfl rfl g (jG N) (jD N)) (fun e5 R => ?_)))))
     replace d := d.perm (Nr (Qb Qz) Nz)
     refine VO (AN (u := (.agg (jb k).toArray)) (x1 := k)  d g kA py rfl rfl rfl R (jD N) bn (fun e0 c1 d s => ln ?_))
     replace d := d.jc (Kr (Db St))
     refine jq (Wh G (Wi rfl (Wa (jH (jQ (jo ?_))))))
     obtain rfl := sj c
     exact ⟨c1, _, (d.jc St), y, Q, rfl, K, s⟩
    refine kX (jQ (jo ?_))
    obtain rfl := sj c
    exact ⟨I, _, (d.jc (Db St)), y, Q, G, K, g⟩
   rintro ⟨c7, c9⟩ E W ⟨J, a3, d, c3, c4, c5, c6, b6⟩ O
   exact jq (Wh c6 (Wi rfl (Wa (ln ⟨c8, bM _, c7, J, c9, (wi0 .i64 (D + 1)), _, (d.jc St), c3, c4, c5, rfl, b6, O⟩))))
  refine mU (mA (mA (qX (jo (sg (Wh y (Wh G (bS a fun _ Z a => VQ (xn (i := B) bo bn rfl rfl g (tR Z) (tO Z)) (fun e7 b7 => VO (Af (z := K6)  d g kA py bo dN b7 rfl rfl (fun e1 c2 d a9 => lr (Wh y ?_))))))))))))
  refine Wh G (bS a fun _ l a => VQ (zu (i := B) bo bn rfl rfl a9 kA (tR l) (tO l)) (fun a5 b9 => Wa (lt ?_)))
  obtain rfl := sj a
  exact kv (v := a5) rfl rfl ⟨_, _, rfl, (d.lO (Kr Sn)), a5, c2, rfl, rfl, b9⟩
theorem F3 (a : iY) (r : Bool) (w : World) (hm : vg a = some r) :
  jO true pg0 197 [(.agg (jb a).toArray)] w (.bool r) := by
 refine cG 6 func197 rfl (fun b => sg (VE (jZ b rfl (fun g j b => Wa (lr (VA b Mh (jb a) cJ bn (bS hm fun k c hm => VE (Eg b call144 (wu a _ _  c) (fun i b => V (px rfl) (Wa (jH ?_)))))))))))
 refine jo ?_
 exact kl (rQ hm b)
theorem Jx (c : Value) (k : List iY) (a : LO) (g : Value) (t : (iY × iY) → Option Int) (r : List iY) (w : World) {y : jx} (u : nf y (a ++ []) w) (i : jw 52 jb 9 c k a) (j : GD pg0 g y (fun (x : (iY × iY)) => [(.agg (jb x.1).toArray), (.agg (jb x.2).toArray)]) (fun (r : Int) => (.int .i64 r)) t) (hm : xh t k = some r) :
  kw true pg0 198 [c, g] w (a ++ []) (fun v z W' => ∃ S, v = (.tuple #[]) ∧ z = (S ++ []) ∧ jw 52 jb 9 c r S) := HY (P := pg0) (ρ := Ke) OD 9 cJ bn jb kA py u.H u.S i j hm
theorem Cq (c : iY) (r : List Int) (w : World) (hm : tX c = some r) :
  lJ true pg0 152 [(.agg (jb c).toArray)] w 5 (jN .u8) 1 r := by
 refine uU 53 func152 rfl (fun d => sg (VE (jZ d rfl (fun W2 b1 d => Wa (lS (VA d Mh (jb c) cJ bn (bS hm fun r3 g3 hm => VE (Eg d call144 (wu c _ _  g3) (fun W5 d => V (px rfl) (jH ?_))))))))))
 refine jo (CI hm rfl (fun g0 hm => ?_) (fun g0 hm => ?_))
 ·refine sg (Wa (ln ?_))
  replace d := d.jc (Db St)
  refine kl (lc ?_)
  obtain rfl := sj hm
  exact kv (v := (.slice none 0 0)) rfl rfl ⟨_, [], rfl, d.nj (fun p m => by cases m) (by simp), jw.nil _ _ _⟩
 refine kg (V (lY (v := (.agg #[(.slice none 0 0)])) sF (li zeroValue215 fC (Mr _ fC) kr)) (VE (jZ d rfl (fun W8 g d => Wa (lr (Wm (Wf vY (VB d (Mt Mh) rfl rfl cO (bS hm fun r9 e2 hm => ?_)))))))))
 refine VE (eM d (Cb Pz (C0 Cn)) call170 (fun l _ => (pK g (.slice none 0 0) ([]) [] c.Kind _ _ l (jw.nil _ _ _) e2)) ?_)
 rintro _ k3 k5 j9 d g7 R h ⟨g4, f9, I, rfl, e4⟩
 obtain rfl := I.symm
 replace d := d.perm (Tb (Tr Tn))
 refine lr (Wm (Wf uV (VA d (Mt (Ma Mh)) (jf c.Head) bT bB (bS hm fun N e3 hm => ?_))))
 refine VE (eM d (Cb Pz (Cr Qz Cn)) call212 (fun l _ => (sG g g4 r9.2 f9 c.Head _ _ l e4 e3)) ?_)
 rintro _ k4 d1 k0 d g8 a6 h ⟨G, D, J, rfl, i⟩
 obtain rfl := J.symm
 replace d := d.perm (Tb (Tr Tn))
 refine ln (jt (CJ hm (fun a3 E W => ∃ B H K Q, jC d1 K ∧ ST true lG w W K ((g, Ob #[B] 215) :: (H ++ Q)) ∧ E 3 = (.pointer (some ⟨g, 0, none⟩)) ∧ jw 5 (jN .u8) 1 B a3 H) (fun a3 a => ?_) ?_))
 ·refine sg (Wf vY (VB d (Mt (Ma Mh)) rfl rfl cO (ln (bg (Wi rfl (Wa (ln (CI a rfl (fun b0 a => ?_) (fun b0 a => ?_)))))))))
  ·refine jq (Wm (Wf BF (VB d (Mt (Ma Mh)) rfl rfl cY (bS a fun i3 b6 a => ?_))))
   refine VE (eM d (Cb Pz (Cr Qz Cn)) call213 (fun l _ => (we g G N.2 D c.jM _ _ l i b6)) ?_)
   rintro _ i8 f5 g9 d T q h ⟨e9, d3, k, rfl, c5⟩
   obtain rfl := k.symm
   replace d := d.perm (Tb (Tr Tn))
   refine jH (jQ (jo ?_))
   obtain rfl := sj a
   exact ⟨e9, d3, f5, _, T, (d.jc (Kb (Kr (Db St)))), rfl, c5⟩
  refine sg (Wi rfl (Wa (ln (CI a rfl (fun b2 a => ?_) (fun b2 a => ?_)))))
  ·refine jq (Wm (Wf pj (VA d (Mt (Ma Mh)) (jf c.B) bT bB (bS a fun i4 b9 a => ?_))))
   refine VE (eM d (Cb Pz (Cr Qz Cn)) call212 (fun l _ => (sG g G N.2 D c.B _ _ l i b9)) ?_)
   rintro _ i9 f6 h0 d U s h ⟨f0, d4, t, rfl, c6⟩
   obtain rfl := t.symm
   replace d := d.perm (Tb (Tr Tn))
   refine jH (jQ (jo ?_))
   obtain rfl := sj a
   exact ⟨f0, d4, f6, _, U, (d.jc (Kb (Kr (Db St)))), rfl, c6⟩
  refine sg (Wi rfl (Wa (ln (CI a rfl (fun b3 a => ?_) (fun b3 a => ?_)))))
  ·refine sg (Wm (Wf pj (VA d (Mt (Ma Mh)) (jf c.B) bT bB (bS a fun e6 c0 a => ?_))))
   refine VE (eM d (Cb Pz (Cr Qz Cn)) call212 (fun l _ => (sG g G N.2 D c.B _ _ l i c0)) ?_)
   rintro _ j0 j7 h1 d Y A h ⟨f1, d5, u, rfl, c7⟩
   obtain rfl := u.symm
   replace d := d.perm (Tb (Tr Tn))
   refine ln (jq (Wm (Wf yE (VB d (Mt (Ma Mh)) rfl rfl cY (bS a fun i5 c1 a => ?_)))))
   refine VE (eM d (Cb Pz (Cr Qz Cn)) call213 (fun l _ => (we g f1 e6.2 d5 c.ki _ _ l c7 c1)) ?_)
   rintro _ j3 f7 h2 d Z L h ⟨f2, d6, x, rfl, c8⟩
   obtain rfl := x.symm
   replace d := d.perm (Tb (Tr Tn))
   refine jH (jQ (jo ?_))
   obtain rfl := sj a
   exact ⟨f2, d6, f7, _, (Y.trans Z), (d.jc (Kb (Kr (Db St)))), rfl, c8⟩
  refine sg (Wi rfl (Wa (ln (CI a rfl (fun b4 a => ?_) (fun b4 a => ?_)))))
  ·refine sg (Wm (Wf pj (VA d (Mt (Ma Mh)) (jf c.B) bT bB (bS a fun e7 c2 a => ?_))))
   refine VE (eM d (Cb Pz (Cr Qz Cn)) call212 (fun l _ => (sG g G N.2 D c.B _ _ l i c2)) ?_)
   rintro _ j4 j8 h3 d a1 O h ⟨f3, d7, y, rfl, c9⟩
   obtain rfl := y.symm
   replace d := d.perm (Tb (Tr Tn))
   refine ln (jq (Wm (Wf yw (VA d (Mt (Ma Mh)) (jf c.C) bT bB (bS a fun i6 c3 a => ?_)))))
   refine VE (eM d (Cb Pz (Cr Qz Cn)) call212 (fun l _ => (sG g f3 e7.2 d7 c.C _ _ l c9 c3)) ?_)
   rintro _ j5 f8 h4 d a2 P h ⟨f4, d8, z, rfl, d0⟩
   obtain rfl := z.symm
   replace d := d.perm (Tb (Tr Tn))
   refine jH (jQ (jo ?_))
   obtain rfl := sj a
   exact ⟨f4, d8, f8, _, (a1.trans a2), (d.jc (Kb (Kr (Db St)))), rfl, d0⟩
  refine kX (jQ (jo ?_))
  obtain rfl := sj a
  exact ⟨G, D, d1, _, (jC.refl _), (d.jc (Kb (Kr (Db St)))), rfl, i⟩
 rintro e5 E W ⟨B, H, K, Q, g1, d, d9, c4⟩ j
 refine sg (Wh d9 (bS j fun i2 b5 j => VE (sI d call173 (yV g B e5 _ _ (c4.sl (fun _ => rfl) (fun b o m => d.at_ (Mt (Ml m)))) (At.of (d.at_ Mh) _ rfl) b5) (fun h5 e8 j6 d2 d g2 n M => Wa (ln ?_)))))
 replace d := d.jc (Kr (Db (Dr St)))
 refine kl ?_
 obtain rfl := sj j
 exact kv (v := e8) rfl rfl ⟨_, d2, rfl, d.nj (fun p m => (Ml m)) M.nd, M⟩
theorem Fb (g i : iY) (r : Int) (w : World) (hm : qO g i = some r) :
  jO true pg0 81 [(.agg (jb g).toArray), (.agg (jb i).toArray)] w (.int .i64 r) := by
 refine cG 10 func81 rfl (fun d => sg (VE (jZ d rfl (fun T Y d => VE (jZ d rfl (fun U Z d => Wa (ln (jt ?_))))))))
 replace d := d.drew
 have h := d.has.jc (Kb (Kb Sn))
 refine kC h jK (XH 0 rfl h (fun _ l => jd rfl (jl l (Mt Mh) (jb g) rfl cJ bn)) (XH 2 rfl h (fun _ l => jd rfl (jl l Mh (jb i) rfl cJ bn)) (bS hm fun y t hm => XE 1 rfl (sI d call152 (Cq g _ _  t) (fun I B N G d a n j => ?_)))))
 have h := d.has.qZ a (Dr (Kb (Kb Sn)))
 refine ⟨h, (bS hm fun z u hm => XE 3 rfl (sI d call152 (Cq i _ _  u) (fun J D Q H d c p k => ?_)))⟩
 have h := d.has.qZ (a.trans c) (Dr (Dr (Kb (Kb Sn))))
 refine ⟨h, (bS hm fun M x hm => XE 4 rfl (Eg d call151 (zy B y D z _ _ (j.sl (fun _ => rfl) (fun b o m => d.at_ (Ma (Ml m)))) (k.sl (fun _ => rfl) (fun b o m => d.at_ (Ml m))) x) (fun K d => ?_)))⟩
 have h := d.has.qZ (a.trans c) (Dr (Dr (Kb (Kb Sn))))
 refine ⟨h, (X 5 rfl h (oa rfl) (kJ kr (jo ?_)))⟩
 exact kl (rQ hm d)
theorem AF (j : Value) (a0 : List iY) (x : LO) (r : List iY) (w : World) {μ0 : jx} (h0 : nf μ0 (x ++ []) w) (B : jw 52 jb 9 j a0 x) (hm : qk a0 = some r) :
  kw true pg0 199 [j] w (x ++ []) (fun v L1 W' => ∃ y1 S2, v = y1 ∧ L1 = (S2 ++ []) ∧ jw 52 jb 9 y1 r S2) := by
 refine xW h0 61 func199 rfl (fun b => sg (Wa (lS (Wm (V (ql bo rfl B) (Wi rfl (ln (CI hm rfl (fun g0 hm => ?_) (fun g0 hm => ?_)))))))))
 ·refine sg (Wm (Wa (lt (lc ?_))))
  obtain rfl := sj hm
  exact kv (v := j) rfl rfl ⟨_, _, rfl, (b.lO (Kr Sn)), j, x, rfl, rfl, B⟩
 refine kS (Wa (ln (kW (nm (fun m E W => ∃ t R, ST true (keys (x ++ [])) w W μ0 (x ++ R) ∧ E 0 = j ∧ E 3 = (.int .i64 t) ∧ mX a0 m t = some r) jB ⟨1, _, (b.jc St), rfl, rfl, hm⟩ ?_))))
 rintro m E W ⟨t, R, b, D, H, a⟩
 cases m with
 | zero => rw [mX] at a; cases a
 | succ f5 =>
  refine jt (sg (Wh H (Wh D (V (ql bo rfl B) (Wi rfl (ln (CI a rfl (fun d0 a => ?_) (fun d0 a => ?_))))))))
  ·refine kn (jt (kW (jt ?_)))
   replace b := b.drew
   have d := b.has.jc (Kr Sn)
   refine kC d jK (X 0 rfl d (jh D) (X 1 rfl d (jh H) (bS a fun c3 Z a => XQ 2 rfl d (pX (i := t) (x0 := c3) bo bn rfl rfl B (jG Z) (jD Z)) (fun g7 d6 => XH 3 rfl d (fun _ l => jd rfl (wQ l (fun p h => (Ml h)) B kA d6 (jD Z) cJ bn)) (X 4 rfl d (jh D) (X 5 rfl d (jh H) (X 6 rfl d (lA rfl rfl rfl) (bS a fun c4 n a => XQ 7 rfl d (pX (i := (wi0 .i64 (t - 1))) (x0 := c4) bo bn rfl rfl B (jG n) (jD n)) (fun g8 d7 => XH 8 rfl d (fun _ l => jd rfl (wQ l (fun p h => (Ml h)) B kA d7 (jD n) cJ bn)) (X 9 rfl d (Bc rfl rfl (sM gm) (wT (yR _ c3 c4))) (kJ kr (jo ?_))))))))))))
   refine CI a rfl (fun d1 a => ?_) (fun d1 a => ?_)
   ·refine sg (Wh D (Wh H (bS a fun _ A a => VQ (xn (i := t) bo bn rfl rfl B (tR A) (tO A)) (fun c1 M => Wa (lS (Wa (ln ?_)))))))
    refine CJ a (fun U E W => ∃ o b5, ST true (keys (x ++ [])) w W μ0 (o ++ b5) ∧ E 0 = j ∧ E 3 = (.int .i64 U.2) ∧ jw 52 jb 9 j U.1 o) (fun U d4 => ?_) ?_
    ·refine kW (nm (fun m E W => ∃ q K Y y b6, ST true (keys (x ++ [])) w W μ0 (K ++ b6) ∧ E 0 = j ∧ E 3 = (.int .i64 Y) ∧ E 4 = c1 ∧ E 5 = (.int .i64 y) ∧ jw 52 jb 9 j q K ∧ mV t m q Y y = some U) jB ⟨a0, x, t, 1, _, (b.jc St), D, H, rfl, rfl, B, d4⟩ ?_)
     rintro m E W ⟨q, K, Y, y, b6, b, Q, T, I, J, g, k⟩
     cases m with
     | zero => rw [mV] at k; cases k
     | succ f6 =>
      refine jt (sg (Wh J (Wh I (V (FJ bo rfl M g) (Wi rfl (ln (CI k rfl (fun d2 k => ?_) (fun d2 k => ?_))))))))
      ·refine kn (jt (CJ k (fun s E W => ∃ N b7, ST true (keys (x ++ [])) w W μ0 (N ++ b7) ∧ E 0 = j ∧ E 3 = (.int .i64 s.2) ∧ E 4 = c1 ∧ E 5 = (.int .i64 y) ∧ jw 52 jb 9 j s.1 N) (fun s c => ?_) ?_))
       ·refine kW (jt ?_)
        replace b := b.drew
        have d := b.has.jc (Kr Sn)
        refine kC d jK (X 0 rfl d (jh I) (X 1 rfl d (jh J) (bS c fun c6 a2 c => XQ 2 rfl d (xu (i := y) (x0 := c6) bo bn rfl rfl g M (jG a2) (jD a2)) (fun g9 d8 => XH 3 rfl d (fun _ l => jd rfl (wQ l (fun p h => (Ml h)) g kA d8 (yL (jD a2)) cJ bn)) (X 4 rfl d (jh I) (X 5 rfl d (jh J) (X 6 rfl d (lA rfl rfl rfl) (bS c fun c7 a3 c => XQ 7 rfl d (xu (i := (wi0 .i64 (y - 1))) (x0 := c7) bo bn rfl rfl g M (jG a3) (jD a3)) (fun h1 d9 => XH 8 rfl d (fun _ l => jd rfl (wQ l (fun p h => (Ml h)) g kA d9 (yL (jD a3)) cJ bn)) (X 9 rfl d (Pf rfl rfl (sM gm) (MR (yR _ c6 c7))) (kJ kr (jo ?_))))))))))))
        refine CI c rfl (fun d3 c => ?_) (fun d3 c => ?_)
        ·refine sg (Wh Q (Wh T (Wh I (Wh J (bS c fun a9 a4 c => VQ (xu (i := y) (x0 := a9) bo bn rfl rfl g M (jG a4) (jD a4)) (fun h2 e0 => V (jd rfl (wQ b.has (fun p h => (Ml h)) g kA e0 (yL (jD a4)) cJ bn)) (bS c fun f8 a5 c => VQ (pX (i := Y) (x0 := f8) bo bn rfl rfl g (jG a5) (jD a5)) (fun h3 e1 => VO (AN (u := (.agg (jb a9).toArray)) (x1 := a9)  b g kA py rfl rfl rfl e1 (jD a5) bn (fun g3 e8 b c9 => ln (jq ?_)))))))))))
         refine Wh T (Wi rfl (Wa (jH (jQ (jo ?_)))))
         obtain rfl := sj c
         exact ⟨e8, _, (b.jc St), Q, rfl, I, J, c9⟩
        refine kX (jQ (jo ?_))
        obtain rfl := sj c
        exact ⟨K, _, (b.jc St), Q, T, I, J, g⟩
       rintro ⟨f4, f7⟩ E W ⟨N, b7, b, f0, f1, f2, f3, e4⟩ d5
       exact jq (Wh f3 (Wi rfl (Wa (ln ⟨f6, bM _, f4, N, f7, (wi0 .i64 (y + 1)), _, (b.jc St), f0, f1, f2, rfl, e4, d5⟩))))
      refine mU (mA (mA (qX (jo ?_))))
      obtain rfl := sj k
      exact ⟨K, _, (b.jc St), Q, T, g⟩
    rintro ⟨g4, c5⟩ E W ⟨o, b5, b, b9, c0, P⟩ G
    refine sg (Wh b9 (Wh c0 (bS G fun _ L G => VQ (xn (i := c5) bo bn rfl rfl P (tR L) (tO L)) (fun h4 e2 => VO (Af (z := K6)  b P kA py bo dN e2 rfl rfl (fun g2 e7 b c8 => lr (Wh b9 (Wh c0 (bS G fun _ O G => VQ (zu (i := c5) bo bn rfl rfl c8 kA (tR O) (tO O)) (fun c2 e3 => ?_))))))))))
    refine Wa (lt (og (lc (lc (og (lc ?_))))))
    obtain rfl := sj G
    exact kv (v := c2) rfl rfl ⟨_, _, rfl, (b.lO (Kr Sn)), c2, e7, rfl, rfl, e3⟩
   exact kX (jQ (jo (jq (Wh H (Wi rfl (Wa (ln ⟨f5, bM _, (wi0 .i64 (t + 1)), _, (b.jc St), D, rfl, a⟩)))))))
  refine mU (mA (mA (qX (jo (sg (Wh D (Wa (lt ?_))))))))
  obtain rfl := sj a
  exact kv (v := j) rfl rfl ⟨_, _, rfl, (b.lO (Kr Sn)), j, x, rfl, rfl, B⟩
theorem Jg (i : Value) (t r : List iY) (w : World) (B : Sl (Pl jb) 9 (hp w) i t) (hm : wA t = some r) :
  lJ false pg0 125 [i] w 52 jb 9 r := by
 refine uU 11 func125 rfl (fun b => sg (Wa (lr (Wm (bS hm fun u T hm => VE (sI b call196 (lJ.lI (BD i t _ _ (B.mono (Pl.mono _) b.jk) T)) (fun W3 v7 y R8 b a5 o Q => bS hm fun U D hm => ?_)))))))
 refine VE (eM b (Cr Qz Cn) call195 (fun h _ => (yP v7 u R8 (.func (.func 197) #[] #[]) (fun (x : iY) => vg x) _ _ h Q ⟨197, #[], #[], rfl, call197, fun W x r s hm => (F3 x r W  hm).lI⟩ D)) ?_)
 rintro _ O b9 A b z l d ⟨k, K, a, rfl, I⟩
 obtain rfl := a.symm
 replace b := b.perm (Tr Tn)
 refine Wa (lr (Wm (bS hm fun Y G hm => ?_)))
 refine VE (eM b (Cr Qz Cn) call198 (fun h _ => kw.lI (Jx k U K (.func (.func 81) #[] #[]) (fun (x : (iY × iY)) => qO x.1 x.2) _ _ h I ⟨81, #[], rfl, call81, fun W x r s hm => Fb x.1 x.2 r W  hm⟩ G)) ?_)
 rintro _ P c0 a9 b a2 m d ⟨M, c, rfl, J⟩
 obtain rfl := c.symm
 replace b := b.perm (Tr Tn)
 refine lr (Wm (bS hm fun L H hm => ?_))
 refine VE (eM b (Cr Qz Cn) call199 (fun h _ => kw.lI (AF k Y M _ _ h J H)) ?_)
 rintro _ R c1 E b a3 n d ⟨Z, N, g, rfl, j⟩
 obtain rfl := g.symm
 replace b := b.perm (Tr Tn)
 refine Wa (lt ?_)
 obtain rfl := sj hm
 exact kv (v := Z) rfl rfl ⟨_, N, rfl, b.nj (fun p q => (Ml q)) j.nd, j⟩
theorem yK (k : jL) (H K c1 : Value) (O : List iY) (a2 : ByteArray) (r : List iY) (w : World) (g : Sl ku 15 (hp w) H k.jv) (J : Sl lx 8 (hp w) K k.ke) (h5 : Sl (Pl jb) 9 (hp w) c1 O) (hm : pq k O a2 = some r) :
  lJ false pg0 52 [(.agg #[(.string k.Name), H, K]), c1, (.string a2)] w 52 jb 9 r := by
 refine uU 47 func52 rfl (fun d => sg ?_)
 obtain ⟨A1, c2, rfl⟩ := g.form
 let c8 : Value := (.slice A1 k.jv.length c2)
 obtain ⟨A3, c4, rfl⟩ := J.form
 let P := (C3 k.Name A1 k.jv.length c2 A3 k.ke.length c4)
 refine VE (jZ d rfl (fun W6 A d => Wa (lr (Wm (Wm (bS hm fun B i5 hm => ?_))))))
 refine VE (FX d (bX _) call123 (fun _ _ _ _ => (G2 c1 O a2 _ _ (h5.mono (Pl.mono _) d.jk) i5)) (fun W9 l1 g4 l0 d a5 af ae h4 => ?_) (L0 := []))
 obtain ⟨N, q, e0, f9, e1, g0, e2, g1, e3, g2, e4, g3, Q, c0, rfl, h6, h7, h8, h9, i0⟩ := h4
 replace c0 := c0.symm; subst c0
 replace d := d.perm (Tb (Tb (Tb (Tr (Tr (Tr (Tr (Tr Tn))))))))
 refine Wa (lr (Wa (lS (Wf BV (VB d (Mt (Mt (Mt (Ma (Ma (Ma (Ma (Ma Mh)))))))) rfl rfl isAgg22 (V (lT eC rfl g) (Wm ?_)))))))
 refine ln (lu (fun i E W => ∃ D I G s b4, (E 19 = .int .i64 (i : Nat) ∧ E 18 = .int .i64 (k.jv.length : Nat)) ∧ jC g4 s ∧ ST false lG w W s ((N, Ob #[(.pointer (some ⟨q, 0, none⟩))] 183) :: ((q, Ob #[e0, e1, e2, e3, e4, (.int .i64 B.2.2.2.2.2.1)] 246) :: ((Q, Ob #[(.string B.2.2.2.2.2.2)] 9) :: ((A, Ol P 25) :: (G ++ (f9 ++ (g0 ++ (g1 ++ (g2 ++ (g3 ++ b4)))))))))) ∧ E 3 = (.pointer (some ⟨A, 0, none⟩)) ∧ E 7 = (.func (.func 191) #[] #[(.pointer (some ⟨N, 0, none⟩)), (.pointer (some ⟨Q, 0, none⟩))]) ∧ E 8 = D ∧ E 17 = c8 ∧ jw 52 jb 9 D I G ∧ pd k B (k.jv.drop i) I = some r) k.jv.length g.len ⟨(.slice none 0 0), ([]), [], g4, _, ⟨rfl, rfl⟩, (jC.refl _), (d.jc (Kb (Kb (Kb (Sb (Pr (Pr (Pr (Pr (Pr Pz))))) St))))), rfl, rfl, rfl, rfl, (jw.nil _ _ _), hm⟩ dc dc dc (fun _ _ _ h => by obtain ⟨_, _, _, _, _, aa, _⟩ := h; exact aa) ?_ ?_)
 ·let b6 : Value := (.func (.func 191) #[] #[(.pointer (some ⟨N, 0, none⟩)), (.pointer (some ⟨Q, 0, none⟩))])
  rintro d8 E W f0 ⟨D, I, G, s, b4, ⟨L, eN⟩, u, d, Y, Z, a3, a4, M, j⟩
  obtain ⟨a, i6, f8, f7, c6⟩ := kL f0
  rw [f8] at j
  refine bg (VQ (mW (i := (d8 : Int)) (x0 := a) ku.out eC ef a4 L (g.mono lK.mono (a5.trans u)) (aV _) f7) (fun k1 ⟨_, ⟨k4, k5, rfl, f5, f6⟩, f1⟩ => V (jd rfl (jJ d.has f1 iV ef)) (VE (kq d gx (fun i9 d0 d => ?_)))))
  obtain ⟨b2, b7, rfl⟩ := f5.form
  obtain ⟨b3, b9, rfl⟩ := f6.form
  let a0 := (C2 a.Signed.iY.Kind a.Signed.iY.Head.ja a.Signed.iY.Head.Word a.Signed.iY.jM a.Signed.iY.B.ja a.Signed.iY.B.Word a.Signed.iY.C.ja a.Signed.iY.C.Word a.Signed.iY.ki b2 a.Signed.Tag.length b7 a.ji.Op a.ji.K a.ji.iX.ja a.ji.iX.Word b3 a.ji.Kids.length b9)
  refine VO (jz (.agg a0.toArray) (a0.toArray) d rfl rfl ef oc nb rfl (fun j0 d => lr (V (jd Y (jl d.has (Mt (Mt (Mt (Mt Mh)))) P rfl ed dF)) (Wf Ax (Wf Al (VA d Mh (jb a.Signed.iY) cJ bn (bS j fun c f2 j => ?_)))))))
  let e5 : Value := (.string (((c.1).iX).Word))
  let d1 : Value := (.string (((c.1).iX).ja))
  refine VE (eD d (bX _) call124 (fun hh => (I2 k c8 (.slice A3 k.ke.length c4) a.Signed.iY _ _ hh (g.mono lK.mono (a5.trans u)) (J.mono nw.mono (a5.trans u)) f2)) ?_ (L0 := []))
  rintro _ k6 c3 i8 d a9 ab ⟨k8, a6, rfl, c7⟩
  obtain rfl := a6.symm
  refine Wm (Wx rfl (Wx rfl (VE (kq d bL (fun j4 k0 d => ?_)))))
  obtain ⟨T, U, rfl⟩ := c7.form
  let b8 : Value := (.slice T ((c.1).Kids).length U)
  refine VO (jz (.agg #[(.int .i64 ((c.1).Op)), (.int .i64 ((c.1).K)), d1, e5, b8]) (#[(.int .i64 ((c.1).Op)), (.int .i64 ((c.1).K)), d1, e5, b8]) d rfl rfl aD oc nb rfl (fun j5 d => Wa (lr (Wm (Wi rfl (Wm (LJ j (fun d9 E W => ∃ c9, ST false lG w W c3 ((d0, Ol a0 57) :: ((N, Ob #[(.pointer (some ⟨q, 0, none⟩))] 183) :: ((q, Ob #[e0, e1, e2, e3, e4, (.int .i64 B.2.2.2.2.2.1)] 246) :: ((Q, Ob #[(.string B.2.2.2.2.2.2)] 9) :: ((A, Ol P 25) :: (G ++ (f9 ++ (g0 ++ (g1 ++ (g2 ++ (g3 ++ c9))))))))))) ∧ E 3 = (.pointer (some ⟨A, 0, none⟩)) ∧ E 7 = b6 ∧ E 8 = D ∧ E 10 = (.pointer (some ⟨d0, 0, none⟩)) ∧ E 17 = c8 ∧ E 18 = (.int .i64 (k.jv.length : Int)) ∧ E 19 = (.int .i64 (d8 : Int)) ∧ E 37 = (.bool d9)) 4 ?_ (fun d9 z b0 => ?_))))))))
  ·rintro k7 E W ⟨c9, d, d2, d3, d4, h2, d5, d6, d7, h3⟩ y
   refine ln (CI y h3 (fun e8 y => ?_) (fun e8 y => ?_))
   ·refine jq (Wh d4 (V (jm Ax h2) (Wf Al (VA d Mh (jb a.Signed.iY) cJ bn (VE (km (cs := (jb a.Signed.iY).toArray) d (mH rfl) (nI bo bn dN) (fun j6 h1 d => ?_)))))))
    replace d := d.perm (Nr (Qb (Qb (Qb (Qb (Qb (Qb Qz)))))) Nz)
    refine bS y fun i1 e9 y => VE (nL (enc := jb) (v := D) (vs := (.slice (some ⟨h1, 0, none⟩) 1 1)) (R := G) d kA dc py bo nH.1 nH.2.1 rfl nH.2.2.1 nH.2.2.2 rfl rfl M (Sl.lit (enc := jb) (l := [a.Signed.iY]) kA rfl nb rfl (d.at_ (Ma Mh))) e9 (fun j7 i2 g7 d e7 => Wa (jH (jQ (jo ?_)))))
    replace d := d.jc (Kr (Db (Db St)))
    exact ⟨d7, i2, i1, g7, c3, _, ⟨rfl, d6⟩, (u.trans a9), (d.jc (Sb (Pr Pz) (Sb (Pr Pz) (Sb (Pr Pz) (Sb (Pr Pz) St))))), d2, d3, rfl, d5, e7, (by rw [c6]; exact y)⟩
   refine kX (jQ (jo ?_))
   replace d := d.jc (Db St)
   exact ⟨d7, D, I, G, c3, _, ⟨rfl, d6⟩, (u.trans a9), (d.jc St), d2, d3, d4, d5, M, (by rw [c6]; exact y)⟩
  refine bC z (fun t z => ?_) (fun t z => ?_)
  ·refine ug t (jd rfl (jl d.has Mh [(.int .i64 ((c.1).Op)), (.int .i64 ((c.1).K)), d1, e5, b8] rfl aZ aD)) (ug t (jh Z) (bS z fun k2 f3 z => uG t (Eg d call54 (Av c.1 b8 b6 (fun (x : iX) => oq x B.1 B.2.1 B.2.2.1 B.2.2.2.1 B.2.2.2.2.1 B.2.2.2.2.2.1 B.2.2.2.2.2.2) _ _ (c7.mono jj.mono d.jk) ⟨191, #[], #[(.pointer (some ⟨N, 0, none⟩)), (.pointer (some ⟨Q, 0, none⟩))], rfl, call191, fun W x r n hm => (D4 x N q e0 B.1 e1 B.2.1 e2 B.2.2.1 e3 B.2.2.2.1 e4 B.2.2.2.2.1 B.2.2.2.2.2.1 Q B.2.2.2.2.2.2 r W (h6.at (fun b o m => n _ _ ((fun b o m => d.at_ (Mt (Mt (Mt (Mt (Mt (Mt (Ma (Ml m))))))))) b o m))) (h7.sl kA (fun b o m => n _ _ ((fun b o m => d.at_ (Mt (Mt (Mt (Mt (Mt (Mt (Ma (Ma (Ml m)))))))))) b o m))) (h8.at (fun b o m => n _ _ ((fun b o m => d.at_ (Mt (Mt (Mt (Mt (Mt (Mt (Ma (Ma (Ma (Ml m))))))))))) b o m))) (h9.at (fun b o m => n _ _ ((fun b o m => d.at_ (Mt (Mt (Mt (Mt (Mt (Mt (Ma (Ma (Ma (Ma (Ml m)))))))))))) b o m))) ((i0.By vA).mono (Pl.mono _) (kT (fun b o m => n _ _ ((fun b o m => d.at_ (Mt (Mt (Mt (Mt (Mt (Mt (Ma (Ma (Ma (Ma (Ma (Ml m))))))))))))) b o m)))) (At.of (n _ _ (d.at_ (Mt (Mt (Mt Mh))))) _ rfl) (At.of (n _ _ (d.at_ (Mt (Mt Mh)))) _ rfl) (At.of (n _ _ (d.at_ (Mt (Mt (Mt (Mt Mh)))))) _ rfl) hm).lI⟩ f3) (fun j8 d => V (jW (cB t) rfl) ?_))))
   obtain rfl := sj z
   exact b0 _ _ ⟨_, (d.jc (Db St)), Y, Z, a3, rfl, a4, eN, L, rfl⟩
  refine un t (un t (un t (V (jY (cB t) rfl) ?_)))
  obtain rfl := sj z
  exact b0 _ _ ⟨_, (d.jc (Db St)), Y, Z, a3, rfl, a4, eN, L, rfl⟩
 rintro E W ⟨D, I, G, s, b4, ⟨L, eN⟩, u, d, Y, Z, a3, a4, M, j⟩
 rw [bE] at j
 refine jo ?_
 replace d := d.jc (Db (Db (Db (Db (Kr (Dr (Dr (Dr (Dr (Dr St))))))))))
 refine sg (Wh a3 (bS j fun k3 f4 j => VE (sI d call125 (Jg D I _ _ (M.sl kA (fun b o m => d.at_ (Ml m))) f4) (fun j9 i3 k9 g8 d i4 ad c5 => Wa (ln ?_)))))
 replace d := d.jc (Kr (Dr St))
 refine kl ?_
 obtain rfl := sj j
 exact kv (v := i3) rfl rfl ⟨_, g8, rfl, d.nj (fun p m => (Ml m)) c5.nd, c5⟩
theorem CZ (g : jL) (D K : Value) (i : jL) (G M : Value) (r : ((List iY) × (List iY) × Int)) (w : World) (x : Sl ku 15 (hp w) D g.jv) (I : Sl lx 8 (hp w) K g.ke) (y : Sl ku 15 (hp w) G i.jv) (J : Sl lx 8 (hp w) M i.ke) (hm : rX g i = some r) :
  kw false pg0 17 [(.agg #[(.string g.Name), D, K]), (.agg #[(.string i.Name), G, M])] w [] (fun v L1 W' => ∃ y1 S2 y4 S5, v = (.tuple #[y1, y4, (.int .i64 (r.2.2))]) ∧ L1 = (S2 ++ (S5 ++ [])) ∧ jw 52 jb 9 y1 r.1 S2 ∧ jw 52 jb 9 y4 r.2.1 S5) := by
 refine uU 41 func17 rfl (fun d => sg ?_)
 obtain ⟨A1, c2, rfl⟩ := x.form
 obtain ⟨A3, c4, rfl⟩ := I.form
 let q := (C3 g.Name A1 g.jv.length c2 A3 g.ke.length c4)
 refine VE (jZ d rfl (fun W6 p d => ?_))
 obtain ⟨A7, c8, rfl⟩ := y.form
 obtain ⟨A9, O, rfl⟩ := J.form
 let a0 := (C3 i.Name A7 i.jv.length c8 A9 i.ke.length O)
 refine VE (jZ d rfl (fun f8 n d => Wa (Wa (Wa (lr (Wa (Wa (lr (Wa ?_)))))))))
 refine ln (tu (kW (nm (fun m E W => ∃ t a4 N u a5 Q H a9 b9, jC (hp w) a9 ∧ ST false lG w W a9 ((n, Ol a0 25) :: ((p, Ol q 25) :: (Q ++ (N ++ b9)))) ∧ E 2 = (.pointer (some ⟨p, 0, none⟩)) ∧ E 3 = (.pointer (some ⟨n, 0, none⟩)) ∧ E 7 = t ∧ E 8 = u ∧ E 9 = (.int .i64 H) ∧ jw 52 jb 9 t a4 N ∧ jw 52 jb 9 u a5 Q ∧ nV g i m a4 a5 H = some r) jB ⟨(.slice none 0 0), ([]), [], (.slice none 0 0), ([]), [], 0, (hp w), _, (jC.refl _), (d.jc St), rfl, rfl, rfl, rfl, rfl, (jw.nil _ _ _), (jw.nil _ _ _), hm⟩ ?_)))
 rintro m E W ⟨t, a4, N, u, a5, Q, H, a9, b9, j, d, T, U, Y, Z, c9, a2, a3, c⟩
 cases m with
 | zero => rw [nV] at c; cases c
 | succ e6 =>
  refine jt (kW (jt ?_))
  replace d := d.drew
  have h := d.has.jc (Kb (Kb Sn))
  refine kC h jK (XH 0 rfl h (fun _ l => jd T (jl l (Mt Mh) q rfl ed dF)) (X 1 rfl h (jh Z) (X 2 rfl h (jm EL U) (XH 3 rfl h (fun _ l => jd rfl (jA l Mh rfl cY)) (XH 5 rfl h (fun _ l => jd U (jl l Mh a0 rfl ed dF)) (X 6 rfl h (jh Y) (X 7 rfl h (jm EL T) (XH 8 rfl h (fun _ l => jd rfl (jA l (Mt Mh) rfl cY)) (bS c fun e7 d7 c => XE 4 rfl (sI d call52 (yK g (.slice A1 g.jv.length c2) (.slice A3 g.ke.length c4) u a5 i.Name _ _ (x.mono lK.mono (j.trans d.jk)) (I.mono nw.mono (j.trans d.jk)) (a3.sl kA (fun b o L => d.at_ (Mt (Mt (Ml L))))) d7) (fun f4 d2 f7 c1 d k s b1 => ?_)))))))))))
  have h := d.has.qZ k (Dr (Kb (Kb Sn)))
  refine ⟨h, (bS c fun e8 d8 c => XE 9 rfl (sI d call52 (yK i (.slice A7 i.jv.length c8) (.slice A9 i.ke.length O) t a4 g.Name _ _ (y.mono lK.mono ((j.trans k).trans d.jk)) (J.mono nw.mono ((j.trans k).trans d.jk)) (a2.sl kA (fun b o L => d.at_ (Ma (Mt (Mt (Ma (Ml L))))))) d8) (fun f5 d3 d4 c3 d P A b2 => ?_)))⟩
  have h := d.has.qZ (k.trans P) (Dr (Dr (Kb (Kb Sn))))
  refine ⟨h, (X 10 rfl h (oa rfl) (X 11 rfl h (oa rfl) (kJ kr (jo (jt (sg (Wm (V (ql bo rfl b1) (Wh Y (V (ql bo rfl a2) (Wi rfl (Wm (LJ c (fun d1 E W => ∃ c0, ST false lG w W d4 ((n, Ol a0 25) :: ((p, Ol q 25) :: (c3 ++ (c1 ++ (Q ++ (N ++ c0)))))) ∧ E 2 = (.pointer (some ⟨p, 0, none⟩)) ∧ E 3 = (.pointer (some ⟨n, 0, none⟩)) ∧ E 7 = t ∧ E 8 = u ∧ E 9 = (.int .i64 H) ∧ E 10 = d2 ∧ E 11 = d3 ∧ E 35 = (.bool d1)) 6 ?_ (fun d1 B R => ?_))))))))))))))⟩
  ·rintro f6 E W ⟨c0, d, d9, e0, e1, e2, d0, e3, e4, e5⟩ z
   refine ln (CI z e5 (fun d6 z => ?_) (fun d6 z => ?_))
   ·refine sg (Wh e1 (Wh e2 (Wh d0 (Wa (Wa (Wa (ln ?_)))))))
    replace d := d.jc (Db (Db (Dr (Dr St))))
    refine kl (lc (og (lc (lc (og (lc ?_))))))
    obtain rfl := sj z
    exact LD (v0 := t) (v1 := u) (v2 := (.int .i64 H)) rfl rfl rfl rfl ⟨_, _, rfl, (d.KH (Sr (Qr Qz) (Kr Sn))), t, N, u, Q, rfl, rfl, a2, a3⟩
   refine kn ?_
   replace d := d.jc (Kb (Kb (Kr (Kr (Dr (Dr St))))))
   exact jq (Wh e3 (Wh e4 (Wa (Wa (jH (jQ (jo (jq (Wh d0 (Wi rfl (Wa (ln ⟨e6, bM _, d2, e7, c1, d3, e8, c3, (wi0 .i64 (H + 1)), d4, _, ((j.trans k).trans P), (d.jc St), d9, e0, rfl, rfl, rfl, b1, b2, z⟩))))))))))))
  refine bC B (fun a B => ?_) (fun a B => ?_)
  ·refine ug a (jh rfl) (ug a (ql bo rfl b2) (ug a (jh Z) (ug a (ql bo rfl a3) (ug a (lA rfl rfl rfl) (V (jW (cB a) rfl) ?_)))))
   obtain rfl := sj B
   exact R _ _ ⟨_, (d.jc (Sb (Pr (Pr Pz)) (Sb (Pr (Pr Pz)) St))), T, U, Y, Z, c9, rfl, rfl, rfl⟩
  refine un a (un a (un a (un a (un a (V (jY (cB a) rfl) ?_)))))
  obtain rfl := sj B
  exact R _ _ ⟨_, (d.jc (Sb (Pr (Pr Pz)) (Sb (Pr (Pr Pz)) St))), T, U, Y, Z, c9, rfl, rfl, rfl⟩
theorem Ep (y : jL) (j u : Value) (r : List iY) (w : World) (c : Sl ku 15 (hp w) j y.jv) (B : Sl lx 8 (hp w) u y.ke) (hm : wD y = some r) :
  lJ true pg0 110 [(.agg #[(.string y.Name), j, u])] w 52 jb 9 r := by
 refine uU 21 func110 rfl (fun b => sg ?_)
 obtain ⟨A1, c2, rfl⟩ := c.form
 obtain ⟨A3, c4, rfl⟩ := B.form
 refine VE (jZ b rfl (fun W6 b5 b => Wa (lr (Wa (lS (Wf BV (VB b Mh rfl rfl isAgg22 (V (lT eC rfl c) ?_))))))))
 refine Wm (ln ?_)
 replace b := b.jc (Db St)
 refine lu (fun i E W => ∃ t z k D, (E 9 = .int .i64 (i : Nat) ∧ E 8 = .int .i64 (y.jv.length : Nat)) ∧ ST true lG w W (hp w) (k ++ D) ∧ E 3 = t ∧ E 7 = (.slice A1 y.jv.length c2) ∧ jw 52 jb 9 t z k ∧ rA (y.jv.drop i) z = some r) y.jv.length c.len ⟨(.slice none 0 0), ([]), [], _, ⟨rfl, rfl⟩, (b.jc St), rfl, rfl, (jw.nil _ _ _), hm⟩ dc dc dc (fun _ _ _ h => by obtain ⟨_, _, _, _, m, _⟩ := h; exact m) ?_ ?_
 ·rintro A E W T ⟨t, z, k, D, ⟨d, n⟩, b, G, H, x, g⟩
  obtain ⟨a, c5, a4, a3, a5⟩ := kL T
  rw [a4] at g
  refine bg (VQ (mW (i := (A : Int)) (x0 := a) ku.out eC ef H d c (aV _) a3) (fun c0 ⟨_, ⟨c1, c3, rfl, Y, Z⟩, U⟩ => V (jd rfl (jJ b.has U iV ef)) (VE (kq b gx (fun O b7 b => ?_)))))
  obtain ⟨I, K, rfl⟩ := Y.form
  obtain ⟨J, M, rfl⟩ := Z.form
  let a0 := (C2 a.Signed.iY.Kind a.Signed.iY.Head.ja a.Signed.iY.Head.Word a.Signed.iY.jM a.Signed.iY.B.ja a.Signed.iY.B.Word a.Signed.iY.C.ja a.Signed.iY.C.Word a.Signed.iY.ki I a.Signed.Tag.length K a.ji.Op a.ji.K a.ji.iX.ja a.ji.iX.Word J a.ji.Kids.length M)
  refine VO (jz (.agg a0.toArray) (a0.toArray) b rfl rfl ef oc nb rfl (fun P b => ln (jq (Wh G (Wf Ax (Wf Al (VA b Mh (jb a.Signed.iY) cJ bn (VE (km (cs := (jb a.Signed.iY).toArray) b (mH rfl) (nI bo bn dN) (fun b4 a2 b => ?_))))))))))
  replace b := b.perm (Nr (Qb (Qb Qz)) Nz)
  refine bS g fun q Q g => VE (nL (enc := jb) (v := t) (vs := (.slice (some ⟨a2, 0, none⟩) 1 1)) (R := k) b kA dc py bo nH.1 nH.2.1 rfl nH.2.2.1 nH.2.2.2 rfl rfl x (Sl.lit (enc := jb) (l := [a.Signed.iY]) kA rfl nb rfl (b.at_ (Ma Mh))) Q (fun b6 s o b N => Wa (jH (jQ (jo ?_)))))
  replace b := b.jc (Kr (Db (Db St)))
  exact ⟨d, s, q, o, _, ⟨rfl, n⟩, (b.jc St), rfl, H, N, (by rw [a5]; exact g)⟩
 rintro E W ⟨t, z, k, D, ⟨d, n⟩, b, G, H, x, g⟩
 rw [bE] at g
 refine jo (sg (Wh G (Wa (lt ?_))))
 obtain rfl := sj g
 exact kv (v := t) rfl rfl ⟨_, k, rfl, b.nj (fun p L => (Ml L)) x.nd, x⟩
theorem Cd (z : Int) (t : jL) (G M : Value) (B : jL) (H N A : Value) (a3 : List iY) (r : List ju) (w : World) (g : Sl ku 15 (hp w) G t.jv) (J : Sl lx 8 (hp w) M t.ke) (D : Sl ku 15 (hp w) H B.jv) (K : Sl lx 8 (hp w) N B.ke) (e8 : Sl (Pl jb) 9 (hp w) A a3) (hm : wq z t B a3 = some r) :
  lJ false pg0 42 [(.int .i64 z), (.agg #[(.string t.Name), G, M]), (.agg #[(.string B.Name), H, N]), A] w 40 jy 3 r := by
 refine uU 55 func42 rfl (fun d => sg ?_)
 obtain ⟨A1, c2, rfl⟩ := g.form
 obtain ⟨A3, c4, rfl⟩ := J.form
 refine VE (jZ d rfl (fun W6 b5 d => ?_))
 obtain ⟨A7, c8, rfl⟩ := D.form
 obtain ⟨A9, b0, rfl⟩ := K.form
 refine VE (jZ d rfl (fun h7 i0 d => Wa (ln (jt ?_))))
 replace d := d.drew
 have m := d.has.jc (Kb (Kb Sn))
 refine kC m jK (XH 0 rfl m (fun _ q => jd rfl (jl q (Mt Mh) (C3 t.Name A1 t.jv.length c2 A3 t.ke.length c4) rfl ed dF)) (XH 1 rfl m (fun _ q => jd rfl (jl q Mh (C3 B.Name A7 B.jv.length c8 A9 B.ke.length b0) rfl ed dF)) (X 3 rfl m (jm EL rfl) (XH 4 rfl m (fun _ q => jd rfl (jA q Mh rfl cY)) (bS hm fun f6 e9 hm => XE 2 rfl (sI d call110 (lJ.lI (Ep B (.slice A7 B.jv.length c8) (.slice A9 B.ke.length b0) _ _ (D.mono lK.mono d.jk) (K.mono nw.mono d.jk) e9)) (fun h8 f7 i1 h6 d x ab e6 => ?_)))))))
 have m := d.has.qZ x (Dr (Kb (Kb Sn)))
 refine ⟨m, (bS hm fun d5 f0 hm => XE 5 rfl (sI d call52 (yK t (.slice A1 t.jv.length c2) (.slice A3 t.ke.length c4) f7 f6 B.Name _ _ (g.mono lK.mono (x.trans d.jk)) (J.mono nw.mono (x.trans d.jk)) (e6.sl kA (fun b o s => d.at_ (Ml s))) f0) (fun h9 d6 f8 f5 d a4 ad e7 => ?_)))⟩
 have m := d.has.qZ (x.trans a4) (Dr (Dr (Kb (Kb Sn))))
 refine ⟨m, (X 6 rfl m (oa rfl) (kJ kr (jo ?_)))⟩
 replace d := d.jc (Kr (Dr (Db St)))
 refine sg (Wa (lS (Wf BV (VB d (Ma Mh) rfl rfl isAgg22 (V (lT eC rfl g) (Wm (ln ?_)))))))
 replace d := d.jc (Kr (Db St))
 refine lu (fun i E W => ∃ u Z k P, (E 22 = .int .i64 (i : Nat) ∧ E 21 = .int .i64 (t.jv.length : Nat)) ∧ ST false lG w W f8 (k ++ (f5 ++ P)) ∧ E 0 = (.int .i64 z) ∧ E 3 = A ∧ E 9 = d6 ∧ E 10 = u ∧ E 20 = (.slice A1 t.jv.length c2) ∧ jw 40 jy 3 u Z k ∧ oh d5 z a3 (t.jv.drop i) i Z = some r) t.jv.length g.len ⟨(.slice none 0 0), ([]), [], _, ⟨rfl, rfl⟩, (d.jc St), rfl, rfl, rfl, rfl, rfl, (jw.nil _ _ _), hm⟩ dc dc dc (fun _ _ _ h => by obtain ⟨_, _, _, _, aa, _⟩ := h; exact aa) ?_ ?_
 ·rintro j E W c6 ⟨u, Z, k, P, ⟨n, L⟩, d, I, Q, T, U, Y, y, c⟩
  let a2 := (⟨1, z, (j : Int)⟩ : ju)
  let O := (⟨2, z, (j : Int)⟩ : ju)
  obtain ⟨a, f9, d4, d3, a5⟩ := kL c6
  rw [d4] at c
  refine bg (Wh n (VQ (mW (i := (j : Int)) (x0 := a) ku.out eC ef Y n (g.mono lK.mono (x.trans a4)) (aV _) d3) (fun h1 ⟨_, ⟨h4, h5, rfl, d1, d2⟩, c7⟩ => V (jd rfl (jJ d.has c7 iV ef)) (VE (kq d gx (fun g0 h0 d => Wa ?_))))))
  obtain ⟨a8, b1, rfl⟩ := d1.form
  obtain ⟨a9, b2, rfl⟩ := d2.form
  let a0 := (C2 a.Signed.iY.Kind a.Signed.iY.Head.ja a.Signed.iY.Head.Word a.Signed.iY.jM a.Signed.iY.B.ja a.Signed.iY.B.Word a.Signed.iY.C.ja a.Signed.iY.C.Word a.Signed.iY.ki a8 a.Signed.Tag.length b1 a.ji.Op a.ji.K a.ji.iX.ja a.ji.iX.Word a9 a.ji.Kids.length b2)
  refine VO (jz (.agg a0.toArray) (a0.toArray) d rfl rfl ef oc nb rfl (fun g1 d => ln (bg (Wh T (Wf Ax (Wf Al (VA d Mh (jb a.Signed.iY) cJ bn (bS c fun h2 c9 c => VE (Eg d call111 (jO.lI (wi d6 d5 a.Signed.iY _ _ (e7.sl kA (fun b o s => d.at_ (Mt (Ma (Ml s))))) c9)) (fun g2 d => V (px rfl) (Wa (jH ?_))))))))))))
  refine jo (CI c rfl (fun c0 c => ?_) (fun c0 c => ?_))
  ·refine jq (Wh U (Wh I (Wm (V (lY (v := (.agg (jy (O)).toArray)) (AL rfl rfl rfl) (li dP dG (Hc _ dG) kr)) (VE (km (cs := (jy (O)).toArray) d (mH rfl) (nI bU dQ dP) (fun g3 e2 d => ?_)))))))
   replace d := d.perm (Nr (Qb (Qb Qz)) Nz)
   refine bS c fun f1 c1 c => VE (nL (enc := jy) (v := u) (vs := (.slice (some ⟨e2, 0, none⟩) 1 1)) (R := k) d mi dc rM bU oS.1 oS.2.1 rfl oS.2.2.1 oS.2.2.2 rfl rfl y (Sl.lit (enc := jy) (l := [O]) mi rfl nb rfl (d.at_ (Ma Mh))) c1 (fun g4 f3 e0 d b7 => Wa (jH (jQ (jQ (jo ?_))))))
   replace d := d.jc (Kr (Db (Db St)))
   exact ⟨n, f3, f1, e0, _, ⟨rfl, L⟩, (d.jc St), I, Q, T, rfl, Y, b7, (by rw [a5]; exact c)⟩
  refine sg (Wh Q (Wf Ax (Wf Al (VA d Mh (jb a.Signed.iY) cJ bn (bS c fun h3 d0 c => VE (Eg d call111 (jO.lI (wi A a3 a.Signed.iY _ _ (e8.mono (Pl.mono _) ((x.trans a4).trans d.jk)) d0)) (fun g7 d => V (px rfl) (Wa (ln ?_)))))))))
  replace d := d.jc (Db St)
  refine CI c rfl (fun c3 c => ?_) (fun c3 c => ?_)
  ·refine jq (Wh U (Wh I (Wm (V (lY (v := (.agg (jy (a2)).toArray)) (AL rfl rfl rfl) (li dP dG (Hc _ dG) kr)) (VE (km (cs := (jy (a2)).toArray) d (mH rfl) (nI bU dQ dP) (fun g8 e3 d => ?_)))))))
   replace d := d.perm (Nr (Qb Qz) Nz)
   refine bS c fun f2 c5 c => VE (nL (enc := jy) (v := u) (vs := (.slice (some ⟨e3, 0, none⟩) 1 1)) (R := k) d mi dc rM bU oS.1 oS.2.1 rfl oS.2.2.1 oS.2.2.2 rfl rfl y (Sl.lit (enc := jy) (l := [a2]) mi rfl nb rfl (d.at_ (Ma Mh))) c5 (fun g9 f4 e1 d b9 => Wa (jH (jQ (jQ (jo ?_))))))
   replace d := d.jc (Kr (Db St))
   exact ⟨n, f4, f2, e1, _, ⟨rfl, L⟩, (d.jc St), I, Q, T, rfl, Y, b9, (by rw [a5]; exact c)⟩
  exact kX (jQ (jQ (jo ⟨n, u, Z, k, _, ⟨rfl, L⟩, (d.jc St), I, Q, T, U, Y, y, (by rw [a5]; exact c)⟩)))
 rintro E W ⟨u, Z, k, P, ⟨n, L⟩, d, I, Q, T, U, Y, y, c⟩
 rw [bE] at c
 refine jo ?_
 replace d := d.jc (Kr (Dr St))
 refine sg (Wh U (Wa (lt ?_)))
 obtain rfl := sj c
 exact kv (v := u) rfl rfl ⟨_, k, rfl, d.nj (fun p s => (Ml s)) y.nd, y⟩
theorem xS (a : Value) (g : List iY) (c : Value) (i : iY → Option Bool) (r : Bool) (w : World) (j : Sl (Pl jb) 9 (hp w) a g) (k : wL pg0 c (hp w) (fun (x : iY) => [(.agg (jb x).toArray)]) (fun (r : Bool) => (.bool r)) i) (hm : oG g i = some r) :
  jO false pg0 112 [a, c] w (.bool r) := by
 refine cG 9 func112 rfl (fun b => sg (Wa (lr (Wm (Wm (bS hm fun y t hm => VE (Eg b call180 (uI a g c i _ _ (j.mono (Pl.mono _) b.jk) (k.mono b.jk) t) (fun u b => Wi rfl (Wa (jH ?_))))))))))
 exact jo (kl (rQ hm b))
theorem Fh (c : iY) (g : Nat) (a : Value) (j : List iY) (r : Bool) (w : World) (k : Sl (Pl jb) 9 (hp w) a j) (i : At (hp w) (.pointer (some ⟨g, 0, none⟩)) [a]) (hm : uu c j = some r) :
  jO true pg0 113 [(.agg (jb c).toArray), (.pointer (some ⟨g, 0, none⟩))] w (.bool r) := by
 refine cG 7 func113 rfl (fun b => sg (VE (jZ b rfl (fun u z b => Wa (lr (V (jd rfl (oL b.has (y := a) i isAgg45)) (VA b Mh (jb c) cJ bn (bS hm fun B t hm => VE (Eg b call111 (wi a j c _ _ (k.mono (Pl.mono _) b.jk) t) (fun x b => Wa (jH ?_)))))))))))
 refine jo ?_
 exact kl (rQ hm b)
theorem CS (H : Int) (j : jL) (B D : Value) (r : List ju) (w : World) (y : Sl ku 15 (hp w) B j.jv) (g : Sl lx 8 (hp w) D j.ke) (hm : xt H j = some r) :
  lJ false pg0 43 [(.int .i64 H), (.agg #[(.string j.Name), B, D])] w 40 jy 3 r := by
 refine uU 32 func43 rfl (fun d => sg ?_)
 obtain ⟨A1, c2, rfl⟩ := y.form
 obtain ⟨A3, A, rfl⟩ := g.form
 refine VE (jZ d rfl (fun W6 b5 d => Wa (lr (VA d Mh (C3 j.Name A1 j.jv.length c2 A3 j.ke.length A) ed dF (bS hm fun Y d1 hm => VE (sI d call110 (lJ.lI (Ep j (.slice A1 j.jv.length c2) (.slice A3 j.ke.length A) _ _ (y.mono lK.mono d.jk) (g.mono nw.mono d.jk) d1)) (fun W9 e6 d2 d0 d b4 aa P => VE (kq d ij (fun e4 N d => ?_)))))))))
 obtain ⟨Z, a2, rfl⟩ := P.form
 let q : Value := (.slice Z Y.length a2)
 refine VO (jz q (#[q]) d rfl rfl sizeOf45 oc nb rfl (fun e5 d => lr (Wa (lS (Wf KG (VB d (Mt (Ma Mh)) rfl rfl isAgg23 (V (lT dD rfl g) (Wm ?_))))))))
 refine ln ?_
 replace d := d.jc (Kb (Kr (Db St)))
 refine lu (fun i E W => ∃ u G k T, (E 14 = .int .i64 (i : Nat) ∧ E 13 = .int .i64 (j.ke.length : Nat)) ∧ ST false lG w W d2 ((N, Ob #[q] 45) :: (k ++ (d0 ++ T))) ∧ E 0 = (.int .i64 H) ∧ E 5 = (.pointer (some ⟨N, 0, none⟩)) ∧ E 6 = u ∧ E 12 = (.slice A3 j.ke.length A) ∧ jw 40 jy 3 u G k ∧ pU Y H (j.ke.drop i) i G = some r) j.ke.length g.len ⟨(.slice none 0 0), ([]), [], _, ⟨rfl, rfl⟩, (d.jc St), rfl, rfl, rfl, rfl, (jw.nil _ _ _), hm⟩ dc dc dc (fun _ _ _ h => by obtain ⟨_, _, _, _, L, _⟩ := h; exact L) ?_ ?_
 ·rintro t E W b3 ⟨u, G, k, T, ⟨m, O⟩, d, I, J, K, M, z, a⟩
  let s := (⟨3, H, (t : Int)⟩ : ju)
  obtain ⟨c, d3, c1, c0, a4⟩ := kL b3
  rw [c1] at a
  refine bg (Wh m (VQ (mW (i := (t : Int)) (x0 := c) lx.out dD dO M m (g.mono nw.mono b4) (aV _) c0) (fun e0 ⟨_, ⟨e2, e3, rfl, b9, a3⟩, b6⟩ => V (jd rfl (jJ d.has b6 iR dO)) (VE (kq d gI (fun d4 d9 d => Wa ?_))))))
  obtain ⟨a5, a6, rfl⟩ := b9.form
  obtain ⟨Q, U, rfl⟩ := a3.form
  let a0 := (C6 c.iX.ja c.iX.Word c.ji.Op c.ji.K c.ji.iX.ja c.ji.iX.Word a5 c.ji.Kids.length a6 Q c.mn.length U)
  refine VO (jz (.agg a0.toArray) (a0.toArray) d rfl rfl dO oc nb rfl (fun d5 d => lr (Wf IA (VB d Mh rfl rfl isAgg45 (V (sa (by exact uw J) rfl) (bS a fun e1 b7 a => VE (Eg d call112 (xS (.slice Q c.mn.length U) c.mn (.func (.func 113) #[] #[(.pointer (some ⟨N, 0, none⟩))]) (fun (x : iY) => uu x Y) _ _ (a3.mono (Pl.mono _) d.jk) ⟨113, #[], #[(.pointer (some ⟨N, 0, none⟩))], rfl, call113, fun W x r hs hm => (Fh x N q Y r W (P.sl kA (fun b o n => hs _ _ ((fun b o n => d.at_ (Mt (Mt (Ma (Ml n))))) b o n))) (At.of (hs _ _ (d.at_ (Mt Mh))) _ rfl) hm).lI⟩ b7) (fun d6 d => V (px rfl) (ln ?_)))))))))
  replace d := d.jc (Db St)
  refine CI a rfl (fun b1 a => ?_) (fun b1 a => ?_)
  ·refine jq (Wh K (Wh I (Wm (V (lY (v := (.agg (jy (s)).toArray)) (AL rfl rfl rfl) (li dP dG (Hc _ dG) kr)) (VE (km (cs := (jy (s)).toArray) d (mH rfl) (nI bU dQ dP) (fun d7 c6 d => ?_)))))))
   replace d := d.perm (Nr (Qb (Qb Qz)) Nz)
   refine bS a fun c8 b2 a => VE (nL (enc := jy) (v := u) (vs := (.slice (some ⟨c6, 0, none⟩) 1 1)) (R := k) d mi dc rM bU oS.1 oS.2.1 rfl oS.2.2.1 oS.2.2.2 rfl rfl z (Sl.lit (enc := jy) (l := [s]) mi rfl nb rfl (d.at_ (Ma Mh))) b2 (fun d8 c9 c5 d b0 => Wa (jH (jQ (jo ?_)))))
   replace d := d.jc (Kr (Db St))
   exact ⟨m, c9, c8, c5, _, ⟨rfl, O⟩, (d.jc (Sb (Pr Pz) St)), I, J, rfl, M, b0, (by rw [a4]; exact a)⟩
  exact kX (jQ (jo ⟨m, u, G, k, _, ⟨rfl, O⟩, (d.jc St), I, J, K, M, z, (by rw [a4]; exact a)⟩))
 rintro E W ⟨u, G, k, T, ⟨m, O⟩, d, I, J, K, M, z, a⟩
 rw [bE] at a
 refine jo ?_
 replace d := d.jc (Db (Kr (Dr St)))
 refine sg (Wh K (Wa (lt ?_)))
 obtain rfl := sj a
 exact kv (v := u) rfl rfl ⟨_, k, rfl, d.nj (fun p n => (Ml n)) z.nd, z⟩
theorem Ga (k : jL) (j B : Value) (t : jL) (a c : Value) (r : ((List iY) × (List (iX × (List (ByteArray × Bool)))) × (List iY) × (List (iX × (List iY))) × (List (ByteArray × (List iY))) × (List jg) × Int × ByteArray)) (w : World) (g : Sl ku 15 (hp w) j k.jv) (y : Sl lx 8 (hp w) B k.ke) (i : Sl ku 15 (hp w) a t.jv) (z : Sl lx 8 (hp w) c t.ke) (hm : xM k t = some r) :
  kw false pg0 53 [(.agg #[(.string k.Name), j, B]), (.agg #[(.string t.Name), a, c])] w [] (fun v L1 W' => ∃ A S2 m l E S7 L M a2 N a3 Q a4 T Y, v = (.tuple #[A, (.func (.func 127) #[] #[(.pointer (some ⟨m, 0, none⟩)), (.pointer (some ⟨Y, 0, none⟩))])]) ∧ L1 = ((m, Ob #[(.pointer (some ⟨l, 0, none⟩))] 183) :: ((l, Ob #[E, L, a2, a3, a4, (.int .i64 (r.2.2.2.2.2.2.1))] 246) :: ((Y, Ob #[(.string (r.2.2.2.2.2.2.2)), a, c] 25) :: (S2 ++ (S7 ++ (M ++ (N ++ (Q ++ (T ++ []))))))))) ∧ jw 52 jb 9 A r.1 S2 ∧ kE (fun (x : iX) => (.agg (jf x).toArray)) (kD Value.string (fun (x : Bool) => (Value.bool x))) E r.2.1 S7 ∧ jw 52 jb 9 L r.2.2.1 M ∧ kE (fun (x : iX) => (.agg (jf x).toArray)) (jw 52 jb 9) a2 r.2.2.2.1 N ∧ kE Value.string (jw 52 jb 9) a3 r.2.2.2.2.1 Q ∧ oI 285 kF 3 a4 r.2.2.2.2.2.1 T) := by
 refine uU 21 func53 rfl (fun d => sg ?_)
 obtain ⟨A1, c2, rfl⟩ := g.form
 obtain ⟨A3, n, rfl⟩ := y.form
 refine VE (jZ d rfl (fun W6 l d => ?_))
 obtain ⟨A7, p, rfl⟩ := i.form
 obtain ⟨A9, I, rfl⟩ := z.form
 refine VE (jZ d rfl (fun f4 U d => Wa (Wa (lr (VA d (Mt Mh) (C3 k.Name A1 k.jv.length c2 A3 k.ke.length n) ed dF (VA d Mh (C3 t.Name A7 t.jv.length p A9 t.ke.length I) ed dF (bS hm fun d7 R hm => ?_)))))))
 refine VE (FX d (bX _) call17 (fun _ _ _ _ => (CZ k (.slice A1 k.jv.length c2) (.slice A3 k.ke.length n) t (.slice A7 t.jv.length p) (.slice A9 t.ke.length I) _ _ (g.mono lK.mono d.jk) (y.mono nw.mono d.jk) (i.mono lK.mono d.jk) (z.mono nw.mono d.jk) R)) (fun f5 g0 g3 f1 d e6 q h O => ?_) (L0 := []))
 obtain ⟨g2, f3, K, c9, D, rfl, f0, J⟩ := O
 replace D := D.symm; subst D
 replace d := d.perm (Tr (Tr Tn))
 refine Wm (Wx rfl (Wx rfl (Wx rfl (Wa (Wa (Wa (ln ?_)))))))
 replace d := d.jc (Dr (Kr (Kb (Db St))))
 refine sg (Wm (bS hm fun f9 W hm => ?_))
 refine VE (FX d (bX _) call126 (fun _ _ _ _ => (Eu K d7.2.1 _ _ (J.sl kA (fun b o hq => d.at_ (Ml hq))) W)) (fun f6 g1 g4 f2 d e7 s h P => ?_) (L0 := []))
 obtain ⟨H, d9, d0, e0, d1, e1, d2, e2, d3, e3, d4, G, rfl, c0, c1, c3, c5, c6⟩ := P
 replace G := G.symm; subst G
 replace d := d.perm (Tb (Tr (Tr (Tr (Tr (Tr Tn))))))
 refine VE (kq d zeroValue183 (fun f7 Z d => VO (jz (.pointer (some ⟨H, 0, none⟩)) (#[(.pointer (some ⟨H, 0, none⟩))]) d rfl rfl sizeOf183 oc nb rfl (fun f8 d => lr (Wm (V (sa (by exact vk rfl rfl) rfl) (Wa (Wa (lt ?_)))))))))
 obtain rfl := sj hm
 exact B9 (v := K) (u := (.func (.func 127) #[] #[(.pointer (some ⟨Z, 0, none⟩)), (.pointer (some ⟨U, 0, none⟩))])) rfl rfl rfl ⟨_, _, rfl, (d.KH (Kb (Kb (Sb (Pr (Pr (Pr (Pr (Pr (Pr Pz)))))) (Sr (Qr (Qr (Qr (Qr (Qr Qz))))) (Kr (Kr (Kr (Kr (Kr Sn)))))))))), K, c9, Z, H, d9, d0, e0, d1, e1, d2, e2, d3, e3, d4, U, rfl, rfl, J, c0, c1, c3, c5, c6⟩
theorem DD (Z : iX) (d I : Nat) (u : Value) (G : List (iX × (List (ByteArray × Bool)))) (a : Value) (k : List iY) (j : Value) (B : List (iX × (List iY))) (c : Value) (t : List (ByteArray × (List iY))) (i : Value) (z : List jg) (Q : Int) (a2 : Nat) (g : ByteArray) (D : Value) (J : List kP) (H : Value) (N : List nA) (r : Bool) (w : World) (Y : oV (fun (x : iX) => (.agg (jf x).toArray)) (kD Value.string (fun (x : Bool) => (Value.bool x))) (hp w) u G) (K : Sl (Pl jb) 9 (hp w) a k) (U : oV (fun (x : iX) => (.agg (jf x).toArray)) (jw 52 jb 9) (hp w) j B) (M : oV Value.string (jw 52 jb 9) (hp w) c t) (T : Sl (Pl kF) 3 (hp w) i z) (a3 : At (hp w) (.pointer (some ⟨I, 0, none⟩)) [u, a, j, c, i, (.int .i64 Q)]) (a4 : At (hp w) (.pointer (some ⟨d, 0, none⟩)) [(.pointer (some ⟨I, 0, none⟩))]) (l : Sl ku 15 (hp w) D J) (m : Sl lx 8 (hp w) H N) (a5 : At (hp w) (.pointer (some ⟨a2, 0, none⟩)) [(.string g), D, H]) (hm : sT Z G k B t z Q g J N = some r) :
  jO true pg0 127 [(.agg (jf Z).toArray), (.pointer (some ⟨d, 0, none⟩)), (.pointer (some ⟨a2, 0, none⟩))] w (.bool r) := by
 refine cG 10 func127 rfl (fun b => sg (VE (jZ b rfl (fun W2 n b => Wa (lr (V (jd rfl (oL b.has (y := (.pointer (some ⟨I, 0, none⟩))) a4 isAgg183)) (VA b Mh (jf Z) bT bB (VQ (vO [(.string g)] EL rfl a5 rfl) (fun o h => V (jd rfl (oL b.has (y := (.string g)) h cY)) (bS hm fun p a9 hm => VE (Eg b call128 (yG I u G a k j B c t i z Q Z g _ _ (Y.mono b.jk) (K.mono (Pl.mono _) b.jk) (U.mono b.jk) (M.mono b.jk) (T.mono (Pl.mono _) b.jk) (a3.mono b.jk) a9) (fun W8 b => ?_))))))))))))
 refine Wa (ln ?_)
 exact kl (rQ hm b)
theorem DX (y : jL) (t D : Value) (c : jL) (u G : Value) (i : Formula) (H : Value) (r : Bool) (w : World) (k : Sl ku 15 (hp w) t y.jv) (z : Sl lx 8 (hp w) D y.ke) (g : Sl ku 15 (hp w) u c.jv) (j : Sl lx 8 (hp w) G c.ke) (B : Sl iZ 5 (hp w) H i.Kids) (hm : rL y c i = some r) :
  jO false pg0 19 [(.agg #[(.string y.Name), t, D]), (.agg #[(.string c.Name), u, G]), (.agg #[(.int .i64 i.Op), (.int .i64 i.K), (.string i.iX.ja), (.string i.iX.Word), H])] w (.bool r) := by
 refine cG 18 func19 rfl (fun d => sg ?_)
 obtain ⟨A1, c2, rfl⟩ := k.form
 obtain ⟨A3, n, rfl⟩ := z.form
 refine VE (jZ d rfl (fun W6 b5 d => ?_))
 obtain ⟨U, Z, rfl⟩ := g.form
 obtain ⟨Y, K, rfl⟩ := j.form
 refine VE (jZ d rfl (fun d4 d8 d => ?_))
 obtain ⟨M, T, rfl⟩ := B.form
 refine VE (jZ d rfl (fun d5 d9 d => Wa (lr (VA d (Mt (Mt Mh)) (C3 y.Name A1 y.jv.length c2 A3 y.ke.length n) ed dF (VA d (Mt Mh) (C3 c.Name U c.jv.length Z Y c.ke.length K) ed dF (bS hm fun a s hm => ?_))))))
 refine VE (FX d (bX _) call53 (fun _ _ _ _ => (Ga y (.slice A1 y.jv.length c2) (.slice A3 y.ke.length n) c (.slice U c.jv.length Z) (.slice Y c.ke.length K) _ _ (k.mono lK.mono d.jk) (z.mono nw.mono d.jk) (g.mono lK.mono d.jk) (j.mono nw.mono d.jk) s)) (fun d6 e1 e3 c6 d I p m q => ?_) (L0 := []))
 obtain ⟨e2, c7, N, P, R, c9, b9, d0, c0, d1, c1, d2, c3, d3, Q, J, rfl, c5, v, A, E, L, O⟩ := q
 replace J := J.symm; subst J
 replace d := d.perm (Tb (Tb (Tb (Tr (Tr (Tr (Tr (Tr (Tr Tn)))))))))
 refine Wm (Wx rfl (Wx rfl (Wa (Wa (ln ?_)))))
 replace d := d.jc (Kb (Kb (Kb (Dr (Kr (Kr (Kr (Kr (Kr (Kb (Db (Db St))))))))))))
 refine sg (VA d (Mt (Mt (Mt (Ma (Ma (Ma (Ma (Ma Mh)))))))) (C1 i.Op i.K i.iX.ja i.iX.Word M i.Kids.length T) aZ aD (Wm (bS hm fun e0 a9 hm => VE (Eg d call54 (Av i (.slice M i.Kids.length T) (.func (.func 127) #[] #[(.pointer (some ⟨N, 0, none⟩)), (.pointer (some ⟨Q, 0, none⟩))]) (fun (x : iX) => sT x a.2.1 a.2.2.1 a.2.2.2.1 a.2.2.2.2.1 a.2.2.2.2.2.1 a.2.2.2.2.2.2.1 a.2.2.2.2.2.2.2 c.jv c.ke) _ _ (B.mono jj.mono (I.trans d.jk)) ⟨127, #[], #[(.pointer (some ⟨N, 0, none⟩)), (.pointer (some ⟨Q, 0, none⟩))], rfl, call127, fun W x r l hm => (DD x N P R a.2.1 b9 a.2.2.1 c0 a.2.2.2.1 c1 a.2.2.2.2.1 c3 a.2.2.2.2.2.1 a.2.2.2.2.2.2.1 Q a.2.2.2.2.2.2.2 (.slice U c.jv.length Z) c.jv (.slice Y c.ke.length K) c.ke r W (v.at (fun b o h => l _ _ ((fun b o h => d.at_ (Mt (Mt (Mt (Ml h))))) b o h))) (A.sl kA (fun b o h => l _ _ ((fun b o h => d.at_ (Mt (Mt (Mt (Ma (Ml h)))))) b o h))) (E.at (fun b o h => l _ _ ((fun b o h => d.at_ (Mt (Mt (Mt (Ma (Ma (Ml h))))))) b o h))) (L.at (fun b o h => l _ _ ((fun b o h => d.at_ (Mt (Mt (Mt (Ma (Ma (Ma (Ml h)))))))) b o h))) ((O.By vA).mono (Pl.mono _) (kT (fun b o h => l _ _ ((fun b o h => d.at_ (Mt (Mt (Mt (Ma (Ma (Ma (Ma (Ml h))))))))) b o h)))) (At.of (l _ _ (d.at_ (Mt Mh))) _ rfl) (At.of (l _ _ (d.at_ Mh)) _ rfl) (g.mono lK.mono ((I.trans d.jk).trans l)) (j.mono nw.mono ((I.trans d.jk).trans l)) (At.of (l _ _ (d.at_ (Mt (Mt Mh)))) _ rfl) hm).lI⟩ a9) (fun d7 d => Wa (ln ?_))))))
 exact kl (rQ hm d)
theorem GO (a : wc) (D H k B t M : Value) (r : List ju) (w : World) (z : Sl ku 15 (hp w) D a.ja.jv) (G : Sl lx 8 (hp w) H a.ja.ke) (j : Sl ku 15 (hp w) k a.Client.jv) (y : Sl lx 8 (hp w) B a.Client.ke) (g : Sl iZ 5 (hp w) t a.Formula.Kids) (Y : Sl yz 2 (hp w) M a.Keys) (hm : wv a = some r) :
  lJ false pg0 44 [(.agg #[(.string a.ja.Name), D, H, (.string a.Client.Name), k, B, (.int .i64 a.Formula.Op), (.int .i64 a.Formula.K), (.string a.Formula.iX.ja), (.string a.Formula.iX.Word), t, (.int .i64 a.IW), (.int .i64 a.zA.Mo), (.int .i64 a.zA.Mi), (.int .i64 a.CA), (.int .i64 a.Gi), (.int .i64 a.Eo), M])] w 40 jy 3 r := by
 refine uU 32 func44 rfl (fun b => sg ?_)
 obtain ⟨A1, c2, rfl⟩ := z.form
 obtain ⟨A3, L, rfl⟩ := G.form
 obtain ⟨A5, O, rfl⟩ := j.form
 obtain ⟨A7, P, rfl⟩ := y.form
 obtain ⟨A9, N, rfl⟩ := g.form
 let A : Value := (.slice A9 a.Formula.Kids.length N)
 let a4 := (C1 a.Formula.Op a.Formula.K a.Formula.iX.ja a.Formula.iX.Word A9 a.Formula.Kids.length N)
 obtain ⟨d0, d2, rfl⟩ := Y.form
 refine VE (jZ b rfl (fun f3 d1 b => Wa (lr (Wf GR (VA b Mh a4 aZ aD (bS hm fun c d6 hm => ?_))))))
 let q : Value := (.int .i64 ((c.1).K))
 let o : Value := (.int .i64 ((c.1).Op))
 let n : Value := (.string (((c.1).iX).Word))
 let m : Value := (.string (((c.1).iX).ja))
 refine VE (eD b (bX _) call114 (fun R => (zI a.Formula A _ _ R (g.mono jj.mono (jC.refl _)) d6)) ?_ (L0 := []))
 rintro _ f7 d3 f2 b K ab ⟨f8, a2, rfl, a8⟩
 obtain rfl := a2.symm
 refine Wm (Wx rfl (Wx rfl (VE (kq b bL (fun f5 e0 b => ?_)))))
 obtain ⟨T, U, rfl⟩ := a8.form
 let a0 : Value := (.slice T ((c.1).Kids).length U)
 refine VO (jz (.agg #[o, q, m, n, a0]) (#[o, q, m, n, a0]) b rfl rfl aD oc nb rfl (fun f6 b => Wa (ln (jt (kW (jt ?_))))))
 replace b := b.drew
 have d := b.has.jc (Kb Sn)
 refine kC d jK (X 0 rfl d (jh rfl) (X 1 rfl d (lA rfl rfl rfl) (X 2 rfl d (jh rfl) (PJ hm (fun a9 E W => ∃ a3 a5, jC d3 a3 ∧ ST false lG w W a3 ((e0, Ob #[o, q, m, n, a0] 30) :: ((d1, Ob #[(.string a.ja.Name), (.slice A1 a.ja.jv.length c2), (.slice A3 a.ja.ke.length L), (.string a.Client.Name), (.slice A5 a.Client.jv.length O), (.slice A7 a.Client.ke.length P), (.int .i64 a.Formula.Op), (.int .i64 a.Formula.K), (.string a.Formula.iX.ja), (.string a.Formula.iX.Word), A, (.int .i64 a.IW), (.int .i64 a.zA.Mo), (.int .i64 a.zA.Mi), (.int .i64 a.CA), (.int .i64 a.Gi), (.int .i64 a.Eo), (.slice d0 a.Keys.length d2)] 34) :: a5)) ∧ E 1 = (.pointer (some ⟨d1, 0, none⟩)) ∧ E 18 = (.bool a9)) (bm 8 127) 1 ?_ (fun a9 x Z => ?_)))))
 ·rintro f1 E W ⟨a3, a5, I, b, s, d4⟩ i
  have d := b.has.qZ I (Kb Sn)
  refine X 7 rfl d (oa d4) (kJ kr (jo ?_))
  replace b := b.jc (Db St)
  refine CI i rfl (fun c0 i => ?_) (fun c0 i => ?_)
  ·refine sg (V (lY (v := (.agg (jy K3).toArray)) (mH rfl) (li dP dG (Hc _ dG) kr)) (VE (km (cs := (jy K3).toArray) b (mH rfl) (nI bU dQ dP) (fun e3 a6 b => Wa (ln ?_)))))
   replace b := b.jc (Kb (Db St))
   refine kl (og (lc ?_))
   obtain rfl := sj i
   exact kv (v := (.slice (some ⟨a6, 0, none⟩) 1 1)) rfl rfl ⟨_, [(a6, Ol (jy K3) 40)], rfl, b.nj (fun p h => by rw [cK] at h; subst h; exact Mh) (by simp), (jw.lit (l := [K3]) (enc := jy) rfl dc rfl rfl)⟩
  refine sg (V (jm Cs s) (VA b Mh (C3 a.ja.Name A1 a.ja.jv.length c2 A3 a.ja.ke.length L) ed dF (V (jm B0 s) (VA b Mh (C3 a.Client.Name A5 a.Client.jv.length O A7 a.Client.ke.length P) ed dF (V (jm GR s) (VA b Mh a4 aZ aD (bS i fun e8 c3 i => VE (Eg b call19 (DX a.ja (.slice A1 a.ja.jv.length c2) (.slice A3 a.ja.ke.length L) a.Client (.slice A5 a.Client.jv.length O) (.slice A7 a.Client.ke.length P) a.Formula A _ _ (z.mono lK.mono ((K.trans I).trans b.jk)) (G.mono nw.mono ((K.trans I).trans b.jk)) (j.mono lK.mono ((K.trans I).trans b.jk)) (y.mono nw.mono ((K.trans I).trans b.jk)) (g.mono jj.mono ((K.trans I).trans b.jk)) c3) (fun e4 b => V (px rfl) (Wa (ln ?_)))))))))))
  replace b := b.jc (Db St)
  refine CI i rfl (fun c1 i => ?_) (fun c1 i => ?_)
  ·refine sg (V (lY (v := (.agg (jy K4).toArray)) (mH rfl) (li dP dG (Hc _ dG) kr)) (VE (km (cs := (jy K4).toArray) b (mH rfl) (nI bU dQ dP) (fun e5 a7 b => Wa (lt (og (lc ?_)))))))
   obtain rfl := sj i
   exact kv (v := (.slice (some ⟨a7, 0, none⟩) 1 1)) rfl rfl ⟨_, [(a7, Ol (jy K4) 40)], rfl, b.nj (fun p h => by rw [cK] at h; subst h; exact Mh) (by simp), (jw.lit (l := [K4]) (enc := jy) rfl dc rfl rfl)⟩
  refine kX (jQ (jo (sg (Wa (lt ?_)))))
  obtain rfl := sj i
  exact kv (v := (.slice none 0 0)) rfl rfl ⟨_, [], rfl, b.nj (fun p h => by cases h) (by simp), jw.nil _ _ _⟩
 refine bC x (fun u x => ?_) (fun u x => ?_)
 ·refine xY 3 rfl rfl (cB u) d (fun _ hS => jd rfl (jl hS Mh [o, q, m, n, a0] rfl aZ aD)) (bS x fun d7 c5 x => ?_)
  refine Ih 4 rfl rfl (cB u) (eD b (bX _) call115 (fun R => lj.lI (zi  _ _ R  c5)) ?_ (L0 := []))
  rintro _ f0 d9 e2 b J aa ⟨d8, Q, rfl, c9⟩
  obtain rfl := Q.symm
  have d := b.has.qZ J (Kb Sn)
  refine ⟨d, (bS x fun e9 c7 x => Ih 5 rfl rfl (cB u) (Eg b call61 ((wM jB) c.1 a0 d7 d8 _ _ (a8.mono jj.mono (J.trans b.jk)) (c9.mono jj.mono b.jk) c7) (fun e7 b => ?_)))⟩
  have d := b.has.qZ J (Kb Sn)
  refine ⟨d, (X 6 rfl d (jW (cB u) rfl) ?_)⟩
  obtain rfl := sj x
  refine vm kr (Z _ _ ⟨d9, _, J, (b.jc St), rfl, rfl⟩)
 refine Xn 3 rfl rfl (cB u) d (Xn 4 rfl rfl (cB u) d (Xn 5 rfl rfl (cB u) d (X 6 rfl d (jY (cB u) rfl) ?_)))
 obtain rfl := sj x
 refine vm kr (Z _ _ ⟨d3, _, (jC.refl _), (b.jc St), rfl, rfl⟩)
theorem yk (I : Int) (r : List ju) (w : World) (hm : oY I = some r) :
  lJ true pg0 109 [(.slice none 0 0), (.int .i64 I)] w 40 jy 3 r := by
 refine uU 27 func109 rfl (fun b => sg (Wa (lS (Wm (Wi rfl (ln (CI hm rfl (fun K hm => ?_) (fun K hm => ?_))))))))
 ·cases hm
 refine kn (jt (CJ hm (fun u E W => ∃ g c t, ST true lG w W (hp w) (c ++ t) ∧ E 0 = g ∧ jw 40 jy 3 g u c) (fun u a => ?_) ?_))
 ·refine sg (Wm (Wm (V (Gt bU rfl) (Wm (V (xa bU rfl) (Wi rfl (Wi rfl (Wa (lr (Wm ?_))))))))))
  refine Wi rfl (ln (CI a rfl (fun y a => ?_) (fun y a => ?_)))
  ·refine jq (Wm (Wm (V (Gt bU rfl) (V (Jw bU dQ rfl rfl) (Wm (bS a fun T B a => VE (G8 (enc := jy) (z := (⟨0, 0, 0⟩ : ju)) b mi dc bU ee oS.1 oS.2.1 oS.2.2.1 oS.2.2.2 rfl rfl rfl B (fun N U H b x => Wm (V (xa bU rfl) (bS a fun _ j a => VQ (zu (i := 0) bU dQ rfl rfl x mi (tR j) (tO j)) (fun M G => Wa (ln ?_))))))))))))
   obtain rfl := sj a
   exact ⟨M, H, _, (b.jc St), rfl, G⟩
  refine kn ?_
  obtain rfl := sj a
  exact ⟨(.slice none 0 0), [], _, (b.jc St), rfl, (jw.nil _ _ _)⟩
 rintro Q E W ⟨g, c, t, b, J, k⟩ D
 refine sg (Wh J (Wa (lt ?_)))
 obtain rfl := sj D
 exact kv (v := g) rfl rfl ⟨_, c, rfl, b.nj (fun p d => (Ml d)) k.nd, k⟩
theorem zc (t : Value) (z : List (List ju)) (r : List ju) (w : World) (j : Sl (FW jy 3) 1 (hp w) t z) (hm : pD z = some r) :
  lJ true pg0 41 [t] w 40 jy 3 r := by
 refine uU 36 func41 rfl (fun b => sg (Wa (lr (Wa (lS (Wm ?_))))))
 refine V (lT gp rfl j) (Wm (ln (lu (fun i E W => ∃ u Q, (E 11 = .int .i64 (i : Nat) ∧ E 10 = .int .i64 (z.length : Nat)) ∧ ST true lG w W (hp w) Q ∧ E 0 = t ∧ E 3 = (.int .i64 u) ∧ E 9 = t ∧ mB z (z.drop i) u = some r) z.length j.len ⟨0, _, ⟨rfl, rfl⟩, (b.jc St), rfl, rfl, rfl, hm⟩ dc dc dc (fun _ _ _ h => by obtain ⟨_, _, l, _⟩ := h; exact l) ?_ ?_)))
 ·rintro d1 E W b9 ⟨u, Q, ⟨d, m⟩, b, T, U, Y, a⟩
  obtain ⟨n, e0, c4, c3, c5⟩ := kL b9
  rw [c4] at a
  refine bg (VQ (Gp (enc := jy) (k2 := 3) (i := (d1 : Int)) (x0 := n) gp sizeOf37 Y d j (aV _) c3) (fun e2 ⟨d3, c0, c2⟩ => V (jd rfl (oL b.has (y := d3) c0 isAgg37)) (Wa (lr (Wh U (Wm (V (lT bU rfl c2) (Wi rfl (Wa ?_)))))))))
  refine lr (Wm (Wi rfl (ln (CI a rfl (fun b7 a => ?_) (fun b7 a => ?_)))))
  ·cases a
  exact kX (jQ (jo ⟨d, (wi0 .i64 (u + (n.length : Int))), _, ⟨rfl, m⟩, (b.jc St), T, rfl, Y, (by rw [c5]; exact a)⟩))
 rintro E W ⟨u, Q, ⟨d, m⟩, b, T, U, Y, a⟩
 rw [bE] at a
 refine jo (sg (Wh U (bS a fun d2 c1 a => VE (sI b call109 (yk u _ _  c1) (fun e1 d4 o d0 b a4 q b6 => Wa (lS (Wh T (V (lT gp rfl j) (Wm ?_)))))))))
 refine ln (CJ a (fun K E W => ∃ G x N, ST true lG w W o (x ++ N) ∧ E 6 = G ∧ jw 40 jy 3 G K x) (fun K A => ?_) ?_)
 ·refine lu (fun i E W => ∃ k D g H, (E 27 = .int .i64 (i : Nat) ∧ E 26 = .int .i64 (z.length : Nat)) ∧ ST true lG w W o (g ++ H) ∧ E 6 = k ∧ E 25 = t ∧ jw 40 jy 3 k D g ∧ mF (z.drop i) D = some K) z.length j.len ⟨d4, d2, d0, _, ⟨rfl, rfl⟩, (b.jc St), rfl, rfl, b6, A⟩ dc dc dc (fun _ _ _ h => by obtain ⟨_, _, _, _, l, _⟩ := h; exact l) ?_ ?_
  ·rintro c6 E W a3 ⟨k, D, g, H, ⟨d, m⟩, b, I, J, B, c⟩
   obtain ⟨c9, d5, P, a9, b1⟩ := kL a3
   rw [P] at c
   refine bg (VQ (Gp (enc := jy) (k2 := 3) (i := (c6 : Int)) (x0 := c9) gp sizeOf37 J d (j.mono (FW.mono _ _) a4) (aV _) a9) (fun d8 ⟨Z, L, O⟩ => V (jd rfl (oL b.has (y := Z) L isAgg37)) (Wa (ln (jq (Wh I (Wm (bS c fun c7 a2 c => VE (nL (enc := jy) (v := k) (vs := Z) (R := g) b mi dc rM bU oS.1 oS.2.1 rfl oS.2.2.1 oS.2.2.2 rfl rfl B (O.mono (Pl.mono _) b.jk) a2 (fun d6 c8 b4 b s => Wa (jH ?_)))))))))))
   exact jQ (jo ⟨d, c8, c7, b4, _, ⟨rfl, m⟩, (b.jc St), rfl, J, s, (by rw [b1]; exact c)⟩)
  rintro E W ⟨k, D, g, H, ⟨d, m⟩, b, I, J, B, c⟩
  rw [bE] at c
  refine jo ?_
  obtain rfl := sj c
  exact ⟨k, g, _, (b.jc St), I, B⟩
 rintro d7 E W ⟨G, x, N, b, b5, M⟩ a5
 refine sg (Wh b5 (Wa (lt ?_)))
 obtain rfl := sj a5
 exact kv (v := G) rfl rfl ⟨_, x, rfl, b.nj (fun p hq => (Ml hq)) M.nd, M⟩
theorem Dc (a : wc) (H I B G D U : Value) (r : List ju) (w : World) (k : Sl ku 15 (hp w) H a.ja.jv) (t : Sl lx 8 (hp w) I a.ja.ke) (g : Sl ku 15 (hp w) B a.Client.jv) (j : Sl lx 8 (hp w) G a.Client.ke) (z : Sl iZ 5 (hp w) D a.Formula.Kids) (T : Sl yz 2 (hp w) U a.Keys) (hm : tp a = some r) :
  lJ false pg0 12 [(.agg #[(.string a.ja.Name), H, I, (.string a.Client.Name), B, G, (.int .i64 a.Formula.Op), (.int .i64 a.Formula.K), (.string a.Formula.iX.ja), (.string a.Formula.iX.Word), D, (.int .i64 a.IW), (.int .i64 a.zA.Mo), (.int .i64 a.zA.Mi), (.int .i64 a.CA), (.int .i64 a.Gi), (.int .i64 a.Eo), U])] w 40 jy 3 r := by
 refine uU 37 func12 rfl (fun d => sg ?_)
 obtain ⟨Y, c2, rfl⟩ := k.form
 let a4 : Value := (.slice Y a.ja.jv.length c2)
 obtain ⟨Z, c4, rfl⟩ := t.form
 let a5 : Value := (.slice Z a.ja.ke.length c4)
 let q := (C3 a.ja.Name Y a.ja.jv.length c2 Z a.ja.ke.length c4)
 obtain ⟨A5, c6, rfl⟩ := g.form
 let a2 : Value := (.slice A5 a.Client.jv.length c6)
 obtain ⟨A7, c8, rfl⟩ := j.form
 let a3 : Value := (.slice A7 a.Client.ke.length c8)
 let a0 := (C3 a.Client.Name A5 a.Client.jv.length c6 A7 a.Client.ke.length c8)
 obtain ⟨A9, d1, rfl⟩ := z.form
 obtain ⟨d0, d2, rfl⟩ := T.form
 refine VE (jZ d rfl (fun i0 i2 d => Wa (lr (Wf Cs (VA d Mh q ed dF (Wf B0 (VA d Mh a0 ed dF (bS hm fun e0 e5 hm => ?_))))))))
 refine VE (FX d (bX _) call17 (fun _ _ _ _ => (CZ a.ja a4 a5 a.Client a2 a3 _ _ (k.mono lK.mono d.jk) (t.mono nw.mono d.jk) (g.mono lK.mono d.jk) (j.mono nw.mono d.jk) e5)) (fun i1 i3 i4 h7 d u aa a6 e4 => ?_) (L0 := []))
 obtain ⟨e9, h8, f0, h9, A, rfl, e6, e7⟩ := e4
 replace A := A.symm; subst A
 replace d := d.perm (Tr (Tr Tn))
 refine Wm (Wx rfl (Wx rfl (Wx rfl (Wa (Wa (Wa (ln (jt ?_))))))))
 replace d := d.drew
 have h := d.has.jc (Dr (Dr (Kb Sn)))
 refine kC h jK (X 0 rfl h (jm Cs rfl) (XH 1 rfl h (fun _ n => jd rfl (jl n Mh q rfl ed dF)) (X 2 rfl h (jm B0 rfl) (XH 3 rfl h (fun _ n => jd rfl (jl n Mh a0 rfl ed dF)) (X 4 rfl h (jh rfl) (X 6 rfl h (jm Cs rfl) (XH 7 rfl h (fun _ n => jd rfl (jl n Mh q rfl ed dF)) (X 9 rfl h (jm B0 rfl) (XH 10 rfl h (fun _ n => jd rfl (jl n Mh a0 rfl ed dF)) (X 11 rfl h (jm Cs rfl) (XH 12 rfl h (fun _ n => jd rfl (jl n Mh q rfl ed dF)) (X 13 rfl h (jh rfl) (X 15 rfl h (jm B0 rfl) (XH 16 rfl h (fun _ n => jd rfl (jl n Mh a0 rfl ed dF)) ?_))))))))))))))
 refine XH 18 rfl h (fun _ n => jd rfl (jl n Mh [(.string a.ja.Name), a4, a5, (.string a.Client.Name), a2, a3, (.int .i64 a.Formula.Op), (.int .i64 a.Formula.K), (.string a.Formula.iX.ja), (.string a.Formula.iX.Word), (.slice A9 a.Formula.Kids.length d1), (.int .i64 a.IW), (.int .i64 a.zA.Mo), (.int .i64 a.zA.Mi), (.int .i64 a.CA), (.int .i64 a.Gi), (.int .i64 a.Eo), (.slice d0 a.Keys.length d2)] rfl isAgg34 sizeOf34)) (bS hm fun J d4 hm => XE 5 rfl (sI d call42 (Cd 0 a.ja a4 a5 a.Client a2 a3 e9 e0.1 _ _ (k.mono lK.mono (u.trans d.jk)) (t.mono nw.mono (u.trans d.jk)) (g.mono lK.mono (u.trans d.jk)) (j.mono nw.mono (u.trans d.jk)) (e6.sl kA (fun b o m => d.at_ (Ml m))) d4) (fun f6 g4 h1 f1 d c E c0 => ?_)))
 have h := d.has.qZ c (Dr (Dr (Dr (Kb Sn))))
 refine ⟨h, (bS hm fun K d5 hm => XE 8 rfl (sI d call43 (CS 0 a.ja a4 a5 _ _ (k.mono lK.mono ((u.trans c).trans d.jk)) (t.mono nw.mono ((u.trans c).trans d.jk)) d5) (fun f7 g7 h2 f2 d i L c1 => ?_)))⟩
 have h := d.has.qZ (c.trans i) (Dr (Dr (Dr (Dr (Kb Sn)))))
 refine ⟨h, (bS hm fun M d6 hm => XE 14 rfl (sI d call42 (Cd 1 a.Client a2 a3 a.ja a4 a5 f0 e0.2.1 _ _ (g.mono lK.mono (((u.trans c).trans i).trans d.jk)) (j.mono nw.mono (((u.trans c).trans i).trans d.jk)) (k.mono lK.mono (((u.trans c).trans i).trans d.jk)) (t.mono nw.mono (((u.trans c).trans i).trans d.jk)) (e7.sl kA (fun b o m => d.at_ (Ma (Ma (Ma (Ml m)))))) d6) (fun f8 g8 h3 f3 d x O c3 => ?_)))⟩
 have h := d.has.qZ ((c.trans i).trans x) (Dr (Dr (Dr (Dr (Dr (Kb Sn))))))
 refine ⟨h, (bS hm fun N d7 hm => XE 17 rfl (sI d call43 (CS 1 a.Client a2 a3 _ _ (g.mono lK.mono ((((u.trans c).trans i).trans x).trans d.jk)) (j.mono nw.mono ((((u.trans c).trans i).trans x).trans d.jk)) d7) (fun f9 g9 h4 f4 d y P c5 => ?_)))⟩
 have h := d.has.qZ (((c.trans i).trans x).trans y) (Dr (Dr (Dr (Dr (Dr (Dr (Kb Sn)))))))
 refine ⟨h, (bS hm fun Q d8 hm => XE 19 rfl (sI d call44 (GO a a4 a5 a2 a3 (.slice A9 a.Formula.Kids.length d1) (.slice d0 a.Keys.length d2) _ _ (k.mono lK.mono (((((u.trans c).trans i).trans x).trans y).trans d.jk)) (t.mono nw.mono (((((u.trans c).trans i).trans x).trans y).trans d.jk)) (g.mono lK.mono (((((u.trans c).trans i).trans x).trans y).trans d.jk)) (j.mono nw.mono (((((u.trans c).trans i).trans x).trans y).trans d.jk)) (z.mono jj.mono (((((u.trans c).trans i).trans x).trans y).trans d.jk)) (T.mono PU.mono (((((u.trans c).trans i).trans x).trans y).trans d.jk)) d8) (fun g0 h0 h5 f5 d s R c7 => ?_)))⟩
 have h := d.has.qZ ((((c.trans i).trans x).trans y).trans s) (Dr (Dr (Dr (Dr (Dr (Dr (Dr (Kb Sn))))))))
 refine ⟨h, ?_⟩
 obtain ⟨a8, b3, rfl⟩ := c0.form
 obtain ⟨a9, b4, rfl⟩ := c1.form
 obtain ⟨b0, b5, rfl⟩ := c3.form
 obtain ⟨b1, b6, rfl⟩ := c5.form
 obtain ⟨b2, b7, rfl⟩ := c7.form
 refine XE 20 rfl (km (cs := #[(.slice a8 J.length b3), (.slice a9 K.length b4), (.slice b0 M.length b5), (.slice b1 N.length b6), (.slice b2 Q.length b7)]) d (NV rfl rfl rfl rfl rfl) (nI gp sizeOf37 zeroValue37) (fun g1 e3 d => ?_))
 have h := d.has.qZ ((((c.trans i).trans x).trans y).trans s) (Db (Dr (Dr (Dr (Dr (Dr (Dr (Dr (Kb Sn)))))))))
 refine ⟨h, (bS hm fun g3 d9 hm => XE 21 rfl (sI d call41 (lJ.lI (zc (.slice (some ⟨e3, 0, none⟩) 5 5) ([J, K, M, N, Q]) _ _ (FW.lit (l := [J, K, M, N, Q]) (vs := [(.slice a8 J.length b3), (.slice a9 K.length b4), (.slice b0 M.length b5), (.slice b1 N.length b6), (.slice b2 Q.length b7)]) rfl nb (d.at_ Mh) (.cons (c0.sl mi (fun b o m => d.at_ (Mt (Ma (Ma (Ma (Ma (Ml m)))))))) (.cons (c1.sl mi (fun b o m => d.at_ (Mt (Ma (Ma (Ma (Ml m))))))) (.cons (c3.sl mi (fun b o m => d.at_ (Mt (Ma (Ma (Ml m)))))) (.cons (c5.sl mi (fun b o m => d.at_ (Mt (Ma (Ml m))))) (.cons (c7.sl mi (fun b o m => d.at_ (Mt (Ml m)))) .nil)))))) d9)) (fun g2 e8 h6 e2 d d3 W c9 => ?_)))⟩
 have h := d.has.qZ (((((c.trans i).trans x).trans y).trans s).trans d3) (Dr (Db (Dr (Dr (Dr (Dr (Dr (Dr (Dr (Kb Sn))))))))))
 refine ⟨h, (X 22 rfl h (oa rfl) (kJ kr (jo ?_)))⟩
 replace d := d.jc (Kr (Db (Dr (Dr (Dr (Dr (Dr (Dr (Dr (Db St))))))))))
 refine kl ?_
 obtain rfl := sj hm
 exact kv (v := e8) rfl rfl ⟨_, e2, rfl, d.nj (fun p m => (Ml m)) c9.nd, c9⟩
theorem xc (c : Int) (r : ByteArray) (w : World) (a : zH pg0 (hp w)) (hm : xf c = some r) :
  jO true pg0 50 [(.int .i64 c)] w (.string r) := Jl Oe rfl a hm
theorem LQ : kI pg0 93 0 0 := jT underlying93 rfl sizeOf91 (by decide) rfl
theorem IY : kI pg0 93 1 1 := jT underlying93 rfl iP (by decide) rfl
theorem Jh : Tryz.prog.info? 5 = some Tryz.t5 ∧ Tryz.t5.zero = some (.int .u8 0) ∧ Tryz.t5.size = 1 ∧ Tryz.t5.bytes = 1 := ⟨by kernel_rfl, rfl, rfl, rfl⟩
theorem GP : Tryz.prog.info? 93 = some Tryz.t93 ∧ Tryz.t93.size ≠ 0 := ⟨by kernel_rfl, by decide⟩
theorem OO : liesAt pg0 Tryz.prog.depth 93 (2 / Tryz.prog.cellsOf 93) 0 93 1 = true := by kernel_rfl
theorem NU (x : Value) (w : World) : (callFunc 189 [x].toArray).run pg0 w = .ok (.value x) w := by
 rw [fz (e := Extern.AbiNoEscape.same) func189 (by kernel_rfl) (by kernel_rfl) (by kernel_rfl) (by kernel_rfl)]
 rfl
theorem I6 (b : Nat) (a u : Value) (w : World) {i : jx} (g : nf i ((b, Ob #[a, u] 93) :: []) w) (ha : a = .pointer none ∨ a = .pointer (some ⟨b, 0, none⟩)) :
  kw true pg0 121 [(.pointer (some ⟨b, 0, none⟩))] w ((b, Ob #[a, u] 93) :: []) (fun v c W' => v = (.tuple #[]) ∧ c = ((b, Ob #[(.pointer (some ⟨b, 0, none⟩)), u] 93) :: [])) := by
 let k : Value := (.pointer (some ⟨b, 0, none⟩))
 refine xW g 20 func121 rfl (fun d => sg (Wm (Wn (Wf LQ (VB d Mh rfl rfl isAgg91 ?_)))))
 rcases ha with rfl | rfl
 ·refine V (rO gJ rfl rfl) (ln (uk rfl (jq (Wm (Wm ?_)))))
  have h := (d.box b _ (.head _)).1
  exact V (Kx rfl (Go.Lib.run_to_unsafe (P := pg0) _ ⟨b, 0, none⟩ gJ underlying233 GP.1 GP.2 (Dy h) nb)) (VE (Ge (args := [k]) rfl (by exact uw rfl) (NU _ _) (V (Kx rfl (Go.Lib.run_from_unsafe (P := pg0) _ ⟨b, 0, none⟩ underlying233 gJ GP.1 (Dy h) OO)) (Wn (Wf LQ (VO (jz k (#[k, u]) d rfl rfl sizeOf91 oc nb rfl (fun j d => jH (nY (nh rfl ⟨_, _, rfl, (d.lO (Kb Sn)), rfl, rfl⟩))))))))))
 ·refine V (rO gJ rfl rfl) (ln (pb rfl (sg (Wm (Wn (Wf LQ (VB d Mh rfl rfl isAgg91 (Wm (V (HS gJ sizeOf93 rfl rfl) (ln (pb rfl ?_)))))))))))
  exact kX (nY (nh rfl ⟨_, _, rfl, (d.lO (Kb Sn)), rfl, rfl⟩))
theorem IF (k : Value) (D : ByteArray) (i : LO) (z r : ByteArray) (w : World) {K : jx} (I : nf K (i ++ []) w) (B : G5 93 5 k D i) (hm : DQ D z = some r) :
  kw true pg0 49 [k, (.string z)] w (i ++ []) (fun v H W' => ∃ y S, v = y ∧ H = S ++ [] ∧ G5 93 5 k r S) := by
 obtain ⟨b, a, u, S, rfl, ha, rfl, p, E⟩ := B
 have d := ST.EA (dd := true) I
 have o := fun h => Lb (r := r) hm h
 have hm := Lh hm
 refine cF 19 func49 rfl (sg (Wa (Wa (lr (Wm ?_)))))
 refine VE (eM d (Cb Pz Cn) call121 (fun s _ => (I6 b a u _ s ha)) ?_)
 rintro _ Y Z M d J A n ⟨j, rfl⟩
 obtain rfl := j.symm
 replace d := d.perm (Tb Tn)
 refine lr (Wm (Wm (Wn (Wf IY (VB d Mh rfl rfl iW (Wm (VE (HJ (v := u) (str := z) [(b, Ob #[(.pointer (some ⟨b, 0, none⟩)), u] 93)] d dv dH Jh.1 Jh.2.1 Jh.2.2.1 Jh.2.2.2 rfl rfl p hm (fun N T t d x l => Wn (Wf IY ?_))))))))))
 have m := fun h : r.size = 0 => l (E (o h).1) (o h).2
 obtain ⟨c, g, rfl⟩ := x.form
 let U : Value := (.slice c (lB r).length g)
 let G := (#[(.pointer (some ⟨b, 0, none⟩)), U] : Array Value)
 let a0 := ((b, Obj.cells G 93 (0, 0)) :: (t ++ []))
 refine VO (jz U (#[(.pointer (some ⟨b, 0, none⟩)), U]) d rfl rfl iP oc nb rfl (fun Q d => lr (Wm (V (Dt dH rfl) (Wa (Wa (lt (B9 (v := .int .i64 (z.size : Int)) (u := .nilIface) rfl rfl rfl ?_))))))))
 have q : mh a0 a0 := Kb (Kr Sn)
 exact ⟨_, _, rfl, d.lO q, _, ((b, Obj.cells G 93 (0, 0)) :: t), rfl, rfl, ⟨b, _, _, _, rfl, .inr rfl, rfl, x, m⟩⟩
theorem HK (k : Value) (i : ByteArray) (g : LO) (r : ByteArray) (w : World) {D : jx} (t : nf D (g ++ []) w) (x : G5 93 5 k i g) (hm : Ov i = some r) :
  kw true pg0 51 [k] w (g ++ []) (fun v z W' => v = (.string r) ∧ z = []) := by
 obtain ⟨b, a, u, S, rfl, ha, rfl, n, p⟩ := x
 obtain rfl := fG hm
 have h := ST.EA (dd := true) t
 obtain ⟨A, c, rfl⟩ := n.form
 refine cF 14 func51 rfl (sg (Wa (ln (jt ?_))))
 replace h := h.drew
 have d := h.has.jc (A := [(b, Ob #[a, .slice A (lB i).length c] 93)]) (Kb Sn)
 have m : A = none ∨ c ≠ 0 := by
  by_cases t : i.size = 0
  ·have p := p t
   injection p with j
   exact .inl j
  ·rcases n with ⟨j, _, _⟩ | ⟨s, cap, q, j, _, B, _, _, _⟩
   ·injection j with y; exact .inl y
   ·injection j with _ _ y
    rw [lX] at B
    exact .inr (by omega)
 refine kC d jK (X 0 rfl d (jh rfl) (X 1 rfl d (lR rfl) (X 2 rfl d (jm IY rfl) (XH 3 rfl d (fun _ o => jd rfl (jA o Mh rfl iW)) (X 4 rfl d (Lv rfl ⟨A, _, c, rfl, m, rfl⟩) (X 5 rfl d (jh rfl) (X 6 rfl d (lR rfl) (X 7 rfl d (jm IY rfl) (XH 8 rfl d (fun _ o => jd rfl (jA o Mh rfl iW)) (X 9 rfl d (ql dv rfl n) ?_))))))))))
 replace h := h.perm (L' := S ++ [(b, Ob #[a, .slice A (lB i).length c] 93)]) (by rw [aT]; exact dX (l₁ := [_]) (l₂ := S))
 refine XE 10 rfl (HR (l := i) h underlying179 kr rfl rfl n (fun G h => ?_))
 have d := h.has
 exact ⟨d, X 11 rfl d (oa rfl) (kJ kr (jo (kl (kv (v := .string i) rfl rfl ⟨_, _, rfl, (h.lO Sn), rfl, rfl⟩))))⟩
theorem Dg (J : Value) (K : List ju) (r : ByteArray) (w : World) (I : zH pg0 (hp w)) (H : Sl (Pl jy) 3 (hp w) J K) (hm : uT K = some r) :
  jO true pg0 14 [J] w (.string r) := by
 refine cG 29 func14 rfl (fun b => sg (Wa (lr (VE (IG (e := 5) b zeroValue93 (fun W1 v4 R2 b b9 => lS (Wm ?_)))))))
 refine V (lT bU rfl H) (Wm (ln (lu (fun i E W => ∃ k j z D, (E 8 = .int .i64 (i : Nat) ∧ E 7 = .int .i64 (K.length : Nat)) ∧ jC (hp w) z ∧ ST true lG w W z (j ++ D) ∧ E 3 = v4 ∧ E 6 = J ∧ G5 93 5 v4 k j ∧ qQ (K.drop i) k = some r) K.length H.len ⟨zS, R2, (hp w), _, ⟨rfl, rfl⟩, (jC.refl _), (b.jc St), rfl, rfl, b9, hm⟩ dc dc dc (fun _ _ _ h => by obtain ⟨_, _, _, _, o, _⟩ := h; exact o) ?_ ?_)))
 ·rintro b4 E W Q ⟨k, j, z, D, ⟨n, v⟩, c, b, t, G, u, a⟩
  obtain ⟨g, c1, a9, O, P⟩ := kL Q
  rw [a9] at a
  refine bg (VQ (pN (enc := jy) (i := (b4 : Int)) (x0 := g) bU dQ G n (H.mono (Pl.mono _) c) (aV _) O) (fun d3 T => V (jd rfl (jJ b.has T isAgg40 dQ)) (VE (kq b dP (fun c5 d2 b => VO (jz (.agg (jy g).toArray) ((jy g).toArray) b rfl rfl dQ (rM g) nb rfl (fun c6 b => ln ?_)))))))
  replace b := b.drew
  have d := b.has.jc (Kb Sn)
  refine kC d jK (X 0 rfl d (jm AJ rfl) (XH 1 rfl d (fun _ m => jd rfl (jA m Mh rfl cO)) (X 4 rfl d (jm Kt rfl) (XH 5 rfl d (fun _ m => jd rfl (jA m Mh rfl cO)) (X 9 rfl d (jm Kc rfl) (XH 10 rfl d (fun _ m => jd rfl (jA m Mh rfl cO)) (bS a fun d4 U a => XE 2 rfl (Eg b call50 (xc g.Kind _ _ (I.mono (c.trans b.jk)) U) (fun c7 b => ?_)))))))))
  have d := b.has.jc (Kb Sn)
  refine ⟨d, (bS a fun d8 a3 a => X 3 rfl d (vR rfl rfl a3) (bS a fun d5 Y a => XE 6 rfl (Eg b call50 (xc g.End _ _ (I.mono (c.trans b.jk)) Y) (fun c8 b => ?_))))⟩
  have d := b.has.jc (Kb Sn)
  refine ⟨d, (bS a fun d9 a4 a => X 7 rfl d (vR rfl rfl a4) (bS a fun e0 a5 a => X 8 rfl d (vR rfl rfl a5) (bS a fun d6 Z a => XE 11 rfl (Eg b call50 (xc g.At _ _ (I.mono (c.trans b.jk)) Z) (fun c9 b => ?_)))))⟩
  have d := b.has.jc (Kb Sn)
  refine ⟨d, (bS a fun e1 L a => X 12 rfl d (vR rfl rfl L) (bS a fun b6 M a => X 13 rfl d (vR rfl rfl M) (bS a fun b5 A a => ?_)))⟩
  refine XE 14 rfl (eM b (Cr (Qb Qz) Cn) call49 (fun p _ => (IF v4 k j b6 _ _ p u A)) ?_ (ha := PZ t rfl))
  rintro _ e2 b7 c2 b B q l ⟨e4, b3, x, rfl, R⟩
  obtain rfl := x.symm
  replace b := b.perm (Tr Tn)
  have d := b.has.qZ B (Dr (Kb Sn))
  refine ⟨d, (kJ kr (jQ (jo ?_)))⟩
  replace b := b.jc (Kr (Db St))
  exact ⟨n, b5, b3, b7, _, ⟨rfl, v⟩, (c.trans B), (b.jc St), t, G, R, (by rw [P]; exact a)⟩
 rintro E W ⟨k, j, z, D, ⟨n, v⟩, c, b, t, G, u, a⟩
 rw [bE] at a
 refine jo (sg (bS a fun d7 a2 a => ?_))
 refine VE (eM b (Cr Qz Cn) call51 (fun p _ => (HK v4 k j _ _ p u a2)) ?_ (ha := Py t))
 rintro _ e3 e5 c3 b c0 s l ⟨y, rfl⟩
 obtain rfl := y.symm
 exact Wa (lt (rQ a b))
theorem yu (j : Value) (z : List ju) (D r : Int) (w : World) (g : Sl (Pl jy) 3 (hp w) j z) (hm : sH z D = some r) :
  jO true pg0 16 [j, (.int .i64 D)] w (.int .i64 r) := by
 refine cG 22 func16 rfl (fun b => sg (Wa (lr (Wa (lS (Wm ?_))))))
 refine V (lT bU rfl g) (Wm (ln (lu (fun i E W => ∃ c y, (E 10 = .int .i64 (i : Nat) ∧ E 9 = .int .i64 (z.length : Nat)) ∧ ST true lG w W (hp w) y ∧ E 1 = (.int .i64 D) ∧ E 5 = (.int .i64 c) ∧ E 8 = j ∧ pw D (z.drop i) c = some r) z.length g.len ⟨0, _, ⟨rfl, rfl⟩, (b.jc St), rfl, rfl, rfl, hm⟩ dc dc dc (fun _ _ _ h => by obtain ⟨_, _, l, _⟩ := h; exact l) ?_ ?_)))
 ·rintro M E W H ⟨c, y, ⟨d, m⟩, b, k, t, u, a⟩
  obtain ⟨x, N, K, J, B⟩ := kL H
  rw [K] at a
  refine bg (VQ (pN (enc := jy) (i := (M : Int)) (x0 := x) bU dQ u d g (aV _) J) (fun Y I => V (jd rfl (jJ b.has I isAgg40 dQ)) (VE (kq b dP (fun Q U b => VO (jz (.agg (jy x).toArray) ((jy x).toArray) b rfl rfl dQ (rM x) nb rfl (fun T b => lr (Wf AJ (VB b Mh rfl rfl cO (Wh k (Wi rfl ?_)))))))))))
  refine ln ?_
  replace b := b.jc (Db St)
  refine CI a rfl (fun G a => ?_) (fun G a => ?_)
  ·exact jq (Wh t (Wi rfl (Wa (jH (jQ (jo ⟨d, (wi0 .i64 (c + 1)), _, ⟨rfl, m⟩, (b.jc St), k, rfl, u, (by rw [B]; exact a)⟩))))))
  exact kX (jQ (jo ⟨d, c, _, ⟨rfl, m⟩, (b.jc St), k, t, u, (by rw [B]; exact a)⟩))
 rintro E W ⟨c, y, ⟨d, m⟩, b, k, t, u, a⟩
 rw [bE] at a
 exact jo (sg (Wh t (Wa (lt (rQ a b)))))
theorem Gc (r : Bool) (w : World) (e7 : zH pg0 (hp w)) (hm : tf  = some r) :
  jO false pg0 10 [] w (.bool r) := by
 refine cG 51 func10 rfl (fun d => sg (Wa (lr (V (lY (v := (.agg #[(.string K1), (.slice none 0 0), (.slice none 0 0)])) (mH rfl) (li zeroValue25 eL (N6 _ eL) kr)) (V (lY (v := (.agg #[(.string K2), (.slice none 0 0), (.slice none 0 0)])) (mH rfl) (li zeroValue25 eL (N6 _ eL) kr)) (V (lY (v := (.agg C8.toArray)) (mH rfl) (li bL cC (yJ _ cC) kr)) (V (lY (v := (.agg C7.toArray)) (AL rfl rfl rfl) (li zeroValue34 ga (PO _ ga) kr)) (VE (kq d zeroValue34 (fun W2 b1 d => VO (jz (.agg C7.toArray) (C7.toArray) d rfl rfl sizeOf34 oc nb rfl (fun W3 d => jH ?_))))))))))))
 refine jo (sg (VA d Mh C7 isAgg34 sizeOf34 (bS hm fun q f7 hm => VE (sI d call12 (Dc (⟨(⟨K1, [], []⟩ : jL), (⟨K2, [], []⟩ : jL), (⟨2, 0, K0, []⟩ : Formula), 0, (⟨0, 0⟩ : Ap), 0, 0, 0, []⟩ : wc) (.slice none 0 0) (.slice none 0 0) (.slice none 0 0) (.slice none 0 0) (.slice none 0 0) (.slice none 0 0) _ _ (Sl.nil _ _ _) (Sl.nil _ _ _) (Sl.nil _ _ _) (Sl.nil _ _ _) (Sl.nil _ _ _) (Sl.nil _ _ _) f7) (fun W6 I ad N d d8 ab H => Wa (lr (Wf GR (Wf rb ?_))))))))
 replace d := d.perm (Nb (Pr Pz) Nz)
 refine VO (jz (.int .i64 3) (#[(.string K1), (.slice none 0 0), (.slice none 0 0), (.string K2), (.slice none 0 0), (.slice none 0 0), (.int .i64 3), (.int .i64 0), (.string zS), (.string zS), (.slice none 0 0), (.int .i64 0), (.int .i64 0), (.int .i64 0), (.int .i64 0), (.int .i64 0), (.int .i64 0), (.slice none 0 0)]) d rfl rfl fZ (Cw _ 3) nb rfl (fun g9 d => lr (VA d Mh [(.string K1), (.slice none 0 0), (.slice none 0 0), (.string K2), (.slice none 0 0), (.slice none 0 0), (.int .i64 3), (.int .i64 0), (.string zS), (.string zS), (.slice none 0 0), (.int .i64 0), (.int .i64 0), (.int .i64 0), (.int .i64 0), (.int .i64 0), (.int .i64 0), (.slice none 0 0)] isAgg34 sizeOf34 (bS hm fun h3 e5 hm => VE (sI d call12 (Dc (⟨(⟨K1, [], []⟩ : jL), (⟨K2, [], []⟩ : jL), (⟨3, 0, K0, []⟩ : Formula), 0, (⟨0, 0⟩ : Ap), 0, 0, 0, []⟩ : wc) (.slice none 0 0) (.slice none 0 0) (.slice none 0 0) (.slice none 0 0) (.slice none 0 0) (.slice none 0 0) _ _ (Sl.nil _ _ _) (Sl.nil _ _ _) (Sl.nil _ _ _) (Sl.nil _ _ _) (Sl.nil _ _ _) (Sl.nil _ _ _) e5) (fun h0 p J a4 d b4 aa a0 => Wa (ln ?_)))))))
 replace d := d.jc (Kr (Db St))
 refine sg (Wm (V (ql bU rfl H) (Wi rfl (Wm (LJ hm (fun L E W => ∃ c2, ST false lG w W J (a4 ++ (N ++ c2)) ∧ E 0 = (.bool false) ∧ E 2 = I ∧ E 3 = p ∧ E 23 = (.bool L)) 6 ?_ (fun L z Z => ?_))))))
 ·rintro h5 E W ⟨c2, d, c8, a5, c9, e9⟩ d9
  refine Wh e9 (LJ d9 (fun A E W => ∃ O, ST false lG w W J (a4 ++ (N ++ O)) ∧ E 0 = (.bool false) ∧ E 2 = I ∧ E 3 = p ∧ E 28 = (.bool A)) 4 ?_ (fun A x Y => ?_))
  ·rintro h6 E W ⟨O, d, d0, d1, m, f0⟩ e0
   refine Wh f0 (LJ e0 (fun a9 E W => ∃ P, ST false lG w W J (a4 ++ (N ++ P)) ∧ E 0 = (.bool false) ∧ E 2 = I ∧ E 3 = p ∧ E 33 = (.bool a9)) 4 ?_ (fun a9 G U => ?_))
   ·rintro h7 E W ⟨P, d, d2, d3, f1, f2⟩ e1
    refine Wh f2 (LJ e1 (fun s E W => ∃ R, ST false lG w W J (N ++ R) ∧ E 0 = (.bool false) ∧ E 2 = I ∧ E 40 = (.bool s)) 6 ?_ (fun s u T => ?_))
    ·rintro h8 E W ⟨R, d, d4, n, f3⟩ e2
     refine Wh f3 (LJ e2 (fun d7 E W => ∃ c6, ST false lG w W J (N ++ c6) ∧ E 0 = (.bool false) ∧ E 2 = I ∧ E 45 = (.bool d7)) 4 ?_ (fun d7 D Q => ?_))
     ·rintro h9 E W ⟨c6, d, d5, f4, f5⟩ e3
      refine Wh f5 (LJ e3 (fun d6 E W => ∃ c7, ST false lG w W J c7 ∧ E 0 = (.bool false) ∧ E 50 = (.bool d6)) 4 ?_ (fun d6 B a3 => ?_))
      ·rintro i0 E W ⟨c7, d, h2, f6⟩ e4
       exact Wg f6 (lt (rQ e4 d))
      refine bC B (fun t B => ?_) (fun t B => ?_)
      ·refine ug t (jh f4) (bS B fun h4 e6 B => uG t (Eg d call16 (jO.lI (yu I q 5 _ _ (H.sl mi (fun b o h => d.at_ (Ml h))) e6)) (fun h1 d => ug t (lA rfl rfl rfl) (V (jW (cB t) rfl) ?_))))
       obtain rfl := sj B
       exact a3 _ _ ⟨_, (d.jc (Dr St)), d5, rfl⟩
      refine un t (un t (un t (V (jY (cB t) rfl) ?_)))
      obtain rfl := sj B
      exact a3 _ _ ⟨_, (d.jc (Dr St)), d5, rfl⟩
     refine bC D (fun k D => ?_) (fun k D => ?_)
     ·refine ug k (jh n) (bS D fun g4 c0 D => uG k (Eg d call16 (jO.lI (yu I q 4 _ _ (H.sl mi (fun b o h => d.at_ (Ml h))) c0)) (fun f8 d => ug k (lA rfl rfl rfl) (V (jW (cB k) rfl) ?_))))
      obtain rfl := sj D
      exact Q _ _ ⟨_, (d.jc St), d4, n, rfl⟩
     refine un k (un k (un k (V (jY (cB k) rfl) ?_)))
     obtain rfl := sj D
     exact Q _ _ ⟨_, (d.jc St), d4, n, rfl⟩
    refine bC u (fun c u => ?_) (fun c u => ?_)
    ·refine ug c (jh f1) (bS u fun l K u => Mc c (pX (i := 0) (x0 := l) bU dQ rfl rfl a0 (jG K) (jD K)) (fun g0 b5 => Mc c (vO [(.int .i64 l.Kind)] AJ rfl (xv.at a0 mi b5 (jD K)) rfl) (fun g1 b6 => ug c (jd rfl (oL (mI.hp _) (y := (.int .i64 l.Kind)) (b6.mono (kT (fun b o h => d.has.2 b o (Ml h)))) cO)) (ug c (lA rfl rfl rfl) (V (jW (cB c) rfl) ?_)))))
     obtain rfl := sj u
     exact T _ _ ⟨_, (d.jc (Dr St)), d2, d3, rfl⟩
    refine un c (un c (un c (un c (un c (V (jY (cB c) rfl) ?_)))))
    obtain rfl := sj u
    exact T _ _ ⟨_, (d.jc (Dr St)), d2, d3, rfl⟩
   refine bC G (fun j G => ?_) (fun j G => ?_)
   ·refine ug j (jh m) (ug j (ql bU rfl a0) (ug j (lA rfl rfl rfl) (V (jW (cB j) rfl) ?_)))
    obtain rfl := sj G
    exact U _ _ ⟨_, (d.jc St), d0, d1, m, rfl⟩
   refine un j (un j (un j (V (jY (cB j) rfl) ?_)))
   obtain rfl := sj G
   exact U _ _ ⟨_, (d.jc St), d0, d1, m, rfl⟩
  refine bC x (fun g x => ?_) (fun g x => ?_)
  ·refine ug g (jh a5) (bS x fun g7 c1 x => uG g (Eg d call14 (jO.lI (Dg I q _ _ (e7.mono ((d8.trans b4).trans d.jk)) (H.sl mi (fun b o h => d.at_ (Ma (Ml h)))) c1)) (fun f9 d => ug g (Jj rfl rfl rfl) (V (jW (cB g) rfl) ?_))))
   obtain rfl := sj x
   exact Y _ _ ⟨_, (d.jc St), c8, a5, c9, rfl⟩
  refine un g (un g (un g (V (jY (cB g) rfl) ?_)))
  obtain rfl := sj x
  exact Y _ _ ⟨_, (d.jc St), c8, a5, c9, rfl⟩
 refine bC z (fun a z => ?_) (fun a z => ?_)
 ·refine ug a (jh rfl) (bS z fun a2 M z => Mc a (pX (i := 0) (x0 := a2) bU dQ rfl rfl H (jG M) (jD M)) (fun g2 b7 => Mc a (vO [(.int .i64 a2.Kind)] AJ rfl (xv.at H mi b7 (jD M)) rfl) (fun g3 b9 => ug a (jd rfl (oL (mI.hp _) (y := (.int .i64 a2.Kind)) (b9.mono (kT (fun b o h => d.has.2 b o (Ma (Ml h))))) cO)) (ug a (lA rfl rfl rfl) (V (jW (cB a) rfl) ?_)))))
  obtain rfl := sj z
  exact Z _ _ ⟨_, (d.jc St), rfl, rfl, rfl, rfl⟩
 refine un a (un a (un a (un a (un a (V (jY (cB a) rfl) ?_)))))
 obtain rfl := sj z
 exact Z _ _ ⟨_, (d.jc St), rfl, rfl, rfl, rfl⟩
theorem Gm (y : Value) (z : List ju) (r : ByteArray) (w : World) (x : zH pg0 (hp w)) (u : Sl (Pl jy) 3 (hp w) y z) (hm : yC z = some r) :
  jO true pg0 15 [y] w (.string r) := by
 refine cG 30 func15 rfl (fun b => sg (Wa (lr (Wa (lS (Wm ?_))))))
 refine V (lT bU rfl u) (Wm (ln (lu (fun i E W => ∃ g j, (E 8 = .int .i64 (i : Nat) ∧ E 7 = .int .i64 (z.length : Nat)) ∧ ST true lG w W (hp w) j ∧ E 3 = (.string g) ∧ E 6 = y ∧ qh (z.drop i) g = some r) z.length u.len ⟨zS, _, ⟨rfl, rfl⟩, (b.jc St), rfl, rfl, hm⟩ dc dc dc (fun _ _ _ h => by obtain ⟨_, _, n, _⟩ := h; exact n) ?_ ?_)))
 ·rintro p E W B ⟨g, j, ⟨m, o⟩, b, k, t, a⟩
  obtain ⟨c, a3, Y, U, Z⟩ := kL B
  rw [Y] at a
  refine bg (VQ (pN (enc := jy) (i := (p : Int)) (x0 := c) bU dQ t m u (aV _) U) (fun A D => V (jd rfl (jJ b.has D isAgg40 dQ)) (VE (kq b dP (fun a4 a9 b => VO (jz (.agg (jy c).toArray) ((jy c).toArray) b rfl rfl dQ (rM c) nb rfl (fun a5 b => ln ?_)))))))
  replace b := b.drew
  have d := b.has.jc (Kb Sn)
  refine kC d jK (X 0 rfl d (jh k) (X 1 rfl d (jm AJ rfl) (XH 2 rfl d (fun _ l => jd rfl (jA l Mh rfl cO)) (X 5 rfl d (jm Kt rfl) (XH 6 rfl d (fun _ l => jd rfl (jA l Mh rfl cO)) (X 10 rfl d (jm Kc rfl) (XH 11 rfl d (fun _ l => jd rfl (jA l Mh rfl cO)) (bS a fun L G a => XE 3 rfl (Eg b call50 (xc c.Kind _ _ (x.mono b.jk) G) (fun q b => ?_))))))))))
  have d := b.has.jc (Kb Sn)
  refine ⟨d, (bS a fun R J a => X 4 rfl d (vR rfl rfl J) (bS a fun O H a => XE 7 rfl (Eg b call50 (xc c.End _ _ (x.mono b.jk) H) (fun s b => ?_))))⟩
  have d := b.has.jc (Kb Sn)
  refine ⟨d, (bS a fun b5 K a => X 8 rfl d (vR rfl rfl K) (bS a fun b6 M a => X 9 rfl d (vR rfl rfl M) (bS a fun P I a => XE 12 rfl (Eg b call50 (xc c.At _ _ (x.mono b.jk) I) (fun v b => ?_)))))⟩
  have d := b.has.jc (Kb Sn)
  refine ⟨d, (bS a fun b7 N a => X 13 rfl d (vR rfl rfl N) (bS a fun b9 Q a => X 14 rfl d (vR rfl rfl Q) (bS a fun a2 T a => X 15 rfl d (vR rfl rfl T) (X 16 rfl d (oa rfl) (kJ kr (jQ (jo ?_)))))))⟩
  replace b := b.jc (Db St)
  exact ⟨m, a2, _, ⟨rfl, o⟩, (b.jc St), rfl, t, (by rw [Z]; exact a)⟩
 rintro E W ⟨g, j, ⟨m, o⟩, b, k, t, a⟩
 rw [bE] at a
 exact jo (sg (Wh k (Wa (lt (rQ a b)))))
theorem CQ (k : Value) (x : List ju) (J : Int) (r : Bool) (w : World) (B : zH pg0 (hp w)) (j : Sl (Pl jy) 3 (hp w) k x) (hm : sc x J = some r) :
  jO false pg0 4 [k, (.int .i64 J)] w (.bool r) := by
 refine cG 38 func4 rfl (fun b => sg (Wa (lS (bS hm fun r1 a9 hm => VE (Eg b call10 (Gc  _ _ (B.mono b.jk) a9) (fun W3 b => V (px rfl) (ln (CI hm rfl (fun o hm => ?_) (fun o hm => ?_)))))))))
 ·refine sg (Wa (lt (lc ?_)))
  obtain rfl := sj hm
  exact rP b
 refine kS (Wm (V (lT bU rfl j) (Wi rfl (ln (CI hm rfl (fun p hm => ?_) (fun p hm => ?_))))))
 ·refine sg (Wa (lt (lc ?_)))
  obtain rfl := sj hm
  exact rP b
 refine kg (Wa (lS (Wm (V (lT bU rfl j) (Wm (ln ?_))))))
 refine lu (fun i E W => ∃ u I, (E 15 = .int .i64 (i : Nat) ∧ E 14 = .int .i64 (x.length : Nat)) ∧ ST false lG w W (hp w) I ∧ E 0 = k ∧ E 1 = (.int .i64 J) ∧ E 5 = (.int .i64 u) ∧ E 13 = k ∧ np J x (x.drop i) u = some r) x.length j.len ⟨0, _, ⟨rfl, rfl⟩, (b.jc St), rfl, rfl, rfl, rfl, hm⟩ dc dc dc (fun _ _ _ h => by obtain ⟨_, _, l, _⟩ := h; exact l) ?_ ?_
 ·rintro q E W U ⟨u, I, ⟨d, m⟩, b, t, y, D, G, a⟩
  obtain ⟨H, A, a5, a4, K⟩ := kL U
  rw [a5] at a
  refine bg (VQ (pN (enc := jy) (i := (q : Int)) (x0 := H) bU dQ G d j (aV _) a4) (fun c0 Z => V (jd rfl (jJ b.has Z isAgg40 dQ)) (VE (kq b dP (fun L b9 b => VO (jz (.agg (jy H).toArray) ((jy H).toArray) b rfl rfl dQ (rM H) nb rfl (fun O b => lr (Wf AJ (VB b Mh rfl rfl cO (Wh y (Wi rfl ?_)))))))))))
  refine ln ?_
  replace b := b.jc (Db St)
  refine CI a rfl (fun T a => ?_) (fun T a => ?_)
  ·exact jq (Wh D (Wi rfl (Wa (jH (jQ (jo ⟨d, (wi0 .i64 (u + 1)), _, ⟨rfl, m⟩, (b.jc St), t, y, rfl, G, (by rw [K]; exact a)⟩))))))
  exact kX (jQ (jo ⟨d, u, _, ⟨rfl, m⟩, (b.jc St), t, y, D, G, (by rw [K]; exact a)⟩))
 rintro E W ⟨u, I, ⟨d, m⟩, b, t, y, D, G, a⟩
 rw [bE] at a
 refine jo (sg (Wh t (bS a fun c1 a2 a => VE (Eg b call14 (jO.lI (Dg k x _ _ (B.mono b.jk) (j.mono (Pl.mono _) b.jk) a2)) (fun P b => Wh t (bS a fun c2 a3 a => VE (Eg b call15 (jO.lI (Gm k x _ _ (B.mono b.jk) (j.mono (Pl.mono _) b.jk) a3)) (fun R b => V (Jj rfl rfl rfl) (Wm (LJ a (fun M E W => ∃ Q, ST false lG w W (hp w) Q ∧ E 37 = (.bool M)) 6 ?_ (fun M g z => ?_)))))))))))
 ·rintro c3 E W ⟨Q, b, n⟩ Y
  exact Wg n (lt (rQ Y b))
 refine bC g (fun c g => ?_) (fun c g => ?_)
 ·refine ug c (jh t) (ug c (jh y) (bS g fun v N g => uG c (Eg b call16 (jO.lI (yu k x J _ _ (j.mono (Pl.mono _) b.jk) N)) (fun s b => ug c (jh D) (ug c (lA rfl rfl rfl) (V (jW (cB c) rfl) ?_))))))
  obtain rfl := sj g
  exact z _ _ ⟨_, (b.jc St), rfl⟩
 refine un c (un c (un c (un c (un c (V (jY (cB c) rfl) ?_)))))
 obtain rfl := sj g
 exact z _ _ ⟨_, (b.jc St), rfl⟩
end Go.Proofs.YtjjjihkifgdhgaaGreatDoor
