/- a part of a proof of LintHolds -/
import Derived.Test.YtjjjihkifgdhgaaGreatDoorDL5W1l
set_option linter.all false
namespace Go.Proofs.YtjjjihkifgdhgaaGreatDoor
open Go.IntKind renaming wrap → wi0
open Go.Proofs.Tryz renaming prog → pg0
open Go.RowKit
set_option maxRecDepth 10000
open Tryz
theorem zi (G : Nat) (a0 : kc) (a1 : Int) (c2 : Value) (a2 : List Formula) (r : (Formula × kc)) (w : World) {μ0 : jN} (h0 : nD μ0 ((G, Ol (kN a0) 224) :: []) w) (c1 : Sl jq 5 μ0 c2 a2) (hm : pB a0 a1 a2 = some r) :
  lQ false pg0 243 [(.pointer (some ⟨G, 0, none⟩)), (.int .i64 a1), c2] w μ0 ((G, Ol (kN a0) 224) :: []) (fun v L1 μ1 => ∃ y1, v = (.agg #[(.int .i64 ((r.1).Op)), (.int .i64 ((r.1).K)), (.string (((r.1).jl).jo)), (.string (((r.1).jl).Word)), y1]) ∧ L1 = ((G, Ol (kN (r.2)) 224) :: []) ∧ Sl jq 5 μ1 y1 ((r.1).Kids)) := by
 let j8 := ((kN a0).toArray : Array Value)
 refine uW h0 58 func243 rfl (fun b => sg (VE (kB b bJ (fun W2 b1 b => lr (Wa (lS (Wm ?_)))))))
 refine V (lR aF rfl c1) (Wm (ln (lh (fun i E W => ∃ x K J N c0, (E 12 = .int .i64 (i : Nat) ∧ E 11 = .int .i64 (a2.length : Nat)) ∧ ST false (keys ((G, Obj.cells j8 224 (0, 0)) :: [])) w W μ0 ((b1, Ol C5 30) :: ((G, Obj.cells j8 224 (0, 0)) :: (N ++ c0))) ∧ E 0 = (.pointer (some ⟨G, 0, none⟩)) ∧ E 1 = (.int .i64 x) ∧ E 6 = (.pointer (some ⟨b1, 0, none⟩)) ∧ E 7 = K ∧ E 10 = c2 ∧ kk 30 jq 5 μ0 K J N ∧ lW a0 (a2.drop i) x J = some r) a2.length c1.len ⟨a1, (.slice none 0 0), ([]), [], _, ⟨rfl, rfl⟩, (b.jr St), rfl, rfl, rfl, rfl, rfl, (kk.nil _ _ _ _), hm⟩ dc dc dc (fun _ _ _ h => by obtain ⟨_, _, _, _, _, aa, _⟩ := h; exact aa) ?_ ?_)))
 ·rintro h2 E W f2 ⟨x, K, J, N, c0, ⟨eI, eN⟩, b, U, H, u, I, R, D, a⟩
  obtain ⟨c, h8, g8, g7, b7⟩ := kM f2
  rw [g8] at a
  refine bg (VQ (mo (i := (h2 : Int)) (x0 := c) jq.out aF aD R eI c1 (aP _) g7) (fun k7 ⟨_, ⟨l0, rfl, Y⟩, f3⟩ => V (jt rfl (jW b.has f3 bB aD)) (VE (kB b bJ (fun i6 k4 b => ?_)))))
  obtain ⟨y, z, rfl⟩ := Y.form
  let j6 : Value := (.slice y c.Kids.length z)
  let b8 := (C1 c.Op c.K c.jl.jo c.jl.Word y c.Kids.length z)
  refine VO (jM (.agg b8.toArray) (b8.toArray) b rfl rfl aD oc nb rfl (fun i7 b => ln (bg (VA b Mh b8 bB aD (bS a fun k8 f4 a => VE (Eg b call297 (kf.lX (ye c j6 2 _ _ (Y.mono jC.mono b.jx) f4)) (fun i8 b => Wa (ln (CI a rfl (fun e5 a => ?_) (fun e5 a => ?_))))))))))
  ·refine jF (Wh H (Wi rfl (Wa (kd (kl (kl (jE ?_)))))))
   replace b := b.jr (Db St)
   exact ⟨eI, (wi0 .i64 (x - 1)), K, J, N, _, ⟨rfl, eN⟩, (b.jr St), U, rfl, u, I, R, D, (by rw [b7]; exact a)⟩
  refine sg (VA b Mh b8 bB aD (bS a fun k9 f5 a => VE (Eg b call297 (kf.lX (ye c j6 3 _ _ (Y.mono jC.mono b.jx) f5)) (fun i9 b => V (pA rfl) (Wa (ln (CI a rfl (fun e6 a => ?_) (fun e6 a => ?_))))))))
  ·refine jF (Wh I (VA b Mh b8 bB aD (VE (jX (cs := b8.toArray) b (mh rfl) (mA aF aD bJ) (fun j0 k5 b => ?_)))))
   replace b := b.perm (Nr (Qb (Qb (Qb (Qb Qz)))) Nz)
   refine bS a fun h3 e7 a => VE (vc (B := N) jC b dc aF nW.1 nW.2.1 rfl nW.2.2.1 nW.2.2.2 rfl rfl D (AM.lit jC (l := [c]) (.cons (ys := C1 c.Op c.K c.jl.jo c.jl.Word y c.Kids.length z) (jq.mk ⟨j6, rfl, Y⟩) .nil) rfl nb (b.at_ (Ma Mh))) e7 (fun j3 h4 g9 b e4 => Wa (kd (kl (kl (jE ?_))))))
   replace b := b.jr (Kr (Db (Db St)))
   exact ⟨eI, x, h4, h3, g9, _, ⟨rfl, eN⟩, (b.jr (Sb (Pr Pz) (Sb (Pr Pz) St))), U, H, u, rfl, R, e4, (by rw [b7]; exact a)⟩
  refine lE (kl (kl (jE ?_)))
  replace b := b.jr (Db St)
  exact ⟨eI, x, K, J, N, _, ⟨rfl, eN⟩, (b.jr St), U, H, u, I, R, D, (by rw [b7]; exact a)⟩
 rintro E W ⟨x, K, J, N, c0, ⟨eI, eN⟩, b, U, H, u, I, R, D, a⟩
 rw [aU] at a
 refine jE (jI (bg (Wh H (Wi rfl (Wa (ln (CI a rfl (fun e8 a => ?_) (fun e8 a => ?_))))))))
 ·refine sg (bS a fun g f6 a => ?_)
  let j2 : Value := (.string (((g).jl).Word))
  let h9 : Value := (.string (((g).jl).jo))
  refine VE (eD b (bW _) call115 (fun d => lQ.lX (Am  _ _ d  f6)) ?_ (L0 := []))
  rintro _ l1 m2 i0 b c9 m ⟨l6, b2, rfl, c3⟩
  obtain rfl := b2.symm
  obtain ⟨Z, a6, rfl⟩ := c3.form
  let g5 : Value := (.slice Z ((g).Kids).length a6)
  let e0 : Value := (.agg #[(.int .i64 ((g).Op)), (.int .i64 ((g).K)), h9, j2, g5])
  refine VO (jM e0 (#[(.int .i64 ((g).Op)), (.int .i64 ((g).K)), h9, j2, g5]) b u rfl aD oc nb rfl (fun j5 b => ln ?_))
  replace b := b.jr (Kb (Kb (Dr St)))
  refine ky (nw (kZ ?_))
  obtain rfl := sj a
  exact pu (v := e0) rfl u (jD b.has Mh [(.int .i64 ((g).Op)), (.int .i64 ((g).K)), h9, j2, g5] rfl bB aD) ⟨_, _, _, rfl, (b.mn (Db (Kb Sn))), c9, m, (ST.kX b (mJ.mem (Db (Kb Sn)))), g5, rfl, rfl, c3⟩
 refine sg (Wh H (Wh I (V (xb aF rfl D) (Wi rfl (Wa (ln (CI a rfl (fun e9 a => ?_) (fun e9 a => ?_))))))))
 ·refine sg (bS a fun j f7 a => ?_)
  let j4 : Value := (.string (((j).jl).Word))
  let j1 : Value := (.string (((j).jl).jo))
  refine VE (eD b (bW _) call298 (fun d => lQ.lX (Gh  _ _ d  f7)) ?_ (L0 := []))
  rintro _ l2 m3 i1 b d0 n ⟨l7, b3, rfl, c4⟩
  obtain rfl := b3.symm
  obtain ⟨a3, a7, rfl⟩ := c4.form
  let e3 : Value := (.slice a3 ((j).Kids).length a7)
  let d9 : Value := (.agg #[(.int .i64 ((j).Op)), (.int .i64 ((j).K)), j1, j4, e3])
  refine VO (jM d9 (#[(.int .i64 ((j).Op)), (.int .i64 ((j).K)), j1, j4, e3]) b u rfl aD oc nb rfl (fun j7 b => ln ?_))
  replace b := b.jr (Kb (Kb (Dr St)))
  refine ky (nw (kZ ?_))
  obtain rfl := sj a
  exact pu (v := d9) rfl u (jD b.has Mh [(.int .i64 ((j).Op)), (.int .i64 ((j).K)), j1, j4, e3] rfl bB aD) ⟨_, _, _, rfl, (b.mn (Db (Kb Sn))), d0, n, (ST.kX b (mJ.mem (Db (Kb Sn)))), e3, rfl, rfl, c4⟩
 refine sg (Wh H (Wh I (V (xb aF rfl D) (Wi rfl (Wa (ln (CI a rfl (fun f0 a => ?_) (fun f0 a => ?_))))))))
 ·refine sg (Wh U (Wh I ?_))
  replace b := b.perm (Nr (Qb (Qb Qz)) Nz)
  obtain ⟨m4, b, d1, p, g1⟩ := ST.vN jC b D
  refine bS a fun k f8 a => ?_
  let h6 : Value := (.string (((k.1).jl).Word))
  let h1 : Value := (.string (((k.1).jl).jo))
  refine VE (eD b (Cb (Pb Pz) Cn) call244 (fun d => (rR G a0 2 K J _ _ d (g1.mono jC.mono (jT.refl _)) f8)) ?_)
  rintro _ l3 m5 i2 b d2 q ⟨l8, b4, rfl, c5⟩
  obtain rfl := b4.symm
  replace b := b.perm (Tb Tn)
  obtain ⟨a4, a8, rfl⟩ := c5.form
  let e1 : Value := (.slice a4 ((k.1).Kids).length a8)
  let c8 : Value := (.agg #[(.int .i64 ((k.1).Op)), (.int .i64 ((k.1).K)), h1, h6, e1])
  replace b := b.perm (Nb (Pb Pz) Nz)
  refine VO (jM c8 (#[(.int .i64 ((k.1).Op)), (.int .i64 ((k.1).K)), h1, h6, e1]) b u rfl aD oc nb rfl (fun j9 b => lt (nw (kZ ?_))))
  obtain rfl := sj a
  exact pu (v := c8) rfl u (jD b.has Mh [(.int .i64 ((k.1).Op)), (.int .i64 ((k.1).K)), h1, h6, e1] rfl bB aD) ⟨_, _, _, rfl, (b.mn (Db (Kb Sn))), (d1.trans d2), (p.trans q), (ST.kX b (mJ.mem (Db (Kb Sn)))), e1, rfl, rfl, c5⟩
 refine sg (Wh H (Wi rfl (Wa (ln (CI a rfl (fun f1 a => ?_) (fun f1 a => ?_))))))
 ·refine sg (Wh U (Wh I ?_))
  replace b := b.perm (Nr (Qb (Qb Qz)) Nz)
  obtain ⟨m6, b, d3, s, g2⟩ := ST.vN jC b D
  refine bS a fun t f9 a => ?_
  let h7 : Value := (.string (((t.1).jl).Word))
  let h5 : Value := (.string (((t.1).jl).jo))
  refine VE (eD b (Cb (Pb Pz) Cn) call244 (fun d => (rR G a0 3 K J _ _ d (g2.mono jC.mono (jT.refl _)) f9)) ?_)
  rintro _ l4 m7 i3 b d4 A ⟨l9, b5, rfl, c6⟩
  obtain rfl := b5.symm
  replace b := b.perm (Tb Tn)
  obtain ⟨a5, a9, rfl⟩ := c6.form
  let e2 : Value := (.slice a5 ((t.1).Kids).length a9)
  let d8 : Value := (.agg #[(.int .i64 ((t.1).Op)), (.int .i64 ((t.1).K)), h5, h7, e2])
  replace b := b.perm (Nb (Pb Pz) Nz)
  refine VO (jM d8 (#[(.int .i64 ((t.1).Op)), (.int .i64 ((t.1).K)), h5, h7, e2]) b u rfl aD oc nb rfl (fun k1 b => lt (nw (kZ ?_))))
  obtain rfl := sj a
  exact pu (v := d8) rfl u (jD b.has Mh [(.int .i64 ((t.1).Op)), (.int .i64 ((t.1).K)), h5, h7, e2] rfl bB aD) ⟨_, _, _, rfl, (b.mn (Db (Kb Sn))), (d3.trans d4), (s.trans A), (ST.kX b (mJ.mem (Db (Kb Sn)))), e2, rfl, rfl, c6⟩
 refine lE (kl (jE (sg (Wh H (Wh I ?_)))))
 replace b := b.perm (Nr (Qb (Qb Qz)) Nz)
 obtain ⟨m8, b, d5, L, g3⟩ := ST.vN jC b D
 refine bS a fun T g0 a => ?_
 refine VE (eD b (bW _) call299 (fun d => (Bv K J _ _ d (g3.mono jC.mono (jT.refl _)) g0)) ?_ (L0 := []))
 rintro _ l5 m9 i4 b d6 O ⟨m0, i5, b6, rfl, c7⟩
 obtain rfl := b6.symm
 replace b := b.perm (Tr Tn)
 obtain ⟨M, Q, rfl⟩ := c7.form
 let g6 : Value := (.slice M T.length Q)
 let b9 : Value := (.agg #[(.int .i64 4), (.int .i64 x), (.string zS), (.string zS), g6])
 refine V (mE (v := b9) (BM rfl rfl rfl) (lO bJ cD (z6 _ cD) kr)) ?_
 replace b := b.perm (Nb (Pr Pz) Nz)
 refine VO (jM b9 (#[(.int .i64 4), (.int .i64 x), (.string zS), (.string zS), g6]) b u rfl aD oc nb rfl (fun k3 b => lt ?_))
 obtain rfl := sj a
 refine pu (v := b9) rfl u (jD b.has Mh [(.int .i64 4), (.int .i64 x), (.string zS), (.string zS), g6] rfl bB aD) ?_
 replace b := b.perm (Nr (Qb Qz) Nz)
 obtain ⟨n0, b, d7, P, g4⟩ := ST.vN jC b c7
 exact ⟨_, _, _, rfl, (b.mn (Db (Kb Sn))), ((d5.trans d6).trans d7), ((L.trans O).trans P), (ST.kX b (mJ.mem (Db (Kb Sn)))), g6, rfl, rfl, g4⟩
theorem yh (c9 : kc → Formula → Option (Formula × kc)) (e9 : ∀ (u : Nat) (a0 : kc) (a : Formula) (y : Value) (r : (Formula × kc)) (w : World) {μ0 : jN} (h0 : nD μ0 ((u, Ol (kN a0) 224) :: []) w) (x : Sl jq 5 μ0 y a.Kids), c9 a0 a = some r → lQ false pg0 181 [(.pointer (some ⟨u, 0, none⟩)), (.agg #[(.int .i64 a.Op), (.int .i64 a.K), (.string a.jl.jo), (.string a.jl.Word), y])] w μ0 ((u, Ol (kN a0) 224) :: []) (fun v L1 μ1 => ∃ O, v = (.agg #[(.int .i64 ((r.1).Op)), (.int .i64 ((r.1).K)), (.string (((r.1).jl).jo)), (.string (((r.1).jl).Word)), O]) ∧ L1 = ((u, Ol (kN (r.2)) 224) :: []) ∧ Sl jq 5 μ1 O ((r.1).Kids))) (u : Nat) (a0 : kc) (a : Formula) (y : Value) (r : (Formula × kc)) (w : World) {μ0 : jN} (h0 : nD μ0 ((u, Ol (kN a0) 224) :: []) w) (x : Sl jq 5 μ0 y a.Kids) (hm : qC c9 a0 a = some r) :
  lQ false pg0 181 [(.pointer (some ⟨u, 0, none⟩)), (.agg #[(.int .i64 a.Op), (.int .i64 a.K), (.string a.jl.jo), (.string a.jl.Word), y])] w μ0 ((u, Ol (kN a0) 224) :: []) (fun v L1 μ1 => ∃ O, v = (.agg #[(.int .i64 ((r.1).Op)), (.int .i64 ((r.1).K)), (.string (((r.1).jl).jo)), (.string (((r.1).jl).Word)), O]) ∧ L1 = ((u, Ol (kN (r.2)) 224) :: []) ∧ Sl jq 5 μ1 O ((r.1).Kids)) := by
 let d0 := ((u, Ol (kN a0) 224) :: [])
 refine uW h0 39 func181 rfl (fun b => sg ?_)
 obtain ⟨A1, c2, rfl⟩ := x.form
 let A := (C1 a.Op a.K a.jl.jo a.jl.Word A1 a.Kids.length c2)
 refine VE (kx b rfl (fun W4 b3 b => VE (kB b bJ (fun W6 b5 b => lS (Wf sa (VB b (Mt Mh) rfl rfl cO (Wi rfl (ln (CI hm rfl (fun f8 hm => ?_) (fun f8 hm => ?_))))))))))
 ·refine sg (VA b (Mt Mh) A bB aD (VO (jM (.agg A.toArray) (A.toArray) b rfl rfl aD oc nb rfl (fun W8 b => ln ?_))))
  replace b := b.jr (Kb (Db St))
  refine ky (kZ ?_)
  obtain rfl := sj hm
  exact pu (v := (.agg A.toArray)) rfl rfl (jD b.has Mh A rfl bB aD) ⟨_, _, _, rfl, (b.mn (Db (Kb Sn))), (jT.refl _), Lo.refl, (ST.kX b (mJ.mem (Db (Kb Sn)))), (.slice A1 a.Kids.length c2), rfl, rfl, x⟩
 refine kg (Wa (lS (Wf re (VB b (Mt Mh) rfl rfl eZ (V (lR aF rfl x) (Wm (kd ?_)))))))
 refine jE (lh (fun i E W => ∃ I H T D J b7, (E 15 = .int .i64 (i : Nat) ∧ E 14 = .int .i64 (a.Kids.length : Nat)) ∧ jT μ0 J ∧ Lo (keys d0) w μ0 J ∧ ST false (keys d0) w W J ((u, Ol (kN D) 224) :: ((b5, Ol C5 30) :: ((b3, Ol A 30) :: (T ++ b7)))) ∧ E 0 = (.pointer (some ⟨u, 0, none⟩)) ∧ E 3 = (.pointer (some ⟨b3, 0, none⟩)) ∧ E 4 = (.pointer (some ⟨b5, 0, none⟩)) ∧ E 5 = I ∧ E 13 = (.slice A1 a.Kids.length c2) ∧ kk 30 jq 5 J I H T ∧ mZ c9 a (a.Kids.drop i) H D = some r) a.Kids.length x.len ⟨(.slice none 0 0), ([]), [], a0, μ0, _, ⟨rfl, rfl⟩, (jT.refl _), Lo.refl, (b.jr (Sb (Pb (Pb Pz)) St)), rfl, rfl, rfl, rfl, rfl, (kk.nil _ _ _ _), hm⟩ dc dc dc (fun _ _ _ h => by obtain ⟨_, _, _, _, _, _, aa, _⟩ := h; exact aa) ?_ ?_)
 ·rintro f0 E W d7 ⟨I, H, T, D, J, b7, ⟨eI, eN⟩, z, d, b, a2, a3, G, R, b9, K, c⟩
  obtain ⟨t, f9, e5, e4, e6⟩ := kM d7
  rw [e5] at c
  refine bg (VQ (mo (i := (f0 : Int)) (x0 := t) jq.out aF aD b9 eI (x.mono jC.mono z) (aP _) e4) (fun h7 ⟨_, ⟨h8, rfl, c0⟩, d8⟩ => V (jt rfl (jW b.has d8 bB aD)) (VE (kB b bJ (fun g3 h5 b => ?_)))))
  obtain ⟨a7, a9, rfl⟩ := c0.form
  let a6 := (C1 t.Op t.K t.jl.jo t.jl.Word a7 t.Kids.length a9)
  refine VO (jM (.agg a6.toArray) (a6.toArray) b rfl rfl aD oc nb rfl (fun g4 b => ln (jF (Wh R (Wh a2 (VA b Mh a6 bB aD (bS c fun g d9 c => ?_)))))))
  refine VE (eD b (Cb (Pb Pz) Cn) call181 (fun L => (e9 u D t (.slice a7 t.Kids.length a9) _ _ L (c0.mono jC.mono (jT.refl _)) d9)) ?_)
  rintro _ h9 f4 g0 b b6 m ⟨i2, b1, rfl, c1⟩
  obtain rfl := b1.symm
  replace b := b.perm (Tb Tn)
  obtain ⟨M, U, rfl⟩ := c1.form
  let d1 : Value := (.slice M ((g.1).Kids).length U)
  refine VE (jX (cs := #[(.int .i64 ((g.1).Op)), (.int .i64 ((g.1).K)), (.string (((g.1).jl).jo)), (.string (((g.1).jl).Word)), d1]) b (mh rfl) (mA aF aD bJ) (fun g8 h6 b => ?_))
  replace b := b.perm (Nr (Qb (Qb (Qb (Qb (Qb Qz))))) Nz)
  refine bS c fun f1 d5 c => VE (vc (B := T) jC b dc aF nW.1 nW.2.1 rfl nW.2.2.1 nW.2.2.2 rfl rfl (K.mono jC b6) (AM.lit jC (l := [g.1]) (.cons (ys := [(.int .i64 ((g.1).Op)), (.int .i64 ((g.1).K)), (.string (((g.1).jl).jo)), (.string (((g.1).jl).Word)), d1]) (jq.mk ⟨d1, rfl, c1⟩) .nil) rfl nb (b.at_ (Ma Mh))) d5 (fun g9 f2 e8 b d4 => Wa (kd (kl (jE ?_)))))
  replace b := b.jr (Kr (Db (Kb (Db St))))
  exact ⟨eI, f2, f1, e8, g.2, f4, _, ⟨rfl, eN⟩, (z.trans b6), (d.trans m), (b.jr (Sb (Pr Pz) (Sb (Pr Pz) (Sb (Pr Pz) St)))), a2, a3, G, rfl, b9, d4, (by rw [e6]; exact c)⟩
 rintro E W ⟨I, H, T, D, J, b7, ⟨eI, eN⟩, z, d, b, a2, a3, G, R, b9, K, c⟩
 rw [aU] at c
 refine jE (jI (sg (V (jy sa a3) (VB b (Mt (Mt Mh)) rfl rfl cO (Wi rfl (ln (CI c rfl (fun d6 c => ?_) (fun d6 c => ?_))))))))
 ·refine sg (Wh a2 (V (jy xA a3) (VB b (Mt (Mt Mh)) rfl rfl cO (Wh R ?_))))
  replace b := b.perm (Nr (Qb (Qb (Qb Qz))) Nz)
  obtain ⟨i5, b, c5, n, e2⟩ := ST.vN jC b K
  refine bS c fun j e0 c => ?_
  let f3 : Value := (.string (((j.1).jl).Word))
  let d3 : Value := (.string (((j.1).jl).jo))
  refine VE (eD b (Cb Pz Cn) call243 (fun L => (zi u D a.K I H _ _ L (e2.mono jC.mono (jT.refl _)) e0)) ?_)
  rintro _ i0 i6 g1 b c6 p ⟨i3, b2, rfl, c3⟩
  obtain rfl := b2.symm
  replace b := b.perm (Tb Tn)
  obtain ⟨N, Y, rfl⟩ := c3.form
  let b8 : Value := (.slice N ((j.1).Kids).length Y)
  let a5 : Value := (.agg #[(.int .i64 ((j.1).Op)), (.int .i64 ((j.1).K)), d3, f3, b8])
  replace b := b.perm (Nb (Pb Pz) Nz)
  refine VO (jM a5 (#[(.int .i64 ((j.1).Op)), (.int .i64 ((j.1).K)), d3, f3, b8]) b G rfl aD oc nb rfl (fun h2 b => ln ?_))
  replace b := b.jr (Kb (Kb (Db St)))
  refine ky (kZ ?_)
  obtain rfl := sj c
  exact pu (v := a5) rfl G (jD b.has Mh [(.int .i64 ((j.1).Op)), (.int .i64 ((j.1).K)), d3, f3, b8] rfl bB aD) ⟨_, _, _, rfl, (b.mn (Db (Kb Sn))), ((z.trans c5).trans c6), ((d.trans n).trans p), (ST.kX b (mJ.mem (Db (Kb Sn)))), b8, rfl, rfl, c3⟩
 refine kg (Wh a2 (V (jy sa a3) (VB b (Mt (Mt Mh)) rfl rfl cO (Wh R ?_))))
 replace b := b.perm (Nr (Qb (Qb (Qb Qz))) Nz)
 obtain ⟨i7, b, c7, q, e3⟩ := ST.vN jC b K
 refine bS c fun k e1 c => ?_
 let f5 : Value := (.int .i64 ((k.1).Op))
 let e7 : Value := (.string (((k.1).jl).Word))
 let d2 : Value := (.string (((k.1).jl).jo))
 refine VE (eD b (Cb Pz Cn) call244 (fun L => (rR u D a.Op I H _ _ L (e3.mono jC.mono (jT.refl _)) e1)) ?_)
 rintro _ i1 i8 g2 b c8 s ⟨i4, b4, rfl, c4⟩
 obtain rfl := b4.symm
 replace b := b.perm (Tb Tn)
 obtain ⟨Q, Z, rfl⟩ := c4.form
 let P : Value := (.slice Q ((k.1).Kids).length Z)
 let a4 : Value := (.agg #[f5, (.int .i64 ((k.1).K)), d2, e7, P])
 replace b := b.perm (Nb (Pb Pz) Nz)
 refine VO (jM a4 (#[f5, (.int .i64 ((k.1).K)), d2, e7, P]) b G rfl aD oc nb rfl (fun h4 b => ln ?_))
 replace b := b.jr (Kb (Kb (Db St)))
 refine ky ?_
 obtain rfl := sj c
 exact pu (v := a4) rfl G (jD b.has Mh [f5, (.int .i64 ((k.1).K)), d2, e7, P] rfl bB aD) ⟨_, _, _, rfl, (b.mn (Db (Kb Sn))), ((z.trans c7).trans c8), ((d.trans q).trans s), (ST.kX b (mJ.mem (Db (Kb Sn)))), P, rfl, rfl, c4⟩
theorem vI : ∀ (n : Nat) (c : Nat) (j : kc) (g : Formula) (a : Value) (r : (Formula × kc)) (w : World) {k : jN} (y : nD k ((c, Ol (kN j) 224) :: []) w) (i : Sl jq 5 k a g.Kids) (_ : mG n j g = some r),
  lQ false pg0 181 [(.pointer (some ⟨c, 0, none⟩)), (.agg #[(.int .i64 g.Op), (.int .i64 g.K), (.string g.jl.jo), (.string g.jl.Word), a])] w k ((c, Ol (kN j) 224) :: []) (fun v u x => ∃ t, v = (.agg #[(.int .i64 ((r.1).Op)), (.int .i64 ((r.1).K)), (.string (((r.1).jl).jo)), (.string (((r.1).jl).Word)), t]) ∧ u = ((c, Ol (kN (r.2)) 224) :: []) ∧ Sl jq 5 x t ((r.1).Kids))
 | 0 => by intros; rename_i h; simp only [mG] at h; cases h
 | n + 1 => yh (mG n) (vI n)
theorem Be (c : Formula) (u : Value) (r : (Formula × Int)) (w : World) {Z : jN} (A : nD Z [] w) (k : Sl jq 5 Z u c.Kids) (hm : uy c = some r) :
  lQ false pg0 114 [(.agg #[(.int .i64 c.Op), (.int .i64 c.K), (.string c.jl.jo), (.string c.jl.Word), u])] w Z [] (fun v L1 μ1 => ∃ q, v = (.tuple #[(.agg #[(.int .i64 ((r.1).Op)), (.int .i64 ((r.1).K)), (.string (((r.1).jl).jo)), (.string (((r.1).jl).Word)), q]), (.int .i64 (r.2))]) ∧ L1 = [] ∧ Sl jq 5 μ1 q ((r.1).Kids)) := by
 refine uW A 27 func114 rfl (fun b => sg ?_)
 obtain ⟨H, I, rfl⟩ := k.form
 let n := (C1 c.Op c.K c.jl.jo c.jl.Word H c.Kids.length I)
 refine VE (kx b rfl (fun W4 O b => VE (kB b bJ (fun W6 p b => Wa (lS (VA b (Mt Mh) n bB aD (bS hm fun r7 a5 hm => VE (Eg b call129 (uC c (.slice H c.Kids.length I) _ _ (k.mono jC.mono b.jx) a5) (fun W9 b => V (pA rfl) (ln (CI hm rfl (fun Q hm => ?_) (fun Q hm => ?_))))))))))))
 ·refine sg (V (mE (v := (.agg C5.toArray)) tJ (lO bJ cD (z6 _ cD) kr)) (VO (jM (.agg C5.toArray) (C5.toArray) b rfl rfl aD oc nb rfl (fun R b => Wa (ln ?_)))))
  replace b := b.jr (Kb (Db St))
  refine ky (kZ ?_)
  obtain rfl := sj hm
  exact uw (v0 := (.agg C5.toArray)) (v1 := (.int .i64 11)) rfl rfl (jD b.has Mh C5 rfl bB aD) rfl ⟨_, _, _, rfl, (b.mn Sn), (jT.refl _), Lo.refl, (ST.kX b (mJ.mem Sn)), (.slice none 0 0), rfl, rfl, (Sl.nil _ _ _)⟩
 refine kg (V (mE (v := (.agg (kN K5).toArray)) tJ (lO zeroValue224 iE (QX _ iE) kr)) (VE (kx b rfl (fun b7 s b => Wa (lr (Wm (VA b (Mt (Mt Mh)) n bB aD (bS hm fun a U hm => ?_))))))))
 let m : Value := (.int .i64 ((a.1).K))
 let l : Value := (.int .i64 ((a.1).Op))
 let h : Value := (.string (((a.1).jl).Word))
 let a2 : Value := (.string (((a.1).jl).jo))
 refine VE (eD b (Cb Pz Cn) call181 (fun L => ((vI jP) s K5 c (.slice H c.Kids.length I) _ _ L (k.mono jC.mono (jT.refl _)) U)) ?_)
 rintro _ c7 a9 P b D d ⟨c9, y, rfl, z⟩
 obtain rfl := y.symm
 replace b := b.perm (Tb Tn)
 refine VE (kB b bJ (fun c0 K b => ?_))
 obtain ⟨i, j, rfl⟩ := z.form
 let a0 : Value := (.slice i ((a.1).Kids).length j)
 let N : Value := (.agg #[l, m, a2, h, a0])
 refine VO (jM N (#[l, m, a2, h, a0]) b rfl rfl aD oc nb rfl (fun c1 b => ln ?_))
 replace b := b.jr (Kb (Kb (Kb (Db St))))
 refine jI (sg (Wm (Wn (Wf Jx (VB b (Mt Mh) rfl rfl isAgg109 (Wi rfl (Wm (LJ hm (fun M E W => ∃ J, ST false (keys []) w W a9 ((K, Ob #[l, m, a2, h, a0] 30) :: ((p, Ol C5 30) :: J)) ∧ E 2 = (.pointer (some ⟨p, 0, none⟩)) ∧ E 5 = (.pointer (some ⟨K, 0, none⟩)) ∧ E 24 = (.bool M)) 4 ?_ (fun M t G => ?_)))))))))
 ·rintro c8 E W ⟨J, b, B, a3, a4⟩ x
  refine ln (CI x a4 (fun T x => ?_) (fun T x => ?_))
  ·refine sg (V (mE (v := (.agg C5.toArray)) tJ (lO bJ cD (z6 _ cD) kr)) ?_)
   replace b := b.perm (Nb (Pb Pz) Nz)
   refine VO (jM (.agg C5.toArray) (C5.toArray) b B rfl aD oc nb rfl (fun c3 b => Wa (ln ?_)))
   replace b := b.jr (Kb (Db St))
   refine ky (kZ ?_)
   obtain rfl := sj x
   exact uw (v0 := (.agg C5.toArray)) (v1 := (.int .i64 12)) rfl B (jD b.has Mh C5 rfl bB aD) rfl ⟨_, _, _, rfl, (b.mn Sn), D, d, (ST.kX b (mJ.mem Sn)), (.slice none 0 0), rfl, rfl, (Sl.nil _ _ _)⟩
  refine kg (V (jt a3 (jD b.has Mh [l, m, a2, h, a0] rfl bB aD)) ?_)
  replace b := b.perm (Nb (Pb Pz) Nz)
  refine VO (jM N (#[l, m, a2, h, a0]) b B rfl aD oc nb rfl (fun c4 b => Wa (ln ?_)))
  replace b := b.jr (Kb (Db St))
  refine ky ?_
  obtain rfl := sj x
  exact uw (v0 := N) (v1 := (.int .i64 0)) rfl B (jD b.has Mh [l, m, a2, h, a0] rfl bB aD) rfl ⟨_, _, _, rfl, (b.mn Sn), D, d, (ST.kX b (mJ.mem Sn)), a0, rfl, rfl, z⟩
 refine bC t (fun g t => ?_) (fun g t => ?_)
 ·refine un g (un g (un g (V (km (cB g) rfl) ?_)))
  obtain rfl := sj t
  exact G _ _ ⟨_, (b.jr (Kb (Db St))), rfl, rfl, rfl⟩
 refine ug g (jt rfl (jD b.has Mh [l, m, a2, h, a0] rfl bB aD)) (bS t fun c6 Y t => vH g (Eg b call129 (uC a.1 a0 _ _ (z.mono jC.mono b.jx) Y) (fun c5 b => ug g (pA rfl) (V (kq (cB g) rfl) ?_))))
 obtain rfl := sj t
 exact G _ _ ⟨_, (b.jr (Kb (Db St))), rfl, rfl, rfl⟩
theorem Hn (a : Formula) (k : Value) (c : Formula) (t : Value) (r : (Formula × Int)) (w : World) {N : jN} (q : nD N [] w) (i : Sl jq 5 N k a.Kids) (j : Sl jq 5 N t c.Kids) (hm : wk a c = some r) :
  lQ false pg0 258 [(.agg #[(.int .i64 a.Op), (.int .i64 a.K), (.string a.jl.jo), (.string a.jl.Word), k]), (.agg #[(.int .i64 c.Op), (.int .i64 c.K), (.string c.jl.jo), (.string c.jl.Word), t])] w N [] (fun v Z μ1 => ∃ Y, v = (.tuple #[(.agg #[(.int .i64 ((r.1).Op)), (.int .i64 ((r.1).K)), (.string (((r.1).jl).jo)), (.string (((r.1).jl).Word)), Y]), (.int .i64 (r.2))]) ∧ Z = [] ∧ Sl jq 5 μ1 Y ((r.1).Kids)) := by
 refine uW q 13 func258 rfl (fun b => sg ?_)
 obtain ⟨u, z, rfl⟩ := i.form
 let a3 : Value := (.slice u a.Kids.length z)
 refine VE (kx b rfl (fun W4 R b => ?_))
 obtain ⟨y, G, rfl⟩ := j.form
 let n : Value := (.slice y c.Kids.length G)
 refine VE (kx b rfl (fun W8 W b => VE (kB b bJ (fun a5 b9 b => Wa (lr (VA b (Mt (Mt Mh)) (C1 a.Op a.K a.jl.jo a.jl.Word u a.Kids.length z) bB aD (VA b (Mt Mh) (C1 c.Op c.K c.jl.jo c.jl.Word y c.Kids.length G) bB aD (VE (jX (cs := #[(.int .i64 a.Op), (.int .i64 a.K), (.string a.jl.jo), (.string a.jl.Word), a3, (.int .i64 c.Op), (.int .i64 c.K), (.string c.jl.jo), (.string c.jl.Word), n]) b (vZ rfl rfl) (mA aF aD bJ) (fun A I b => V (mE (v := (.agg #[(.int .i64 2), (.int .i64 0), (.string zS), (.string zS), (.slice (some ⟨I, 0, none⟩) 2 2)])) (vZ rfl rfl) (lO bJ cD (z6 _ cD) kr)) ?_))))))))))
 obtain ⟨O, b, K, d, U⟩ := ST.vN (B := [(I, Ob #[(.int .i64 a.Op), (.int .i64 a.K), (.string a.jl.jo), (.string a.jl.Word), a3, (.int .i64 c.Op), (.int .i64 c.K), (.string c.jl.jo), (.string c.jl.Word), n] 30)]) jC b (kk.lit jC (l := [a, c]) (.cons (ys := C1 a.Op a.K a.jl.jo a.jl.Word u a.Kids.length z) (jq.mk ⟨a3, rfl, i⟩) (.cons (ys := C1 c.Op c.K c.jl.jo c.jl.Word y c.Kids.length G) (jq.mk ⟨n, rfl, j⟩) .nil)) rfl nb rfl)
 refine bS hm fun g T hm => ?_
 let p : Value := (.int .i64 ((g.1).Op))
 let a2 : Value := (.string (((g.1).jl).Word))
 let m : Value := (.string (((g.1).jl).jo))
 refine VE (eD b (bW _) call114 (fun s => (Be (⟨2, 0, K0, [a, c]⟩ : Formula) (.slice (some ⟨I, 0, none⟩) 2 2) _ _ s (U.mono jC.mono (jT.refl _)) T)) ?_ (L0 := []))
 rintro _ a9 P a4 b M h ⟨L, H, rfl, J⟩
 obtain rfl := H.symm
 refine Wx rfl (Wx rfl ?_)
 obtain ⟨x, D, rfl⟩ := J.form
 let a0 : Value := (.slice x ((g.1).Kids).length D)
 let Q : Value := (.agg #[p, (.int .i64 ((g.1).K)), m, a2, a0])
 refine VO (jM Q (#[p, (.int .i64 ((g.1).K)), m, a2, a0]) b rfl rfl aD oc nb rfl (fun E b => Wa (ln ?_)))
 replace b := b.jr (Kb (Db (Db St)))
 refine ky ?_
 obtain rfl := sj hm
 exact uw (v0 := Q) (v1 := (.int .i64 g.2)) rfl rfl (jD b.has Mh [p, (.int .i64 ((g.1).K)), m, a2, a0] rfl bB aD) rfl ⟨_, _, _, rfl, (b.mn Sn), (K.trans M), (d.trans h), (ST.kX b (mJ.mem Sn)), a0, rfl, rfl, J⟩
theorem Jf (d1 : Value) (a0 : List Formula) (r : (Formula × Int)) (w : World) {μ0 : jN} (h0 : nD μ0 [] w) (c7 : Sl jq 5 μ0 d1 a0) (hm : uu a0 = some r) :
  lQ false pg0 194 [d1] w μ0 [] (fun v L1 μ1 => ∃ y1, v = (.tuple #[(.agg #[(.int .i64 ((r.1).Op)), (.int .i64 ((r.1).K)), (.string (((r.1).jl).jo)), (.string (((r.1).jl).Word)), y1]), (.int .i64 (r.2))]) ∧ L1 = [] ∧ Sl jq 5 μ1 y1 ((r.1).Kids)) := by
 let e5 := (a0.drop (Int.toNat 1))
 refine uW h0 36 func194 rfl (fun b => sg (VE (kB b bJ (fun W2 A b => Wa (lr (Wm (bS hm fun x6 e3 hm => VQ (mo (i := 0) (x0 := x6) jq.out aF aD rfl rfl c7 (jU e3) (jS e3)) (fun p3 ⟨_, ⟨v8, rfl, f2⟩, f1⟩ => V (jt rfl (jW b.has f1 bB aD)) (bS hm fun j e6 hm => ?_)))))))))
 refine VE (eD b (bW _) call114 (fun hh => (Be x6 v8 _ _ hh (f2.mono jC.mono (jT.refl _)) e6)) ?_ (L0 := []))
 rintro _ i4 a9 i0 b a4 m ⟨i5, b6, rfl, d0⟩
 obtain rfl := b6.symm
 refine Wm (Wx rfl (Wx rfl (VE (kB b bJ (fun i2 L b => ?_)))))
 obtain ⟨c2, c5, rfl⟩ := d0.form
 let d2 : Value := (.slice c2 ((j.1).Kids).length c5)
 refine VO (jM (.agg #[(.int .i64 ((j.1).Op)), (.int .i64 ((j.1).K)), (.string (((j.1).jl).jo)), (.string (((j.1).jl).Word)), d2]) (#[(.int .i64 ((j.1).Op)), (.int .i64 ((j.1).K)), (.string (((j.1).jl).jo)), (.string (((j.1).jl).Word)), d2]) b rfl rfl aD oc nb rfl (fun i3 b => Wa (lS (Wm (bS hm fun _ c8 hm => VQ (Eh (i := 1) aF aD rfl rfl (c7.mono jC.mono a4) (uO c8) (uF c8)) (fun f3 b5 => V (lR aF rfl b5.1) (Wm (ln (CJ hm (fun u E W => ∃ q U c3, jT a9 U ∧ Lo (keys []) w a9 U ∧ ST false (keys []) w W U ((L, Ob #[(.int .i64 u.2.1), (.int .i64 u.2.2.1), (.string u.2.2.2.1.jo), (.string u.2.2.2.1.Word), q] 30) :: ((A, Ol C5 30) :: c3)) ∧ E 2 = (.pointer (some ⟨A, 0, none⟩)) ∧ E 4 = (.pointer (some ⟨L, 0, none⟩)) ∧ E 5 = (.int .i64 u.1) ∧ Sl jq 5 U q u.2.2.2.2) (fun u d7 => ?_) ?_)))))))))
 ·refine lh (fun i E W => ∃ s G H y x N z P, (E 18 = .int .i64 (i : Nat) ∧ E 17 = .int .i64 (e5.length : Nat)) ∧ jT a9 z ∧ Lo (keys []) w a9 z ∧ ST false (keys []) w W z ((L, Ob #[(.int .i64 G), (.int .i64 H), (.string y.jo), (.string y.Word), x] 30) :: ((A, Ol C5 30) :: P)) ∧ E 2 = (.pointer (some ⟨A, 0, none⟩)) ∧ E 4 = (.pointer (some ⟨L, 0, none⟩)) ∧ E 5 = (.int .i64 s) ∧ E 16 = f3 ∧ Sl jq 5 z x N ∧ rE (e5.drop i) s G H y N = some u) e5.length b5.1.len ⟨j.2, ((j.1).Op), ((j.1).K), ((j.1).jl), d2, ((j.1).Kids), a9, _, ⟨rfl, rfl⟩, (jT.refl _), Lo.refl, (b.jr St), rfl, rfl, rfl, rfl, d0, d7⟩ dc dc dc (fun _ _ _ h => by obtain ⟨_, _, _, _, _, _, _, _, aa, _⟩ := h; exact aa) ?_ ?_
  ·rintro e7 E W d6 ⟨s, G, H, y, x, N, z, P, ⟨eI, eN⟩, t, d, b, a2, D, a3, R, I, c⟩
   obtain ⟨a, f6, e1, e0, e2⟩ := kM d6
   rw [e1] at c
   refine bg (VQ (mo (i := (e7 : Int)) (x0 := a) jq.out aF aD R eI (b5.1.mono jC.mono t) (aP _) e0) (fun h1 ⟨_, ⟨h4, rfl, c0⟩, d8⟩ => V (jt rfl (jW b.has d8 bB aD)) (VE (kB b bJ (fun g2 g8 b => ?_)))))
   obtain ⟨Y, Z, rfl⟩ := c0.form
   let b8 := (C1 a.Op a.K a.jl.jo a.jl.Word Y a.Kids.length Z)
   refine VO (jM (.agg b8.toArray) (b8.toArray) b rfl rfl aD oc nb rfl (fun g3 b => lS (Wh a3 (Wi rfl (ln (CI c rfl (fun d5 c => ?_) (fun d5 c => ?_)))))))
   ·refine nv (mU (QB (by simp) (mU (rN (jE ?_)))))
    obtain rfl := sj c
    exact ⟨x, z, _, t, d, (b.jr (Db St)), a2, D, a3, I⟩
   refine kn (jF (V (jt D (jD b.has (Mt Mh) [(.int .i64 G), (.int .i64 H), (.string y.jo), (.string y.Word), x] rfl bB aD)) (VA b Mh b8 bB aD (bS c fun g d9 c => ?_))))
   refine VE (eD b (bW _) call258 (fun hh => (Hn (⟨G, H, y, N⟩ : Formula) x a (.slice Y a.Kids.length Z) _ _ hh (I.mono jC.mono (jT.refl _)) (c0.mono jC.mono (jT.refl _)) d9)) ?_ (L0 := []))
   rintro _ h5 f0 f9 b c9 n ⟨h8, a5, rfl, c1⟩
   obtain rfl := a5.symm
   refine Wm (Wx rfl (Wx rfl ?_))
   obtain ⟨b0, b3, rfl⟩ := c1.form
   let d3 : Value := (.slice b0 ((g.1).Kids).length b3)
   replace b := b.perm (Nb (Pb Pz) Nz)
   refine VO (jM (.agg #[(.int .i64 ((g.1).Op)), (.int .i64 ((g.1).K)), (.string (((g.1).jl).jo)), (.string (((g.1).jl).Word)), d3]) (#[(.int .i64 ((g.1).Op)), (.int .i64 ((g.1).K)), (.string (((g.1).jl).jo)), (.string (((g.1).jl).Word)), d3]) b D rfl aD oc nb rfl (fun g7 b => Wa (kd (kl (jE ?_)))))
   replace b := b.jr (Kb (Db St))
   exact ⟨eI, g.2, ((g.1).Op), ((g.1).K), ((g.1).jl), d3, ((g.1).Kids), f0, _, ⟨rfl, eN⟩, (t.trans c9), (d.trans n), (b.jr St), a2, D, rfl, R, c1, (by rw [e2]; exact c)⟩
  rintro E W ⟨s, G, H, y, x, N, z, P, ⟨eI, eN⟩, t, d, b, a2, D, a3, R, I, c⟩
  rw [aU] at c
  refine jE ?_
  obtain rfl := sj c
  exact ⟨x, z, _, t, d, (b.jr St), a2, D, a3, I⟩
 rintro ⟨e8, Q, T, k, M⟩ E W ⟨q, U, c3, a8, l, b, p, e4, c6, b9⟩ B
 refine jI (sg (Wh c6 (Wi rfl (ln (CI B rfl (fun d4 B => ?_) (fun d4 B => ?_))))))
 ·refine sg (V (mE (v := (.agg C5.toArray)) tJ (lO bJ cD (z6 _ cD) kr)) (Wh c6 ?_))
  replace b := b.perm (Nb (Pb Pz) Nz)
  refine VO (jM (.agg C5.toArray) (C5.toArray) b p rfl aD oc nb rfl (fun g0 b => Wa (ln ?_)))
  replace b := b.jr (Kb (Db St))
  refine ky (kZ ?_)
  obtain rfl := sj B
  exact uw (v0 := (.agg C5.toArray)) (v1 := (.int .i64 e8)) rfl p (jD b.has Mh C5 rfl bB aD) rfl ⟨_, _, _, rfl, (b.mn Sn), (a4.trans a8), (m.trans l), (ST.kX b (mJ.mem Sn)), (.slice none 0 0), rfl, rfl, (Sl.nil _ _ _)⟩
 refine kg (V (jt e4 (jD b.has Mh [(.int .i64 Q), (.int .i64 T), (.string k.jo), (.string k.Word), q] rfl bB aD)) ?_)
 obtain ⟨J, K, rfl⟩ := b9.form
 let O := (C1 Q T k.jo k.Word J M.length K)
 replace b := b.perm (Nb (Pb Pz) Nz)
 refine VO (jM (.agg O.toArray) (O.toArray) b p rfl aD oc nb rfl (fun g1 b => Wa (ln ?_)))
 replace b := b.jr (Kb (Db St))
 refine ky ?_
 obtain rfl := sj B
 exact uw (v0 := (.agg O.toArray)) (v1 := (.int .i64 0)) rfl p (jD b.has Mh O rfl bB aD) rfl ⟨_, _, _, rfl, (b.mn Sn), (a4.trans a8), (m.trans l), (ST.kX b (mJ.mem Sn)), (.slice J M.length K), rfl, rfl, b9⟩
theorem KU (k : jQ) (G H : Value) (p : jm) (r : (Formula × Int)) (w : World) {μ0 : jN} (h0 : nD μ0 [] w) (t : Sl ki 15 μ0 G k.jA) (y : Sl kT 8 μ0 H k.jO) (hm : zn k p = some r) :
  lQ false pg0 124 [(.agg #[(.string k.Name), G, H]), (.agg (js p).toArray)] w μ0 [] (fun v L1 μ1 => ∃ y1, v = (.tuple #[(.agg #[(.int .i64 ((r.1).Op)), (.int .i64 ((r.1).K)), (.string (((r.1).jl).jo)), (.string (((r.1).jl).Word)), y1]), (.int .i64 (r.2))]) ∧ L1 = [] ∧ Sl jq 5 μ1 y1 ((r.1).Kids)) := by
 refine uW h0 41 func124 rfl (fun b => sg ?_)
 obtain ⟨A1, c2, rfl⟩ := t.form
 obtain ⟨A3, R, rfl⟩ := y.form
 let f5 := (C4 k.Name A1 k.jA.length c2 A3 k.jO.length R)
 refine VE (kx b rfl (fun W6 b5 b => VE (kx b rfl (fun W8 b7 b => VE (kB b bJ (fun i4 b9 b => Wa (lr (VA b (Mt (Mt Mh)) f5 dJ cQ (VA b (Mt Mh) (js p) cI aX (bS hm fun a e7 hm => ?_))))))))))
 let b8 : Value := (.int .i64 (((a.1).ju).K))
 let q : Value := (.int .i64 (((a.1).ju).Op))
 let b1 := (((a.1).ju).jl)
 let s : Value := (.string (b1.Word))
 let d8 : Value := (.string (b1.jo))
 let a0 := (((a.1).Signed).jm)
 refine VE (eD b (bW _) call192 (fun A => (IZ k (.slice A1 k.jA.length c2) (.slice A3 k.jO.length R) p _ _ A (t.mono kH.mono (jT.refl _)) (y.mono mC.mono (jT.refl _)) e7)) ?_ (L0 := []))
 rintro _ j4 j8 i2 b I d ⟨j6, j7, a5, rfl, e9, c5⟩
 obtain rfl := a5.symm
 refine Wm (Wx rfl (Wx rfl (VE (kB b fX (fun i6 j3 b => ?_)))))
 obtain ⟨d9, e1, rfl⟩ := e9.form
 let f8 : Value := (.slice d9 (((a.1).Signed).Tag).length e1)
 obtain ⟨z, D, rfl⟩ := c5.form
 let a2 : Value := (.slice z (((a.1).ju).Kids).length D)
 refine VO (jM (.agg #[(.int .i64 (a0.Kind)), (.string ((a0.Head).jo)), (.string ((a0.Head).Word)), (.string (a0.ke)), (.string ((a0.B).jo)), (.string ((a0.B).Word)), (.string ((a0.C).jo)), (.string ((a0.C).Word)), (.string (a0.kp)), f8, q, b8, d8, s, a2]) (#[(.int .i64 (a0.Kind)), (.string ((a0.Head).jo)), (.string ((a0.Head).Word)), (.string (a0.ke)), (.string ((a0.B).jo)), (.string ((a0.B).Word)), (.string ((a0.C).jo)), (.string ((a0.C).Word)), (.string (a0.kp)), f8, q, b8, d8, s, a2]) b rfl rfl dQ oc nb rfl (fun i7 b => Wa (lS (Wm (V (pA rfl) (ln (CI hm rfl (fun e6 hm => ?_) (fun e6 hm => ?_))))))))
 ·refine sg (V (mE (v := (.agg C5.toArray)) tJ (lO bJ cD (z6 _ cD) kr)) ?_)
  replace b := b.perm (Nb (Pb Pz) Nz)
  refine VO (jM (.agg C5.toArray) (C5.toArray) b rfl rfl aD oc nb rfl (fun i8 b => Wa (ln ?_)))
  replace b := b.jr (Kb (Db (Db (Db St))))
  refine ky (kZ ?_)
  obtain rfl := sj hm
  exact uw (v0 := (.agg C5.toArray)) (v1 := (.int .i64 42)) rfl rfl (jD b.has Mh C5 rfl bB aD) rfl ⟨_, _, _, rfl, (b.mn Sn), I, d, (ST.kX b (mJ.mem Sn)), (.slice none 0 0), rfl, rfl, (Sl.nil _ _ _)⟩
 refine kg (Wf Mi (VA b Mh [q, b8, d8, s, a2] bB aD (VE (jX (cs := #[q, b8, d8, s, a2]) b (mh rfl) (mA aF aD bJ) (fun i9 e0 b => Wa (ln ?_))))))
 replace b := b.jr (Kb (Db St))
 refine jI (sg (VA b (Mt (Mt (Mt Mh))) f5 dJ cQ (VA b (Mt (Mt Mh)) (js p) cI aX (bS hm fun c6 e8 hm => ?_))))
 refine VE (eD b (bW _) call193 (fun A => (Hs k (.slice A1 k.jA.length c2) (.slice A3 k.jO.length R) p _ _ A (t.mono kH.mono I) (y.mono mC.mono I) e8)) ?_ (L0 := []))
 rintro _ j5 e2 i3 b a8 L ⟨f6, a6, rfl, P⟩
 obtain rfl := a6.symm
 refine V (lR du rfl P) (Wm (ln ?_))
 replace b := b.jr (Kb (Kb (Db (Db St))))
 replace b := b.Du
 refine lh (fun i E W => ∃ Q N K Z, (E 27 = .int .i64 (i : Nat) ∧ E 26 = .int .i64 (c6.length : Nat)) ∧ ST false (keys []) w W e2 ((b9, Ol C5 30) :: (K ++ Z)) ∧ E 4 = (.pointer (some ⟨b9, 0, none⟩)) ∧ E 8 = Q ∧ E 25 = f6 ∧ kk 30 jq 5 e2 Q N K ∧ sr (c6.drop i) N = some r) c6.length P.len ⟨(.slice (some ⟨e0, 0, none⟩) 1 1), ([(a.1).ju]), [(e0, Ob #[q, b8, d8, s, a2] 30)], _, ⟨rfl, rfl⟩, (b.jr (Sb (Pr Pz) St)), rfl, rfl, rfl, (kk.lit jC (l := [(a.1).ju]) (.cons (ys := [q, b8, d8, s, a2]) (jq.mk ⟨a2, rfl, (c5.mono jC.mono a8)⟩) .nil) rfl nb rfl), hm⟩ dc dc dc (fun _ _ _ h => by obtain ⟨_, _, _, _, aa, _⟩ := h; exact aa) ?_ ?_
 ·rintro f0 E W d0 ⟨Q, N, K, Z, ⟨eI, eN⟩, b, T, a3, a4, U, j⟩
  obtain ⟨c, f7, d6, d5, d7⟩ := kM d0
  rw [d6] at j
  refine bg (VQ (mo (i := (f0 : Int)) (x0 := c) kT.out du dL a4 eI P (aP _) d5) (fun h2 ⟨_, ⟨h5, h6, rfl, a9, d3⟩, d1⟩ => V (jt rfl (jW b.has d1 iN dL)) (VE (kB b gm (fun g0 g8 b => ?_)))))
  obtain ⟨u, x, rfl⟩ := a9.form
  let c7 := (C1 c.ju.Op c.ju.K c.ju.jl.jo c.ju.jl.Word u c.ju.Kids.length x)
  obtain ⟨b2, b6, rfl⟩ := d3.form
  let c0 := (C7 c.jl.jo c.jl.Word c.ju.Op c.ju.K c.ju.jl.jo c.ju.jl.Word u c.ju.Kids.length x b2 c.lx.length b6)
  refine VO (jM (.agg c0.toArray) (c0.toArray) b rfl rfl dL oc nb rfl (fun g1 b => ln (jF (Wh a3 (Wf Js (VA b Mh c7 bB aD (VE (jX (cs := c7.toArray) b (mh rfl) (mA aF aD bJ) (fun g2 g9 b => ?_)))))))))
  replace b := b.perm (Nr (Qb (Qb (Qb Qz))) Nz)
  refine bS j fun f1 c9 j => VE (vc (B := K) jC b dc aF nW.1 nW.2.1 rfl nW.2.2.1 nW.2.2.2 rfl rfl U (AM.lit jC (l := [c.ju]) (.cons (ys := C1 c.ju.Op c.ju.K c.ju.jl.jo c.ju.jl.Word u c.ju.Kids.length x) (jq.mk ⟨(.slice u c.ju.Kids.length x), rfl, a9⟩) .nil) rfl nb (b.at_ (Ma Mh))) c9 (fun g3 f2 e3 b c8 => Wa (kd (kl (jE ?_)))))
  replace b := b.jr (Kr (Db (Db St)))
  exact ⟨eI, f2, f1, e3, _, ⟨rfl, eN⟩, (b.jr (Sb (Pr Pz) St)), T, rfl, a4, c8, (by rw [d7]; exact j)⟩
 rintro E W ⟨Q, N, K, Z, ⟨eI, eN⟩, b, T, a3, a4, U, j⟩
 rw [aU] at j
 refine jE (sg (Wh a3 ?_))
 replace b := b.perm (Nr (Qb Qz) Nz)
 obtain ⟨i0, b, c1, m, d4⟩ := ST.vN jC b U
 refine bS j fun g d2 j => ?_
 let g4 : Value := (.int .i64 ((g.1).Op))
 let f4 : Value := (.string (((g.1).jl).Word))
 let f3 : Value := (.string (((g.1).jl).jo))
 refine VE (eD b (bW _) call194 (fun A => (Jf Q N _ _ A (d4.mono jC.mono (jT.refl _)) d2)) ?_ (L0 := []))
 rintro _ h7 i1 f9 b c3 n ⟨h8, Y, rfl, b0⟩
 obtain rfl := Y.symm
 refine Wx rfl (Wx rfl ?_)
 obtain ⟨J, M, rfl⟩ := b0.form
 let O : Value := (.slice J ((g.1).Kids).length M)
 let b4 : Value := (.agg #[g4, (.int .i64 ((g.1).K)), f3, f4, O])
 refine VO (jM b4 (#[g4, (.int .i64 ((g.1).K)), f3, f4, O]) b T rfl aD oc nb rfl (fun g7 b => Wa (lt ?_)))
 obtain rfl := sj j
 exact uw (v0 := b4) (v1 := (.int .i64 g.2)) rfl T (jD b.has Mh [g4, (.int .i64 ((g.1).K)), f3, f4, O] rfl bB aD) rfl ⟨_, _, _, rfl, (b.mn Sn), (((I.trans a8).trans c1).trans c3), (((d.trans L).trans m).trans n), (ST.kX b (mJ.mem Sn)), O, rfl, rfl, b0⟩
theorem B3 (Q : Formula → (jl → Option Bool) → Option Bool) (a5 : ∀ (g : Formula) (k : Value) (t : Value) (J : jl → Option Bool) (r : Bool) (w : World) (c : Sl jq 5 (hp w) k g.Kids) (K : xO pg0 t (hp w) (fun (x : jl) => [(.agg (jw x).toArray)]) (fun (r : Bool) => (.bool r)) J), Q g J = some r → kf false pg0 130 [(.agg #[(.int .i64 g.Op), (.int .i64 g.K), (.string g.jl.jo), (.string g.jl.Word), k]), t] w (.bool r)) (g : Formula) (k t : Value) (J : jl → Option Bool) (r : Bool) (w : World) (c : Sl jq 5 (hp w) k g.Kids) (K : xO pg0 t (hp w) (fun (x : jl) => [(.agg (jw x).toArray)]) (fun (r : Bool) => (.bool r)) J) (hm : tT Q g J = some r) :
  kf false pg0 130 [(.agg #[(.int .i64 g.Op), (.int .i64 g.K), (.string g.jl.jo), (.string g.jl.Word), k]), t] w (.bool r) := by
 refine cG 45 func130 rfl (fun b => sg ?_)
 obtain ⟨A1, c2, rfl⟩ := c.form
 refine VE (kx b rfl (fun W4 n b => Wa (lS (Wf sa (VB b Mh rfl rfl cO (Wi rfl (ln (CI hm rfl (fun a9 hm => ?_) (fun a9 hm => ?_)))))))))
 ·refine sg (Wm (Wf xu (VA b Mh (jw g.jl) bX bG (bS hm fun r6 v hm => VE (NI g.jl b K (jT.refl _) rfl (tZ rfl) v (fun W8 b => Wa (ln ?_)))))))
  replace b := b.jr (Db St)
  refine ky (kZ ?_)
  obtain rfl := sj hm
  exact rP b
 refine kg (Wa (lS (Wf re (VB b Mh rfl rfl eZ (V (lR aF rfl c) (Wm (kd ?_)))))))
 refine jE (lh (fun i E W => ∃ z I, (E 18 = .int .i64 (i : Nat) ∧ E 17 = .int .i64 (g.Kids.length : Nat)) ∧ ST false lB w W (hp w) ((n, Ol (C1 g.Op g.K g.jl.jo g.jl.Word A1 g.Kids.length c2) 30) :: I) ∧ E 1 = t ∧ E 2 = (.pointer (some ⟨n, 0, none⟩)) ∧ E 5 = (.int .i64 z) ∧ E 16 = (.slice A1 g.Kids.length c2) ∧ ou Q J g (g.Kids.drop i) z = some r) g.Kids.length c.len ⟨0, _, ⟨rfl, rfl⟩, (b.jr St), rfl, rfl, rfl, rfl, hm⟩ dc dc dc (fun _ _ _ h => by obtain ⟨_, _, l, _⟩ := h; exact l) ?_ ?_)
 ·rintro A E W a4 ⟨z, I, ⟨d, m⟩, b, G, u, y, H, a⟩
  obtain ⟨j, c1, s, q, N⟩ := kM a4
  rw [s] at a
  refine bg (VQ (mo (i := (A : Int)) (x0 := j) jq.out aF aD H d c (aP _) q) (fun b7 ⟨_, ⟨c0, rfl, M⟩, Z⟩ => V (jt rfl (jW b.has Z bB aD)) (VE (kB b bJ (fun L R b => ?_)))))
  obtain ⟨B, D, rfl⟩ := M.form
  let a0 := (C1 j.Op j.K j.jl.jo j.jl.Word B j.Kids.length D)
  refine VO (jM (.agg a0.toArray) (a0.toArray) b rfl rfl aD oc nb rfl (fun O b => lr (VA b Mh a0 bB aD (Wh G (bS a fun b9 p a => VE (Eg b call130 (a5 j (.slice B j.Kids.length D) t J _ _ (M.mono jC.mono b.jx) (K.mono b.jx) p) (fun P b => ln ?_)))))))
  replace b := b.jr (Db St)
  refine CI a rfl (fun T a => ?_) (fun T a => ?_)
  ·exact jF (Wh y (Wi rfl (Wa (kd (kl (jE ⟨d, (wi0 .i64 (z + 1)), _, ⟨rfl, m⟩, (b.jr St), G, u, rfl, H, (by rw [N]; exact a)⟩))))))
  exact lE (kl (jE ⟨d, z, _, ⟨rfl, m⟩, (b.jr St), G, u, y, H, (by rw [N]; exact a)⟩))
 rintro E W ⟨z, I, ⟨d, m⟩, b, G, u, y, H, a⟩
 rw [aU] at a
 refine jE (jI (sg (V (jy sa u) (VB b Mh rfl rfl cO (ln (bg (Wi rfl (Wa (ln ?_)))))))))
 refine CI a rfl (fun U a => ?_) (fun U a => ?_)
 ·refine sg (Wh y (V (jy re u) (VB b Mh rfl rfl eZ (V (lR aF rfl c) (Wi rfl (Wa (ln ?_)))))))
  replace b := b.jr (Db St)
  refine ky (nw (kZ ?_))
  obtain rfl := sj a
  exact rP b
 refine sg (Wi rfl (Wa (ln (CI a rfl (fun Y a => ?_) (fun Y a => ?_)))))
 ·refine sg (Wh y (Wi rfl (Wa (ln ?_))))
  replace b := b.jr (Db St)
  refine ky (nw (kZ ?_))
  obtain rfl := sj a
  exact rP b
 refine lE (kl (jE (sg (Wh y (V (jy xA u) (VB b Mh rfl rfl cO (Wi rfl (Wa (ln ?_)))))))))
 exact ky (rQ a b)
theorem AN : ∀ (n : Nat) (c : Formula) (a : Value) (g : Value) (j : jl → Option Bool) (r : Bool) (w : World) (i : Sl jq 5 (hp w) a c.Kids) (k : xO pg0 g (hp w) (fun (x : jl) => [(.agg (jw x).toArray)]) (fun (r : Bool) => (.bool r)) j) (_ : oN n c j = some r),
  kf false pg0 130 [(.agg #[(.int .i64 c.Op), (.int .i64 c.K), (.string c.jl.jo), (.string c.jl.Word), a]), g] w (.bool r)
 | 0 => by intros; rename_i h; simp only [oN] at h; cases h
 | n + 1 => B3 (oN n) (AN n)
theorem Br (a : Formula) (j k : Value) (G : jl → Option Bool) (r : Bool) (w : World) (c : Sl jq 5 (hp w) j a.Kids) (z : xO pg0 k (hp w) (fun (x : jl) => [(.agg (jw x).toArray)]) (fun (r : Bool) => (.bool r)) G) (hm : tC a G = some r) :
  kf false pg0 54 [(.agg #[(.int .i64 a.Op), (.int .i64 a.K), (.string a.jl.jo), (.string a.jl.Word), j]), k] w (.bool r) := by
 refine cG 16 func54 rfl (fun b => sg ?_)
 obtain ⟨u, y, rfl⟩ := c.form
 let a0 := (C1 a.Op a.K a.jl.jo a.jl.Word u a.Kids.length y)
 refine VE (kx b rfl (fun U Z b => Wa (lr (Wm (V (MI underlying101 z.form rfl rfl) (Wm (Vg rfl rfl (jt rfl (jD b.has Mh a0 rfl bB aD)) (bS hm fun d K hm => My rfl rfl (Eg b call129 (uC a (.slice u a.Kids.length y) _ _ (c.mono jC.mono b.jx) K) (fun Y b => V (km rfl rfl) (Wm (LJ hm (fun D E W => ∃ B, ST false lB w W (hp w) B ∧ E 4 = (.bool false) ∧ E 15 = (.bool D)) 4 ?_ (fun D g t => ?_)))))))))))))
 ·rintro T E W ⟨B, b, N, J⟩ H
  exact Wg J (lt (rQ H b))
 refine bC g (fun i g => ?_) (fun i g => ?_)
 ·refine ug i (jt rfl (jD b.has Mh a0 rfl bB aD)) (ug i (jB rfl) (bS g fun Q I g => vH i (Eg b call130 ((AN jP) a (.slice u a.Kids.length y) k G _ _ (c.mono jC.mono b.jx) (z.mono b.jx) I) (fun M b => V (km (cB i) rfl) ?_))))
  obtain rfl := sj g
  exact t _ _ ⟨_, (b.jr (Db St)), rfl, rfl⟩
 refine un i (un i (un i (V (kq (cB i) rfl) ?_)))
 obtain rfl := sj g
 exact t _ _ ⟨_, (b.jr (Db St)), rfl, rfl⟩
theorem zX (K : Nat) (a : Value) (G : List (jl × (List (ByteArray × Bool)))) (c : Value) (t : List jm) (j : Value) (D : List (jl × (List jm))) (g : Value) (u : List (ByteArray × (List jm))) (i : Value) (B : List jz) (J : Int) (I : jl) (a2 : ByteArray) (r : Bool) (w : World) (H : pv (fun (x : jl) => (.agg (jw x).toArray)) (li Value.string (fun (x : Bool) => (Value.bool x))) (hp w) a G) (T : Sl (Pl js) 9 (hp w) c t) (Z : pv (fun (x : jl) => (.agg (jw x).toArray)) (jL 52 js 9) (hp w) j D) (U : pv Value.string (jL 52 js 9) (hp w) g u) (Y : Sl (Pl ll) 3 (hp w) i B) (Q : At (hp w) (.pointer (some ⟨K, 0, none⟩)) [a, c, j, g, i, (.int .i64 J)]) (hm : rS G t D u B J I a2 = some r) :
  kf true pg0 128 [(.pointer (some ⟨K, 0, none⟩)), (.agg (jw I).toArray), (.string a2)] w (.bool r) := by
 refine cG 19 func128 rfl (fun l => sg (VE (kx l rfl (fun W2 q l => Wa (ln (jI ?_))))))
 replace l := l.drew
 have d := l.has.jr (Kb Sn)
 refine kG d jY (X 0 rfl d (jB rfl) (X 1 rfl d (Cl underlying183 rfl rfl) (X 2 rfl d (jB rfl) (Xg 3 rfl rfl rfl d (jB rfl) (Xg 4 rfl rfl rfl d (mw rfl) (pZ 5 rfl kr (.inr ⟨2, true, 9, rfl, rfl, by decide, rfl⟩) rfl dc (fun _ _ h => h) d (rC [a] vy rfl Q rfl) (fun p a3 => sZ 6 rfl rfl rfl d (fun _ m => jt rfl (nV m (y := a) a3 gF)) (sZ 7 rfl rfl rfl d (fun _ m => jt rfl (jD m Mh (jw I) rfl bX bG)) ?_))))))))
 obtain ⟨a4, a5, M, N⟩ := H
 refine sZ 8 rfl rfl rfl d (fun _ m => om (k := I) (z := (.map none)) yY eC eY rfl rfl M (fun b o n => m.1 b o (N b o n))) (Xg 9 rfl rfl rfl d (jB rfl) (sZ 10 rfl rfl rfl d (fun _ m => yA (k := a2) (z := false) (vf := (fun (x : Bool) => (Value.bool x))) Fw fe iR rfl rfl ((ml.Cd jH.1 M I N).mono (fun b o n => m.1 b o n))) (X 11 rfl d (km rfl rfl) (X 12 rfl d (nt rfl) (kO kr (jE ?_))))))
 exact ky (rQ hm l)
theorem Fz (N : jl) (Q D : Nat) (t : Value) (B : List (jl × (List (ByteArray × Bool)))) (a : Value) (j : List jm) (i : Value) (z : List (jl × (List jm))) (c : Value) (k : List (ByteArray × (List jm))) (g : Value) (u : List jz) (I : Int) (T : Nat) (Y : ByteArray) (r : Bool) (w : World) (M : pv (fun (x : jl) => (.agg (jw x).toArray)) (li Value.string (fun (x : Bool) => (Value.bool x))) (hp w) t B) (G : Sl (Pl js) 9 (hp w) a j) (K : pv (fun (x : jl) => (.agg (jw x).toArray)) (jL 52 js 9) (hp w) i z) (H : pv Value.string (jL 52 js 9) (hp w) c k) (J : Sl (Pl ll) 3 (hp w) g u) (U : At (hp w) (.pointer (some ⟨D, 0, none⟩)) [t, a, i, c, g, (.int .i64 I)]) (Z : At (hp w) (.pointer (some ⟨Q, 0, none⟩)) [(.pointer (some ⟨D, 0, none⟩))]) (d : At (hp w) (.pointer (some ⟨T, 0, none⟩)) [(.string Y)]) (hm : oO N B j z k u I Y = some r) :
  kf true pg0 191 [(.agg (jw N).toArray), (.pointer (some ⟨Q, 0, none⟩)), (.pointer (some ⟨T, 0, none⟩))] w (.bool r) := by
 refine cG 9 func191 rfl (fun b => sg (VE (kx b rfl (fun W2 h b => Wa (lr (V (jt rfl (nV b.has (y := (.pointer (some ⟨D, 0, none⟩))) Z isAgg183)) (VA b Mh (jw N) bX bG (V (jt rfl (nV b.has (y := (.string Y)) d cL)) (bS hm fun l a2 hm => VE (Eg b call128 (zX D t B a j i z c k g u I N Y _ _ (M.mono b.jx) (G.mono (Pl.mono _) b.jx) (K.mono b.jx) (H.mono b.jx) (J.mono (Pl.mono _) b.jx) (U.mono b.jx) a2) (fun W5 b => Wa ?_)))))))))))
 refine ln ?_
 exact ky (rQ hm b)
theorem CE (g : Value) (i r : List jm) (w : World) (a : Sl (Pl js) 9 (hp w) g i) (hm : qh i = some r) :
  mi true pg0 196 [g] w 52 js 9 r := by
 unfold qh at hm
 refine vV 8 func196 rfl (fun b => sg (Wa (lS (Wm ?_))))
 obtain ⟨y, B, rfl⟩ := a.form
 refine V (Ao bn rfl rfl) (ln ?_)
 rcases y with _ | z
 ·have u := a.isNil
  replace hm : some [] = some r := by rw [u] at hm; simpa [lC, maxLen] using hm
  refine vl (rfl) (sg (Wa (lt (kZ ?_))))
  obtain rfl := sj hm
  exact kV (v := (.slice none 0 0)) rfl rfl ⟨_, [], rfl, b.nF (fun p d => by cases d) (by simp), jL.nil _ _ _⟩
 ·refine pF (rfl) (kg (VE (jX (cs := #[]) b tJ (BL [] bn aX dE dc rfl (by simp) rfl rfl) (fun G k b => Wm (bS hm fun H t hm => VE (oh (enc := js) (v := (.slice (some ⟨k, 0, none⟩) 0 0)) (vs := (.slice (some z) i.length B)) (R := [(k, Ob #[] 52)]) b kP dc oR bn nY.1 nY.2.1 rfl nY.2.2.1 nY.2.2.2 rfl rfl (jL.lit (l := []) (enc := js) rfl dc rfl rfl) (a.mono (Pl.mono _) b.jx) t (fun D x j b c => Wa (lt ?_))))))))
  obtain rfl := sj hm
  exact kV (v := x) rfl rfl ⟨_, j, rfl, b.nF (fun p d => (Ml d)) c.nd, c⟩
theorem vJ (g : Value) (t : List jm) (j : Value) (B : jm → Option Bool) (r : Int) (w : World) (c : Sl (Pl js) 9 (hp w) g t) (D : xO pg0 j (hp w) (fun (x : jm) => [(.agg (js x).toArray)]) (fun (r : Bool) => (.bool r)) B) (hm : oB t B = some r) :
  kf false pg0 180 [g, j] w (.int .i64 r) := by
 refine cG 19 func180 rfl (fun b => sg (Wa (lS (Wm (V (lR bn rfl c) (Wm (ln (lh (fun i E W => ∃ k, (E 8 = .int .i64 (i : Nat) ∧ E 7 = .int .i64 (t.length : Nat)) ∧ ST false lB w W (hp w) k ∧ E 0 = g ∧ E 1 = j ∧ nN B (t.drop i) i = some r) t.length c.len ⟨_, ⟨rfl, rfl⟩, (b.jr St), rfl, rfl, hm⟩ dc dc dc (fun _ _ _ h => by obtain ⟨_, l, _⟩ := h; exact l) ?_ ?_))))))))
 ·rintro Q E W H ⟨k, ⟨d, m⟩, b, u, y, a⟩
  obtain ⟨z, T, M, K, N⟩ := kM H
  rw [M] at a
  refine bg (Wh d (Wa (lr (Wh y (Wh u (Wm (VQ (ql (enc := js) (i := (Q : Int)) (x0 := z) bn aX rfl rfl c (aP _) K) (fun Y I => V (jt rfl (jW b.has I cI aX)) (bS a fun Z J a => ?_)))))))))
  refine VE (NI z b D (jT.refl _) rfl (tZ rfl) J (fun U b => ln (CI a rfl (fun G a => ?_) (fun G a => ?_))))
  ·refine sg (Wm (Wa (lt (nw (kZ (nw (kZ ?_)))))))
   obtain rfl := sj a
   exact rP b
  exact lE (kl (jE ⟨d, _, ⟨rfl, m⟩, (b.jr St), u, y, (by rw [N]; exact a)⟩))
 rintro E W ⟨k, ⟨d, m⟩, b, u, y, a⟩
 rw [aU] at a
 exact jE (sg (Wa (lt (rQ a b))))
theorem Ac (j : Value) (a0 : List jm) (t : LO) (H : Value) (f1 : jm → Option Bool) (r : List jm) (w : World) {μ0 : jN} (h0 : nD μ0 (t ++ []) w) (T : jL 52 js 9 j a0 t) (a4 : xO pg0 H μ0 (fun (x : jm) => [(.agg (js x).toArray)]) (fun (r : Bool) => (.bool r)) f1) (hm : pN a0 f1 = some r) :
  kR false pg0 195 [j, H] w (t ++ []) (fun v L1 W' => ∃ q S2, v = q ∧ L1 = (S2 ++ []) ∧ jL 52 js 9 q r S2) := by
 refine zb h0 42 func195 rfl (fun d => sg (Wa (lr (Wm (Wm (bS hm fun n d3 hm => VE (Eg d call180 (vJ j a0 H f1 _ _ (T.sl kP (fun b o h => d.at_ (Ml h))) (a4.mono d.jx) d3) (fun W3 d => Wa (ln ?_)))))))))
 refine jI (sg (Wm (Wi rfl (ln (CI hm rfl (fun d2 hm => ?_) (fun d2 hm => ?_))))))
 ·refine sg (Wm (Wa (lt (kZ ?_))))
  obtain rfl := sj hm
  exact kV (v := j) rfl rfl ⟨_, _, rfl, (d.mn (Kr Sn)), j, t, rfl, rfl, T⟩
 refine kS (Wm (Wi rfl (Wa (ln (lK (nI (fun m E W => ∃ U I B D a2, ST false (keys (t ++ [])) w W μ0 (I ++ a2) ∧ E 0 = j ∧ E 1 = H ∧ E 5 = (.int .i64 B) ∧ E 6 = (.int .i64 D) ∧ jL 52 js 9 j U I ∧ mT f1 m U B D = some r) jP ⟨a0, t, n, (wi0 .i64 (n + 1)), _, (d.jr St), rfl, rfl, rfl, rfl, T, hm⟩ ?_))))))
 rintro m E W ⟨U, I, B, D, a2, d, y, Q, G, K, g, a⟩
 cases m with
 | zero => rw [mT] at a; cases a
 | succ c8 =>
  refine jI (sg (Wh K (Wh y (V (qy bn rfl g) (Wi rfl (ln (CI a rfl (fun A a => ?_) (fun A a => ?_))))))))
  ·refine kn (jI (CJ a (fun Y E W => ∃ J a3, ST false (keys (t ++ [])) w W μ0 (J ++ a3) ∧ E 0 = j ∧ E 1 = H ∧ E 5 = (.int .i64 Y.2) ∧ E 6 = (.int .i64 D) ∧ jL 52 js 9 j Y.1 J) (fun Y c => ?_) ?_))
   ·refine bg (Wh y (Wh K (bS c fun k M c => VQ (pK (i := D) (x0 := k) bn aX rfl rfl g (jU M) (jS M)) (fun e4 P => V (jt rfl (wK d.has (fun p h => (Ml h)) g kP P (jS M) cI aX)) (VE (kB d dE (fun d7 e2 d => VO (jM (.agg (js k).toArray) ((js k).toArray) d rfl rfl aX (oR k) nb rfl (fun d8 d => lr (Wh Q ?_))))))))))
    refine VA d Mh (js k) cI aX (bS c fun e6 b5 c => VE (NI k d a4 (jT.refl _) rfl (tZ rfl) b5 (fun d9 d => V (pA rfl) (ln (CI c rfl (fun L c => ?_) (fun L c => ?_))))))
    ·refine sg (Wh y (Wh G (VA d Mh (js k) cI aX (bS c fun d0 N c => VQ (pK (i := B) (x0 := d0) bn aX rfl rfl g (jU N) (jS N)) (fun e5 R => ?_)))))
     replace d := d.perm (Nr (Qb Qz) Nz)
     refine VO (BO (u := (.agg (js k).toArray)) (x1 := k)  d g kP oR rfl rfl rfl R (jS N) aX (fun e0 c1 d s => ln ?_))
     replace d := d.jr (Kr (Db St))
     refine jF (Wh G (Wi rfl (Wa (kd (kl (jE ?_))))))
     obtain rfl := sj c
     exact ⟨c1, _, (d.jr St), y, Q, rfl, K, s⟩
    refine lE (kl (jE ?_))
    obtain rfl := sj c
    exact ⟨I, _, (d.jr (Db St)), y, Q, G, K, g⟩
   rintro ⟨c7, c9⟩ E W ⟨J, a3, d, c3, c4, c5, c6, b6⟩ O
   exact jF (Wh c6 (Wi rfl (Wa (ln ⟨c8, bN _, c7, J, c9, (wi0 .i64 (D + 1)), _, (d.jr St), c3, c4, c5, rfl, b6, O⟩))))
  refine nv (mU (mU (rN (jE (sg (Wh y (Wh G (bS a fun _ Z a => VQ (yl (i := B) bn aX rfl rfl g (uO Z) (uF Z)) (fun e7 b7 => VO (Bl (z := K6)  d g kP oR bn dE b7 rfl rfl (fun e1 c2 d a9 => lr (Wh y ?_))))))))))))
  refine Wh G (bS a fun _ l a => VQ (Av (i := B) bn aX rfl rfl a9 kP (uO l) (uF l)) (fun a5 b9 => Wa (lt ?_)))
  obtain rfl := sj a
  exact kV (v := a5) rfl rfl ⟨_, _, rfl, (d.mn (Kr Sn)), a5, c2, rfl, rfl, b9⟩
theorem Hk (a : jm) (r : Bool) (w : World) (hm : wj a = some r) :
  kf true pg0 197 [(.agg (js a).toArray)] w (.bool r) := by
 refine cG 6 func197 rfl (fun b => sg (VE (kx b rfl (fun g j b => Wa (lr (VA b Mh (js a) cI aX (bS hm fun k c hm => VE (Eg b call144 (xE a _ _  c) (fun i b => V (pA rfl) (Wa (kd ?_)))))))))))
 refine jE ?_
 exact ky (rQ hm b)
theorem KJ (c : Value) (k : List jm) (a : LO) (g : Value) (t : (jm × jm) → Option Int) (r : List jm) (w : World) {y : jN} (u : nD y (a ++ []) w) (i : jL 52 js 9 c k a) (j : IC pg0 g y (fun (x : (jm × jm)) => [(.agg (js x.1).toArray), (.agg (js x.2).toArray)]) (fun (r : Int) => (.int .i64 r)) t) (hm : yr t k = some r) :
  kR true pg0 198 [c, g] w (a ++ []) (fun v z W' => ∃ S, v = (.tuple #[]) ∧ z = (S ++ []) ∧ jL 52 js 9 c r S) := Jq (P := pg0) (ρ := Mw) QI 9 cI aX js kP oR u.H u.S i j hm
theorem DI (c : jm) (r : List Int) (w : World) (hm : uZ c = some r) :
  mi true pg0 152 [(.agg (js c).toArray)] w 5 (ku .u8) 1 r := by
 refine vV 53 func152 rfl (fun d => sg (VE (kx d rfl (fun W2 b1 d => Wa (lS (VA d Mh (js c) cI aX (bS hm fun r3 g3 hm => VE (Eg d call144 (xE c _ _  g3) (fun W5 d => V (pA rfl) (kd ?_))))))))))
 refine jE (CI hm rfl (fun g0 hm => ?_) (fun g0 hm => ?_))
 ·refine sg (Wa (ln ?_))
  replace d := d.jr (Db St)
  refine ky (kZ ?_)
  obtain rfl := sj hm
  exact kV (v := (.slice none 0 0)) rfl rfl ⟨_, [], rfl, d.nF (fun p m => by cases m) (by simp), jL.nil _ _ _⟩
 refine kg (V (mE (v := (.agg #[(.slice none 0 0)])) tJ (lO zeroValue215 fJ (N3 _ fJ) kr)) (VE (kx d rfl (fun W8 g d => Wa (lr (Wm (Wf xi (VB d (Mt Mh) rfl rfl cO (bS hm fun r9 e2 hm => ?_)))))))))
 refine VE (eM d (Cb Pz (C0 Cn)) call170 (fun l _ => (qg g (.slice none 0 0) ([]) [] c.Kind _ _ l (jL.nil _ _ _) e2)) ?_)
 rintro _ k3 k5 j9 d g7 R h ⟨g4, f9, I, rfl, e4⟩
 obtain rfl := I.symm
 replace d := d.perm (Tb (Tr Tn))
 refine lr (Wm (Wf uf (VA d (Mt (Ma Mh)) (jw c.Head) bX bG (bS hm fun N e3 hm => ?_))))
 refine VE (eM d (Cb Pz (Cr Qz Cn)) call212 (fun l _ => (tK g g4 r9.2 f9 c.Head _ _ l e4 e3)) ?_)
 rintro _ k4 d1 k0 d g8 a6 h ⟨G, D, J, rfl, i⟩
 obtain rfl := J.symm
 replace d := d.perm (Tb (Tr Tn))
 refine ln (jI (CJ hm (fun a3 E W => ∃ B H K Q, jT d1 K ∧ ST true lB w W K ((g, Ob #[B] 215) :: (H ++ Q)) ∧ E 3 = (.pointer (some ⟨g, 0, none⟩)) ∧ jL 5 (ku .u8) 1 B a3 H) (fun a3 a => ?_) ?_))
 ·refine sg (Wf xi (VB d (Mt (Ma Mh)) rfl rfl cO (ln (bg (Wi rfl (Wa (ln (CI a rfl (fun b0 a => ?_) (fun b0 a => ?_)))))))))
  ·refine jF (Wm (Wf Bz (VB d (Mt (Ma Mh)) rfl rfl cL (bS a fun i3 b6 a => ?_))))
   refine VE (eM d (Cb Pz (Cr Qz Cn)) call213 (fun l _ => (xk g G N.2 D c.ke _ _ l i b6)) ?_)
   rintro _ i8 f5 g9 d T q h ⟨e9, d3, k, rfl, c5⟩
   obtain rfl := k.symm
   replace d := d.perm (Tb (Tr Tn))
   refine kd (kl (jE ?_))
   obtain rfl := sj a
   exact ⟨e9, d3, f5, _, T, (d.jr (Kb (Kr (Db St)))), rfl, c5⟩
  refine sg (Wi rfl (Wa (ln (CI a rfl (fun b2 a => ?_) (fun b2 a => ?_)))))
  ·refine jF (Wm (Wf oZ (VA d (Mt (Ma Mh)) (jw c.B) bX bG (bS a fun i4 b9 a => ?_))))
   refine VE (eM d (Cb Pz (Cr Qz Cn)) call212 (fun l _ => (tK g G N.2 D c.B _ _ l i b9)) ?_)
   rintro _ i9 f6 h0 d U s h ⟨f0, d4, t, rfl, c6⟩
   obtain rfl := t.symm
   replace d := d.perm (Tb (Tr Tn))
   refine kd (kl (jE ?_))
   obtain rfl := sj a
   exact ⟨f0, d4, f6, _, U, (d.jr (Kb (Kr (Db St)))), rfl, c6⟩
  refine sg (Wi rfl (Wa (ln (CI a rfl (fun b3 a => ?_) (fun b3 a => ?_)))))
  ·refine sg (Wm (Wf oZ (VA d (Mt (Ma Mh)) (jw c.B) bX bG (bS a fun e6 c0 a => ?_))))
   refine VE (eM d (Cb Pz (Cr Qz Cn)) call212 (fun l _ => (tK g G N.2 D c.B _ _ l i c0)) ?_)
   rintro _ j0 j7 h1 d Y A h ⟨f1, d5, u, rfl, c7⟩
   obtain rfl := u.symm
   replace d := d.perm (Tb (Tr Tn))
   refine ln (jF (Wm (Wf yN (VB d (Mt (Ma Mh)) rfl rfl cL (bS a fun i5 c1 a => ?_)))))
   refine VE (eM d (Cb Pz (Cr Qz Cn)) call213 (fun l _ => (xk g f1 e6.2 d5 c.kp _ _ l c7 c1)) ?_)
   rintro _ j3 f7 h2 d Z L h ⟨f2, d6, x, rfl, c8⟩
   obtain rfl := x.symm
   replace d := d.perm (Tb (Tr Tn))
   refine kd (kl (jE ?_))
   obtain rfl := sj a
   exact ⟨f2, d6, f7, _, (Y.trans Z), (d.jr (Kb (Kr (Db St)))), rfl, c8⟩
  refine sg (Wi rfl (Wa (ln (CI a rfl (fun b4 a => ?_) (fun b4 a => ?_)))))
  ·refine sg (Wm (Wf oZ (VA d (Mt (Ma Mh)) (jw c.B) bX bG (bS a fun e7 c2 a => ?_))))
   refine VE (eM d (Cb Pz (Cr Qz Cn)) call212 (fun l _ => (tK g G N.2 D c.B _ _ l i c2)) ?_)
   rintro _ j4 j8 h3 d a1 O h ⟨f3, d7, y, rfl, c9⟩
   obtain rfl := y.symm
   replace d := d.perm (Tb (Tr Tn))
   refine ln (jF (Wm (Wf xd (VA d (Mt (Ma Mh)) (jw c.C) bX bG (bS a fun i6 c3 a => ?_)))))
   refine VE (eM d (Cb Pz (Cr Qz Cn)) call212 (fun l _ => (tK g f3 e7.2 d7 c.C _ _ l c9 c3)) ?_)
   rintro _ j5 f8 h4 d a2 P h ⟨f4, d8, z, rfl, d0⟩
   obtain rfl := z.symm
   replace d := d.perm (Tb (Tr Tn))
   refine kd (kl (jE ?_))
   obtain rfl := sj a
   exact ⟨f4, d8, f8, _, (a1.trans a2), (d.jr (Kb (Kr (Db St)))), rfl, d0⟩
  refine lE (kl (jE ?_))
  obtain rfl := sj a
  exact ⟨G, D, d1, _, (jT.refl _), (d.jr (Kb (Kr (Db St)))), rfl, i⟩
 rintro e5 E W ⟨B, H, K, Q, g1, d, d9, c4⟩ j
 refine sg (Wh d9 (bS j fun i2 b5 j => VE (tb d call173 (zM g B e5 _ _ (c4.sl (fun _ => rfl) (fun b o m => d.at_ (Mt (Ml m)))) (At.of (d.at_ Mh) _ rfl) b5) (fun h5 e8 j6 d2 d g2 n M => Wa (ln ?_)))))
 replace d := d.jr (Kr (Db (Dr St)))
 refine ky ?_
 obtain rfl := sj j
 exact kV (v := e8) rfl rfl ⟨_, d2, rfl, d.nF (fun p m => (Ml m)) M.nd, M⟩
theorem Gm (g i : jm) (r : Int) (w : World) (hm : rK g i = some r) :
  kf true pg0 81 [(.agg (js g).toArray), (.agg (js i).toArray)] w (.int .i64 r) := by
 refine cG 10 func81 rfl (fun d => sg (VE (kx d rfl (fun T Y d => VE (kx d rfl (fun U Z d => Wa (ln (jI ?_))))))))
 replace d := d.drew
 have h := d.has.jr (Kb (Kb Sn))
 refine kG h jY (XH 0 rfl h (fun _ l => jt rfl (jD l (Mt Mh) (js g) rfl cI aX)) (XH 2 rfl h (fun _ l => jt rfl (jD l Mh (js i) rfl cI aX)) (bS hm fun y t hm => XE 1 rfl (tb d call152 (DI g _ _  t) (fun I B N G d a n j => ?_)))))
 have h := d.has.rY a (Dr (Kb (Kb Sn)))
 refine ⟨h, (bS hm fun z u hm => XE 3 rfl (tb d call152 (DI i _ _  u) (fun J D Q H d c p k => ?_)))⟩
 have h := d.has.rY (a.trans c) (Dr (Dr (Kb (Kb Sn))))
 refine ⟨h, (bS hm fun M x hm => XE 4 rfl (Eg d call151 (Ax B y D z _ _ (j.sl (fun _ => rfl) (fun b o m => d.at_ (Ma (Ml m)))) (k.sl (fun _ => rfl) (fun b o m => d.at_ (Ml m))) x) (fun K d => ?_)))⟩
 have h := d.has.rY (a.trans c) (Dr (Dr (Kb (Kb Sn))))
 refine ⟨h, (X 5 rfl h (nt rfl) (kO kr (jE ?_)))⟩
 exact ky (rQ hm d)
theorem BJ (j : Value) (a0 : List jm) (x : LO) (r : List jm) (w : World) {μ0 : jN} (h0 : nD μ0 (x ++ []) w) (B : jL 52 js 9 j a0 x) (hm : qQ a0 = some r) :
  kR true pg0 199 [j] w (x ++ []) (fun v L1 W' => ∃ y1 S2, v = y1 ∧ L1 = (S2 ++ []) ∧ jL 52 js 9 y1 r S2) := by
 refine zb h0 61 func199 rfl (fun b => sg (Wa (lS (Wm (V (qy bn rfl B) (Wi rfl (ln (CI hm rfl (fun g0 hm => ?_) (fun g0 hm => ?_)))))))))
 ·refine sg (Wm (Wa (lt (kZ ?_))))
  obtain rfl := sj hm
  exact kV (v := j) rfl rfl ⟨_, _, rfl, (b.mn (Kr Sn)), j, x, rfl, rfl, B⟩
 refine kS (Wa (ln (lK (nI (fun m E W => ∃ t b4, ST true (keys (x ++ [])) w W μ0 (x ++ b4) ∧ E 0 = j ∧ E 3 = (.int .i64 t) ∧ nx a0 m t = some r) jP ⟨1, _, (b.jr St), rfl, rfl, hm⟩ ?_))))
 rintro m E W ⟨t, b4, b, D, H, a⟩
 cases m with
 | zero => rw [nx] at a; cases a
 | succ f5 =>
  refine jI (sg (Wh H (Wh D (V (qy bn rfl B) (Wi rfl (ln (CI a rfl (fun d0 a => ?_) (fun d0 a => ?_))))))))
  ·refine kn (jI (lK (jI ?_)))
   replace b := b.drew
   have d := b.has.jr (Kr Sn)
   refine kG d jY (X 0 rfl d (jB D) (X 1 rfl d (jB H) (bS a fun c3 Z a => XQ 2 rfl d (pK (i := t) (x0 := c3) bn aX rfl rfl B (jU Z) (jS Z)) (fun g7 d6 => XH 3 rfl d (fun _ l => jt rfl (wK l (fun p h => (Ml h)) B kP d6 (jS Z) cI aX)) (X 4 rfl d (jB D) (X 5 rfl d (jB H) (X 6 rfl d (kC rfl rfl rfl) (bS a fun c4 n a => XQ 7 rfl d (pK (i := (wi0 .i64 (t - 1))) (x0 := c4) bn aX rfl rfl B (jU n) (jS n)) (fun g8 d7 => XH 8 rfl d (fun _ l => jt rfl (wK l (fun p h => (Ml h)) B kP d7 (jS n) cI aX)) (X 9 rfl d (Az rfl rfl (sI fK) (wW (yg _ c3 c4))) (kO kr (jE ?_))))))))))))
   refine CI a rfl (fun d1 a => ?_) (fun d1 a => ?_)
   ·refine sg (Wh D (Wh H (bS a fun _ L a => VQ (yl (i := t) bn aX rfl rfl B (uO L) (uF L)) (fun c1 M => Wa (lS (Wa (ln ?_)))))))
    refine CJ a (fun U E W => ∃ q b5, ST true (keys (x ++ [])) w W μ0 (q ++ b5) ∧ E 0 = j ∧ E 3 = (.int .i64 U.2) ∧ jL 52 js 9 j U.1 q) (fun U d4 => ?_) ?_
    ·refine lK (nI (fun m E W => ∃ s K Y y b6, ST true (keys (x ++ [])) w W μ0 (K ++ b6) ∧ E 0 = j ∧ E 3 = (.int .i64 Y) ∧ E 4 = c1 ∧ E 5 = (.int .i64 y) ∧ jL 52 js 9 j s K ∧ nr t m s Y y = some U) jP ⟨a0, x, t, 1, _, (b.jr St), D, H, rfl, rfl, B, d4⟩ ?_)
     rintro m E W ⟨s, K, Y, y, b6, b, Q, T, I, J, g, k⟩
     cases m with
     | zero => rw [nr] at k; cases k
     | succ f6 =>
      refine jI (sg (Wh J (Wh I (V (G0 bn rfl M g) (Wi rfl (ln (CI k rfl (fun d2 k => ?_) (fun d2 k => ?_))))))))
      ·refine kn (jI (CJ k (fun A E W => ∃ N b7, ST true (keys (x ++ [])) w W μ0 (N ++ b7) ∧ E 0 = j ∧ E 3 = (.int .i64 A.2) ∧ E 4 = c1 ∧ E 5 = (.int .i64 y) ∧ jL 52 js 9 j A.1 N) (fun A c => ?_) ?_))
       ·refine lK (jI ?_)
        replace b := b.drew
        have d := b.has.jr (Kr Sn)
        refine kG d jY (X 0 rfl d (jB I) (X 1 rfl d (jB J) (bS c fun c6 a2 c => XQ 2 rfl d (yx (i := y) (x0 := c6) bn aX rfl rfl g M (jU a2) (jS a2)) (fun g9 d8 => XH 3 rfl d (fun _ l => jt rfl (wK l (fun p h => (Ml h)) g kP d8 (Aa (jS a2)) cI aX)) (X 4 rfl d (jB I) (X 5 rfl d (jB J) (X 6 rfl d (kC rfl rfl rfl) (bS c fun c7 a3 c => XQ 7 rfl d (yx (i := (wi0 .i64 (y - 1))) (x0 := c7) bn aX rfl rfl g M (jU a3) (jS a3)) (fun h1 d9 => XH 8 rfl d (fun _ l => jt rfl (wK l (fun p h => (Ml h)) g kP d9 (Aa (jS a3)) cI aX)) (X 9 rfl d (Ru rfl rfl (sI fK) (Oz (yg _ c6 c7))) (kO kr (jE ?_))))))))))))
        refine CI c rfl (fun d3 c => ?_) (fun d3 c => ?_)
        ·refine sg (Wh Q (Wh T (Wh I (Wh J (bS c fun a9 a4 c => VQ (yx (i := y) (x0 := a9) bn aX rfl rfl g M (jU a4) (jS a4)) (fun h2 e0 => V (jt rfl (wK b.has (fun p h => (Ml h)) g kP e0 (Aa (jS a4)) cI aX)) (bS c fun f8 a5 c => VQ (pK (i := Y) (x0 := f8) bn aX rfl rfl g (jU a5) (jS a5)) (fun h3 e1 => VO (BO (u := (.agg (js a9).toArray)) (x1 := a9)  b g kP oR rfl rfl rfl e1 (jS a5) aX (fun g3 e8 b c9 => ln (jF ?_)))))))))))
         refine Wh T (Wi rfl (Wa (kd (kl (jE ?_)))))
         obtain rfl := sj c
         exact ⟨e8, _, (b.jr St), Q, rfl, I, J, c9⟩
        refine lE (kl (jE ?_))
        obtain rfl := sj c
        exact ⟨K, _, (b.jr St), Q, T, I, J, g⟩
       rintro ⟨f4, f7⟩ E W ⟨N, b7, b, f0, f1, f2, f3, e4⟩ d5
       exact jF (Wh f3 (Wi rfl (Wa (ln ⟨f6, bN _, f4, N, f7, (wi0 .i64 (y + 1)), _, (b.jr St), f0, f1, f2, rfl, e4, d5⟩))))
      refine nv (mU (mU (rN (jE ?_))))
      obtain rfl := sj k
      exact ⟨K, _, (b.jr St), Q, T, g⟩
    rintro ⟨g4, c5⟩ E W ⟨q, b5, b, b9, c0, R⟩ G
    refine sg (Wh b9 (Wh c0 (bS G fun _ O G => VQ (yl (i := c5) bn aX rfl rfl R (uO O) (uF O)) (fun h4 e2 => VO (Bl (z := K6)  b R kP oR bn dE e2 rfl rfl (fun g2 e7 b c8 => lr (Wh b9 (Wh c0 (bS G fun _ P G => VQ (Av (i := c5) bn aX rfl rfl c8 kP (uO P) (uF P)) (fun c2 e3 => ?_))))))))))
    refine Wa (lt (nw (kZ (kZ (nw (kZ ?_))))))
    obtain rfl := sj G
    exact kV (v := c2) rfl rfl ⟨_, _, rfl, (b.mn (Kr Sn)), c2, e7, rfl, rfl, e3⟩
   exact lE (kl (jE (jF (Wh H (Wi rfl (Wa (ln ⟨f5, bN _, (wi0 .i64 (t + 1)), _, (b.jr St), D, rfl, a⟩)))))))
  refine nv (mU (mU (rN (jE (sg (Wh D (Wa (lt ?_))))))))
  obtain rfl := sj a
  exact kV (v := j) rfl rfl ⟨_, _, rfl, (b.mn (Kr Sn)), j, x, rfl, rfl, B⟩
theorem KA (i : Value) (t r : List jm) (w : World) (B : Sl (Pl js) 9 (hp w) i t) (hm : xx t = some r) :
  mi false pg0 125 [i] w 52 js 9 r := by
 refine vV 11 func125 rfl (fun b => sg (Wa (lr (Wm (bS hm fun y T hm => VE (tb b call196 (mi.lX (CE i t _ _ (B.mono (Pl.mono _) b.jx) T)) (fun W3 v7 z R8 b a5 q Q => bS hm fun U D hm => ?_)))))))
 refine VE (eM b (Cr Qz Cn) call195 (fun h _ => (Ac v7 y R8 (.func (.func 197) #[] #[]) (fun (x : jm) => wj x) _ _ h Q ⟨197, #[], #[], rfl, call197, fun W x r u hm => (Hk x r W  hm).lX⟩ D)) ?_)
 rintro _ P b9 E b A l d ⟨k, K, a, rfl, I⟩
 obtain rfl := a.symm
 replace b := b.perm (Tr Tn)
 refine Wa (lr (Wm (bS hm fun Y G hm => ?_)))
 refine VE (eM b (Cr Qz Cn) call198 (fun h _ => kR.lX (KJ k U K (.func (.func 81) #[] #[]) (fun (x : (jm × jm)) => rK x.1 x.2) _ _ h I ⟨81, #[], rfl, call81, fun W x r u hm => Gm x.1 x.2 r W  hm⟩ G)) ?_)
 rintro _ R c0 a9 b a2 m d ⟨M, c, rfl, J⟩
 obtain rfl := c.symm
 replace b := b.perm (Tr Tn)
 refine lr (Wm (bS hm fun O H hm => ?_))
 refine VE (eM b (Cr Qz Cn) call199 (fun h _ => kR.lX (BJ k Y M _ _ h J H)) ?_)
 rintro _ b7 c1 L b a3 n d ⟨Z, N, g, rfl, j⟩
 obtain rfl := g.symm
 replace b := b.perm (Tr Tn)
 refine Wa (lt ?_)
 obtain rfl := sj hm
 exact kV (v := Z) rfl rfl ⟨_, N, rfl, b.nF (fun p s => (Ml s)) j.nd, j⟩
theorem zI (k : jQ) (H K c1 : Value) (O : List jm) (a2 : ByteArray) (r : List jm) (w : World) (g : Sl ki 15 (hp w) H k.jA) (J : Sl kT 8 (hp w) K k.jO) (h5 : Sl (Pl js) 9 (hp w) c1 O) (hm : pM k O a2 = some r) :
  mi false pg0 52 [(.agg #[(.string k.Name), H, K]), c1, (.string a2)] w 52 js 9 r := by
 refine vV 47 func52 rfl (fun d => sg ?_)
 obtain ⟨A1, c2, rfl⟩ := g.form
 let c8 : Value := (.slice A1 k.jA.length c2)
 obtain ⟨A3, c4, rfl⟩ := J.form
 let P := (C4 k.Name A1 k.jA.length c2 A3 k.jO.length c4)
 refine VE (kx d rfl (fun W6 A d => Wa (lr (Wm (Wm (bS hm fun B i5 hm => ?_))))))
 refine VE (Fq d (bW _) call123 (fun _ _ _ _ => (IL c1 O a2 _ _ (h5.mono (Pl.mono _) d.jx) i5)) (fun W9 l1 g4 l0 d a5 af ae h4 => ?_) (L0 := []))
 obtain ⟨N, q, e0, f9, e1, g0, e2, g1, e3, g2, e4, g3, Q, c0, rfl, h6, h7, h8, h9, i0⟩ := h4
 replace c0 := c0.symm; subst c0
 replace d := d.perm (Tb (Tb (Tb (Tr (Tr (Tr (Tr (Tr Tn))))))))
 refine Wa (lr (Wa (lS (Wf yC (VB d (Mt (Mt (Mt (Ma (Ma (Ma (Ma (Ma Mh)))))))) rfl rfl iU (V (lR dS rfl g) (Wm ?_)))))))
 refine ln (lh (fun i E W => ∃ D I G s b4, (E 19 = .int .i64 (i : Nat) ∧ E 18 = .int .i64 (k.jA.length : Nat)) ∧ jT g4 s ∧ ST false lB w W s ((N, Ob #[(.pointer (some ⟨q, 0, none⟩))] 183) :: ((q, Ob #[e0, e1, e2, e3, e4, (.int .i64 B.2.2.2.2.2.1)] 246) :: ((Q, Ob #[(.string B.2.2.2.2.2.2)] 9) :: ((A, Ol P 25) :: (G ++ (f9 ++ (g0 ++ (g1 ++ (g2 ++ (g3 ++ b4)))))))))) ∧ E 3 = (.pointer (some ⟨A, 0, none⟩)) ∧ E 7 = (.func (.func 191) #[] #[(.pointer (some ⟨N, 0, none⟩)), (.pointer (some ⟨Q, 0, none⟩))]) ∧ E 8 = D ∧ E 17 = c8 ∧ jL 52 js 9 D I G ∧ pQ k B (k.jA.drop i) I = some r) k.jA.length g.len ⟨(.slice none 0 0), ([]), [], g4, _, ⟨rfl, rfl⟩, (jT.refl _), (d.jr (Kb (Kb (Kb (Sb (Pr (Pr (Pr (Pr (Pr Pz))))) St))))), rfl, rfl, rfl, rfl, (jL.nil _ _ _), hm⟩ dc dc dc (fun _ _ _ h => by obtain ⟨_, _, _, _, _, aa, _⟩ := h; exact aa) ?_ ?_)
 ·let b6 : Value := (.func (.func 191) #[] #[(.pointer (some ⟨N, 0, none⟩)), (.pointer (some ⟨Q, 0, none⟩))])
  rintro d8 E W f0 ⟨D, I, G, s, b4, ⟨L, eN⟩, u, d, Y, Z, a3, a4, M, j⟩
  obtain ⟨a, i6, f8, f7, c6⟩ := kM f0
  rw [f8] at j
  refine bg (VQ (mo (i := (d8 : Int)) (x0 := a) ki.out dS dQ a4 L (g.mono kH.mono (a5.trans u)) (aP _) f7) (fun k1 ⟨_, ⟨k4, k5, rfl, f5, f6⟩, f1⟩ => V (jt rfl (jW d.has f1 iT dQ)) (VE (kB d fX (fun i9 d0 d => ?_)))))
  obtain ⟨b2, b7, rfl⟩ := f5.form
  obtain ⟨b3, b9, rfl⟩ := f6.form
  let a0 := (C3 a.Signed.jm.Kind a.Signed.jm.Head.jo a.Signed.jm.Head.Word a.Signed.jm.ke a.Signed.jm.B.jo a.Signed.jm.B.Word a.Signed.jm.C.jo a.Signed.jm.C.Word a.Signed.jm.kp b2 a.Signed.Tag.length b7 a.ju.Op a.ju.K a.ju.jl.jo a.ju.jl.Word b3 a.ju.Kids.length b9)
  refine VO (jM (.agg a0.toArray) (a0.toArray) d rfl rfl dQ oc nb rfl (fun j0 d => lr (V (jt Y (jD d.has (Mt (Mt (Mt (Mt Mh)))) P rfl dJ cQ)) (Wf yO (Wf yz (VA d Mh (js a.Signed.jm) cI aX (bS j fun c f2 j => ?_)))))))
  let e5 : Value := (.string (((c.1).jl).Word))
  let d1 : Value := (.string (((c.1).jl).jo))
  refine VE (eD d (bW _) call124 (fun hh => (KU k c8 (.slice A3 k.jO.length c4) a.Signed.jm _ _ hh (g.mono kH.mono (a5.trans u)) (J.mono mC.mono (a5.trans u)) f2)) ?_ (L0 := []))
  rintro _ k6 c3 i8 d a9 ab ⟨k8, a6, rfl, c7⟩
  obtain rfl := a6.symm
  refine Wm (Wx rfl (Wx rfl (VE (kB d bJ (fun j4 k0 d => ?_)))))
  obtain ⟨T, U, rfl⟩ := c7.form
  let b8 : Value := (.slice T ((c.1).Kids).length U)
  refine VO (jM (.agg #[(.int .i64 ((c.1).Op)), (.int .i64 ((c.1).K)), d1, e5, b8]) (#[(.int .i64 ((c.1).Op)), (.int .i64 ((c.1).K)), d1, e5, b8]) d rfl rfl aD oc nb rfl (fun j5 d => Wa (lr (Wm (Wi rfl (Wm (LJ j (fun d9 E W => ∃ c9, ST false lB w W c3 ((d0, Ol a0 57) :: ((N, Ob #[(.pointer (some ⟨q, 0, none⟩))] 183) :: ((q, Ob #[e0, e1, e2, e3, e4, (.int .i64 B.2.2.2.2.2.1)] 246) :: ((Q, Ob #[(.string B.2.2.2.2.2.2)] 9) :: ((A, Ol P 25) :: (G ++ (f9 ++ (g0 ++ (g1 ++ (g2 ++ (g3 ++ c9))))))))))) ∧ E 3 = (.pointer (some ⟨A, 0, none⟩)) ∧ E 7 = b6 ∧ E 8 = D ∧ E 10 = (.pointer (some ⟨d0, 0, none⟩)) ∧ E 17 = c8 ∧ E 18 = (.int .i64 (k.jA.length : Int)) ∧ E 19 = (.int .i64 (d8 : Int)) ∧ E 37 = (.bool d9)) 4 ?_ (fun d9 z b0 => ?_))))))))
  ·rintro k7 E W ⟨c9, d, d2, d3, d4, h2, d5, d6, d7, h3⟩ y
   refine ln (CI y h3 (fun e8 y => ?_) (fun e8 y => ?_))
   ·refine jF (Wh d4 (V (jy yO h2) (Wf yz (VA d Mh (js a.Signed.jm) cI aX (VE (jX (cs := (js a.Signed.jm).toArray) d (mh rfl) (mA bn aX dE) (fun j6 h1 d => ?_)))))))
    replace d := d.perm (Nr (Qb (Qb (Qb (Qb (Qb (Qb Qz)))))) Nz)
    refine bS y fun i1 e9 y => VE (oh (enc := js) (v := D) (vs := (.slice (some ⟨h1, 0, none⟩) 1 1)) (R := G) d kP dc oR bn nY.1 nY.2.1 rfl nY.2.2.1 nY.2.2.2 rfl rfl M (Sl.lit (enc := js) (l := [a.Signed.jm]) kP rfl nb rfl (d.at_ (Ma Mh))) e9 (fun j7 i2 g7 d e7 => Wa (kd (kl (jE ?_)))))
    replace d := d.jr (Kr (Db (Db St)))
    exact ⟨d7, i2, i1, g7, c3, _, ⟨rfl, d6⟩, (u.trans a9), (d.jr (Sb (Pr Pz) (Sb (Pr Pz) (Sb (Pr Pz) (Sb (Pr Pz) St))))), d2, d3, rfl, d5, e7, (by rw [c6]; exact y)⟩
   refine lE (kl (jE ?_))
   replace d := d.jr (Db St)
   exact ⟨d7, D, I, G, c3, _, ⟨rfl, d6⟩, (u.trans a9), (d.jr St), d2, d3, d4, d5, M, (by rw [c6]; exact y)⟩
  refine bC z (fun t z => ?_) (fun t z => ?_)
  ·refine ug t (jt rfl (jD d.has Mh [(.int .i64 ((c.1).Op)), (.int .i64 ((c.1).K)), d1, e5, b8] rfl bB aD)) (ug t (jB Z) (bS z fun k2 f3 z => vH t (Eg d call54 (Br c.1 b8 b6 (fun (x : jl) => oO x B.1 B.2.1 B.2.2.1 B.2.2.2.1 B.2.2.2.2.1 B.2.2.2.2.2.1 B.2.2.2.2.2.2) _ _ (c7.mono jC.mono d.jx) ⟨191, #[], #[(.pointer (some ⟨N, 0, none⟩)), (.pointer (some ⟨Q, 0, none⟩))], rfl, call191, fun W x r n hm => (Fz x N q e0 B.1 e1 B.2.1 e2 B.2.2.1 e3 B.2.2.2.1 e4 B.2.2.2.2.1 B.2.2.2.2.2.1 Q B.2.2.2.2.2.2 r W (h6.at (fun b o m => n _ _ ((fun b o m => d.at_ (Mt (Mt (Mt (Mt (Mt (Mt (Ma (Ml m))))))))) b o m))) (h7.sl kP (fun b o m => n _ _ ((fun b o m => d.at_ (Mt (Mt (Mt (Mt (Mt (Mt (Ma (Ma (Ml m)))))))))) b o m))) (h8.at (fun b o m => n _ _ ((fun b o m => d.at_ (Mt (Mt (Mt (Mt (Mt (Mt (Ma (Ma (Ma (Ml m))))))))))) b o m))) (h9.at (fun b o m => n _ _ ((fun b o m => d.at_ (Mt (Mt (Mt (Mt (Mt (Mt (Ma (Ma (Ma (Ma (Ml m)))))))))))) b o m))) ((i0.Cx wV).mono (Pl.mono _) (lI (fun b o m => n _ _ ((fun b o m => d.at_ (Mt (Mt (Mt (Mt (Mt (Mt (Ma (Ma (Ma (Ma (Ma (Ml m))))))))))))) b o m)))) (At.of (n _ _ (d.at_ (Mt (Mt (Mt Mh))))) _ rfl) (At.of (n _ _ (d.at_ (Mt (Mt Mh)))) _ rfl) (At.of (n _ _ (d.at_ (Mt (Mt (Mt (Mt Mh)))))) _ rfl) hm).lX⟩ f3) (fun j8 d => V (km (cB t) rfl) ?_))))
   obtain rfl := sj z
   exact b0 _ _ ⟨_, (d.jr (Db St)), Y, Z, a3, rfl, a4, eN, L, rfl⟩
  refine un t (un t (un t (V (kq (cB t) rfl) ?_)))
  obtain rfl := sj z
  exact b0 _ _ ⟨_, (d.jr (Db St)), Y, Z, a3, rfl, a4, eN, L, rfl⟩
 rintro E W ⟨D, I, G, s, b4, ⟨L, eN⟩, u, d, Y, Z, a3, a4, M, j⟩
 rw [aU] at j
 refine jE ?_
 replace d := d.jr (Db (Db (Db (Db (Kr (Dr (Dr (Dr (Dr (Dr St))))))))))
 refine sg (Wh a3 (bS j fun k3 f4 j => VE (tb d call125 (KA D I _ _ (M.sl kP (fun b o m => d.at_ (Ml m))) f4) (fun j9 i3 k9 g8 d i4 ad c5 => Wa (ln ?_)))))
 replace d := d.jr (Kr (Dr St))
 refine ky ?_
 obtain rfl := sj j
 exact kV (v := i3) rfl rfl ⟨_, g8, rfl, d.nF (fun p m => (Ml m)) c5.nd, c5⟩
theorem Bg (g : jQ) (D K : Value) (i : jQ) (G M : Value) (r : ((List jm) × (List jm) × Int)) (w : World) (x : Sl ki 15 (hp w) D g.jA) (I : Sl kT 8 (hp w) K g.jO) (y : Sl ki 15 (hp w) G i.jA) (J : Sl kT 8 (hp w) M i.jO) (hm : rz g i = some r) :
  kR false pg0 17 [(.agg #[(.string g.Name), D, K]), (.agg #[(.string i.Name), G, M])] w [] (fun v L1 W' => ∃ y1 S2 y4 S5, v = (.tuple #[y1, y4, (.int .i64 (r.2.2))]) ∧ L1 = (S2 ++ (S5 ++ [])) ∧ jL 52 js 9 y1 r.1 S2 ∧ jL 52 js 9 y4 r.2.1 S5) := by
 refine vV 41 func17 rfl (fun d => sg ?_)
 obtain ⟨A1, c2, rfl⟩ := x.form
 obtain ⟨A3, c4, rfl⟩ := I.form
 let q := (C4 g.Name A1 g.jA.length c2 A3 g.jO.length c4)
 refine VE (kx d rfl (fun W6 p d => ?_))
 obtain ⟨A7, c8, rfl⟩ := y.form
 obtain ⟨A9, O, rfl⟩ := J.form
 let a0 := (C4 i.Name A7 i.jA.length c8 A9 i.jO.length O)
 refine VE (kx d rfl (fun f8 n d => Wa (Wa (Wa (lr (Wa (Wa (lr (Wa ?_)))))))))
 refine ln (ur (lK (nI (fun m E W => ∃ t a4 N u a5 Q H a9 b9, jT (hp w) a9 ∧ ST false lB w W a9 ((n, Ol a0 25) :: ((p, Ol q 25) :: (Q ++ (N ++ b9)))) ∧ E 2 = (.pointer (some ⟨p, 0, none⟩)) ∧ E 3 = (.pointer (some ⟨n, 0, none⟩)) ∧ E 7 = t ∧ E 8 = u ∧ E 9 = (.int .i64 H) ∧ jL 52 js 9 t a4 N ∧ jL 52 js 9 u a5 Q ∧ ox g i m a4 a5 H = some r) jP ⟨(.slice none 0 0), ([]), [], (.slice none 0 0), ([]), [], 0, (hp w), _, (jT.refl _), (d.jr St), rfl, rfl, rfl, rfl, rfl, (jL.nil _ _ _), (jL.nil _ _ _), hm⟩ ?_)))
 rintro m E W ⟨t, a4, N, u, a5, Q, H, a9, b9, j, d, T, U, Y, Z, c9, a2, a3, c⟩
 cases m with
 | zero => rw [ox] at c; cases c
 | succ e6 =>
  refine jI (lK (jI ?_))
  replace d := d.drew
  have h := d.has.jr (Kb (Kb Sn))
  refine kG h jY (XH 0 rfl h (fun _ l => jt T (jD l (Mt Mh) q rfl dJ cQ)) (X 1 rfl h (jB Z) (X 2 rfl h (jy Di U) (XH 3 rfl h (fun _ l => jt rfl (jJ l Mh rfl cL)) (XH 5 rfl h (fun _ l => jt U (jD l Mh a0 rfl dJ cQ)) (X 6 rfl h (jB Y) (X 7 rfl h (jy Di T) (XH 8 rfl h (fun _ l => jt rfl (jJ l (Mt Mh) rfl cL)) (bS c fun e7 d7 c => XE 4 rfl (tb d call52 (zI g (.slice A1 g.jA.length c2) (.slice A3 g.jO.length c4) u a5 i.Name _ _ (x.mono kH.mono (j.trans d.jx)) (I.mono mC.mono (j.trans d.jx)) (a3.sl kP (fun b o L => d.at_ (Mt (Mt (Ml L))))) d7) (fun f4 d2 f7 c1 d k s b1 => ?_)))))))))))
  have h := d.has.rY k (Dr (Kb (Kb Sn)))
  refine ⟨h, (bS c fun e8 d8 c => XE 9 rfl (tb d call52 (zI i (.slice A7 i.jA.length c8) (.slice A9 i.jO.length O) t a4 g.Name _ _ (y.mono kH.mono ((j.trans k).trans d.jx)) (J.mono mC.mono ((j.trans k).trans d.jx)) (a2.sl kP (fun b o L => d.at_ (Ma (Mt (Mt (Ma (Ml L))))))) d8) (fun f5 d3 d4 c3 d P A b2 => ?_)))⟩
  have h := d.has.rY (k.trans P) (Dr (Dr (Kb (Kb Sn))))
  refine ⟨h, (X 10 rfl h (nt rfl) (X 11 rfl h (nt rfl) (kO kr (jE (jI (sg (Wm (V (qy bn rfl b1) (Wh Y (V (qy bn rfl a2) (Wi rfl (Wm (LJ c (fun d1 E W => ∃ c0, ST false lB w W d4 ((n, Ol a0 25) :: ((p, Ol q 25) :: (c3 ++ (c1 ++ (Q ++ (N ++ c0)))))) ∧ E 2 = (.pointer (some ⟨p, 0, none⟩)) ∧ E 3 = (.pointer (some ⟨n, 0, none⟩)) ∧ E 7 = t ∧ E 8 = u ∧ E 9 = (.int .i64 H) ∧ E 10 = d2 ∧ E 11 = d3 ∧ E 35 = (.bool d1)) 6 ?_ (fun d1 B R => ?_))))))))))))))⟩
  ·rintro f6 E W ⟨c0, d, d9, e0, e1, e2, d0, e3, e4, e5⟩ z
   refine ln (CI z e5 (fun d6 z => ?_) (fun d6 z => ?_))
   ·refine sg (Wh e1 (Wh e2 (Wh d0 (Wa (Wa (Wa (ln ?_)))))))
    replace d := d.jr (Db (Db (Dr (Dr St))))
    refine ky (kZ (nw (kZ (kZ (nw (kZ ?_))))))
    obtain rfl := sj z
    exact NH (v0 := t) (v1 := u) (v2 := (.int .i64 H)) rfl rfl rfl rfl ⟨_, _, rfl, (d.LZ (Sr (Qr Qz) (Kr Sn))), t, N, u, Q, rfl, rfl, a2, a3⟩
   refine kn ?_
   replace d := d.jr (Kb (Kb (Kr (Kr (Dr (Dr St))))))
   exact jF (Wh e3 (Wh e4 (Wa (Wa (kd (kl (jE (jF (Wh d0 (Wi rfl (Wa (ln ⟨e6, bN _, d2, e7, c1, d3, e8, c3, (wi0 .i64 (H + 1)), d4, _, ((j.trans k).trans P), (d.jr St), d9, e0, rfl, rfl, rfl, b1, b2, z⟩))))))))))))
  refine bC B (fun a B => ?_) (fun a B => ?_)
  ·refine ug a (jB rfl) (ug a (qy bn rfl b2) (ug a (jB Z) (ug a (qy bn rfl a3) (ug a (kC rfl rfl rfl) (V (km (cB a) rfl) ?_)))))
   obtain rfl := sj B
   exact R _ _ ⟨_, (d.jr (Sb (Pr (Pr Pz)) (Sb (Pr (Pr Pz)) St))), T, U, Y, Z, c9, rfl, rfl, rfl⟩
  refine un a (un a (un a (un a (un a (V (kq (cB a) rfl) ?_)))))
  obtain rfl := sj B
  exact R _ _ ⟨_, (d.jr (Sb (Pr (Pr Pz)) (Sb (Pr (Pr Pz)) St))), T, U, Y, Z, c9, rfl, rfl, rfl⟩
theorem FP (y : jQ) (j u : Value) (r : List jm) (w : World) (c : Sl ki 15 (hp w) j y.jA) (B : Sl kT 8 (hp w) u y.jO) (hm : xI y = some r) :
  mi true pg0 110 [(.agg #[(.string y.Name), j, u])] w 52 js 9 r := by
 refine vV 21 func110 rfl (fun b => sg ?_)
 obtain ⟨A1, c2, rfl⟩ := c.form
 obtain ⟨A3, c4, rfl⟩ := B.form
 refine VE (kx b rfl (fun W6 b5 b => Wa (lr (Wa (lS (Wf yC (VB b Mh rfl rfl iU (V (lR dS rfl c) ?_))))))))
 refine Wm (ln ?_)
 replace b := b.jr (Db St)
 refine lh (fun i E W => ∃ t z k D, (E 9 = .int .i64 (i : Nat) ∧ E 8 = .int .i64 (y.jA.length : Nat)) ∧ ST true lB w W (hp w) (k ++ D) ∧ E 3 = t ∧ E 7 = (.slice A1 y.jA.length c2) ∧ jL 52 js 9 t z k ∧ so (y.jA.drop i) z = some r) y.jA.length c.len ⟨(.slice none 0 0), ([]), [], _, ⟨rfl, rfl⟩, (b.jr St), rfl, rfl, (jL.nil _ _ _), hm⟩ dc dc dc (fun _ _ _ h => by obtain ⟨_, _, _, _, m, _⟩ := h; exact m) ?_ ?_
 ·rintro L E W T ⟨t, z, k, D, ⟨d, n⟩, b, G, H, x, g⟩
  obtain ⟨a, c5, a4, a3, a5⟩ := kM T
  rw [a4] at g
  refine bg (VQ (mo (i := (L : Int)) (x0 := a) ki.out dS dQ H d c (aP _) a3) (fun c0 ⟨_, ⟨c1, c3, rfl, Y, Z⟩, U⟩ => V (jt rfl (jW b.has U iT dQ)) (VE (kB b fX (fun P b7 b => ?_)))))
  obtain ⟨I, K, rfl⟩ := Y.form
  obtain ⟨J, M, rfl⟩ := Z.form
  let a0 := (C3 a.Signed.jm.Kind a.Signed.jm.Head.jo a.Signed.jm.Head.Word a.Signed.jm.ke a.Signed.jm.B.jo a.Signed.jm.B.Word a.Signed.jm.C.jo a.Signed.jm.C.Word a.Signed.jm.kp I a.Signed.Tag.length K a.ju.Op a.ju.K a.ju.jl.jo a.ju.jl.Word J a.ju.Kids.length M)
  refine VO (jM (.agg a0.toArray) (a0.toArray) b rfl rfl dQ oc nb rfl (fun b3 b => ln (jF (Wh G (Wf yO (Wf yz (VA b Mh (js a.Signed.jm) cI aX (VE (jX (cs := (js a.Signed.jm).toArray) b (mh rfl) (mA bn aX dE) (fun b4 a2 b => ?_))))))))))
  replace b := b.perm (Nr (Qb (Qb Qz)) Nz)
  refine bS g fun s Q g => VE (oh (enc := js) (v := t) (vs := (.slice (some ⟨a2, 0, none⟩) 1 1)) (R := k) b kP dc oR bn nY.1 nY.2.1 rfl nY.2.2.1 nY.2.2.2 rfl rfl x (Sl.lit (enc := js) (l := [a.Signed.jm]) kP rfl nb rfl (b.at_ (Ma Mh))) Q (fun b6 A q b N => Wa (kd (kl (jE ?_)))))
  replace b := b.jr (Kr (Db (Db St)))
  exact ⟨d, A, s, q, _, ⟨rfl, n⟩, (b.jr St), rfl, H, N, (by rw [a5]; exact g)⟩
 rintro E W ⟨t, z, k, D, ⟨d, n⟩, b, G, H, x, g⟩
 rw [aU] at g
 refine jE (sg (Wh G (Wa (lt ?_))))
 obtain rfl := sj g
 exact kV (v := t) rfl rfl ⟨_, k, rfl, b.nF (fun p O => (Ml O)) x.nd, x⟩
theorem DC (z : Int) (t : jQ) (G M : Value) (B : jQ) (H N A : Value) (a3 : List jm) (r : List jK) (w : World) (g : Sl ki 15 (hp w) G t.jA) (J : Sl kT 8 (hp w) M t.jO) (D : Sl ki 15 (hp w) H B.jA) (K : Sl kT 8 (hp w) N B.jO) (e8 : Sl (Pl js) 9 (hp w) A a3) (hm : xD z t B a3 = some r) :
  mi false pg0 42 [(.int .i64 z), (.agg #[(.string t.Name), G, M]), (.agg #[(.string B.Name), H, N]), A] w 40 jV 3 r := by
 refine vV 55 func42 rfl (fun d => sg ?_)
 obtain ⟨A1, c2, rfl⟩ := g.form
 obtain ⟨A3, c4, rfl⟩ := J.form
 refine VE (kx d rfl (fun W6 b5 d => ?_))
 obtain ⟨A7, c8, rfl⟩ := D.form
 obtain ⟨A9, b0, rfl⟩ := K.form
 refine VE (kx d rfl (fun h7 i0 d => Wa (ln (jI ?_))))
 replace d := d.drew
 have m := d.has.jr (Kb (Kb Sn))
 refine kG m jY (XH 0 rfl m (fun _ q => jt rfl (jD q (Mt Mh) (C4 t.Name A1 t.jA.length c2 A3 t.jO.length c4) rfl dJ cQ)) (XH 1 rfl m (fun _ q => jt rfl (jD q Mh (C4 B.Name A7 B.jA.length c8 A9 B.jO.length b0) rfl dJ cQ)) (X 3 rfl m (jy Di rfl) (XH 4 rfl m (fun _ q => jt rfl (jJ q Mh rfl cL)) (bS hm fun f6 e9 hm => XE 2 rfl (tb d call110 (mi.lX (FP B (.slice A7 B.jA.length c8) (.slice A9 B.jO.length b0) _ _ (D.mono kH.mono d.jx) (K.mono mC.mono d.jx) e9)) (fun h8 f7 i1 h6 d x ab e6 => ?_)))))))
 have m := d.has.rY x (Dr (Kb (Kb Sn)))
 refine ⟨m, (bS hm fun d5 f0 hm => XE 5 rfl (tb d call52 (zI t (.slice A1 t.jA.length c2) (.slice A3 t.jO.length c4) f7 f6 B.Name _ _ (g.mono kH.mono (x.trans d.jx)) (J.mono mC.mono (x.trans d.jx)) (e6.sl kP (fun b o s => d.at_ (Ml s))) f0) (fun h9 d6 f8 f5 d a4 ad e7 => ?_)))⟩
 have m := d.has.rY (x.trans a4) (Dr (Dr (Kb (Kb Sn))))
 refine ⟨m, (X 6 rfl m (nt rfl) (kO kr (jE ?_)))⟩
 replace d := d.jr (Kr (Dr (Db St)))
 refine sg (Wa (lS (Wf yC (VB d (Ma Mh) rfl rfl iU (V (lR dS rfl g) (Wm (ln ?_)))))))
 replace d := d.jr (Kr (Db St))
 refine lh (fun i E W => ∃ u Z k P, (E 22 = .int .i64 (i : Nat) ∧ E 21 = .int .i64 (t.jA.length : Nat)) ∧ ST false lB w W f8 (k ++ (f5 ++ P)) ∧ E 0 = (.int .i64 z) ∧ E 3 = A ∧ E 9 = d6 ∧ E 10 = u ∧ E 20 = (.slice A1 t.jA.length c2) ∧ jL 40 jV 3 u Z k ∧ oJ d5 z a3 (t.jA.drop i) i Z = some r) t.jA.length g.len ⟨(.slice none 0 0), ([]), [], _, ⟨rfl, rfl⟩, (d.jr St), rfl, rfl, rfl, rfl, rfl, (jL.nil _ _ _), hm⟩ dc dc dc (fun _ _ _ h => by obtain ⟨_, _, _, _, aa, _⟩ := h; exact aa) ?_ ?_
 ·rintro j E W c6 ⟨u, Z, k, P, ⟨n, L⟩, d, I, Q, T, U, Y, y, c⟩
  let a2 := (⟨1, z, (j : Int)⟩ : jK)
  let O := (⟨2, z, (j : Int)⟩ : jK)
  obtain ⟨a, f9, d4, d3, a5⟩ := kM c6
  rw [d4] at c
  refine bg (Wh n (VQ (mo (i := (j : Int)) (x0 := a) ki.out dS dQ Y n (g.mono kH.mono (x.trans a4)) (aP _) d3) (fun h1 ⟨_, ⟨h4, h5, rfl, d1, d2⟩, c7⟩ => V (jt rfl (jW d.has c7 iT dQ)) (VE (kB d fX (fun g0 h0 d => Wa ?_))))))
  obtain ⟨a8, b1, rfl⟩ := d1.form
  obtain ⟨a9, b2, rfl⟩ := d2.form
  let a0 := (C3 a.Signed.jm.Kind a.Signed.jm.Head.jo a.Signed.jm.Head.Word a.Signed.jm.ke a.Signed.jm.B.jo a.Signed.jm.B.Word a.Signed.jm.C.jo a.Signed.jm.C.Word a.Signed.jm.kp a8 a.Signed.Tag.length b1 a.ju.Op a.ju.K a.ju.jl.jo a.ju.jl.Word a9 a.ju.Kids.length b2)
  refine VO (jM (.agg a0.toArray) (a0.toArray) d rfl rfl dQ oc nb rfl (fun g1 d => ln (bg (Wh T (Wf yO (Wf yz (VA d Mh (js a.Signed.jm) cI aX (bS c fun h2 c9 c => VE (Eg d call111 (kf.lX (xo d6 d5 a.Signed.jm _ _ (e7.sl kP (fun b o s => d.at_ (Mt (Ma (Ml s))))) c9)) (fun g2 d => V (pA rfl) (Wa (kd ?_))))))))))))
  refine jE (CI c rfl (fun c0 c => ?_) (fun c0 c => ?_))
  ·refine jF (Wh U (Wh I (Wm (V (mE (v := (.agg (jV (O)).toArray)) (BM rfl rfl rfl) (lO eb dN (Ia _ dN) kr)) (VE (jX (cs := (jV (O)).toArray) d (mh rfl) (mA cE et eb) (fun g3 e2 d => ?_)))))))
   replace d := d.perm (Nr (Qb (Qb Qz)) Nz)
   refine bS c fun f1 c1 c => VE (oh (enc := jV) (v := u) (vs := (.slice (some ⟨e2, 0, none⟩) 1 1)) (R := k) d mF dc tS cE px.1 px.2.1 rfl px.2.2.1 px.2.2.2 rfl rfl y (Sl.lit (enc := jV) (l := [O]) mF rfl nb rfl (d.at_ (Ma Mh))) c1 (fun g4 f3 e0 d b7 => Wa (kd (kl (kl (jE ?_))))))
   replace d := d.jr (Kr (Db (Db St)))
   exact ⟨n, f3, f1, e0, _, ⟨rfl, L⟩, (d.jr St), I, Q, T, rfl, Y, b7, (by rw [a5]; exact c)⟩
  refine sg (Wh Q (Wf yO (Wf yz (VA d Mh (js a.Signed.jm) cI aX (bS c fun h3 d0 c => VE (Eg d call111 (kf.lX (xo A a3 a.Signed.jm _ _ (e8.mono (Pl.mono _) ((x.trans a4).trans d.jx)) d0)) (fun g7 d => V (pA rfl) (Wa (ln ?_)))))))))
  replace d := d.jr (Db St)
  refine CI c rfl (fun c3 c => ?_) (fun c3 c => ?_)
  ·refine jF (Wh U (Wh I (Wm (V (mE (v := (.agg (jV (a2)).toArray)) (BM rfl rfl rfl) (lO eb dN (Ia _ dN) kr)) (VE (jX (cs := (jV (a2)).toArray) d (mh rfl) (mA cE et eb) (fun g8 e3 d => ?_)))))))
   replace d := d.perm (Nr (Qb Qz) Nz)
   refine bS c fun f2 c5 c => VE (oh (enc := jV) (v := u) (vs := (.slice (some ⟨e3, 0, none⟩) 1 1)) (R := k) d mF dc tS cE px.1 px.2.1 rfl px.2.2.1 px.2.2.2 rfl rfl y (Sl.lit (enc := jV) (l := [a2]) mF rfl nb rfl (d.at_ (Ma Mh))) c5 (fun g9 f4 e1 d b9 => Wa (kd (kl (kl (jE ?_))))))
   replace d := d.jr (Kr (Db St))
   exact ⟨n, f4, f2, e1, _, ⟨rfl, L⟩, (d.jr St), I, Q, T, rfl, Y, b9, (by rw [a5]; exact c)⟩
  exact lE (kl (kl (jE ⟨n, u, Z, k, _, ⟨rfl, L⟩, (d.jr St), I, Q, T, U, Y, y, (by rw [a5]; exact c)⟩)))
 rintro E W ⟨u, Z, k, P, ⟨n, L⟩, d, I, Q, T, U, Y, y, c⟩
 rw [aU] at c
 refine jE ?_
 replace d := d.jr (Kr (Dr St))
 refine sg (Wh U (Wa (lt ?_)))
 obtain rfl := sj c
 exact kV (v := u) rfl rfl ⟨_, k, rfl, d.nF (fun p s => (Ml s)) y.nd, y⟩
theorem yV (a : Value) (g : List jm) (c : Value) (i : jm → Option Bool) (r : Bool) (w : World) (j : Sl (Pl js) 9 (hp w) a g) (k : xO pg0 c (hp w) (fun (x : jm) => [(.agg (js x).toArray)]) (fun (r : Bool) => (.bool r)) i) (hm : pe g i = some r) :
  kf false pg0 112 [a, c] w (.bool r) := by
 refine cG 9 func112 rfl (fun b => sg (Wa (lr (Wm (Wm (bS hm fun y t hm => VE (Eg b call180 (vJ a g c i _ _ (j.mono (Pl.mono _) b.jx) (k.mono b.jx) t) (fun u b => Wi rfl (Wa (kd ?_))))))))))
 exact jE (ky (rQ hm b))
theorem Gq (c : jm) (g : Nat) (a : Value) (j : List jm) (r : Bool) (w : World) (k : Sl (Pl js) 9 (hp w) a j) (i : At (hp w) (.pointer (some ⟨g, 0, none⟩)) [a]) (hm : vn c j = some r) :
  kf true pg0 113 [(.agg (js c).toArray), (.pointer (some ⟨g, 0, none⟩))] w (.bool r) := by
 refine cG 7 func113 rfl (fun b => sg (VE (kx b rfl (fun u z b => Wa (lr (V (jt rfl (nV b.has (y := a) i jk)) (VA b Mh (js c) cI aX (bS hm fun B t hm => VE (Eg b call111 (xo a j c _ _ (k.mono (Pl.mono _) b.jx) t) (fun x b => Wa (kd ?_)))))))))))
 refine jE ?_
 exact ky (rQ hm b)
theorem Ej (H : Int) (j : jQ) (B D : Value) (r : List jK) (w : World) (y : Sl ki 15 (hp w) B j.jA) (g : Sl kT 8 (hp w) D j.jO) (hm : yn H j = some r) :
  mi false pg0 43 [(.int .i64 H), (.agg #[(.string j.Name), B, D])] w 40 jV 3 r := by
 refine vV 32 func43 rfl (fun d => sg ?_)
 obtain ⟨A1, c2, rfl⟩ := y.form
 obtain ⟨A3, A, rfl⟩ := g.form
 refine VE (kx d rfl (fun W6 b5 d => Wa (lr (VA d Mh (C4 j.Name A1 j.jA.length c2 A3 j.jO.length A) dJ cQ (bS hm fun Y d1 hm => VE (tb d call110 (mi.lX (FP j (.slice A1 j.jA.length c2) (.slice A3 j.jO.length A) _ _ (y.mono kH.mono d.jx) (g.mono mC.mono d.jx) d1)) (fun W9 e6 d2 d0 d b4 aa P => VE (kB d gE (fun e4 N d => ?_)))))))))
 obtain ⟨Z, a2, rfl⟩ := P.form
 let q : Value := (.slice Z Y.length a2)
 refine VO (jM q (#[q]) d rfl rfl je oc nb rfl (fun e5 d => lr (Wa (lS (Wf Ip (VB d (Mt (Ma Mh)) rfl rfl isAgg23 (V (lR du rfl g) (Wm ?_))))))))
 refine ln ?_
 replace d := d.jr (Kb (Kr (Db St)))
 refine lh (fun i E W => ∃ u G k T, (E 14 = .int .i64 (i : Nat) ∧ E 13 = .int .i64 (j.jO.length : Nat)) ∧ ST false lB w W d2 ((N, Ob #[q] 45) :: (k ++ (d0 ++ T))) ∧ E 0 = (.int .i64 H) ∧ E 5 = (.pointer (some ⟨N, 0, none⟩)) ∧ E 6 = u ∧ E 12 = (.slice A3 j.jO.length A) ∧ jL 40 jV 3 u G k ∧ qw Y H (j.jO.drop i) i G = some r) j.jO.length g.len ⟨(.slice none 0 0), ([]), [], _, ⟨rfl, rfl⟩, (d.jr St), rfl, rfl, rfl, rfl, (jL.nil _ _ _), hm⟩ dc dc dc (fun _ _ _ h => by obtain ⟨_, _, _, _, L, _⟩ := h; exact L) ?_ ?_
 ·rintro t E W b3 ⟨u, G, k, T, ⟨m, O⟩, d, I, J, K, M, z, a⟩
  let s := (⟨3, H, (t : Int)⟩ : jK)
  obtain ⟨c, d3, c1, c0, a4⟩ := kM b3
  rw [c1] at a
  refine bg (Wh m (VQ (mo (i := (t : Int)) (x0 := c) kT.out du dL M m (g.mono mC.mono b4) (aP _) c0) (fun e0 ⟨_, ⟨e2, e3, rfl, b9, a3⟩, b6⟩ => V (jt rfl (jW d.has b6 iN dL)) (VE (kB d gm (fun d4 d9 d => Wa ?_))))))
  obtain ⟨a5, a6, rfl⟩ := b9.form
  obtain ⟨Q, U, rfl⟩ := a3.form
  let a0 := (C7 c.jl.jo c.jl.Word c.ju.Op c.ju.K c.ju.jl.jo c.ju.jl.Word a5 c.ju.Kids.length a6 Q c.lx.length U)
  refine VO (jM (.agg a0.toArray) (a0.toArray) d rfl rfl dL oc nb rfl (fun d5 d => lr (Wf Gv (VB d Mh rfl rfl jk (V (sT (by exact tZ J) rfl) (bS a fun e1 b7 a => VE (Eg d call112 (yV (.slice Q c.lx.length U) c.lx (.func (.func 113) #[] #[(.pointer (some ⟨N, 0, none⟩))]) (fun (x : jm) => vn x Y) _ _ (a3.mono (Pl.mono _) d.jx) ⟨113, #[], #[(.pointer (some ⟨N, 0, none⟩))], rfl, call113, fun W x r hs hm => (Gq x N q Y r W (P.sl kP (fun b o n => hs _ _ ((fun b o n => d.at_ (Mt (Mt (Ma (Ml n))))) b o n))) (At.of (hs _ _ (d.at_ (Mt Mh))) _ rfl) hm).lX⟩ b7) (fun d6 d => V (pA rfl) (ln ?_)))))))))
  replace d := d.jr (Db St)
  refine CI a rfl (fun b1 a => ?_) (fun b1 a => ?_)
  ·refine jF (Wh K (Wh I (Wm (V (mE (v := (.agg (jV (s)).toArray)) (BM rfl rfl rfl) (lO eb dN (Ia _ dN) kr)) (VE (jX (cs := (jV (s)).toArray) d (mh rfl) (mA cE et eb) (fun d7 c6 d => ?_)))))))
   replace d := d.perm (Nr (Qb (Qb Qz)) Nz)
   refine bS a fun c8 b2 a => VE (oh (enc := jV) (v := u) (vs := (.slice (some ⟨c6, 0, none⟩) 1 1)) (R := k) d mF dc tS cE px.1 px.2.1 rfl px.2.2.1 px.2.2.2 rfl rfl z (Sl.lit (enc := jV) (l := [s]) mF rfl nb rfl (d.at_ (Ma Mh))) b2 (fun d8 c9 c5 d b0 => Wa (kd (kl (jE ?_)))))
   replace d := d.jr (Kr (Db St))
   exact ⟨m, c9, c8, c5, _, ⟨rfl, O⟩, (d.jr (Sb (Pr Pz) St)), I, J, rfl, M, b0, (by rw [a4]; exact a)⟩
  exact lE (kl (jE ⟨m, u, G, k, _, ⟨rfl, O⟩, (d.jr St), I, J, K, M, z, (by rw [a4]; exact a)⟩))
 rintro E W ⟨u, G, k, T, ⟨m, O⟩, d, I, J, K, M, z, a⟩
 rw [aU] at a
 refine jE ?_
 replace d := d.jr (Db (Kr (Dr St)))
 refine sg (Wh K (Wa (lt ?_)))
 obtain rfl := sj a
 exact kV (v := u) rfl rfl ⟨_, k, rfl, d.nF (fun p n => (Ml n)) z.nd, z⟩
theorem Hu (k : jQ) (j B : Value) (t : jQ) (a c : Value) (r : ((List jm) × (List (jl × (List (ByteArray × Bool)))) × (List jm) × (List (jl × (List jm))) × (List (ByteArray × (List jm))) × (List jz) × Int × ByteArray)) (w : World) (g : Sl ki 15 (hp w) j k.jA) (y : Sl kT 8 (hp w) B k.jO) (i : Sl ki 15 (hp w) a t.jA) (z : Sl kT 8 (hp w) c t.jO) (hm : yS k t = some r) :
  kR false pg0 53 [(.agg #[(.string k.Name), j, B]), (.agg #[(.string t.Name), a, c])] w [] (fun v L1 W' => ∃ A S2 m l E S7 L M a2 N a3 Q a4 T Y, v = (.tuple #[A, (.func (.func 127) #[] #[(.pointer (some ⟨m, 0, none⟩)), (.pointer (some ⟨Y, 0, none⟩))])]) ∧ L1 = ((m, Ob #[(.pointer (some ⟨l, 0, none⟩))] 183) :: ((l, Ob #[E, L, a2, a3, a4, (.int .i64 (r.2.2.2.2.2.2.1))] 246) :: ((Y, Ob #[(.string (r.2.2.2.2.2.2.2)), a, c] 25) :: (S2 ++ (S7 ++ (M ++ (N ++ (Q ++ (T ++ []))))))))) ∧ jL 52 js 9 A r.1 S2 ∧ lj (fun (x : jl) => (.agg (jw x).toArray)) (li Value.string (fun (x : Bool) => (Value.bool x))) E r.2.1 S7 ∧ jL 52 js 9 L r.2.2.1 M ∧ lj (fun (x : jl) => (.agg (jw x).toArray)) (jL 52 js 9) a2 r.2.2.2.1 N ∧ lj Value.string (jL 52 js 9) a3 r.2.2.2.2.1 Q ∧ oL 285 ll 3 a4 r.2.2.2.2.2.1 T) := by
 refine vV 21 func53 rfl (fun d => sg ?_)
 obtain ⟨A1, c2, rfl⟩ := g.form
 obtain ⟨A3, n, rfl⟩ := y.form
 refine VE (kx d rfl (fun W6 l d => ?_))
 obtain ⟨A7, p, rfl⟩ := i.form
 obtain ⟨A9, I, rfl⟩ := z.form
 refine VE (kx d rfl (fun f4 U d => Wa (Wa (lr (VA d (Mt Mh) (C4 k.Name A1 k.jA.length c2 A3 k.jO.length n) dJ cQ (VA d Mh (C4 t.Name A7 t.jA.length p A9 t.jO.length I) dJ cQ (bS hm fun d7 R hm => ?_)))))))
 refine VE (Fq d (bW _) call17 (fun _ _ _ _ => (Bg k (.slice A1 k.jA.length c2) (.slice A3 k.jO.length n) t (.slice A7 t.jA.length p) (.slice A9 t.jO.length I) _ _ (g.mono kH.mono d.jx) (y.mono mC.mono d.jx) (i.mono kH.mono d.jx) (z.mono mC.mono d.jx) R)) (fun f5 g0 g3 f1 d e6 q h O => ?_) (L0 := []))
 obtain ⟨g2, f3, K, c9, D, rfl, f0, J⟩ := O
 replace D := D.symm; subst D
 replace d := d.perm (Tr (Tr Tn))
 refine Wm (Wx rfl (Wx rfl (Wx rfl (Wa (Wa (Wa (ln ?_)))))))
 replace d := d.jr (Dr (Kr (Kb (Db St))))
 refine sg (Wm (bS hm fun f9 W hm => ?_))
 refine VE (Fq d (bW _) call126 (fun _ _ _ _ => (FU K d7.2.1 _ _ (J.sl kP (fun b o hq => d.at_ (Ml hq))) W)) (fun f6 g1 g4 f2 d e7 s h P => ?_) (L0 := []))
 obtain ⟨H, d9, d0, e0, d1, e1, d2, e2, d3, e3, d4, G, rfl, c0, c1, c3, c5, c6⟩ := P
 replace G := G.symm; subst G
 replace d := d.perm (Tb (Tr (Tr (Tr (Tr (Tr Tn))))))
 refine VE (kB d zeroValue183 (fun f7 Z d => VO (jM (.pointer (some ⟨H, 0, none⟩)) (#[(.pointer (some ⟨H, 0, none⟩))]) d rfl rfl sizeOf183 oc nb rfl (fun f8 d => lr (Wm (V (sT (by exact vC rfl rfl) rfl) (Wa (Wa (lt ?_)))))))))
 obtain rfl := sj hm
 exact CZ (v := K) (u := (.func (.func 127) #[] #[(.pointer (some ⟨Z, 0, none⟩)), (.pointer (some ⟨U, 0, none⟩))])) rfl rfl rfl ⟨_, _, rfl, (d.LZ (Kb (Kb (Sb (Pr (Pr (Pr (Pr (Pr (Pr Pz)))))) (Sr (Qr (Qr (Qr (Qr (Qr Qz))))) (Kr (Kr (Kr (Kr (Kr Sn)))))))))), K, c9, Z, H, d9, d0, e0, d1, e1, d2, e2, d3, e3, d4, U, rfl, rfl, J, c0, c1, c3, c5, c6⟩
theorem Ey (Z : jl) (d I : Nat) (u : Value) (G : List (jl × (List (ByteArray × Bool)))) (a : Value) (k : List jm) (j : Value) (B : List (jl × (List jm))) (c : Value) (t : List (ByteArray × (List jm))) (i : Value) (z : List jz) (Q : Int) (a2 : Nat) (g : ByteArray) (D : Value) (J : List kK) (H : Value) (N : List nh) (r : Bool) (w : World) (Y : pv (fun (x : jl) => (.agg (jw x).toArray)) (li Value.string (fun (x : Bool) => (Value.bool x))) (hp w) u G) (K : Sl (Pl js) 9 (hp w) a k) (U : pv (fun (x : jl) => (.agg (jw x).toArray)) (jL 52 js 9) (hp w) j B) (M : pv Value.string (jL 52 js 9) (hp w) c t) (T : Sl (Pl ll) 3 (hp w) i z) (a3 : At (hp w) (.pointer (some ⟨I, 0, none⟩)) [u, a, j, c, i, (.int .i64 Q)]) (a4 : At (hp w) (.pointer (some ⟨d, 0, none⟩)) [(.pointer (some ⟨I, 0, none⟩))]) (l : Sl ki 15 (hp w) D J) (m : Sl kT 8 (hp w) H N) (a5 : At (hp w) (.pointer (some ⟨a2, 0, none⟩)) [(.string g), D, H]) (hm : tX Z G k B t z Q g J N = some r) :
  kf true pg0 127 [(.agg (jw Z).toArray), (.pointer (some ⟨d, 0, none⟩)), (.pointer (some ⟨a2, 0, none⟩))] w (.bool r) := by
 refine cG 10 func127 rfl (fun b => sg (VE (kx b rfl (fun W2 n b => Wa (lr (V (jt rfl (nV b.has (y := (.pointer (some ⟨I, 0, none⟩))) a4 isAgg183)) (VA b Mh (jw Z) bX bG (VQ (rC [(.string g)] Di rfl a5 rfl) (fun p h => V (jt rfl (nV b.has (y := (.string g)) h cL)) (bS hm fun q a9 hm => VE (Eg b call128 (zX I u G a k j B c t i z Q Z g _ _ (Y.mono b.jx) (K.mono (Pl.mono _) b.jx) (U.mono b.jx) (M.mono b.jx) (T.mono (Pl.mono _) b.jx) (a3.mono b.jx) a9) (fun W8 b => ?_))))))))))))
 refine Wa (ln ?_)
 exact ky (rQ hm b)
theorem AH (y : jQ) (t D : Value) (c : jQ) (u G : Value) (i : Formula) (H : Value) (r : Bool) (w : World) (k : Sl ki 15 (hp w) t y.jA) (z : Sl kT 8 (hp w) D y.jO) (g : Sl ki 15 (hp w) u c.jA) (j : Sl kT 8 (hp w) G c.jO) (B : Sl jq 5 (hp w) H i.Kids) (hm : pT y c i = some r) :
  kf false pg0 19 [(.agg #[(.string y.Name), t, D]), (.agg #[(.string c.Name), u, G]), (.agg #[(.int .i64 i.Op), (.int .i64 i.K), (.string i.jl.jo), (.string i.jl.Word), H])] w (.bool r) := by
 refine cG 18 func19 rfl (fun d => sg ?_)
 obtain ⟨A1, c2, rfl⟩ := k.form
 obtain ⟨A3, n, rfl⟩ := z.form
 refine VE (kx d rfl (fun W6 b5 d => ?_))
 obtain ⟨U, Z, rfl⟩ := g.form
 obtain ⟨Y, K, rfl⟩ := j.form
 refine VE (kx d rfl (fun d4 d8 d => ?_))
 obtain ⟨M, T, rfl⟩ := B.form
 refine VE (kx d rfl (fun d5 d9 d => Wa (lr (VA d (Mt (Mt Mh)) (C4 y.Name A1 y.jA.length c2 A3 y.jO.length n) dJ cQ (VA d (Mt Mh) (C4 c.Name U c.jA.length Z Y c.jO.length K) dJ cQ (bS hm fun a s hm => ?_))))))
 refine VE (Fq d (bW _) call53 (fun _ _ _ _ => (Hu y (.slice A1 y.jA.length c2) (.slice A3 y.jO.length n) c (.slice U c.jA.length Z) (.slice Y c.jO.length K) _ _ (k.mono kH.mono d.jx) (z.mono mC.mono d.jx) (g.mono kH.mono d.jx) (j.mono mC.mono d.jx) s)) (fun d6 e1 e3 c6 d I p m q => ?_) (L0 := []))
 obtain ⟨e2, c7, N, P, R, c9, b9, d0, c0, d1, c1, d2, c3, d3, Q, J, rfl, c5, v, A, E, L, O⟩ := q
 replace J := J.symm; subst J
 replace d := d.perm (Tb (Tb (Tb (Tr (Tr (Tr (Tr (Tr (Tr Tn)))))))))
 refine Wm (Wx rfl (Wx rfl (Wa (Wa (ln ?_)))))
 replace d := d.jr (Kb (Kb (Kb (Dr (Kr (Kr (Kr (Kr (Kr (Kb (Db (Db St))))))))))))
 refine sg (VA d (Mt (Mt (Mt (Ma (Ma (Ma (Ma (Ma Mh)))))))) (C1 i.Op i.K i.jl.jo i.jl.Word M i.Kids.length T) bB aD (Wm (bS hm fun e0 a9 hm => VE (Eg d call54 (Br i (.slice M i.Kids.length T) (.func (.func 127) #[] #[(.pointer (some ⟨N, 0, none⟩)), (.pointer (some ⟨Q, 0, none⟩))]) (fun (x : jl) => tX x a.2.1 a.2.2.1 a.2.2.2.1 a.2.2.2.2.1 a.2.2.2.2.2.1 a.2.2.2.2.2.2.1 a.2.2.2.2.2.2.2 c.jA c.jO) _ _ (B.mono jC.mono (I.trans d.jx)) ⟨127, #[], #[(.pointer (some ⟨N, 0, none⟩)), (.pointer (some ⟨Q, 0, none⟩))], rfl, call127, fun W x r l hm => (Ey x N P R a.2.1 b9 a.2.2.1 c0 a.2.2.2.1 c1 a.2.2.2.2.1 c3 a.2.2.2.2.2.1 a.2.2.2.2.2.2.1 Q a.2.2.2.2.2.2.2 (.slice U c.jA.length Z) c.jA (.slice Y c.jO.length K) c.jO r W (v.at (fun b o h => l _ _ ((fun b o h => d.at_ (Mt (Mt (Mt (Ml h))))) b o h))) (A.sl kP (fun b o h => l _ _ ((fun b o h => d.at_ (Mt (Mt (Mt (Ma (Ml h)))))) b o h))) (E.at (fun b o h => l _ _ ((fun b o h => d.at_ (Mt (Mt (Mt (Ma (Ma (Ml h))))))) b o h))) (L.at (fun b o h => l _ _ ((fun b o h => d.at_ (Mt (Mt (Mt (Ma (Ma (Ma (Ml h)))))))) b o h))) ((O.Cx wV).mono (Pl.mono _) (lI (fun b o h => l _ _ ((fun b o h => d.at_ (Mt (Mt (Mt (Ma (Ma (Ma (Ma (Ml h))))))))) b o h)))) (At.of (l _ _ (d.at_ (Mt Mh))) _ rfl) (At.of (l _ _ (d.at_ Mh)) _ rfl) (g.mono kH.mono ((I.trans d.jx).trans l)) (j.mono mC.mono ((I.trans d.jx).trans l)) (At.of (l _ _ (d.at_ (Mt (Mt Mh)))) _ rfl) hm).lX⟩ a9) (fun d7 d => Wa (ln ?_))))))
 exact ky (rQ hm d)
theorem IH (a : oH) (D H k B t M : Value) (r : List jK) (w : World) (z : Sl ki 15 (hp w) D a.jo.jA) (G : Sl kT 8 (hp w) H a.jo.jO) (j : Sl ki 15 (hp w) k a.Client.jA) (y : Sl kT 8 (hp w) B a.Client.jO) (g : Sl jq 5 (hp w) t a.Formula.Kids) (Y : Sl tw 2 (hp w) M a.Keys) (hm : xF a = some r) :
  mi false pg0 44 [(.agg #[(.string a.jo.Name), D, H, (.string a.Client.Name), k, B, (.int .i64 a.Formula.Op), (.int .i64 a.Formula.K), (.string a.Formula.jl.jo), (.string a.Formula.jl.Word), t, (.int .i64 a.zH), (.int .i64 a.qT.Fh), (.int .i64 a.qT.FE), (.int .i64 a.tD), (.int .i64 a.xl), (.int .i64 a.uV), M])] w 40 jV 3 r := by
 refine vV 32 func44 rfl (fun b => sg ?_)
 obtain ⟨A1, c2, rfl⟩ := z.form
 obtain ⟨A3, L, rfl⟩ := G.form
 obtain ⟨A5, O, rfl⟩ := j.form
 obtain ⟨A7, P, rfl⟩ := y.form
 obtain ⟨A9, N, rfl⟩ := g.form
 let a4 := (C1 a.Formula.Op a.Formula.K a.Formula.jl.jo a.Formula.jl.Word A9 a.Formula.Kids.length N)
 obtain ⟨d0, d2, rfl⟩ := Y.form
 refine VE (kx b rfl (fun f3 d1 b => Wa (lr (Wf Dx (VA b Mh a4 bB aD (bS hm fun c d6 hm => ?_))))))
 let s : Value := (.int .i64 ((c.1).K))
 let q : Value := (.int .i64 ((c.1).Op))
 let n : Value := (.string (((c.1).jl).Word))
 let m : Value := (.string (((c.1).jl).jo))
 refine VE (eD b (bW _) call114 (fun R => (Be a.Formula (.slice A9 a.Formula.Kids.length N) _ _ R (g.mono jC.mono (jT.refl _)) d6)) ?_ (L0 := []))
 rintro _ f7 d3 f2 b K ab ⟨f8, a2, rfl, a8⟩
 obtain rfl := a2.symm
 refine Wm (Wx rfl (Wx rfl (VE (kB b bJ (fun f5 e0 b => ?_)))))
 obtain ⟨T, U, rfl⟩ := a8.form
 let a0 : Value := (.slice T ((c.1).Kids).length U)
 refine VO (jM (.agg #[q, s, m, n, a0]) (#[q, s, m, n, a0]) b rfl rfl aD oc nb rfl (fun f6 b => Wa (ln (jI (lK (jI ?_))))))
 replace b := b.drew
 have d := b.has.jr (Kb Sn)
 refine kG d jY (X 0 rfl d (jB rfl) (X 1 rfl d (kC rfl rfl rfl) (X 2 rfl d (jB rfl) (PJ hm (fun a9 E W => ∃ a3 a5, jT d3 a3 ∧ ST false lB w W a3 ((e0, Ob #[q, s, m, n, a0] 30) :: ((d1, Ol (C2 a.jo.Name A1 a.jo.jA.length c2 A3 a.jo.jO.length L a.Client.Name A5 a.Client.jA.length O A7 a.Client.jO.length P a.Formula.Op a.Formula.K a.Formula.jl.jo a.Formula.jl.Word A9 a.Formula.Kids.length N a.zH a.qT.Fh a.qT.FE a.tD a.xl a.uV d0 a.Keys.length d2) 34) :: a5)) ∧ E 1 = (.pointer (some ⟨d1, 0, none⟩)) ∧ E 18 = (.bool a9)) (bm 8 127) 1 ?_ (fun a9 x Z => ?_)))))
 ·rintro f1 E W ⟨a3, a5, I, b, A, d4⟩ i
  have d := b.has.rY I (Kb Sn)
  refine X 7 rfl d (nt d4) (kO kr (jE ?_))
  replace b := b.jr (Db St)
  refine CI i rfl (fun c0 i => ?_) (fun c0 i => ?_)
  ·refine sg (V (mE (v := (.agg (jV K3).toArray)) (mh rfl) (lO eb dN (Ia _ dN) kr)) (VE (jX (cs := (jV K3).toArray) b (mh rfl) (mA cE et eb) (fun e3 a6 b => Wa (ln ?_)))))
   replace b := b.jr (Kb (Db St))
   refine ky (nw (kZ ?_))
   obtain rfl := sj i
   exact kV (v := (.slice (some ⟨a6, 0, none⟩) 1 1)) rfl rfl ⟨_, [(a6, Ol (jV K3) 40)], rfl, b.nF (fun p h => by rw [bK] at h; subst h; exact Mh) (by simp), (jL.lit (l := [K3]) (enc := jV) rfl dc rfl rfl)⟩
  refine sg (V (jy xy A) (VA b Mh (C4 a.jo.Name A1 a.jo.jA.length c2 A3 a.jo.jO.length L) dJ cQ (V (jy xh A) (VA b Mh (C4 a.Client.Name A5 a.Client.jA.length O A7 a.Client.jO.length P) dJ cQ (V (jy Dx A) (VA b Mh a4 bB aD (bS i fun e8 c3 i => VE (Eg b call19 (AH a.jo (.slice A1 a.jo.jA.length c2) (.slice A3 a.jo.jO.length L) a.Client (.slice A5 a.Client.jA.length O) (.slice A7 a.Client.jO.length P) a.Formula (.slice A9 a.Formula.Kids.length N) _ _ (z.mono kH.mono ((K.trans I).trans b.jx)) (G.mono mC.mono ((K.trans I).trans b.jx)) (j.mono kH.mono ((K.trans I).trans b.jx)) (y.mono mC.mono ((K.trans I).trans b.jx)) (g.mono jC.mono ((K.trans I).trans b.jx)) c3) (fun e4 b => V (pA rfl) (Wa (ln ?_)))))))))))
  replace b := b.jr (Db St)
  refine CI i rfl (fun c1 i => ?_) (fun c1 i => ?_)
  ·refine sg (V (mE (v := (.agg (jV K4).toArray)) (mh rfl) (lO eb dN (Ia _ dN) kr)) (VE (jX (cs := (jV K4).toArray) b (mh rfl) (mA cE et eb) (fun e5 a7 b => Wa (lt (nw (kZ ?_)))))))
   obtain rfl := sj i
   exact kV (v := (.slice (some ⟨a7, 0, none⟩) 1 1)) rfl rfl ⟨_, [(a7, Ol (jV K4) 40)], rfl, b.nF (fun p h => by rw [bK] at h; subst h; exact Mh) (by simp), (jL.lit (l := [K4]) (enc := jV) rfl dc rfl rfl)⟩
  refine lE (kl (jE (sg (Wa (lt ?_)))))
  obtain rfl := sj i
  exact kV (v := (.slice none 0 0)) rfl rfl ⟨_, [], rfl, b.nF (fun p h => by cases h) (by simp), jL.nil _ _ _⟩
 refine bC x (fun u x => ?_) (fun u x => ?_)
 ·refine sZ 3 rfl rfl (cB u) d (fun _ hS => jt rfl (jD hS Mh [q, s, m, n, a0] rfl bB aD)) (bS x fun d7 c5 x => ?_)
  refine IK 4 rfl rfl (cB u) (eD b (bW _) call115 (fun R => lQ.lX (Am  _ _ R  c5)) ?_ (L0 := []))
  rintro _ f0 d9 e2 b J aa ⟨d8, Q, rfl, c9⟩
  obtain rfl := Q.symm
  have d := b.has.rY J (Kb Sn)
  refine ⟨d, (bS x fun e9 c7 x => IK 5 rfl rfl (cB u) (Eg b call61 ((yb jP) c.1 a0 d7 d8 _ _ (a8.mono jC.mono (J.trans b.jx)) (c9.mono jC.mono b.jx) c7) (fun e7 b => ?_)))⟩
  have d := b.has.rY J (Kb Sn)
  refine ⟨d, (X 6 rfl d (km (cB u) rfl) ?_)⟩
  obtain rfl := sj x
  refine og kr (Z _ _ ⟨d9, _, J, (b.jr St), rfl, rfl⟩)
 refine Xn 3 rfl rfl (cB u) d (Xn 4 rfl rfl (cB u) d (Xn 5 rfl rfl (cB u) d (X 6 rfl d (kq (cB u) rfl) ?_)))
 obtain rfl := sj x
 refine og kr (Z _ _ ⟨d3, _, (jT.refl _), (b.jr St), rfl, rfl⟩)
theorem zp (I : Int) (r : List jK) (w : World) (hm : pC I = some r) :
  mi true pg0 109 [(.slice none 0 0), (.int .i64 I)] w 40 jV 3 r := by
 refine vV 27 func109 rfl (fun b => sg (Wa (lS (Wm (Wi rfl (ln (CI hm rfl (fun K hm => ?_) (fun K hm => ?_))))))))
 ·cases hm
 refine kn (jI (CJ hm (fun u E W => ∃ g c t, ST true lB w W (hp w) (c ++ t) ∧ E 0 = g ∧ jL 40 jV 3 g u c) (fun u a => ?_) ?_))
 ·refine sg (Wm (Wm (V (Iw cE rfl) (Wm (V (yf cE rfl) (Wi rfl (Wi rfl (Wa (lr (Wm ?_))))))))))
  refine Wi rfl (ln (CI a rfl (fun y a => ?_) (fun y a => ?_)))
  ·refine jF (Wm (Wm (V (Iw cE rfl) (V (Lj cE et rfl rfl) (Wm (bS a fun T B a => VE (H8 (enc := jV) (z := (⟨0, 0, 0⟩ : jK)) b mF dc cE er px.1 px.2.1 px.2.2.1 px.2.2.2 rfl rfl rfl B (fun N U H b x => Wm (V (yf cE rfl) (bS a fun _ j a => VQ (Av (i := 0) cE et rfl rfl x mF (uO j) (uF j)) (fun M G => Wa (ln ?_))))))))))))
   obtain rfl := sj a
   exact ⟨M, H, _, (b.jr St), rfl, G⟩
  refine kn ?_
  obtain rfl := sj a
  exact ⟨(.slice none 0 0), [], _, (b.jr St), rfl, (jL.nil _ _ _)⟩
 rintro Q E W ⟨g, c, t, b, J, k⟩ D
 refine sg (Wh J (Wa (lt ?_)))
 obtain rfl := sj D
 exact kV (v := g) rfl rfl ⟨_, c, rfl, b.nF (fun p d => (Ml d)) k.nd, k⟩
theorem Aj (t : Value) (z : List (List jK)) (r : List jK) (w : World) (j : Sl (Dj jV 3) 1 (hp w) t z) (hm : qc z = some r) :
  mi true pg0 41 [t] w 40 jV 3 r := by
 refine vV 36 func41 rfl (fun b => sg (Wa (lr (Wa (lS (Wm ?_))))))
 refine V (lR gz rfl j) (Wm (ln (lh (fun i E W => ∃ u Q, (E 11 = .int .i64 (i : Nat) ∧ E 10 = .int .i64 (z.length : Nat)) ∧ ST true lB w W (hp w) Q ∧ E 0 = t ∧ E 3 = (.int .i64 u) ∧ E 9 = t ∧ mV z (z.drop i) u = some r) z.length j.len ⟨0, _, ⟨rfl, rfl⟩, (b.jr St), rfl, rfl, rfl, hm⟩ dc dc dc (fun _ _ _ h => by obtain ⟨_, _, l, _⟩ := h; exact l) ?_ ?_)))
 ·rintro d1 E W b9 ⟨u, Q, ⟨d, m⟩, b, T, U, Y, a⟩
  obtain ⟨n, e0, c4, c3, c5⟩ := kM b9
  rw [c4] at a
  refine bg (VQ (EG (enc := jV) (k2 := 3) (i := (d1 : Int)) (x0 := n) gz sizeOf37 Y d j (aP _) c3) (fun e2 ⟨d3, c0, c2⟩ => V (jt rfl (nV b.has (y := d3) c0 isAgg37)) (Wa (lr (Wh U (Wm (V (lR cE rfl c2) (Wi rfl (Wa ?_)))))))))
  refine lr (Wm (Wi rfl (ln (CI a rfl (fun b7 a => ?_) (fun b7 a => ?_)))))
  ·cases a
  exact lE (kl (jE ⟨d, (wi0 .i64 (u + (n.length : Int))), _, ⟨rfl, m⟩, (b.jr St), T, rfl, Y, (by rw [c5]; exact a)⟩))
 rintro E W ⟨u, Q, ⟨d, m⟩, b, T, U, Y, a⟩
 rw [aU] at a
 refine jE (sg (Wh U (bS a fun d2 c1 a => VE (tb b call109 (zp u _ _  c1) (fun e1 d4 q d0 b a4 s b6 => Wa (lS (Wh T (V (lR gz rfl j) (Wm ?_)))))))))
 refine ln (CJ a (fun K E W => ∃ G x N, ST true lB w W q (x ++ N) ∧ E 6 = G ∧ jL 40 jV 3 G K x) (fun K L => ?_) ?_)
 ·refine lh (fun i E W => ∃ k D g H, (E 27 = .int .i64 (i : Nat) ∧ E 26 = .int .i64 (z.length : Nat)) ∧ ST true lB w W q (g ++ H) ∧ E 6 = k ∧ E 25 = t ∧ jL 40 jV 3 k D g ∧ mX (z.drop i) D = some K) z.length j.len ⟨d4, d2, d0, _, ⟨rfl, rfl⟩, (b.jr St), rfl, rfl, b6, L⟩ dc dc dc (fun _ _ _ h => by obtain ⟨_, _, _, _, l, _⟩ := h; exact l) ?_ ?_
  ·rintro c6 E W a3 ⟨k, D, g, H, ⟨d, m⟩, b, I, J, B, c⟩
   obtain ⟨c9, d5, b0, a9, b1⟩ := kM a3
   rw [b0] at c
   refine bg (VQ (EG (enc := jV) (k2 := 3) (i := (c6 : Int)) (x0 := c9) gz sizeOf37 J d (j.mono (Dj.mono _ _) a4) (aP _) a9) (fun d8 ⟨Z, O, P⟩ => V (jt rfl (nV b.has (y := Z) O isAgg37)) (Wa (ln (jF (Wh I (Wm (bS c fun c7 a2 c => VE (oh (enc := jV) (v := k) (vs := Z) (R := g) b mF dc tS cE px.1 px.2.1 rfl px.2.2.1 px.2.2.2 rfl rfl B (P.mono (Pl.mono _) b.jx) a2 (fun d6 c8 b4 b A => Wa (kd ?_)))))))))))
   exact kl (jE ⟨d, c8, c7, b4, _, ⟨rfl, m⟩, (b.jr St), rfl, J, A, (by rw [b1]; exact c)⟩)
  rintro E W ⟨k, D, g, H, ⟨d, m⟩, b, I, J, B, c⟩
  rw [aU] at c
  refine jE ?_
  obtain rfl := sj c
  exact ⟨k, g, _, (b.jr St), I, B⟩
 rintro d7 E W ⟨G, x, N, b, b5, M⟩ a5
 refine sg (Wh b5 (Wa (lt ?_)))
 obtain rfl := sj a5
 exact kV (v := G) rfl rfl ⟨_, x, rfl, b.nF (fun p hq => (Ml hq)) M.nd, M⟩
theorem Bi (a : oH) (H I B G D U : Value) (r : List jK) (w : World) (k : Sl ki 15 (hp w) H a.jo.jA) (t : Sl kT 8 (hp w) I a.jo.jO) (g : Sl ki 15 (hp w) B a.Client.jA) (j : Sl kT 8 (hp w) G a.Client.jO) (z : Sl jq 5 (hp w) D a.Formula.Kids) (T : Sl tw 2 (hp w) U a.Keys) (hm : sV a = some r) :
  mi false pg0 12 [(.agg #[(.string a.jo.Name), H, I, (.string a.Client.Name), B, G, (.int .i64 a.Formula.Op), (.int .i64 a.Formula.K), (.string a.Formula.jl.jo), (.string a.Formula.jl.Word), D, (.int .i64 a.zH), (.int .i64 a.qT.Fh), (.int .i64 a.qT.FE), (.int .i64 a.tD), (.int .i64 a.xl), (.int .i64 a.uV), U])] w 40 jV 3 r := by
 refine vV 37 func12 rfl (fun d => sg ?_)
 obtain ⟨Y, c2, rfl⟩ := k.form
 let a4 : Value := (.slice Y a.jo.jA.length c2)
 obtain ⟨Z, E, rfl⟩ := t.form
 let a5 : Value := (.slice Z a.jo.jO.length E)
 let q := (C4 a.jo.Name Y a.jo.jA.length c2 Z a.jo.jO.length E)
 obtain ⟨A5, L, rfl⟩ := g.form
 let a2 : Value := (.slice A5 a.Client.jA.length L)
 obtain ⟨A7, O, rfl⟩ := j.form
 let a3 : Value := (.slice A7 a.Client.jO.length O)
 let a0 := (C4 a.Client.Name A5 a.Client.jA.length L A7 a.Client.jO.length O)
 obtain ⟨A9, d1, rfl⟩ := z.form
 obtain ⟨d0, d2, rfl⟩ := T.form
 refine VE (kx d rfl (fun i0 i2 d => Wa (lr (Wf xy (VA d Mh q dJ cQ (Wf xh (VA d Mh a0 dJ cQ (bS hm fun e0 e5 hm => ?_))))))))
 refine VE (Fq d (bW _) call17 (fun _ _ _ _ => (Bg a.jo a4 a5 a.Client a2 a3 _ _ (k.mono kH.mono d.jx) (t.mono mC.mono d.jx) (g.mono kH.mono d.jx) (j.mono mC.mono d.jx) e5)) (fun i1 i3 i4 h7 d u ae ad e4 => ?_) (L0 := []))
 obtain ⟨e9, h8, f0, h9, A, rfl, e6, e7⟩ := e4
 replace A := A.symm; subst A
 replace d := d.perm (Tr (Tr Tn))
 refine Wm (Wx rfl (Wx rfl (Wx rfl (Wa (Wa (Wa (ln (jI ?_))))))))
 replace d := d.drew
 have h := d.has.jr (Dr (Dr (Kb Sn)))
 refine kG h jY (X 0 rfl h (jy xy rfl) (XH 1 rfl h (fun _ n => jt rfl (jD n Mh q rfl dJ cQ)) (X 2 rfl h (jy xh rfl) (XH 3 rfl h (fun _ n => jt rfl (jD n Mh a0 rfl dJ cQ)) (X 4 rfl h (jB rfl) (X 6 rfl h (jy xy rfl) (XH 7 rfl h (fun _ n => jt rfl (jD n Mh q rfl dJ cQ)) (X 9 rfl h (jy xh rfl) (XH 10 rfl h (fun _ n => jt rfl (jD n Mh a0 rfl dJ cQ)) (X 11 rfl h (jy xy rfl) (XH 12 rfl h (fun _ n => jt rfl (jD n Mh q rfl dJ cQ)) (X 13 rfl h (jB rfl) (X 15 rfl h (jy xh rfl) (XH 16 rfl h (fun _ n => jt rfl (jD n Mh a0 rfl dJ cQ)) ?_))))))))))))))
 refine XH 18 rfl h (fun _ n => jt rfl (jD n Mh (C2 a.jo.Name Y a.jo.jA.length c2 Z a.jo.jO.length E a.Client.Name A5 a.Client.jA.length L A7 a.Client.jO.length O a.Formula.Op a.Formula.K a.Formula.jl.jo a.Formula.jl.Word A9 a.Formula.Kids.length d1 a.zH a.qT.Fh a.qT.FE a.tD a.xl a.uV d0 a.Keys.length d2) rfl isAgg34 jg)) (bS hm fun J d4 hm => XE 5 rfl (tb d call42 (DC 0 a.jo a4 a5 a.Client a2 a3 e9 e0.1 _ _ (k.mono kH.mono (u.trans d.jx)) (t.mono mC.mono (u.trans d.jx)) (g.mono kH.mono (u.trans d.jx)) (j.mono mC.mono (u.trans d.jx)) (e6.sl kP (fun b o m => d.at_ (Ml m))) d4) (fun f6 g4 h1 f1 d c P c0 => ?_)))
 have h := d.has.rY c (Dr (Dr (Dr (Kb Sn))))
 refine ⟨h, (bS hm fun K d5 hm => XE 8 rfl (tb d call43 (Ej 0 a.jo a4 a5 _ _ (k.mono kH.mono ((u.trans c).trans d.jx)) (t.mono mC.mono ((u.trans c).trans d.jx)) d5) (fun f7 g7 h2 f2 d i R c1 => ?_)))⟩
 have h := d.has.rY (c.trans i) (Dr (Dr (Dr (Dr (Kb Sn)))))
 refine ⟨h, (bS hm fun M d6 hm => XE 14 rfl (tb d call42 (DC 1 a.Client a2 a3 a.jo a4 a5 f0 e0.2.1 _ _ (g.mono kH.mono (((u.trans c).trans i).trans d.jx)) (j.mono mC.mono (((u.trans c).trans i).trans d.jx)) (k.mono kH.mono (((u.trans c).trans i).trans d.jx)) (t.mono mC.mono (((u.trans c).trans i).trans d.jx)) (e7.sl kP (fun b o m => d.at_ (Ma (Ma (Ma (Ml m)))))) d6) (fun f8 g8 h3 f3 d x W c3 => ?_)))⟩
 have h := d.has.rY ((c.trans i).trans x) (Dr (Dr (Dr (Dr (Dr (Kb Sn))))))
 refine ⟨h, (bS hm fun N d7 hm => XE 17 rfl (tb d call43 (Ej 1 a.Client a2 a3 _ _ (g.mono kH.mono ((((u.trans c).trans i).trans x).trans d.jx)) (j.mono mC.mono ((((u.trans c).trans i).trans x).trans d.jx)) d7) (fun f9 g9 h4 f4 d y a6 c5 => ?_)))⟩
 have h := d.has.rY (((c.trans i).trans x).trans y) (Dr (Dr (Dr (Dr (Dr (Dr (Kb Sn)))))))
 refine ⟨h, (bS hm fun Q d8 hm => XE 19 rfl (tb d call44 (IH a a4 a5 a2 a3 (.slice A9 a.Formula.Kids.length d1) (.slice d0 a.Keys.length d2) _ _ (k.mono kH.mono (((((u.trans c).trans i).trans x).trans y).trans d.jx)) (t.mono mC.mono (((((u.trans c).trans i).trans x).trans y).trans d.jx)) (g.mono kH.mono (((((u.trans c).trans i).trans x).trans y).trans d.jx)) (j.mono mC.mono (((((u.trans c).trans i).trans x).trans y).trans d.jx)) (z.mono jC.mono (((((u.trans c).trans i).trans x).trans y).trans d.jx)) (T.mono KL.mono (((((u.trans c).trans i).trans x).trans y).trans d.jx)) d8) (fun g0 h0 h5 f5 d s aa c7 => ?_)))⟩
 have h := d.has.rY ((((c.trans i).trans x).trans y).trans s) (Dr (Dr (Dr (Dr (Dr (Dr (Dr (Kb Sn))))))))
 refine ⟨h, ?_⟩
 obtain ⟨a8, b3, rfl⟩ := c0.form
 obtain ⟨a9, b4, rfl⟩ := c1.form
 obtain ⟨b0, b5, rfl⟩ := c3.form
 obtain ⟨b1, b6, rfl⟩ := c5.form
 obtain ⟨b2, b7, rfl⟩ := c7.form
 refine XE 20 rfl (jX (cs := #[(.slice a8 J.length b3), (.slice a9 K.length b4), (.slice b0 M.length b5), (.slice b1 N.length b6), (.slice b2 Q.length b7)]) d (Qh rfl rfl rfl rfl rfl) (mA gz sizeOf37 zeroValue37) (fun g1 e3 d => ?_))
 have h := d.has.rY ((((c.trans i).trans x).trans y).trans s) (Db (Dr (Dr (Dr (Dr (Dr (Dr (Dr (Kb Sn)))))))))
 refine ⟨h, (bS hm fun g3 d9 hm => XE 21 rfl (tb d call41 (mi.lX (Aj (.slice (some ⟨e3, 0, none⟩) 5 5) ([J, K, M, N, Q]) _ _ (Dj.lit (l := [J, K, M, N, Q]) (vs := [(.slice a8 J.length b3), (.slice a9 K.length b4), (.slice b0 M.length b5), (.slice b1 N.length b6), (.slice b2 Q.length b7)]) rfl nb (d.at_ Mh) (.cons (c0.sl mF (fun b o m => d.at_ (Mt (Ma (Ma (Ma (Ma (Ml m)))))))) (.cons (c1.sl mF (fun b o m => d.at_ (Mt (Ma (Ma (Ma (Ml m))))))) (.cons (c3.sl mF (fun b o m => d.at_ (Mt (Ma (Ma (Ml m)))))) (.cons (c5.sl mF (fun b o m => d.at_ (Mt (Ma (Ml m))))) (.cons (c7.sl mF (fun b o m => d.at_ (Mt (Ml m)))) .nil)))))) d9)) (fun g2 e8 h6 e2 d d3 ab c9 => ?_)))⟩
 have h := d.has.rY (((((c.trans i).trans x).trans y).trans s).trans d3) (Dr (Db (Dr (Dr (Dr (Dr (Dr (Dr (Dr (Kb Sn))))))))))
 refine ⟨h, (X 22 rfl h (nt rfl) (kO kr (jE ?_)))⟩
 replace d := d.jr (Kr (Db (Dr (Dr (Dr (Dr (Dr (Dr (Dr (Db St))))))))))
 refine ky ?_
 obtain rfl := sj hm
 exact kV (v := e8) rfl rfl ⟨_, e2, rfl, d.nF (fun p m => (Ml m)) c9.nd, c9⟩
theorem EC (c : Int) (r : ByteArray) (w : World) (a : BR pg0 (hp w)) (hm : yo c = some r) :
  kf true pg0 50 [(.int .i64 c)] w (.string r) := Ld PF rfl a hm
theorem NN : kQ pg0 93 0 0 := kj underlying93 rfl sizeOf91 (by decide) rfl
theorem KT : kQ pg0 93 1 1 := kj underlying93 rfl ib (by decide) rfl
theorem KB : Tryz.prog.info? 5 = some Tryz.t5 ∧ Tryz.t5.zero = some (.int .u8 0) ∧ Tryz.t5.size = 1 ∧ Tryz.t5.bytes = 1 := ⟨by kernel_rfl, rfl, rfl, rfl⟩
theorem II : Tryz.prog.info? 93 = some Tryz.t93 ∧ Tryz.t93.size ≠ 0 := ⟨by kernel_rfl, by decide⟩
theorem Q3 : liesAt pg0 Tryz.prog.depth 93 (2 / Tryz.prog.cellsOf 93) 0 93 1 = true := by kernel_rfl
theorem Qg (x : Value) (w : World) : (callFunc 189 [x].toArray).run pg0 w = .ok (.value x) w := by
 rw [fG (e := Extern.AbiNoEscape.same) func189 (by kernel_rfl) (by kernel_rfl) (by kernel_rfl) (by kernel_rfl)]
 rfl
theorem KX (b : Nat) (a u : Value) (w : World) {i : jN} (g : nD i ((b, Ob #[a, u] 93) :: []) w) (ha : a = .pointer none ∨ a = .pointer (some ⟨b, 0, none⟩)) :
  kR true pg0 121 [(.pointer (some ⟨b, 0, none⟩))] w ((b, Ob #[a, u] 93) :: []) (fun v c W' => v = (.tuple #[]) ∧ c = ((b, Ob #[(.pointer (some ⟨b, 0, none⟩)), u] 93) :: [])) := by
 let k : Value := (.pointer (some ⟨b, 0, none⟩))
 refine zb g 20 func121 rfl (fun d => sg (Wm (Wn (Wf NN (VB d Mh rfl rfl isAgg91 ?_)))))
 rcases ha with rfl | rfl
 ·refine V (sO gP rfl rfl) (ln (vl rfl (jF (Wm (Wm ?_)))))
  have h := (d.box b _ (.head _)).1
  exact V (MH rfl (Go.Lib.run_to_unsafe (P := pg0) _ ⟨b, 0, none⟩ gP underlying233 II.1 II.2 (Ev h) nb)) (VE (HA (args := [k]) rfl (by exact tZ rfl) (Qg _ _) (V (MH rfl (Go.Lib.run_from_unsafe (P := pg0) _ ⟨b, 0, none⟩ underlying233 gP II.1 (Ev h) Q3)) (Wn (Wf NN (VO (jM k (#[k, u]) d rfl rfl sizeOf91 oc nb rfl (fun j d => kd (oD (nE rfl ⟨_, _, rfl, (d.mn (Kb Sn)), rfl, rfl⟩))))))))))
 ·refine V (sO gP rfl rfl) (ln (pF rfl (sg (Wm (Wn (Wf NN (VB d Mh rfl rfl isAgg91 (Wm (V (Jd gP sizeOf93 rfl rfl) (ln (pF rfl ?_)))))))))))
  exact lE (oD (nE rfl ⟨_, _, rfl, (d.mn (Kb Sn)), rfl, rfl⟩))
theorem KM (k : Value) (D : ByteArray) (i : LO) (z r : ByteArray) (w : World) {K : jN} (I : nD K (i ++ []) w) (B : H6 93 5 k D i) (hm : EX D z = some r) :
  kR true pg0 49 [k, (.string z)] w (i ++ []) (fun v H W' => ∃ y S, v = y ∧ H = S ++ [] ∧ H6 93 5 k r S) := by
 obtain ⟨b, a, u, S, rfl, ha, rfl, q, L⟩ := B
 have d := ST.FW (dd := true) I
 have p := fun h => No (r := r) hm h
 have hm := MX hm
 refine cF 19 func49 rfl (sg (Wa (Wa (lr (Wm ?_)))))
 refine VE (eM d (Cb Pz Cn) call121 (fun A _ => (KX b a u _ A ha)) ?_)
 rintro _ Y Z M d J E n ⟨j, rfl⟩
 obtain rfl := j.symm
 replace d := d.perm (Tb Tn)
 refine lr (Wm (Wm (Wn (Wf KT (VB d Mh rfl rfl iA (Wm (VE (Jk (v := u) (str := z) [(b, Ob #[(.pointer (some ⟨b, 0, none⟩)), u] 93)] d dn cH KB.1 KB.2.1 KB.2.2.1 KB.2.2.2 rfl rfl q hm (fun N T t d x l => Wn (Wf KT ?_))))))))))
 have m := fun h : r.size = 0 => l (L (p h).1) (p h).2
 obtain ⟨c, g, rfl⟩ := x.form
 let U : Value := (.slice c (lV r).length g)
 let G := (#[(.pointer (some ⟨b, 0, none⟩)), U] : Array Value)
 let a0 := ((b, Obj.cells G 93 (0, 0)) :: (t ++ []))
 refine VO (jM U (#[(.pointer (some ⟨b, 0, none⟩)), U]) d rfl rfl ib oc nb rfl (fun Q d => lr (Wm (V (ol cH rfl) (Wa (Wa (lt (CZ (v := .int .i64 (z.size : Int)) (u := .nilIface) rfl rfl rfl ?_))))))))
 have s : mJ a0 a0 := Kb (Kr Sn)
 exact ⟨_, _, rfl, d.mn s, _, ((b, Obj.cells G 93 (0, 0)) :: t), rfl, rfl, ⟨b, _, _, _, rfl, .inr rfl, rfl, x, m⟩⟩
theorem Jl (k : Value) (i : ByteArray) (g : LO) (r : ByteArray) (w : World) {D : jN} (t : nD D (g ++ []) w) (x : H6 93 5 k i g) (hm : PN i = some r) :
  kR true pg0 51 [k] w (g ++ []) (fun v z W' => v = (.string r) ∧ z = []) := by
 obtain ⟨b, a, u, S, rfl, ha, rfl, n, q⟩ := x
 obtain rfl := fO hm
 have h := ST.FW (dd := true) t
 obtain ⟨A, c, rfl⟩ := n.form
 refine cF 14 func51 rfl (sg (Wa (ln (jI ?_))))
 replace h := h.drew
 have d := h.has.jr (A := [(b, Ob #[a, .slice A (lV i).length c] 93)]) (Kb Sn)
 have m : A = none ∨ c ≠ 0 := by
  by_cases t : i.size = 0
  ·have q := q t
   injection q with j
   exact .inl j
  ·rcases n with ⟨j, _, _⟩ | ⟨E, cap, s, j, _, B, _, _, _⟩
   ·injection j with y; exact .inl y
   ·injection j with _ _ y
    rw [mB] at B
    exact .inr (by omega)
 refine kG d jY (X 0 rfl d (jB rfl) (X 1 rfl d (mw rfl) (X 2 rfl d (jy KT rfl) (XH 3 rfl d (fun _ p => jt rfl (jJ p Mh rfl iA)) (X 4 rfl d (Ny rfl ⟨A, _, c, rfl, m, rfl⟩) (X 5 rfl d (jB rfl) (X 6 rfl d (mw rfl) (X 7 rfl d (jy KT rfl) (XH 8 rfl d (fun _ p => jt rfl (jJ p Mh rfl iA)) (X 9 rfl d (qy dn rfl n) ?_))))))))))
 replace h := h.perm (L' := S ++ [(b, Ob #[a, .slice A (lV i).length c] 93)]) (by rw [bo]; exact ed (l₁ := [_]) (l₂ := S))
 refine XE 10 rfl (Jc (l := i) h underlying179 kr rfl rfl n (fun G h => ?_))
 have d := h.has
 exact ⟨d, X 11 rfl d (nt rfl) (kO kr (jE (ky (kV (v := .string i) rfl rfl ⟨_, _, rfl, (h.mn Sn), rfl, rfl⟩))))⟩
theorem Jo (J : Value) (K : List jK) (r : ByteArray) (w : World) (I : BR pg0 (hp w)) (H : Sl (Pl jV) 3 (hp w) J K) (hm : Bk K = some r) :
  kf true pg0 14 [J] w (.string r) := by
 refine cG 29 func14 rfl (fun b => sg (Wa (lr (VE (Kh (e := 5) b zeroValue93 (fun W1 v4 R2 b b9 => lS (Wm ?_)))))))
 refine V (lR cE rfl H) (Wm (ln (lh (fun i E W => ∃ k j z D, (E 8 = .int .i64 (i : Nat) ∧ E 7 = .int .i64 (K.length : Nat)) ∧ jT (hp w) z ∧ ST true lB w W z (j ++ D) ∧ E 3 = v4 ∧ E 6 = J ∧ H6 93 5 v4 k j ∧ rG (K.drop i) k = some r) K.length H.len ⟨zS, R2, (hp w), _, ⟨rfl, rfl⟩, (jT.refl _), (b.jr St), rfl, rfl, b9, hm⟩ dc dc dc (fun _ _ _ h => by obtain ⟨_, _, _, _, p, _⟩ := h; exact p) ?_ ?_)))
 ·rintro b4 E W Q ⟨k, j, z, D, ⟨n, A⟩, c, b, t, G, u, a⟩
  obtain ⟨g, c1, a9, P, R⟩ := kM Q
  rw [a9] at a
  refine bg (VQ (ql (enc := jV) (i := (b4 : Int)) (x0 := g) cE et G n (H.mono (Pl.mono _) c) (aP _) P) (fun d3 T => V (jt rfl (jW b.has T isAgg40 et)) (VE (kB b eb (fun c5 d2 b => VO (jM (.agg (jV g).toArray) ((jV g).toArray) b rfl rfl et (tS g) nb rfl (fun c6 b => ln ?_)))))))
  replace b := b.drew
  have d := b.has.jr (Kb Sn)
  refine kG d jY (X 0 rfl d (jy Af rfl) (XH 1 rfl d (fun _ m => jt rfl (jJ m Mh rfl cO)) (X 4 rfl d (jy Bx rfl) (XH 5 rfl d (fun _ m => jt rfl (jJ m Mh rfl cO)) (X 9 rfl d (jy FO rfl) (XH 10 rfl d (fun _ m => jt rfl (jJ m Mh rfl cO)) (bS a fun d4 U a => XE 2 rfl (Eg b call50 (EC g.Kind _ _ (I.mono (c.trans b.jx)) U) (fun c7 b => ?_)))))))))
  have d := b.has.jr (Kb Sn)
  refine ⟨d, (bS a fun d8 a3 a => X 3 rfl d (EY rfl rfl a3) (bS a fun d5 Y a => XE 6 rfl (Eg b call50 (EC g.End _ _ (I.mono (c.trans b.jx)) Y) (fun c8 b => ?_))))⟩
  have d := b.has.jr (Kb Sn)
  refine ⟨d, (bS a fun d9 a4 a => X 7 rfl d (EY rfl rfl a4) (bS a fun e0 a5 a => X 8 rfl d (EY rfl rfl a5) (bS a fun d6 Z a => XE 11 rfl (Eg b call50 (EC g.At _ _ (I.mono (c.trans b.jx)) Z) (fun c9 b => ?_)))))⟩
  have d := b.has.jr (Kb Sn)
  refine ⟨d, (bS a fun e1 M a => X 12 rfl d (EY rfl rfl M) (bS a fun b6 O a => X 13 rfl d (EY rfl rfl O) (bS a fun b5 L a => ?_)))⟩
  refine XE 14 rfl (eM b (Cr (Qb Qz) Cn) call49 (fun q _ => (KM v4 k j b6 _ _ q u L)) ?_ (ha := RD t rfl))
  rintro _ e2 b7 c2 b B s l ⟨e4, b3, x, rfl, b1⟩
  obtain rfl := x.symm
  replace b := b.perm (Tr Tn)
  have d := b.has.rY B (Dr (Kb Sn))
  refine ⟨d, (kO kr (kl (jE ?_)))⟩
  replace b := b.jr (Kr (Db St))
  exact ⟨n, b5, b3, b7, _, ⟨rfl, A⟩, (c.trans B), (b.jr St), t, G, b1, (by rw [R]; exact a)⟩
 rintro E W ⟨k, j, z, D, ⟨n, A⟩, c, b, t, G, u, a⟩
 rw [aU] at a
 refine jE (sg (bS a fun d7 a2 a => ?_))
 refine VE (eM b (Cr Qz Cn) call51 (fun q _ => (Jl v4 k j _ _ q u a2)) ?_ (ha := Og t))
 rintro _ e3 e5 c3 b c0 v l ⟨y, rfl⟩
 obtain rfl := y.symm
 exact Wa (lt (rQ a b))
theorem CH (j : Value) (z : List jK) (D r : Int) (w : World) (g : Sl (Pl jV) 3 (hp w) j z) (hm : ve z D = some r) :
  kf true pg0 16 [j, (.int .i64 D)] w (.int .i64 r) := by
 refine cG 22 func16 rfl (fun b => sg (Wa (lr (Wa (lS (Wm ?_))))))
 refine V (lR cE rfl g) (Wm (ln (lh (fun i E W => ∃ c y, (E 10 = .int .i64 (i : Nat) ∧ E 9 = .int .i64 (z.length : Nat)) ∧ ST true lB w W (hp w) y ∧ E 1 = (.int .i64 D) ∧ E 5 = (.int .i64 c) ∧ E 8 = j ∧ pP D (z.drop i) c = some r) z.length g.len ⟨0, _, ⟨rfl, rfl⟩, (b.jr St), rfl, rfl, rfl, hm⟩ dc dc dc (fun _ _ _ h => by obtain ⟨_, _, l, _⟩ := h; exact l) ?_ ?_)))
 ·rintro M E W H ⟨c, y, ⟨d, m⟩, b, k, t, u, a⟩
  obtain ⟨x, N, K, J, B⟩ := kM H
  rw [K] at a
  refine bg (VQ (ql (enc := jV) (i := (M : Int)) (x0 := x) cE et u d g (aP _) J) (fun Y I => V (jt rfl (jW b.has I isAgg40 et)) (VE (kB b eb (fun Q U b => VO (jM (.agg (jV x).toArray) ((jV x).toArray) b rfl rfl et (tS x) nb rfl (fun T b => lr (Wf Af (VB b Mh rfl rfl cO (Wh k (Wi rfl ?_)))))))))))
  refine ln ?_
  replace b := b.jr (Db St)
  refine CI a rfl (fun G a => ?_) (fun G a => ?_)
  ·exact jF (Wh t (Wi rfl (Wa (kd (kl (jE ⟨d, (wi0 .i64 (c + 1)), _, ⟨rfl, m⟩, (b.jr St), k, rfl, u, (by rw [B]; exact a)⟩))))))
  exact lE (kl (jE ⟨d, c, _, ⟨rfl, m⟩, (b.jr St), k, t, u, (by rw [B]; exact a)⟩))
 rintro E W ⟨c, y, ⟨d, m⟩, b, k, t, u, a⟩
 rw [aU] at a
 exact jE (sg (Wh t (Wa (lt (rQ a b)))))
theorem Hw (r : Bool) (w : World) (e7 : BR pg0 (hp w)) (hm : ul  = some r) :
  kf false pg0 10 [] w (.bool r) := by
 refine cG 51 func10 rfl (fun d => sg (Wa (lr (V (mE (v := (.agg #[(.string K1), (.slice none 0 0), (.slice none 0 0)])) (mh rfl) (lO zeroValue25 eW (Qp _ eW) kr)) (V (mE (v := (.agg #[(.string K2), (.slice none 0 0), (.slice none 0 0)])) (mh rfl) (lO zeroValue25 eW (Qp _ eW) kr)) (V (mE (v := (.agg Kf.toArray)) (mh rfl) (lO bJ cD (z6 _ cD) kr)) (V (mE (v := (.agg C9.toArray)) (BM rfl rfl rfl) (lO zeroValue34 fB (R4 _ fB) kr)) (VE (kB d zeroValue34 (fun W2 b1 d => VO (jM (.agg C9.toArray) (C9.toArray) d rfl rfl jg oc nb rfl (fun W3 d => kd ?_))))))))))))
 refine jE (sg (VA d Mh C9 isAgg34 jg (bS hm fun q f7 hm => VE (tb d call12 (Bi (⟨(⟨K1, [], []⟩ : jQ), (⟨K2, [], []⟩ : jQ), (⟨2, 0, K0, []⟩ : Formula), 0, (⟨0, 0⟩ : xR), 0, 0, 0, []⟩ : oH) (.slice none 0 0) (.slice none 0 0) (.slice none 0 0) (.slice none 0 0) (.slice none 0 0) (.slice none 0 0) _ _ (Sl.nil _ _ _) (Sl.nil _ _ _) (Sl.nil _ _ _) (Sl.nil _ _ _) (Sl.nil _ _ _) (Sl.nil _ _ _) f7) (fun W6 I ad N d d8 ab H => Wa (lr (Wf Dx (Wf sa ?_))))))))
 replace d := d.perm (Nb (Pr Pz) Nz)
 refine VO (jM (.int .i64 3) (#[(.string K1), (.slice none 0 0), (.slice none 0 0), (.string K2), (.slice none 0 0), (.slice none 0 0), (.int .i64 3), (.int .i64 0), (.string zS), (.string zS), (.slice none 0 0), (.int .i64 0), (.int .i64 0), (.int .i64 0), (.int .i64 0), (.int .i64 0), (.int .i64 0), (.slice none 0 0)]) d rfl rfl gl (DL _ 3) nb rfl (fun g9 d => lr (VA d Mh [(.string K1), (.slice none 0 0), (.slice none 0 0), (.string K2), (.slice none 0 0), (.slice none 0 0), (.int .i64 3), (.int .i64 0), (.string zS), (.string zS), (.slice none 0 0), (.int .i64 0), (.int .i64 0), (.int .i64 0), (.int .i64 0), (.int .i64 0), (.int .i64 0), (.slice none 0 0)] isAgg34 jg (bS hm fun h3 e5 hm => VE (tb d call12 (Bi (⟨(⟨K1, [], []⟩ : jQ), (⟨K2, [], []⟩ : jQ), (⟨3, 0, K0, []⟩ : Formula), 0, (⟨0, 0⟩ : xR), 0, 0, 0, []⟩ : oH) (.slice none 0 0) (.slice none 0 0) (.slice none 0 0) (.slice none 0 0) (.slice none 0 0) (.slice none 0 0) _ _ (Sl.nil _ _ _) (Sl.nil _ _ _) (Sl.nil _ _ _) (Sl.nil _ _ _) (Sl.nil _ _ _) (Sl.nil _ _ _) e5) (fun h0 p J a4 d b4 aa a0 => Wa (ln ?_)))))))
 replace d := d.jr (Kr (Db St))
 refine sg (Wm (V (qy cE rfl H) (Wi rfl (Wm (LJ hm (fun L E W => ∃ c2, ST false lB w W J (a4 ++ (N ++ c2)) ∧ E 0 = (.bool false) ∧ E 2 = I ∧ E 3 = p ∧ E 23 = (.bool L)) 6 ?_ (fun L z Z => ?_))))))
 ·rintro h5 E W ⟨c2, d, c8, a5, c9, e9⟩ d9
  refine Wh e9 (LJ d9 (fun A E W => ∃ O, ST false lB w W J (a4 ++ (N ++ O)) ∧ E 0 = (.bool false) ∧ E 2 = I ∧ E 3 = p ∧ E 28 = (.bool A)) 4 ?_ (fun A x Y => ?_))
  ·rintro h6 E W ⟨O, d, d0, d1, m, f0⟩ e0
   refine Wh f0 (LJ e0 (fun a9 E W => ∃ P, ST false lB w W J (a4 ++ (N ++ P)) ∧ E 0 = (.bool false) ∧ E 2 = I ∧ E 3 = p ∧ E 33 = (.bool a9)) 4 ?_ (fun a9 G U => ?_))
   ·rintro h7 E W ⟨P, d, d2, d3, f1, f2⟩ e1
    refine Wh f2 (LJ e1 (fun s E W => ∃ R, ST false lB w W J (N ++ R) ∧ E 0 = (.bool false) ∧ E 2 = I ∧ E 40 = (.bool s)) 6 ?_ (fun s u T => ?_))
    ·rintro h8 E W ⟨R, d, d4, n, f3⟩ e2
     refine Wh f3 (LJ e2 (fun d7 E W => ∃ c6, ST false lB w W J (N ++ c6) ∧ E 0 = (.bool false) ∧ E 2 = I ∧ E 45 = (.bool d7)) 4 ?_ (fun d7 D Q => ?_))
     ·rintro h9 E W ⟨c6, d, d5, f4, f5⟩ e3
      refine Wh f5 (LJ e3 (fun d6 E W => ∃ c7, ST false lB w W J c7 ∧ E 0 = (.bool false) ∧ E 50 = (.bool d6)) 4 ?_ (fun d6 B a3 => ?_))
      ·rintro i0 E W ⟨c7, d, h2, f6⟩ e4
       exact Wg f6 (lt (rQ e4 d))
      refine bC B (fun t B => ?_) (fun t B => ?_)
      ·refine ug t (jB f4) (bS B fun h4 e6 B => vH t (Eg d call16 (kf.lX (CH I q 5 _ _ (H.sl mF (fun b o h => d.at_ (Ml h))) e6)) (fun h1 d => ug t (kC rfl rfl rfl) (V (km (cB t) rfl) ?_))))
       obtain rfl := sj B
       exact a3 _ _ ⟨_, (d.jr (Dr St)), d5, rfl⟩
      refine un t (un t (un t (V (kq (cB t) rfl) ?_)))
      obtain rfl := sj B
      exact a3 _ _ ⟨_, (d.jr (Dr St)), d5, rfl⟩
     refine bC D (fun k D => ?_) (fun k D => ?_)
     ·refine ug k (jB n) (bS D fun g4 c0 D => vH k (Eg d call16 (kf.lX (CH I q 4 _ _ (H.sl mF (fun b o h => d.at_ (Ml h))) c0)) (fun f8 d => ug k (kC rfl rfl rfl) (V (km (cB k) rfl) ?_))))
      obtain rfl := sj D
      exact Q _ _ ⟨_, (d.jr St), d4, n, rfl⟩
     refine un k (un k (un k (V (kq (cB k) rfl) ?_)))
     obtain rfl := sj D
     exact Q _ _ ⟨_, (d.jr St), d4, n, rfl⟩
    refine bC u (fun c u => ?_) (fun c u => ?_)
    ·refine ug c (jB f1) (bS u fun l K u => N6 c (pK (i := 0) (x0 := l) cE et rfl rfl a0 (jU K) (jS K)) (fun g0 b5 => N6 c (rC [(.int .i64 l.Kind)] Af rfl (yy.at a0 mF b5 (jS K)) rfl) (fun g1 b6 => ug c (jt rfl (nV (nc.hp _) (y := (.int .i64 l.Kind)) (b6.mono (lI (fun b o h => d.has.2 b o (Ml h)))) cO)) (ug c (kC rfl rfl rfl) (V (km (cB c) rfl) ?_)))))
     obtain rfl := sj u
     exact T _ _ ⟨_, (d.jr (Dr St)), d2, d3, rfl⟩
    refine un c (un c (un c (un c (un c (V (kq (cB c) rfl) ?_)))))
    obtain rfl := sj u
    exact T _ _ ⟨_, (d.jr (Dr St)), d2, d3, rfl⟩
   refine bC G (fun j G => ?_) (fun j G => ?_)
   ·refine ug j (jB m) (ug j (qy cE rfl a0) (ug j (kC rfl rfl rfl) (V (km (cB j) rfl) ?_)))
    obtain rfl := sj G
    exact U _ _ ⟨_, (d.jr St), d0, d1, m, rfl⟩
   refine un j (un j (un j (V (kq (cB j) rfl) ?_)))
   obtain rfl := sj G
   exact U _ _ ⟨_, (d.jr St), d0, d1, m, rfl⟩
  refine bC x (fun g x => ?_) (fun g x => ?_)
  ·refine ug g (jB a5) (bS x fun g7 c1 x => vH g (Eg d call14 (kf.lX (Jo I q _ _ (e7.mono ((d8.trans b4).trans d.jx)) (H.sl mF (fun b o h => d.at_ (Ma (Ml h)))) c1)) (fun f9 d => ug g (Oc rfl rfl rfl) (V (km (cB g) rfl) ?_))))
   obtain rfl := sj x
   exact Y _ _ ⟨_, (d.jr St), c8, a5, c9, rfl⟩
  refine un g (un g (un g (V (kq (cB g) rfl) ?_)))
  obtain rfl := sj x
  exact Y _ _ ⟨_, (d.jr St), c8, a5, c9, rfl⟩
 refine bC z (fun a z => ?_) (fun a z => ?_)
 ·refine ug a (jB rfl) (bS z fun a2 M z => N6 a (pK (i := 0) (x0 := a2) cE et rfl rfl H (jU M) (jS M)) (fun g2 b7 => N6 a (rC [(.int .i64 a2.Kind)] Af rfl (yy.at H mF b7 (jS M)) rfl) (fun g3 b9 => ug a (jt rfl (nV (nc.hp _) (y := (.int .i64 a2.Kind)) (b9.mono (lI (fun b o h => d.has.2 b o (Ma (Ml h))))) cO)) (ug a (kC rfl rfl rfl) (V (km (cB a) rfl) ?_)))))
  obtain rfl := sj z
  exact Z _ _ ⟨_, (d.jr St), rfl, rfl, rfl, rfl⟩
 refine un a (un a (un a (un a (un a (V (kq (cB a) rfl) ?_)))))
 obtain rfl := sj z
 exact Z _ _ ⟨_, (d.jr St), rfl, rfl, rfl, rfl⟩
theorem Cy (k : Value) (u : List jm) (r : Int) (w : World) (j : Sl (Pl js) 9 (hp w) k u) (hm : ud u = some r) :
  kf true pg0 108 [k] w (.int .i64 r) := by
 refine cG 54 func108 rfl (fun b => sg (Wa (lr (Wa (lS (Wm ?_))))))
 refine V (lR bn rfl j) (Wm (ln (lh (fun i E W => ∃ g t, (E 8 = .int .i64 (i : Nat) ∧ E 7 = .int .i64 (u.length : Nat)) ∧ ST true lB w W (hp w) t ∧ E 3 = (.int .i64 g) ∧ E 6 = k ∧ qn (u.drop i) g = some r) u.length j.len ⟨0, _, ⟨rfl, rfl⟩, (b.jr St), rfl, rfl, hm⟩ dc dc dc (fun _ _ _ h => by obtain ⟨_, _, l, _⟩ := h; exact l) ?_ ?_)))
 ·rintro I E W z ⟨g, t, ⟨d, m⟩, b, x, y, c⟩
  obtain ⟨a, J, G, D, H⟩ := kM z
  rw [G] at c
  refine bg (VQ (ql (enc := js) (i := (I : Int)) (x0 := a) bn aX y d j (aP _) D) (fun Q B => V (jt rfl (jW b.has B cI aX)) (VE (kB b dE (fun K N b => VO (jM (.agg (js a).toArray) ((js a).toArray) b rfl rfl aX (oR a) nb rfl (fun M b => ln (jF (Wh x (Wf uf (Wf uh (VB b Mh rfl rfl cL (V (ol cH rfl) ?_)))))))))))))
  refine Wi rfl (Wf uf (Wf vS (VB b Mh rfl rfl cL (V (ol cH rfl) (Wi rfl (Wf Bz (VB b Mh rfl rfl cL (V (ol cH rfl) (Wi rfl (Wf oZ (Wf uh (VB b Mh rfl rfl cL (V (ol cH rfl) (Wi rfl ?_))))))))))))))
  refine Wf oZ (Wf vS (VB b Mh rfl rfl cL (V (ol cH rfl) (Wi rfl (Wf xd (Wf uh (VB b Mh rfl rfl cL (V (ol cH rfl) (Wi rfl (Wf xd (Wf vS (VB b Mh rfl rfl cL (V (ol cH rfl) (Wi rfl ?_))))))))))))))
  refine Wf yN (VB b Mh rfl rfl cL (V (ol cH rfl) (Wi rfl (Wi rfl (Wa (kd (kl (jE ?_))))))))
  replace b := b.jr (Db St)
  exact ⟨d, (wi0 .i64 (g + (wi0 .i64 ((wi0 .i64 ((wi0 .i64 ((wi0 .i64 ((wi0 .i64 ((wi0 .i64 ((wi0 .i64 ((wi0 .i64 (20 + (a.Head.jo.size : Int))) + (a.Head.Word.size : Int))) + (a.ke.size : Int))) + (a.B.jo.size : Int))) + (a.B.Word.size : Int))) + (a.C.jo.size : Int))) + (a.C.Word.size : Int))) + (a.kp.size : Int))))), _, ⟨rfl, m⟩, (b.jr St), rfl, y, (by rw [H]; exact c)⟩
 rintro E W ⟨g, t, ⟨d, m⟩, b, x, y, c⟩
 rw [aU] at c
 exact jE (sg (Wh x (Wa (lt (rQ c b)))))
theorem wh (H : Value) (Q : List Key) (u : Value) (J : List Signed) (r : Int) (w : World) (B : Sl tw 2 (hp w) H Q) (D : Sl rq 10 (hp w) u J) (hm : sw Q J = some r) :
  kf true pg0 40 [H, u] w (.int .i64 r) := by
 refine cG 45 func40 rfl (fun b => sg (Wa (lr (Wa (lS (Wm ?_))))))
 refine V (lR underlying32 rfl B) (Wm (ln (lh (fun i E W => ∃ t N, (E 12 = .int .i64 (i : Nat) ∧ E 11 = .int .i64 (Q.length : Nat)) ∧ ST true lB w W (hp w) N ∧ E 1 = u ∧ E 5 = (.int .i64 t) ∧ E 10 = H ∧ pn J (Q.drop i) t = some r) Q.length B.len ⟨0, _, ⟨rfl, rfl⟩, (b.jr St), rfl, rfl, rfl, hm⟩ dc dc dc (fun _ _ _ h => by obtain ⟨_, _, n, _⟩ := h; exact n) ?_ ?_)))
 ·rintro c3 E W b5 ⟨t, N, ⟨m, p⟩, b, U, Y, Z, g⟩
  obtain ⟨k, d4, b9, b7, c0⟩ := kM b5
  rw [b9] at g
  refine bg (VQ (mo (i := (c3 : Int)) (x0 := k) tw.out underlying32 sizeOf119 Z m B (aP _) b7) (fun d8 ⟨_, ⟨d9, rfl, a2⟩, b6⟩ => V (jt rfl (jW b.has b6 isAgg119 sizeOf119)) (VE (kB b zeroValue119 (fun d5 d7 b => ?_)))))
  obtain ⟨s, v, rfl⟩ := a2.form
  refine VO (jM (.agg #[(.string k.ke), (.slice s k.Key.length v)]) (#[(.string k.ke), (.slice s k.Key.length v)]) b rfl rfl sizeOf119 oc nb rfl (fun d6 b => ln (jF (Wh Y (Wf Pj (VB b Mh rfl rfl cL (V (ol cH rfl) (Wi rfl (Wf O3 (VB b Mh rfl rfl iA (V (lR dn rfl a2) (Wi rfl (Wi rfl (Wa ?_))))))))))))))
  refine kd (kl (jE ?_))
  replace b := b.jr (Db St)
  exact ⟨m, (wi0 .i64 (t + (wi0 .i64 ((wi0 .i64 (10 + (k.ke.size : Int))) + (k.Key.length : Int))))), _, ⟨rfl, p⟩, (b.jr St), U, rfl, Z, (by rw [c0]; exact g)⟩
 rintro E W ⟨t, N, ⟨m, p⟩, b, U, Y, Z, g⟩
 rw [aU] at g
 refine jE (jI (sg (Wh U (V (lR iV rfl D) (Wm (ln (CJ g (fun G E W => ∃ M, ST true lB w W (hp w) M ∧ E 5 = (.int .i64 G)) (fun G a5 => ?_) ?_)))))))
 ·refine lh (fun i E W => ∃ j x, (E 29 = .int .i64 (i : Nat) ∧ E 28 = .int .i64 (J.length : Nat)) ∧ ST true lB w W (hp w) x ∧ E 5 = (.int .i64 j) ∧ E 27 = u ∧ qv (J.drop i) j = some G) J.length D.len ⟨t, _, ⟨rfl, rfl⟩, (b.jr St), Y, rfl, a5⟩ dc dc dc (fun _ _ _ h => by obtain ⟨_, _, n, _⟩ := h; exact n) ?_ ?_
  ·rintro c1 E W a3 ⟨j, x, ⟨m, p⟩, b, y, z, c⟩
   obtain ⟨a, c4, a9, O, P⟩ := kM a3
   rw [a9] at c
   refine bg (VQ (mo (i := (c1 : Int)) (x0 := a) rq.out iV iL z m D (aP _) O) (fun d0 ⟨_, ⟨d1, rfl, I⟩, A⟩ => V (jt rfl (jW b.has A isAgg55 iL)) (VE (kB b zeroValue55 (fun c5 c9 b => ?_)))))
   obtain ⟨K, T, rfl⟩ := I.form
   let a0 := (C6 a.jm.Kind a.jm.Head.jo a.jm.Head.Word a.jm.ke a.jm.B.jo a.jm.B.Word a.jm.C.jo a.jm.C.Word a.jm.kp K a.Tag.length T)
   refine VO (jM (.agg a0.toArray) (a0.toArray) b rfl rfl iL oc nb rfl (fun c6 b => ln ?_))
   replace b := b.drew
   have d := b.has.jr (Kb Sn)
   refine kG d jY (X 0 rfl d (jB y) (X 1 rfl d (jy yz rfl) (XH 2 rfl d (fun _ q => jt rfl (jD q Mh (js a.jm) rfl cI aX)) (X 5 rfl d (jy PR rfl) (XH 6 rfl d (fun _ q => jt rfl (jJ q Mh rfl iA)) (X 7 rfl d (lR dn rfl I) (XE 3 rfl (jX (cs := (js a.jm).toArray) b (mh rfl) (mA bn aX dE) (fun c7 R b => ?_)))))))))
   have d := b.has.jr (Db (Kb Sn))
   refine ⟨d, (bS c fun c2 L c => XE 4 rfl (Eg b call108 (Cy (.slice (some ⟨R, 0, none⟩) 1 1) ([a.jm]) _ _ (Sl.lit (enc := js) (l := [a.jm]) kP rfl nb rfl (b.at_ Mh)) L) (fun c8 b => ?_)))⟩
   have d := b.has.jr (Db (Kb Sn))
   refine ⟨d, (X 8 rfl d (kC rfl rfl rfl) (X 9 rfl d (kC rfl rfl rfl) (X 10 rfl d (nt rfl) (kO kr (kl (jE ?_))))))⟩
   replace b := b.jr (Db (Db St))
   exact ⟨m, (wi0 .i64 (j + (wi0 .i64 (c2 + (a.Tag.length : Int))))), _, ⟨rfl, p⟩, (b.jr St), rfl, z, (by rw [P]; exact c)⟩
  rintro E W ⟨j, x, ⟨m, p⟩, b, y, z, c⟩
  rw [aU] at c
  refine jE ?_
  obtain rfl := sj c
  exact ⟨_, (b.jr St), y⟩
 rintro d3 E W ⟨M, b, b4⟩ a4
 exact sg (Wh b4 (Wa (lt (rQ a4 b))))
theorem DH (I : (List Formula) → Option Int) (N : ∀ (j : Value) (u : List Formula) (r : Int) (w : World) (t : Sl jq 5 (hp w) j u), I u = some r → kf false pg0 39 [j] w (.int .i64 r)) (j : Value) (u : List Formula) (r : Int) (w : World) (t : Sl jq 5 (hp w) j u) (hm : uT I u = some r) :
  kf false pg0 39 [j] w (.int .i64 r) := by
 refine cG 31 func39 rfl (fun l => sg (Wa (lr (Wa (lS (Wm ?_))))))
 refine V (lR aF rfl t) (Wm (ln (lh (fun i E W => ∃ x z, (E 8 = .int .i64 (i : Nat) ∧ E 7 = .int .i64 (u.length : Nat)) ∧ ST false lB w W (hp w) z ∧ E 3 = (.int .i64 x) ∧ E 6 = j ∧ qu I (u.drop i) x = some r) u.length t.len ⟨0, _, ⟨rfl, rfl⟩, (l.jr St), rfl, rfl, hm⟩ dc dc dc (fun _ _ _ h => by obtain ⟨_, _, p, _⟩ := h; exact p) ?_ ?_)))
 ·rintro Z E W M ⟨x, z, ⟨n, s⟩, l, D, G, g⟩
  obtain ⟨c, O, T, Q, U⟩ := kM M
  let a0 := ((c.jl.jo.size : Int) + (c.jl.Word.size : Int))
  rw [T] at g
  refine bg (VQ (mo (i := (Z : Int)) (x0 := c) jq.out aF aD G n t (aP _) Q) (fun a5 ⟨_, ⟨L, rfl, H⟩, J⟩ => V (jt rfl (jW l.has J bB aD)) (VE (kB l bJ (fun A a4 l => ?_)))))
  obtain ⟨y, B, rfl⟩ := H.form
  let q := (C1 c.Op c.K c.jl.jo c.jl.Word y c.Kids.length B)
  refine VO (jM (.agg q.toArray) (q.toArray) l rfl rfl aD oc nb rfl (fun a2 l => ln ?_))
  replace l := l.drew
  have d := l.has.jr (Kb Sn)
  refine kG d jY (X 0 rfl d (jB D) (X 1 rfl d (jy xu rfl) (X 2 rfl d (jy uh rfl) (XH 3 rfl d (fun _ m => jt rfl (jJ m Mh rfl cL)) (X 4 rfl d (ol cH rfl) (X 5 rfl d (jy xu rfl) (X 6 rfl d (jy vS rfl) (XH 7 rfl d (fun _ m => jt rfl (jJ m Mh rfl cL)) (X 8 rfl d (ol cH rfl) (X 9 rfl d (kC rfl rfl rfl) (X 10 rfl d (N5 (k := .i64) (a := (wi0 .i64 a0)) (b := 16) (v := (.int .i64 (wi0 .i64 (Int.tdiv (wi0 .i64 a0) 16)))) rfl rfl dc rfl) (X 11 rfl d (kC rfl rfl rfl) (X 12 rfl d (jy re rfl) (XH 13 rfl d (fun _ m => jt rfl (jJ m Mh rfl eZ)) ?_))))))))))))))
  refine bS g fun Y K g => XE 14 rfl (Eg l call39 (N (.slice y c.Kids.length B) c.Kids _ _ (H.mono jC.mono l.jx) K) (fun a3 l => ?_))
  have d := l.has.jr (Kb Sn)
  refine ⟨d, (X 15 rfl d (kC rfl rfl rfl) (X 16 rfl d (kC rfl rfl rfl) (X 17 rfl d (nt rfl) (kO kr (kl (jE ?_))))))⟩
  replace l := l.jr (Db St)
  exact ⟨n, (wi0 .i64 (x + (wi0 .i64 ((wi0 .i64 (1 + (wi0 .i64 (Int.tdiv (wi0 .i64 a0) 16)))) + Y)))), _, ⟨rfl, s⟩, (l.jr St), rfl, G, (by rw [U]; exact g)⟩
 rintro E W ⟨x, z, ⟨n, s⟩, l, D, G, g⟩
 rw [aU] at g
 exact jE (sg (Wh D (Wa (lt (rQ g l)))))
theorem wC : ∀ (n : Nat) (a : Value) (c : List Formula) (r : Int) (w : World) (g : Sl jq 5 (hp w) a c) (_ : nQ n c = some r),
  kf false pg0 39 [a] w (.int .i64 r)
 | 0 => by intros; rename_i h; simp only [nQ] at h; cases h
 | n + 1 => DH (nQ n) (wC n)
set_option maxHeartbeats 4000000 in
theorem ui (x : jQ) (J N : Value) (r : Int) (w : World) (y : Sl ki 15 (hp w) J x.jA) (G : Sl kT 8 (hp w) N x.jO) (hm : uo x = some r) :
  kf false pg0 38 [(.agg #[(.string x.Name), J, N])] w (.int .i64 r) := by
 refine cG 61 func38 rfl (fun d => sg ?_)
 obtain ⟨A1, c2, rfl⟩ := y.form
 obtain ⟨A3, c4, rfl⟩ := G.form
 let g6 := (C4 x.Name A1 x.jA.length c2 A3 x.jO.length c4)
 refine VE (kx d rfl (fun W6 O d => Wa (lr (Wf Di (VB d Mh rfl rfl cL (V (ol cH rfl) (Wa (lS ?_))))))))
 refine Wf yC (VB d Mh rfl rfl iU (V (lR dS rfl y) (Wm (ln (lh (fun i E W => ∃ I b1, (E 14 = .int .i64 (i : Nat) ∧ E 13 = .int .i64 (x.jA.length : Nat)) ∧ ST false lB w W (hp w) ((O, Ol g6 25) :: b1) ∧ E 1 = (.pointer (some ⟨O, 0, none⟩)) ∧ E 3 = (.int .i64 I) ∧ E 12 = (.slice A1 x.jA.length c2) ∧ qp x (x.jA.drop i) I = some r) x.jA.length y.len ⟨(x.Name.size : Int), _, ⟨rfl, rfl⟩, (d.jr St), rfl, rfl, rfl, hm⟩ dc dc dc (fun _ _ _ h => by obtain ⟨_, _, v, _⟩ := h; exact v) ?_ ?_)))))
 ·rintro d5 E W e1 ⟨I, b1, ⟨q, A⟩, d, U, M, Y, H⟩
  obtain ⟨a, h9, e9, e8, f0⟩ := kM e1
  rw [e9] at H
  refine bg (VQ (mo (i := (d5 : Int)) (x0 := a) ki.out dS dQ Y q y (aP _) e8) (fun j4 ⟨_, ⟨j8, j9, rfl, Q, T⟩, e2⟩ => V (jt rfl (jW d.has e2 iT dQ)) (VE (kB d fX (fun i0 f4 d => ?_)))))
  obtain ⟨t, u, rfl⟩ := Q.form
  let g5 : Value := (.slice t a.Signed.Tag.length u)
  let b8 := (C6 a.Signed.jm.Kind a.Signed.jm.Head.jo a.Signed.jm.Head.Word a.Signed.jm.ke a.Signed.jm.B.jo a.Signed.jm.B.Word a.Signed.jm.C.jo a.Signed.jm.C.Word a.Signed.jm.kp t a.Signed.Tag.length u)
  obtain ⟨g, j, rfl⟩ := T.form
  let d9 : Value := (.slice g a.ju.Kids.length j)
  let s := (C1 a.ju.Op a.ju.K a.ju.jl.jo a.ju.jl.Word g a.ju.Kids.length j)
  let a0 := (C3 a.Signed.jm.Kind a.Signed.jm.Head.jo a.Signed.jm.Head.Word a.Signed.jm.ke a.Signed.jm.B.jo a.Signed.jm.B.Word a.Signed.jm.C.jo a.Signed.jm.C.Word a.Signed.jm.kp t a.Signed.Tag.length u a.ju.Op a.ju.K a.ju.jl.jo a.ju.jl.Word g a.ju.Kids.length j)
  refine VO (jM (.agg a0.toArray) (a0.toArray) d rfl rfl dQ oc nb rfl (fun i1 d => ln ?_))
  replace d := d.drew
  have m := d.has.jr (Kb Sn)
  refine kG m jY (X 0 rfl m (jB M) (X 1 rfl m (jy yO rfl) (XH 2 rfl m (fun _ p => jt rfl (jD p Mh b8 rfl isAgg55 iL)) (X 5 rfl m (jy Mi rfl) (XH 6 rfl m (fun _ p => jt rfl (jD p Mh s rfl bB aD)) (PJ H (fun b4 E W => ∃ L b2 b9, ST false lB w W (hp w) ((f4, Ol a0 57) :: ((O, Ol g6 25) :: (b2 ++ b9))) ∧ E 1 = (.pointer (some ⟨O, 0, none⟩)) ∧ E 3 = (.int .i64 I) ∧ E 12 = (.slice A1 x.jA.length c2) ∧ E 13 = (.int .i64 (x.jA.length : Int)) ∧ E 14 = (.int .i64 (d5 : Int)) ∧ E 18 = (.int .i64 I) ∧ E 22 = (.int .i64 b4.1) ∧ E 25 = L ∧ kk 30 jq 5 (hp w) L b4.2 b2) (bm 13 255) 5 ?_ (fun b4 z Z => ?_)))))))
  ·rintro ⟨g7, g3⟩ E W ⟨L, b2, b9, d, f6, j3, f7, f8, f9, g0, g1, g2, e7⟩ P
   refine bS P fun g4 e3 P => XE 8 rfl (Eg d call39 ((wC jP) L g3 _ _ (e7.sl jC d.jx (fun b o n => d.at_ (Mt (Mt (Ml n))))) e3) (fun i2 d => ?_) (ha := Og g2))
   have m := d.has.jr (Kb Sn)
   refine ⟨m, (X 9 rfl m (kC rfl rfl rfl) (X 10 rfl m (kC g1 rfl rfl) (X 11 rfl m (kC g0 rfl rfl) (X 12 rfl m (nt rfl) (kO kr (kl (jE ?_)))))))⟩
   replace d := d.jr (Db (Kb (Dr St)))
   exact ⟨f9, (wi0 .i64 (I + (wi0 .i64 (g7 + (wi0 .i64 (20 * g4)))))), _, ⟨rfl, f8⟩, (d.jr St), f6, rfl, f7, (by rw [f0]; exact P)⟩
  refine Fp 3 7 rfl rfl kr (.inl rfl) (.inl rfl) rfl rfl dc dc ?_ ?_
  ·refine jX (cs := b8.toArray) d (mh rfl) (mA iV iL zeroValue55) (fun i3 b3 d => ?_)
   let d8 : Value := (.slice (some ⟨b3, 0, none⟩) 1 1)
   have m := d.has.jr (Db (Kb Sn))
   refine ⟨m, (Fp 4 7 rfl rfl kr (.inl rfl) (.inl rfl) rfl rfl dc dc ?_ ?_)⟩
   ·refine bS z fun j5 e4 z => DU (args := [(.slice none 0 0), d8]) d rfl call40 (by exact vC rfl rfl) (kf.lX (wh (.slice none 0 0) ([]) d8 ([a.Signed]) _ _ (Sl.nil _ _ _) ((kk.lit zr (l := [a.Signed]) (.cons (ys := C6 a.Signed.jm.Kind a.Signed.jm.Head.jo a.Signed.jm.Head.Word a.Signed.jm.ke a.Signed.jm.B.jo a.Signed.jm.B.Word a.Signed.jm.C.jo a.Signed.jm.C.Word a.Signed.jm.kp t a.Signed.Tag.length u) (rq.mk ⟨g5, rfl, Q⟩) .nil) rfl nb rfl).sl zr d.jx (fun b o n => (by rw [bK] at n; cases n; exact d.at_ Mh))) e4)) (fun i4 d => ?_)
    have m := d.has.jr (Db (Kb Sn))
    refine ⟨m, (XE 7 rfl (jX (cs := s.toArray) d (mh rfl) (mA aF aD bJ) (fun i5 c0 d => ?_)))⟩
    have m := d.has.jr (Db (Db (Kb Sn)))
    refine ⟨m, ?_⟩
    obtain rfl := sj z
    replace d := d.Du
    refine og kr (Z _ _ ⟨(.slice (some ⟨c0, 0, none⟩) 1 1), [(c0, Ol s 30)], _, (d.jr (Sb (Pr (Pb Pz)) (Sb (Pr (Pb Pz)) (Kr (Db St))))), U, M, Y, A, q, rfl, rfl, rfl, (kk.lit jC (l := [a.ju]) (.cons (ys := C1 a.ju.Op a.ju.K a.ju.jl.jo a.ju.jl.Word g a.ju.Kids.length j) (jq.mk ⟨d9, rfl, T⟩) .nil) rfl nb rfl)⟩)
   ·refine jX (cs := s.toArray) d (mh rfl) (mA aF aD bJ) (fun i6 c1 d => ?_)
    have m := d.has.jr (Db (Db (Kb Sn)))
    refine ⟨m, (bS z fun j6 e5 z => XE 4 rfl (Eg d call40 (kf.lX (wh (.slice none 0 0) ([]) d8 ([a.Signed]) _ _ (Sl.nil _ _ _) ((kk.lit zr (l := [a.Signed]) (.cons (ys := C6 a.Signed.jm.Kind a.Signed.jm.Head.jo a.Signed.jm.Head.Word a.Signed.jm.ke a.Signed.jm.B.jo a.Signed.jm.B.Word a.Signed.jm.C.jo a.Signed.jm.C.Word a.Signed.jm.kp t a.Signed.Tag.length u) (rq.mk ⟨g5, rfl, Q⟩) .nil) rfl nb rfl).sl zr d.jx (fun b o n => (by rw [bK] at n; cases n; exact d.at_ (Mt Mh)))) e5)) (fun i7 d => ?_)))⟩
    have m := d.has.jr (Db (Db (Kb Sn)))
    refine ⟨m, ?_⟩
    obtain rfl := sj z
    replace d := d.Du
    refine og kr (Z _ _ ⟨(.slice (some ⟨c1, 0, none⟩) 1 1), [(c1, Ol s 30)], _, (d.jr (Sb (Pr (Pb Pz)) (Sb (Pr (Pb Pz)) (Kr (Db St))))), U, M, Y, A, q, rfl, rfl, rfl, (kk.lit jC (l := [a.ju]) (.cons (ys := C1 a.ju.Op a.ju.K a.ju.jl.jo a.ju.jl.Word g a.ju.Kids.length j) (jq.mk ⟨d9, rfl, T⟩) .nil) rfl nb rfl)⟩)
  ·refine jX (cs := s.toArray) d (mh rfl) (mA aF aD bJ) (fun i8 c3 d => ?_)
   have m := d.has.jr (Db (Kb Sn))
   refine ⟨m, (XE 3 rfl (jX (cs := b8.toArray) d (mh rfl) (mA iV iL zeroValue55) (fun i9 f5 d => ?_)))⟩
   have m := d.has.jr (Db (Db (Kb Sn)))
   refine ⟨m, (bS z fun j7 e6 z => XE 4 rfl (Eg d call40 (kf.lX (wh (.slice none 0 0) ([]) (.slice (some ⟨f5, 0, none⟩) 1 1) ([a.Signed]) _ _ (Sl.nil _ _ _) ((kk.lit zr (l := [a.Signed]) (.cons (ys := C6 a.Signed.jm.Kind a.Signed.jm.Head.jo a.Signed.jm.Head.Word a.Signed.jm.ke a.Signed.jm.B.jo a.Signed.jm.B.Word a.Signed.jm.C.jo a.Signed.jm.C.Word a.Signed.jm.kp t a.Signed.Tag.length u) (rq.mk ⟨g5, rfl, Q⟩) .nil) rfl nb rfl).sl zr d.jx (fun b o n => (by rw [bK] at n; cases n; exact d.at_ Mh))) e6)) (fun j0 d => ?_)))⟩
   have m := d.has.jr (Db (Db (Kb Sn)))
   refine ⟨m, ?_⟩
   obtain rfl := sj z
   replace d := d.perm (Nb (Pb Pz) Nz)
   replace d := d.Du
   refine og kr (Z _ _ ⟨(.slice (some ⟨c3, 0, none⟩) 1 1), [(c3, Ol s 30)], _, (d.jr (Sb (Pr (Pb Pz)) (Sb (Pr (Pb Pz)) (Kr (Db St))))), U, M, Y, A, q, rfl, rfl, rfl, (kk.lit jC (l := [a.ju]) (.cons (ys := C1 a.ju.Op a.ju.K a.ju.jl.jo a.ju.jl.Word g a.ju.Kids.length j) (jq.mk ⟨d9, rfl, T⟩) .nil) rfl nb rfl)⟩)
 rintro E W ⟨I, b1, ⟨q, A⟩, d, U, M, Y, H⟩
 rw [aU] at H
 refine jE (jI (sg (V (jy Ip U) (VB d Mh rfl rfl isAgg23 (V (lR du rfl G) (Wm (ln ?_)))))))
 replace d := d.jr (Db St)
 refine CJ H (fun R E W => ∃ b6, ST false lB w W (hp w) b6 ∧ E 3 = (.int .i64 R)) (fun R c8 => ?_) ?_
 ·refine lh (fun i E W => ∃ K a2, (E 34 = .int .i64 (i : Nat) ∧ E 33 = .int .i64 (x.jO.length : Nat)) ∧ ST false lB w W (hp w) a2 ∧ E 3 = (.int .i64 K) ∧ E 32 = (.slice A3 x.jO.length c4) ∧ qx (x.jO.drop i) K = some R) x.jO.length G.len ⟨I, _, ⟨rfl, rfl⟩, (d.jr St), M, rfl, c8⟩ dc dc dc (fun _ _ _ h => by obtain ⟨_, _, v, _⟩ := h; exact v) ?_ ?_
  ·rintro f1 E W c6 ⟨K, a2, ⟨q, A⟩, d, a4, a5, k⟩
   obtain ⟨c, g8, d3, d2, d4⟩ := kM c6
   rw [d3] at k
   refine bg (VQ (mo (i := (f1 : Int)) (x0 := c) kT.out du dL a5 q G (aP _) d2) (fun h5 ⟨_, ⟨h6, h7, rfl, a9, b0⟩, c9⟩ => V (jt rfl (jW d.has c9 iN dL)) (VE (kB d gm (fun g9 h4 d => ?_)))))
   obtain ⟨B, D, rfl⟩ := a9.form
   let d6 := (C1 c.ju.Op c.ju.K c.ju.jl.jo c.ju.jl.Word B c.ju.Kids.length D)
   obtain ⟨a1, a3, rfl⟩ := b0.form
   let c5 := (C7 c.jl.jo c.jl.Word c.ju.Op c.ju.K c.ju.jl.jo c.ju.jl.Word B c.ju.Kids.length D a1 c.lx.length a3)
   refine VO (jM (.agg c5.toArray) (c5.toArray) d rfl rfl dL oc nb rfl (fun h0 d => ln ?_))
   replace d := d.drew
   have m := d.has.jr (Kb Sn)
   refine kG m jY (X 0 rfl m (jB a4) (X 1 rfl m (jy JC rfl) (X 2 rfl m (jy uh rfl) (XH 3 rfl m (fun _ p => jt rfl (jJ p Mh rfl cL)) (X 4 rfl m (ol cH rfl) (X 5 rfl m (jy JC rfl) (X 6 rfl m (jy vS rfl) (XH 7 rfl m (fun _ p => jt rfl (jJ p Mh rfl cL)) (X 8 rfl m (ol cH rfl) (X 9 rfl m (kC rfl rfl rfl) (X 10 rfl m (jy Js rfl) (XH 11 rfl m (fun _ p => jt rfl (jD p Mh d6 rfl bB aD)) (X 16 rfl m (jy Gv rfl) (XH 17 rfl m (fun _ p => jt rfl (jJ p Mh rfl jk)) ?_))))))))))))))
   refine XE 12 rfl (jX (cs := d6.toArray) d (mh rfl) (mA aF aD bJ) (fun h1 d7 d => ?_))
   have m := d.has.jr (Db (Kb Sn))
   refine ⟨m, (bS k fun f2 d0 k => XE 13 rfl (Eg d call39 ((wC jP) (.slice (some ⟨d7, 0, none⟩) 1 1) ([c.ju]) _ _ ((kk.lit jC (l := [c.ju]) (.cons (ys := C1 c.ju.Op c.ju.K c.ju.jl.jo c.ju.jl.Word B c.ju.Kids.length D) (jq.mk ⟨(.slice B c.ju.Kids.length D), rfl, a9⟩) .nil) rfl nb rfl).sl jC d.jx (fun b o n => (by rw [bK] at n; cases n; exact d.at_ Mh))) d0) (fun h2 d => ?_)))⟩
   have m := d.has.jr (Db (Kb Sn))
   refine ⟨m, (X 14 rfl m (kC rfl rfl rfl) (X 15 rfl m (kC rfl rfl rfl) (bS k fun f3 d1 k => XE 18 rfl (Eg d call108 (kf.lX (Cy (.slice a1 c.lx.length a3) c.lx _ _ (b0.mono (Pl.mono _) d.jx) d1)) (fun h3 d => ?_)))))⟩
   have m := d.has.jr (Db (Kb Sn))
   refine ⟨m, (X 19 rfl m (kC rfl rfl rfl) (X 20 rfl m (kC rfl rfl rfl) (X 21 rfl m (nt rfl) (kO kr (kl (jE ?_))))))⟩
   replace d := d.jr (Db (Db St))
   exact ⟨q, (wi0 .i64 (K + (wi0 .i64 ((wi0 .i64 ((wi0 .i64 ((c.jl.jo.size : Int) + (c.jl.Word.size : Int))) + (wi0 .i64 (20 * f2)))) + f3)))), _, ⟨rfl, A⟩, (d.jr St), rfl, a5, (by rw [d4]; exact k)⟩
  rintro E W ⟨K, a2, ⟨q, A⟩, d, a4, a5, k⟩
  rw [aU] at k
  refine jE ?_
  obtain rfl := sj k
  exact ⟨_, (d.jr St), a4⟩
 rintro h8 E W ⟨b6, d, e0⟩ c7
 exact sg (Wh e0 (Wa (lt (rQ c7 d))))
theorem Ht (a : oH) (B D x z y J : Value) (r : Int) (w : World) (t : Sl ki 15 (hp w) B a.jo.jA) (u : Sl kT 8 (hp w) D a.jo.jO) (c : Sl ki 15 (hp w) x a.Client.jA) (i : Sl kT 8 (hp w) z a.Client.jO) (g : Sl jq 5 (hp w) y a.Formula.Kids) (I : Sl tw 2 (hp w) J a.Keys) (hm : wB a = some r) :
  kf false pg0 11 [(.agg #[(.string a.jo.Name), B, D, (.string a.Client.Name), x, z, (.int .i64 a.Formula.Op), (.int .i64 a.Formula.K), (.string a.Formula.jl.jo), (.string a.Formula.jl.Word), y, (.int .i64 a.zH), (.int .i64 a.qT.Fh), (.int .i64 a.qT.FE), (.int .i64 a.tD), (.int .i64 a.xl), (.int .i64 a.uV), J])] w (.int .i64 r) := by
 refine cG 20 func11 rfl (fun d => sg ?_)
 obtain ⟨A1, c2, rfl⟩ := t.form
 obtain ⟨A3, n, rfl⟩ := u.form
 let a3 := (C4 a.jo.Name A1 a.jo.jA.length c2 A3 a.jo.jO.length n)
 obtain ⟨N, U, rfl⟩ := c.form
 let a5 : Value := (.slice N a.Client.jA.length U)
 obtain ⟨Q, Y, rfl⟩ := i.form
 let b8 : Value := (.slice Q a.Client.jO.length Y)
 let a4 := (C4 a.Client.Name N a.Client.jA.length U Q a.Client.jO.length Y)
 obtain ⟨G, k, rfl⟩ := g.form
 let q : Value := (.slice G a.Formula.Kids.length k)
 let a0 := (C1 a.Formula.Op a.Formula.K a.Formula.jl.jo a.Formula.jl.Word G a.Formula.Kids.length k)
 obtain ⟨p, a2, rfl⟩ := I.form
 refine VE (kx d rfl (fun e8 c7 d => Wa (ln (jI ?_))))
 replace d := d.drew
 have h := d.has.jr (Kb Sn)
 refine kG h jY (X 0 rfl h (jy xy rfl) (XH 1 rfl h (fun _ m => jt rfl (jD m Mh a3 rfl dJ cQ)) (X 3 rfl h (jy xh rfl) (XH 4 rfl h (fun _ m => jt rfl (jD m Mh a4 rfl dJ cQ)) (X 7 rfl h (jy Dx rfl) (XH 8 rfl h (fun _ m => jt rfl (jD m Mh a0 rfl bB aD)) (X 13 rfl h (jy Qe rfl) (XH 14 rfl h (fun _ m => jt rfl (jJ m Mh rfl isAgg32)) (PJ hm (fun Z E W => ∃ M T s, ST false lB w W (hp w) ((c7, Ol (C2 a.jo.Name A1 a.jo.jA.length c2 A3 a.jo.jO.length n a.Client.Name N a.Client.jA.length U Q a.Client.jO.length Y a.Formula.Op a.Formula.K a.Formula.jl.jo a.Formula.jl.Word G a.Formula.Kids.length k a.zH a.qT.Fh a.qT.FE a.tD a.xl a.uV p a.Keys.length a2) 34) :: (T ++ s)) ∧ E 2 = (.int .i64 0) ∧ E 9 = (.int .i64 Z.1) ∧ E 12 = M ∧ E 17 = (.slice p a.Keys.length a2) ∧ kk 30 jq 5 (hp w) M Z.2 T) (bm 18 25599) 6 ?_ (fun Z j K => ?_))))))))))
 ·rintro ⟨e7, c5⟩ E W ⟨M, T, s, d, d9, c0, c1, c3, b9⟩ H
  refine bS H fun e0 L H => XE 10 rfl (Eg d call39 ((wC jP) M c5 _ _ (b9.sl jC d.jx (fun b o hq => d.at_ (Mt (Ml hq)))) L) (fun c9 d => ?_) (ha := Og c1))
  have h := d.has.jr (Kb Sn)
  refine ⟨h, (X 11 rfl h (kC rfl rfl rfl) (X 12 rfl h (kC c0 rfl rfl) (bS H fun e1 O H => XE 15 rfl (Eg d call40 (kf.lX (wh (.slice p a.Keys.length a2) a.Keys (.slice none 0 0) ([]) _ _ (I.mono KL.mono d.jx) (Sl.nil _ _ _) O)) (fun d0 d => ?_) (ha := RD c3 rfl)))))⟩
  have h := d.has.jr (Kb Sn)
  refine ⟨h, (X 16 rfl h (kC rfl rfl rfl) (X 17 rfl h (nt rfl) (kO kr (jE ?_))))⟩
  exact ky (rQ H d)
 refine Fp 2 9 rfl rfl kr (.inl rfl) (.inl rfl) rfl rfl dc dc ?_ ?_
 ·refine bS j fun e2 P j => DU (args := [(.agg a3.toArray)]) d rfl call38 (by exact tZ rfl) (ui a.jo (.slice A1 a.jo.jA.length c2) (.slice A3 a.jo.jO.length n) _ _ (t.mono kH.mono d.jx) (u.mono mC.mono d.jx) P) (fun d1 d => ?_)
  have h := d.has.jr (Kb Sn)
  refine ⟨h, (Fp 5 9 rfl rfl kr (.inl rfl) (.inl rfl) rfl rfl dc dc ?_ ?_)⟩
  ·refine bS j fun e3 R j => DU (args := [(.agg a4.toArray)]) d rfl call38 (by exact tZ rfl) (ui a.Client a5 b8 _ _ (c.mono kH.mono d.jx) (i.mono mC.mono d.jx) R) (fun d2 d => ?_)
   have h := d.has.jr (Kb Sn)
   refine ⟨h, (X 6 rfl h (kC rfl rfl rfl) (XE 9 rfl (jX (cs := a0.toArray) d (mh rfl) (mA aF aD bJ) (fun d3 v d => ?_))))⟩
   have h := d.has.jr (Db (Kb Sn))
   refine ⟨h, ?_⟩
   obtain rfl := sj j
   replace d := d.Du
   refine og kr (K _ _ ⟨(.slice (some ⟨v, 0, none⟩) 1 1), [(v, Ol a0 30)], _, (d.jr (Sb (Pr Pz) St)), rfl, rfl, rfl, rfl, (kk.lit jC (l := [a.Formula]) (.cons (ys := C1 a.Formula.Op a.Formula.K a.Formula.jl.jo a.Formula.jl.Word G a.Formula.Kids.length k) (jq.mk ⟨q, rfl, g⟩) .nil) rfl nb rfl)⟩)
  ·refine jX (cs := a0.toArray) d (mh rfl) (mA aF aD bJ) (fun d4 a9 d => ?_)
   have h := d.has.jr (Db (Kb Sn))
   refine ⟨h, (bS j fun e4 b5 j => XE 5 rfl (Eg d call38 (ui a.Client a5 b8 _ _ (c.mono kH.mono d.jx) (i.mono mC.mono d.jx) b5) (fun d5 d => ?_)))⟩
   have h := d.has.jr (Db (Kb Sn))
   refine ⟨h, (X 6 rfl h (kC rfl rfl rfl) ?_)⟩
   obtain rfl := sj j
   replace d := d.Du
   refine og kr (K _ _ ⟨(.slice (some ⟨a9, 0, none⟩) 1 1), [(a9, Ol a0 30)], _, (d.jr (Sb (Pr Pz) St)), rfl, rfl, rfl, rfl, (kk.lit jC (l := [a.Formula]) (.cons (ys := C1 a.Formula.Op a.Formula.K a.Formula.jl.jo a.Formula.jl.Word G a.Formula.Kids.length k) (jq.mk ⟨q, rfl, g⟩) .nil) rfl nb rfl)⟩)
 ·refine jX (cs := a0.toArray) d (mh rfl) (mA aF aD bJ) (fun d6 A d => ?_)
  have h := d.has.jr (Db (Kb Sn))
  refine ⟨h, (bS j fun e5 b6 j => XE 2 rfl (Eg d call38 (ui a.jo (.slice A1 a.jo.jA.length c2) (.slice A3 a.jo.jO.length n) _ _ (t.mono kH.mono d.jx) (u.mono mC.mono d.jx) b6) (fun d7 d => ?_)))⟩
  have h := d.has.jr (Db (Kb Sn))
  refine ⟨h, (bS j fun e6 b7 j => XE 5 rfl (Eg d call38 (ui a.Client a5 b8 _ _ (c.mono kH.mono d.jx) (i.mono mC.mono d.jx) b7) (fun d8 d => ?_)))⟩
  have h := d.has.jr (Db (Kb Sn))
  refine ⟨h, (X 6 rfl h (kC rfl rfl rfl) ?_)⟩
  obtain rfl := sj j
  replace d := d.Du
  refine og kr (K _ _ ⟨(.slice (some ⟨A, 0, none⟩) 1 1), [(A, Ol a0 30)], _, (d.jr (Sb (Pr Pz) St)), rfl, rfl, rfl, rfl, (kk.lit jC (l := [a.Formula]) (.cons (ys := C1 a.Formula.Op a.Formula.K a.Formula.jl.jo a.Formula.jl.Word G a.Formula.Kids.length k) (jq.mk ⟨q, rfl, g⟩) .nil) rfl nb rfl)⟩)
theorem I9 (k : Value) (u : List jm) (g : jm) (r : Bool) (w : World) (j : Sl (Pl js) 9 (hp w) k u) (hm : rA u g = some r) :
  kf true pg0 18 [k, (.agg (js g).toArray)] w (.bool r) := by
 refine cG 17 func18 rfl (fun b => sg (VE (kx b rfl (fun Y J b => Wa (lS (Wm (V (lR bn rfl j) (Wm (ln ?_)))))))))
 refine lh (fun i E W => ∃ t, (E 9 = .int .i64 (i : Nat) ∧ E 8 = .int .i64 (u.length : Nat)) ∧ ST true lB w W (hp w) ((J, Ol (js g) 52) :: t) ∧ E 3 = (.pointer (some ⟨J, 0, none⟩)) ∧ E 7 = k ∧ vt g (u.drop i) = some r) u.length j.len ⟨_, ⟨rfl, rfl⟩, (b.jr St), rfl, rfl, hm⟩ dc dc dc (fun _ _ _ h => by obtain ⟨_, l, _⟩ := h; exact l) ?_ ?_
 ·rintro K E W B ⟨t, ⟨d, m⟩, b, x, y, a⟩
  obtain ⟨c, M, H, G, I⟩ := kM B
  rw [H] at a
  refine bg (VQ (ql (enc := js) (i := (K : Int)) (x0 := c) bn aX y d j (aP _) G) (fun U D => V (jt rfl (jW b.has D cI aX)) (VE (kB b dE (fun N T b => VO (jM (.agg (js c).toArray) ((js c).toArray) b rfl rfl aX (oR c) nb rfl (fun Q b => lr (VA b Mh (js c) cI aX (V (jt x (jD b.has (Mt Mh) (js g) rfl cI aX)) (V (Az rfl rfl (sI fK) (wW (yg _ c g))) (kd ?_)))))))))))
  refine jE ?_
  replace b := b.jr (Db St)
  refine CI a rfl (fun z a => ?_) (fun z a => ?_)
  ·refine sg (Wa (ln ?_))
   replace b := b.jr (Db St)
   refine ky (nw (kZ (nw (kZ ?_))))
   obtain rfl := sj a
   exact rP b
  exact lE (kl (jE ⟨d, _, ⟨rfl, m⟩, (b.jr St), x, y, (by rw [I]; exact a)⟩))
 rintro E W ⟨t, ⟨d, m⟩, b, x, y, a⟩
 rw [aU] at a
 refine jE ?_
 replace b := b.jr (Db St)
 exact sg (Wa (lt (rQ a b)))
set_option maxHeartbeats 4000000 in
theorem D4 (a : oH) (b5 c1 Z b4 a1 e3 : Value) (r : Bool) (w : World) (r7 : BR pg0 (hp w)) (u : Sl ki 15 (hp w) b5 a.jo.jA) (x : Sl kT 8 (hp w) c1 a.jo.jO) (k : Sl ki 15 (hp w) Z a.Client.jA) (t : Sl kT 8 (hp w) b4 a.Client.jO) (G : Sl jq 5 (hp w) a1 a.Formula.Kids) (c9 : Sl tw 2 (hp w) e3 a.Keys) (hm : tg a = some r) :
  kf false pg0 5 [(.agg #[(.string a.jo.Name), b5, c1, (.string a.Client.Name), Z, b4, (.int .i64 a.Formula.Op), (.int .i64 a.Formula.K), (.string a.Formula.jl.jo), (.string a.Formula.jl.Word), a1, (.int .i64 a.zH), (.int .i64 a.qT.Fh), (.int .i64 a.qT.FE), (.int .i64 a.tD), (.int .i64 a.xl), (.int .i64 a.uV), e3])] w (.bool r) := by
 let x2 := (⟨a.Formula.Op, a.Formula.K, a.Formula.jl, a.Formula.Kids⟩ : Formula)
 let j2 := (⟨a.jo.Name, a.jo.jA, a.jo.jO⟩ : jQ)
 let j1 := (⟨a.Client.Name, a.Client.jA, a.Client.jO⟩ : jQ)
 refine cG 106 func5 rfl (fun d => sg ?_)
 obtain ⟨A1, c2, rfl⟩ := u.form
 let a5 : Value := (.slice A1 a.jo.jA.length c2)
 obtain ⟨A3, c4, rfl⟩ := x.form
 let g5 := (C4 a.jo.Name A1 a.jo.jA.length c2 A3 a.jo.jO.length c4)
 let L : Value := (.slice A3 a.jo.jO.length c4)
 obtain ⟨A5, c6, rfl⟩ := k.form
 let a4 : Value := (.slice A5 a.Client.jA.length c6)
 obtain ⟨A7, c8, rfl⟩ := t.form
 let b8 := (C4 a.Client.Name A5 a.Client.jA.length c6 A7 a.Client.jO.length c8)
 let v : Value := (.slice A7 a.Client.jO.length c8)
 obtain ⟨A9, b7, rfl⟩ := G.form
 let x4 : Value := (.slice A9 a.Formula.Kids.length b7)
 obtain ⟨c5, c7, rfl⟩ := c9.form
 let a0 := (C2 a.jo.Name A1 a.jo.jA.length c2 A3 a.jo.jO.length c4 a.Client.Name A5 a.Client.jA.length c6 A7 a.Client.jO.length c8 a.Formula.Op a.Formula.K a.Formula.jl.jo a.Formula.jl.Word A9 a.Formula.Kids.length b7 a.zH a.qT.Fh a.qT.FE a.tD a.xl a.uV c5 a.Keys.length c7)
 refine VE (kx d rfl (fun v3 n d => Wa (lS (bS hm fun w0 r0 hm => VE (Eg d call10 (Hw  _ _ (r7.mono d.jx) r0) (fun v4 d => V (pA rfl) (ln (CI hm rfl (fun q8 hm => ?_) (fun q8 hm => ?_)))))))))
 ·refine sg (Wa (ln ?_))
  replace d := d.jr (Db St)
  refine ky (kZ ?_)
  obtain rfl := sj hm
  exact rP d
 refine kS (VA d Mh a0 isAgg34 jg (bS hm fun w1 r1 hm => VE (Eg d call11 (Ht a a5 L a4 v x4 (.slice c5 a.Keys.length c7) _ _ (u.mono kH.mono d.jx) (x.mono mC.mono d.jx) (k.mono kH.mono d.jx) (t.mono mC.mono d.jx) (G.mono jC.mono d.jx) (c9.mono KL.mono d.jx) r1) (fun v5 d => Wi rfl (ln (CI hm rfl (fun q9 hm => ?_) (fun q9 hm => ?_)))))))
 ·refine sg (Wa (ln ?_))
  replace d := d.jr (Db St)
  refine ky (kZ ?_)
  obtain rfl := sj hm
  exact rP d
 refine kg (Wf xy (VA d Mh g5 dJ cQ (Wf xh (VA d Mh b8 dJ cQ (bS hm fun b3 r2 hm => ?_)))))
 refine VE (Fq d (bW _) call17 (fun _ _ _ _ => (Bg a.jo a5 L a.Client a4 v _ _ (u.mono kH.mono d.jx) (x.mono mC.mono d.jx) (k.mono kH.mono d.jx) (t.mono mC.mono d.jx) r2)) (fun v6 w2 w5 v0 d J ad ab q7 => ?_) (L0 := []))
 obtain ⟨w3, v1, w4, v2, h7, rfl, h8, h9⟩ := q7
 replace h7 := h7.symm; subst h7
 replace d := d.perm (Tr (Tr Tn))
 refine Wm (Wx rfl (Wx rfl (Wx rfl (Wa (Wa (Wa (lr (Wm (Wm ?_)))))))))
 obtain ⟨f3, f5, rfl⟩ := h8.form
 let x3 : Value := (.slice f3 b3.1.length f5)
 obtain ⟨f4, f6, rfl⟩ := h9.form
 let x1 : Value := (.slice f4 b3.2.1.length f6)
 refine VE (jX (cs := #[x3, x1]) d (vZ rfl rfl) (mA underlying48 je gE) (fun v7 d8 d => ?_))
 replace d := d.perm (Nr (Qb Qz) Nz)
 have u6 := h8.LC d (fun p hq => (Ml hq))
 obtain ⟨w7, d, M, af, r5⟩ := ST.KC d h8 kP
 replace d := d.perm (Nr (Qb Qz) Nz)
 have u7 := h9.LC d (fun p hq => (Ml hq))
 obtain ⟨w8, d, H, ag, r6⟩ := ST.KC d h9 kP
 have u8 : Fr w.heap.size (.slice (some ⟨d8, 0, none⟩) 2 2) := Fr.box d Mh
 let A : Value := (.pointer (some ⟨n, 0, none⟩))
 let a3 : Value := (.slice (some ⟨d8, 0, none⟩) 2 2)
 obtain ⟨w6, d, K, ae, r4⟩ := ST.vN (B := [(d8, Ob #[x3, x1] 45)]) PV d (kk.lit PV (l := [b3.1, b3.2.1]) (.cons (ys := [x3]) ⟨x3, rfl, (r5.mono (Pl.mono _) H)⟩ (.cons (ys := [x1]) ⟨x1, rfl, r6⟩ .nil)) rfl nb rfl)
 refine Wa (lr (Wf xy (VA d Mh g5 dJ cQ (Wf xh (VA d Mh b8 dJ cQ (VE (jX (cs := #[(.string a.jo.Name), a5, L, (.string a.Client.Name), a4, v]) d (vZ rfl rfl) (mA underlying49 cQ zeroValue25) (fun v8 d9 d => ?_))))))))
 let a2 : Value := (.slice (some ⟨d9, 0, none⟩) 2 2)
 have u9 : Fr w.heap.size a2 := Fr.box d Mh
 obtain ⟨w9, d, Q, ah, n1⟩ := ST.vN (B := [(d9, Ob #[(.string a.jo.Name), a5, L, (.string a.Client.Name), a4, v] 25)]) E3 d (kk.lit E3 (l := [j2, j1]) (.cons (ys := C4 a.jo.Name A1 a.jo.jA.length c2 A3 a.jo.jO.length c4) (tU.mk ⟨a5, L, rfl, (u.mono kH.mono (((J.trans M).trans H).trans K)), (x.mono mC.mono (((J.trans M).trans H).trans K))⟩) (.cons (ys := C4 a.Client.Name A5 a.Client.jA.length c6 A7 a.Client.jO.length c8) (tU.mk ⟨a4, v, rfl, (k.mono kH.mono (((J.trans M).trans H).trans K)), (t.mono mC.mono (((J.trans M).trans H).trans K))⟩) .nil)) rfl nb rfl)
 refine Wa (lS (VA d Mh a0 isAgg34 jg (bS hm fun e2 r3 hm => VE (tb d call12 (Bi (⟨j2, j1, x2, a.zH, a.qT, a.tD, a.xl, a.uV, a.Keys⟩ : oH) a5 L a4 v x4 (.slice c5 a.Keys.length c7) _ _ (u.mono kH.mono (((((J.trans M).trans H).trans K).trans Q).trans d.jx)) (x.mono mC.mono (((((J.trans M).trans H).trans K).trans Q).trans d.jx)) (k.mono kH.mono (((((J.trans M).trans H).trans K).trans Q).trans d.jx)) (t.mono mC.mono (((((J.trans M).trans H).trans K).trans Q).trans d.jx)) (G.mono jC.mono (((((J.trans M).trans H).trans K).trans Q).trans d.jx)) (c9.mono KL.mono (((((J.trans M).trans H).trans K).trans Q).trans d.jx)) r3) (fun v9 f1 f2 f0 d s ai h1 => V (qy cE rfl h1) (Wm (ln (lh (fun i E W => ∃ g3, (E 35 = .int .i64 (i : Nat) ∧ E 34 = .int .i64 (e2.length : Nat)) ∧ ST false lB w W f2 ((n, Ol a0 34) :: (f0 ++ g3)) ∧ E 1 = A ∧ E 6 = a3 ∧ E 7 = a2 ∧ E 33 = f1 ∧ oy a b3 (e2.drop i) = some r) e2.length h1.len ⟨_, ⟨rfl, rfl⟩, (d.jr (Sb (Pr Pz) St)), rfl, rfl, rfl, rfl, hm⟩ dc dc dc (fun _ _ _ h => by obtain ⟨_, aa, _⟩ := h; exact aa) ?_ ?_))))))))
 ·rintro c3 E W l3 ⟨g3, ⟨eI, eN⟩, d, g4, g7, g8, e4, b0⟩
  obtain ⟨N, s2, n2, h2, n3⟩ := kM l3
  let d7 := ((jV N).toArray : Array Value)
  rw [n2] at b0
  refine bg (VQ (pK (i := (c3 : Int)) (x0 := N) cE et e4 eI h1 (aP _) h2) (fun s7 l7 => V (jt rfl (wK d.has (fun p hq => (Mt (Ml hq))) h1 mF l7 h2 isAgg40 et)) (VE (kB d eb (fun s3 Y d => VO (jM (.agg (jV N).toArray) ((jV N).toArray) d rfl rfl et (tS N) nb rfl (fun s4 d => ln (jI (jI ?_)))))))))
  let R : Value := (.int .i64 (c3 : Int))
  let g6 : Value := (.pointer (some ⟨Y, 0, none⟩))
  let a9 : Value := (.int .i64 (e2.length : Int))
  replace d := d.drew
  have b := d.has.jr (Kb Sn)
  refine kG b jY (X 0 rfl b (jy Bx rfl) (XH 1 rfl b (fun _ m => jt rfl (jJ m Mh rfl cO)) (X 2 rfl b (kC rfl rfl rfl) (X 3 rfl b (jB rfl) (PJ b0 (fun k4 E W => ∃ i0, ST false lB w W f2 ((Y, Obj.cells d7 40 (0, 0)) :: ((n, Ol a0 34) :: (f0 ++ i0))) ∧ E 1 = A ∧ E 6 = a3 ∧ E 7 = a2 ∧ E 9 = g6 ∧ E 33 = f1 ∧ E 34 = a9 ∧ E 35 = R ∧ E 46 = (.bool k4)) (bm 30 255) 22 ?_ (fun k4 d5 g2 => ?_))))))
  ·rintro k8 E W ⟨i0, d, e5, e6, e0, q, e7, e8, e9, n4⟩ l4
   have b := d.has.jr (Kb Sn)
   refine X 8 rfl b (jB n4) (PJ l4 (fun k0 E W => ∃ i1, ST false lB w W f2 ((Y, Obj.cells d7 40 (0, 0)) :: ((n, Ol a0 34) :: (f0 ++ i1))) ∧ E 1 = A ∧ E 6 = a3 ∧ E 7 = a2 ∧ E 9 = g6 ∧ E 33 = f1 ∧ E 34 = a9 ∧ E 35 = R ∧ E 68 = (.bool k0)) (bm 30 1073741823) 0 ?_ (fun k0 d3 f9 => ?_))
   ·rintro u1 E W ⟨i1, d, i6, g9, h0, d6, i7, i8, i9, n5⟩ d0
    refine kO kr (jE (CI d0 n5 (fun l0 d0 => ?_) (fun l0 d0 => ?_)))
    ·refine sg (Wa (ln ?_))
     replace d := d.jr (Db (Db (Dr St)))
     refine ky (kZ (nw (kZ (nw (kZ ?_)))))
     obtain rfl := sj d0
     exact rP d
    refine kn (jI (jI ?_))
    replace d := d.drew
    have b := d.has.jr (Kb Sn)
    refine kG b jY (X 0 rfl b (jy Af d6) (XH 1 rfl b (fun _ m => jt rfl (jJ m Mh rfl cO)) (X 2 rfl b (kC rfl rfl rfl) (X 3 rfl b (jB rfl) (PJ d0 (fun j9 E W => ∃ i2, ST false lB w W f2 ((Y, Obj.cells d7 40 (0, 0)) :: ((n, Ol a0 34) :: (f0 ++ i2))) ∧ E 1 = A ∧ E 6 = a3 ∧ E 7 = a2 ∧ E 9 = g6 ∧ E 33 = f1 ∧ E 34 = a9 ∧ E 35 = R ∧ E 91 = (.bool j9)) (bm 23 8388607) 0 ?_ (fun j9 I f8 => ?_))))))
    ·rintro u2 E W ⟨i2, d, e1, j0, j3, n6, j4, j5, j6, n7⟩ d1
     refine kO kr (jE (CI d1 n7 (fun l1 d1 => ?_) (fun l1 d1 => ?_)))
     ·refine sg (Wa (ln ?_))
      replace d := d.jr (Db (Db (Dr St)))
      refine ky (kZ (nw (kZ (nw (kZ ?_)))))
      obtain rfl := sj d1
      exact rP d
     refine kg (V (jy Af n6) (VB d Mh rfl rfl cO (Wi rfl (Wm (LJ d1 (fun j8 E W => ∃ i3, ST false lB w W f2 ((n, Ol a0 34) :: (f0 ++ i3)) ∧ E 1 = A ∧ E 6 = a3 ∧ E 7 = a2 ∧ E 33 = f1 ∧ E 34 = a9 ∧ E 35 = R ∧ E 104 = (.bool j8)) 9 ?_ (fun j8 O f7 => ?_))))))
     ·rintro u3 E W ⟨i3, d, n8, n9, o0, o1, o2, o3, o4⟩ d2
      refine ln (CI d2 o4 (fun l2 d2 => ?_) (fun l2 d2 => ?_))
      ·refine sg (Wa (ln ?_))
       replace d := d.jr (Db (Dr St))
       refine ky (nw (kZ (nw (kZ ?_))))
       obtain rfl := sj d2
       exact rP d
      exact lE (kl (jE ⟨o3, _, ⟨rfl, o2⟩, (d.jr St), n8, n9, o0, o1, (by rw [n3]; exact d2)⟩))
     refine bC O (fun j O => ?_) (fun j O => ?_)
     ·refine ug j (jy xy e1) (ug j (jt rfl (jD d.has (Mt Mh) g5 rfl dJ cQ)) (ug j (jy xh e1) (ug j (jt rfl (jD d.has (Mt Mh) b8 rfl dJ cQ)) (ug j (jy Dx e1) (ug j (jt rfl (jD d.has (Mt Mh) (C1 a.Formula.Op a.Formula.K a.Formula.jl.jo a.Formula.jl.Word A9 a.Formula.Kids.length b7) rfl bB aD)) (bS O fun t6 m6 O => vH j (Eg d call19 (AH (j2) a5 L (j1) a4 v (x2) x4 _ _ (u.mono kH.mono ((((((J.trans M).trans H).trans K).trans Q).trans s).trans d.jx)) (x.mono mC.mono ((((((J.trans M).trans H).trans K).trans Q).trans s).trans d.jx)) (k.mono kH.mono ((((((J.trans M).trans H).trans K).trans Q).trans s).trans d.jx)) (t.mono mC.mono ((((((J.trans M).trans H).trans K).trans Q).trans s).trans d.jx)) (G.mono jC.mono ((((((J.trans M).trans H).trans K).trans Q).trans s).trans d.jx)) m6) (fun s5 d => ug j (pA rfl) (V (km (cB j) rfl) ?_)))))))))
      obtain rfl := sj O
      exact f7 _ _ ⟨_, (d.jr (Db St)), e1, j0, j3, j4, j5, j6, rfl⟩
     refine un j (un j (un j (un j (un j (un j (un j (un j (V (kq (cB j) rfl) ?_))))))))
     obtain rfl := sj O
     exact f7 _ _ ⟨_, (d.jr (Db St)), e1, j0, j3, j4, j5, j6, rfl⟩
    refine bC I (fun c I => ?_) (fun c I => ?_)
    ·refine Xg 4 rfl rfl (cB c) b (jB g9) (Xg 5 rfl rfl (cB c) b (jy Bx d6) (sZ 6 rfl rfl (cB c) b (fun _ m => jt rfl (jJ m Mh rfl cO)) (bS I fun k9 h3 I => pZ 7 rfl kr (.inr ⟨3, true, 72, rfl, rfl, by decide, (cB c)⟩) rfl dc (fun _ _ h => h) b (EG (enc := js) (k2 := 9) (i := N.End) (x0 := k9) underlying48 je rfl rfl (r4.mono (Dj.mono _ _) (Q.trans s)) (jU h3) (jS h3)) (fun s8 ⟨k5, l8, m8⟩ => sZ 8 rfl rfl (cB c) b (fun _ m => jt rfl (nV m (y := k5) l8 jk)) (Xg 9 rfl rfl (cB c) b (jB h0) (Xg 10 rfl rfl (cB c) b (jy Bx d6) (sZ 11 rfl rfl (cB c) b (fun _ m => jt rfl (jJ m Mh rfl cO)) (bS I fun q5 h4 I => pZ 12 rfl kr (.inr ⟨3, true, 72, rfl, rfl, by decide, (cB c)⟩) rfl dc (fun _ _ h => h) b (mo (i := N.End) (x0 := q5) tU.out underlying49 cQ rfl rfl (n1.mono E3.mono s) (jU h4) (jS h4)) (fun s9 ⟨_, ⟨k6, t8, rfl, m9, r8⟩, l9⟩ => pZ 13 rfl kr (.inr ⟨3, true, 72, rfl, rfl, by decide, (cB c)⟩) rfl dc (fun _ _ h => h) b (rC [k6] yC rfl l9 rfl) (fun t0 m0 => sZ 14 rfl rfl (cB c) b (fun _ m => jt rfl (nV m (y := k6) m0 iU)) (Xg 15 rfl rfl (cB c) b (jy FO d6) (sZ 16 rfl rfl (cB c) b (fun _ m => jt rfl (jJ m Mh rfl cO)) ?_))))))))))))
     refine bS I fun T h5 I => pZ 17 rfl kr (.inr ⟨3, true, 72, rfl, rfl, by decide, (cB c)⟩) rfl dc (fun _ _ h => h) b (mo (i := N.At) (x0 := T) ki.out dS dQ rfl rfl m9 (jU h5) (jS h5)) (fun t1 ⟨_, ⟨q3, t9, rfl, r9, s0⟩, m1⟩ => pZ 18 rfl kr (.inr ⟨3, true, 72, rfl, rfl, by decide, (cB c)⟩) rfl dc (fun _ _ h => h) b (rC [(.int .i64 T.Signed.jm.Kind), (.string T.Signed.jm.Head.jo), (.string T.Signed.jm.Head.Word), (.string T.Signed.jm.ke), (.string T.Signed.jm.B.jo), (.string T.Signed.jm.B.Word), (.string T.Signed.jm.C.jo), (.string T.Signed.jm.C.Word), (.string T.Signed.jm.kp), q3] yO rfl m1 rfl) (fun t2 m2 => pZ 19 rfl kr (.inr ⟨3, true, 72, rfl, rfl, by decide, (cB c)⟩) rfl dc (fun _ _ h => h) b (rC (js T.Signed.jm) yz rfl m2 rfl) (fun t3 m3 => sZ 20 rfl rfl (cB c) b (fun _ m => jt rfl (jW m m3 cI aX)) (bS I fun t7 m7 I => IK 21 rfl rfl (cB c) (Eg d call18 (kf.lX (I9 k5 k9 T.Signed.jm _ _ (m8.mono (Pl.mono _) d.jx) m7)) (fun s6 d => ?_))))))
     have b := d.has.jr (Kb Sn)
     refine ⟨b, (X 22 rfl b (km (cB c) rfl) ?_)⟩
     obtain rfl := sj I
     refine og kr (f8 _ _ ⟨_, (d.jr St), i6, g9, h0, d6, i7, i8, i9, rfl⟩)
    refine Xn 4 rfl rfl (cB c) b (Xn 5 rfl rfl (cB c) b (Xn 6 rfl rfl (cB c) b (Xn 7 rfl rfl (cB c) b (Xn 8 rfl rfl (cB c) b (Xn 9 rfl rfl (cB c) b (Xn 10 rfl rfl (cB c) b (Xn 11 rfl rfl (cB c) b (Xn 12 rfl rfl (cB c) b (Xn 13 rfl rfl (cB c) b (Xn 14 rfl rfl (cB c) b (Xn 15 rfl rfl (cB c) b (Xn 16 rfl rfl (cB c) b (Xn 17 rfl rfl (cB c) b (Xn 18 rfl rfl (cB c) b ?_))))))))))))))
    refine Xn 19 rfl rfl (cB c) b (Xn 20 rfl rfl (cB c) b (Xn 21 rfl rfl (cB c) b (X 22 rfl b (kq (cB c) rfl) ?_)))
    obtain rfl := sj I
    refine og kr (f8 _ _ ⟨_, (d.jr St), i6, g9, h0, d6, i7, i8, i9, rfl⟩)
   refine bC d3 (fun z d3 => ?_) (fun z d3 => ?_)
   ·refine Xn 9 rfl rfl (cB z) b (Xn 10 rfl rfl (cB z) b (Xn 11 rfl rfl (cB z) b (Xn 12 rfl rfl (cB z) b (Xu 13 rfl rfl rfl b (Xu 14 rfl rfl rfl b (Xu 15 rfl rfl rfl b (Xu 16 rfl rfl rfl b (Xu 17 rfl rfl rfl b (Xu 18 rfl rfl rfl b (Xu 19 rfl rfl rfl b (Xu 20 rfl rfl rfl b (Xu 21 rfl rfl rfl b (Xu 22 rfl rfl rfl b (Xu 23 rfl rfl rfl b ?_))))))))))))))
    refine Xu 24 rfl rfl rfl b (Xu 25 rfl rfl rfl b (Xu 26 rfl rfl rfl b (Xu 27 rfl rfl rfl b (Xn 28 rfl rfl (cB z) b (X 29 rfl b (km (cB z) rfl) ?_)))))
    obtain rfl := sj d3
    refine og kr (f9 _ _ ⟨_, (d.jr St), e5, e6, e0, q, e7, e8, e9, rfl⟩)
   refine Xg 9 rfl rfl (cB z) b (jy Af q) (sZ 10 rfl rfl (cB z) b (fun _ m => jt rfl (jJ m Mh rfl cO)) (Xg 11 rfl rfl (cB z) b (kC rfl rfl rfl) (Xg 12 rfl rfl (cB z) b (jB rfl) (PJ d3 (fun k1 E W => ∃ i4, ST false lB w W f2 ((Y, Obj.cells d7 40 (0, 0)) :: ((n, Ol a0 34) :: (f0 ++ i4))) ∧ E 1 = A ∧ E 6 = a3 ∧ E 7 = a2 ∧ E 9 = g6 ∧ E 33 = f1 ∧ E 34 = a9 ∧ E 35 = R ∧ E 47 = (.bool k8) ∧ E 67 = (.bool k1)) (bm 30 536870911) 1 ?_ (fun k1 d4 g0 => ?_)))))
   ·rintro u4 E W ⟨i4, d, o5, o6, o7, o8, o9, p0, p1, p2, p3⟩ l5
    have b := d.has.jr (Kb Sn)
    refine X 29 rfl b (kq (p2.trans (cB z)) p3) ?_
    obtain rfl := sj l5
    refine og kr (f9 _ _ ⟨_, (d.jr St), o5, o6, o7, o8, o9, p0, p1, rfl⟩)
   refine bC d4 (fun D d4 => ?_) (fun D d4 => ?_)
   ·refine Xg 13 rfl rfl (cB D) b (jy FO q) (sZ 14 rfl rfl (cB D) b (fun _ m => jt rfl (jJ m Mh rfl cO)) (Xg 15 rfl rfl (cB D) b (kC rfl rfl rfl) (Xg 16 rfl rfl (cB D) b (jB rfl) (PJ d4 (fun k3 E W => ∃ i5, ST false lB w W f2 ((Y, Obj.cells d7 40 (0, 0)) :: ((n, Ol a0 34) :: (f0 ++ i5))) ∧ E 1 = A ∧ E 6 = a3 ∧ E 7 = a2 ∧ E 9 = g6 ∧ E 33 = f1 ∧ E 34 = a9 ∧ E 35 = R ∧ E 47 = (.bool k8) ∧ E 51 = (.bool (decide (N.Kind ≤ 2))) ∧ E 66 = (.bool k3)) (bm 30 268435455) 2 ?_ (fun k3 P g1 => ?_)))))
    ·rintro u5 E W ⟨i5, d, p4, p5, p6, p7, p8, p9, q0, j7, q1, q2⟩ l6
     have b := d.has.jr (Kb Sn)
     refine Xg 28 rfl rfl (j7.trans (cB z)) b (km (q1.trans (cB D)) q2) ?_
     obtain rfl := sj l6
     refine og kr (g0 _ _ ⟨_, (d.jr St), p4, p5, p6, p7, p8, p9, q0, j7, rfl⟩)
    refine bC P (fun g P => ?_) (fun g P => ?_)
    ·refine Xn 17 rfl rfl (cB g) b (Xn 18 rfl rfl (cB g) b (Xn 19 rfl rfl (cB g) b (Xn 20 rfl rfl (cB g) b (Xn 21 rfl rfl (cB g) b (Xn 22 rfl rfl (cB g) b (Xn 23 rfl rfl (cB g) b (Xn 24 rfl rfl (cB g) b (Xn 25 rfl rfl (cB g) b (Xn 26 rfl rfl (cB g) b (Xg 27 rfl rfl (cB D) b (km (cB g) rfl) ?_))))))))))
     obtain rfl := sj P
     refine og kr (g1 _ _ ⟨_, (d.jr St), e5, e6, e0, q, e7, e8, e9, rfl, rfl, rfl⟩)
    refine Xg 17 rfl rfl (cB g) b (jy FO q) (sZ 18 rfl rfl (cB g) b (fun _ m => jt rfl (jJ m Mh rfl cO)) (Xg 19 rfl rfl (cB g) b (jB e0) (Xg 20 rfl rfl (cB g) b (jy Bx q) (sZ 21 rfl rfl (cB g) b (fun _ m => jt rfl (jJ m Mh rfl cO)) (bS P fun q6 h6 P => pZ 22 rfl kr (.inr ⟨16, false, 55, rfl, rfl, by decide, (cB g)⟩) rfl dc (fun _ _ h => h) b (mo (i := N.End) (x0 := q6) tU.out underlying49 cQ rfl rfl (n1.mono E3.mono s) (jU h6) (jS h6)) (fun t4 ⟨_, ⟨k7, u0, rfl, n0, s1⟩, m4⟩ => pZ 23 rfl kr (.inr ⟨16, false, 55, rfl, rfl, by decide, (cB g)⟩) rfl dc (fun _ _ h => h) b (rC [k7] yC rfl m4 rfl) (fun t5 m5 => sZ 24 rfl rfl (cB g) b (fun _ m => jt rfl (nV m (y := k7) m5 iU)) (Xg 25 rfl rfl (cB g) b (lR dS rfl n0) (Xg 26 rfl rfl (cB g) b (kC rfl rfl rfl) (Xg 27 rfl rfl (cB D) b (kq (cB g) rfl) ?_))))))))))
    obtain rfl := sj P
    refine og kr (g1 _ _ ⟨_, (d.jr St), e5, e6, e0, q, e7, e8, e9, rfl, rfl, rfl⟩)
   refine Xn 13 rfl rfl (cB D) b (Xn 14 rfl rfl (cB D) b (Xn 15 rfl rfl (cB D) b (Xn 16 rfl rfl (cB D) b (Xu 17 rfl rfl rfl b (Xu 18 rfl rfl rfl b (Xu 19 rfl rfl rfl b (Xu 20 rfl rfl rfl b (Xu 21 rfl rfl rfl b (Xu 22 rfl rfl rfl b (Xu 23 rfl rfl rfl b (Xu 24 rfl rfl rfl b (Xu 25 rfl rfl rfl b (Xu 26 rfl rfl rfl b (Xn 27 rfl rfl (cB D) b ?_))))))))))))))
   refine Xg 28 rfl rfl (cB z) b (kq (cB D) rfl) ?_
   obtain rfl := sj d4
   refine og kr (g0 _ _ ⟨_, (d.jr St), e5, e6, e0, q, e7, e8, e9, rfl, rfl⟩)
  refine bC d5 (fun U d5 => ?_) (fun U d5 => ?_)
  ·refine Xn 4 rfl rfl (cB U) b (Xn 5 rfl rfl (cB U) b (Xn 6 rfl rfl (cB U) b (X 7 rfl b (km (cB U) rfl) ?_)))
   obtain rfl := sj d5
   refine og kr (g2 _ _ ⟨_, (d.jr St), g4, g7, g8, rfl, e4, eN, eI, rfl⟩)
  refine Xg 4 rfl rfl (cB U) b (jy Bx rfl) (sZ 5 rfl rfl (cB U) b (fun _ m => jt rfl (jJ m Mh rfl cO)) (Xg 6 rfl rfl (cB U) b (kC rfl rfl rfl) (X 7 rfl b (kq (cB U) rfl) ?_)))
  obtain rfl := sj d5
  refine og kr (g2 _ _ ⟨_, (d.jr St), g4, g7, g8, rfl, e4, eN, eI, rfl⟩)
 rintro E W ⟨g3, ⟨eI, eN⟩, d, g4, g7, g8, e4, b0⟩
 rw [aU] at b0
 refine jE ?_
 replace d := d.jr (Db (Dr St))
 exact sg (Wa (lt (rQ b0 d)))
end Go.Proofs.YtjjjihkifgdhgaaGreatDoor
