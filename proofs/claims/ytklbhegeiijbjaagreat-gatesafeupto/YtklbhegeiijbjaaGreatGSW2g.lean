/- a part of a proof of GateSafe -/
import Derived.Test.YtklbhegeiijbjaaGreatGSW1g
set_option linter.all false
namespace Go.Proofs.YtklbhegeiijbjaaGreat
open Go.IntKind renaming wrap → wi0
open Go.Proofs.Tryz renaming prog → pg0
open Go.RowKit
set_option maxRecDepth 10000
open Tryz
theorem Bj (G : Nat) (a0 : mu) (a1 : Int) (c2 : Value) (a2 : List Formula) (r : (Formula × mu)) (w : World) {μ0 : lZ} (h0 : oT μ0 ((G, Ol (nj a0) 249) :: []) w) (c1 : Sl lj 5 μ0 c2 a2) (hm : rW a0 a1 a2 = some r) :
  nm false pg0 247 [(.pointer (some ⟨G, 0, none⟩)), (.int .i64 a1), c2] w μ0 ((G, Ol (nj a0) 249) :: []) (fun v L1 μ1 => ∃ y1, v = (.agg #[(.int .i64 ((r.1).Op)), (.int .i64 ((r.1).K)), (.string (((r.1).lg).lh)), (.string (((r.1).lg).lp)), y1]) ∧ L1 = ((G, Ol (nj (r.2)) 249) :: []) ∧ Sl lj 5 μ1 y1 ((r.1).Kids)) := by
 let j8 := ((nj a0).toArray : Array Value)
 refine uW h0 58 func247 rfl (fun b => sg (VE (ml b bI (fun W2 b1 b => lr (Wa (lS (Wm ?_)))))))
 refine V (mS aF rfl c1) (Wm (ln (mQ (fun i E W => ∃ x K J N c0, (E 12 = .int .i64 (i : Nat) ∧ E 11 = .int .i64 (a2.length : Nat)) ∧ ST false (keys ((G, Obj.cells j8 249 (0, 0)) :: [])) w W μ0 ((b1, Ol C6 58) :: ((G, Obj.cells j8 249 (0, 0)) :: (N ++ c0))) ∧ E 0 = (.pointer (some ⟨G, 0, none⟩)) ∧ E 1 = (.int .i64 x) ∧ E 6 = (.pointer (some ⟨b1, 0, none⟩)) ∧ E 7 = K ∧ E 10 = c2 ∧ mO 58 lj 5 μ0 K J N ∧ nU a0 (a2.drop i) x J = some r) a2.length c1.len ⟨a1, (.slice none 0 0), ([]), [], _, ⟨rfl, rfl⟩, (b.ll St), rfl, rfl, rfl, rfl, rfl, (mO.nil _ _ _ _), hm⟩ dc dc dc (fun _ _ _ h => by obtain ⟨_, _, _, _, _, aa, _⟩ := h; exact aa) ?_ ?_)))
 ·rintro h2 E W f2 ⟨x, K, J, N, c0, ⟨eI, eN⟩, b, U, H, u, I, R, D, a⟩
  obtain ⟨c, h8, g8, g7, b7⟩ := mA f2
  rw [g8] at a
  refine bg (VQ (nM (i := (h2 : Int)) (x0 := c) lj.out aF aC R eI c1 (aJ _) g7) (fun k7 ⟨_, ⟨l0, rfl, Y⟩, f3⟩ => V (lq rfl (ma b.has f3 bB aC)) (VE (ml b bI (fun i6 k4 b => ?_)))))
  obtain ⟨y, z, rfl⟩ := Y.form
  let j6 : Value := (.slice y c.Kids.length z)
  let b8 := (C1 c.Op c.K c.lg.lh c.lg.lp y c.Kids.length z)
  refine VO (lL (.agg b8.toArray) (b8.toArray) b rfl rfl aC oc nb rfl (fun i7 b => ln (bg (VA b Mh b8 bB aC (bS a fun k8 f4 a => VE (Eg b call285 (lV.ng (Aq c j6 2 _ _ (Y.mono lI.mono b.lx) f4)) (fun i8 b => Wa (ln (CI a rfl (fun e5 a => ?_) (fun e5 a => ?_))))))))))
  ·refine lG (Wh H (Wi rfl (Wa (me (ms (ms (lD ?_)))))))
   replace b := b.ll (Db St)
   exact ⟨eI, (wi0 .i64 (x - 1)), K, J, N, _, ⟨rfl, eN⟩, (b.ll St), U, rfl, u, I, R, D, (by rw [b7]; exact a)⟩
  refine sg (VA b Mh b8 bB aC (bS a fun k9 f5 a => VE (Eg b call285 (lV.ng (Aq c j6 3 _ _ (Y.mono lI.mono b.lx) f5)) (fun i9 b => V (ot rfl) (Wa (ln (CI a rfl (fun e6 a => ?_) (fun e6 a => ?_))))))))
  ·refine lG (Wh I (VA b Mh b8 bB aC (VE (mh (cs := b8.toArray) b (om rfl) (oH aF aC bI) (fun j0 k5 b => ?_)))))
   replace b := b.perm (Nr (Qb (Qb (Qb (Qb Qz)))) Nz)
   refine bS a fun h3 e7 a => VE (wm (B := N) lI b dc aF qi.1 qi.2.1 rfl qi.2.2.1 qi.2.2.2 rfl rfl D (Dn.lit lI (l := [c]) (.cons (ys := C1 c.Op c.K c.lg.lh c.lg.lp y c.Kids.length z) (lj.mk ⟨j6, rfl, Y⟩) .nil) rfl nb (b.at_ (Ma Mh))) e7 (fun j3 h4 g9 b e4 => Wa (me (ms (ms (lD ?_))))))
   replace b := b.ll (Kr (Db (Db St)))
   exact ⟨eI, x, h4, h3, g9, _, ⟨rfl, eN⟩, (b.ll (Sb (Pr Pz) (Sb (Pr Pz) St))), U, H, u, rfl, R, e4, (by rw [b7]; exact a)⟩
  refine mX (ms (ms (lD ?_)))
  replace b := b.ll (Db St)
  exact ⟨eI, x, K, J, N, _, ⟨rfl, eN⟩, (b.ll St), U, H, u, I, R, D, (by rw [b7]; exact a)⟩
 rintro E W ⟨x, K, J, N, c0, ⟨eI, eN⟩, b, U, H, u, I, R, D, a⟩
 rw [aP] at a
 refine lD (lH (bg (Wh H (Wi rfl (Wa (ln (CI a rfl (fun e8 a => ?_) (fun e8 a => ?_))))))))
 ·refine sg (bS a fun g f6 a => ?_)
  let j2 : Value := (.string (((g).lg).lp))
  let h9 : Value := (.string (((g).lg).lh))
  refine VE (eD b (bH _) call286 (fun d => nm.ng (GV  _ _ d  f6)) ?_ (L0 := []))
  rintro _ l1 m2 i0 b c9 n ⟨l6, b2, rfl, c3⟩
  obtain rfl := b2.symm
  obtain ⟨Z, a6, rfl⟩ := c3.form
  let g5 : Value := (.slice Z ((g).Kids).length a6)
  let e0 : Value := (.agg #[(.int .i64 ((g).Op)), (.int .i64 ((g).K)), h9, j2, g5])
  refine VO (lL e0 (#[(.int .i64 ((g).Op)), (.int .i64 ((g).K)), h9, j2, g5]) b u rfl aC oc nb rfl (fun j5 b => ln ?_))
  replace b := b.ll (Kb (Kb (Dr St)))
  refine mi (nE (mo ?_))
  obtain rfl := sj a
  exact rN (v := e0) rfl u (lB b.has Mh [(.int .i64 ((g).Op)), (.int .i64 ((g).K)), h9, j2, g5] rfl bB aC) ⟨_, _, _, rfl, (b.nF (Db (Kb Sn))), c9, n, (ST.mE b (nS.mem (Db (Kb Sn)))), g5, rfl, rfl, c3⟩
 refine sg (Wh H (Wh I (V (zk aF rfl D) (Wi rfl (Wa (ln (CI a rfl (fun e9 a => ?_) (fun e9 a => ?_))))))))
 ·refine sg (bS a fun j f7 a => ?_)
  let j4 : Value := (.string (((j).lg).lp))
  let j1 : Value := (.string (((j).lg).lh))
  refine VE (eD b (bH _) call287 (fun d => nm.ng (HM  _ _ d  f7)) ?_ (L0 := []))
  rintro _ l2 m3 i1 b d0 o ⟨l7, b3, rfl, c4⟩
  obtain rfl := b3.symm
  obtain ⟨a3, a7, rfl⟩ := c4.form
  let e3 : Value := (.slice a3 ((j).Kids).length a7)
  let d9 : Value := (.agg #[(.int .i64 ((j).Op)), (.int .i64 ((j).K)), j1, j4, e3])
  refine VO (lL d9 (#[(.int .i64 ((j).Op)), (.int .i64 ((j).K)), j1, j4, e3]) b u rfl aC oc nb rfl (fun j7 b => ln ?_))
  replace b := b.ll (Kb (Kb (Dr St)))
  refine mi (nE (mo ?_))
  obtain rfl := sj a
  exact rN (v := d9) rfl u (lB b.has Mh [(.int .i64 ((j).Op)), (.int .i64 ((j).K)), j1, j4, e3] rfl bB aC) ⟨_, _, _, rfl, (b.nF (Db (Kb Sn))), d0, o, (ST.mE b (nS.mem (Db (Kb Sn)))), e3, rfl, rfl, c4⟩
 refine sg (Wh H (Wh I (V (zk aF rfl D) (Wi rfl (Wa (ln (CI a rfl (fun f0 a => ?_) (fun f0 a => ?_))))))))
 ·refine sg (Wh U (Wh I ?_))
  replace b := b.perm (Nr (Qb (Qb Qz)) Nz)
  obtain ⟨m4, b, d1, q, g1⟩ := ST.xi lI b D
  refine bS a fun k f8 a => ?_
  let h6 : Value := (.string (((k.1).lg).lp))
  let h1 : Value := (.string (((k.1).lg).lh))
  refine VE (eD b (Cb (Pb Pz) Cn) call248 (fun d => (uL G a0 2 K J _ _ d (g1.mono lI.mono (lP.refl _)) f8)) ?_)
  rintro _ l3 m5 i2 b d2 s ⟨l8, b4, rfl, c5⟩
  obtain rfl := b4.symm
  replace b := b.perm (Tb Tn)
  obtain ⟨a4, a8, rfl⟩ := c5.form
  let e1 : Value := (.slice a4 ((k.1).Kids).length a8)
  let c8 : Value := (.agg #[(.int .i64 ((k.1).Op)), (.int .i64 ((k.1).K)), h1, h6, e1])
  replace b := b.perm (Nb (Pb Pz) Nz)
  refine VO (lL c8 (#[(.int .i64 ((k.1).Op)), (.int .i64 ((k.1).K)), h1, h6, e1]) b u rfl aC oc nb rfl (fun j9 b => lt (nE (mo ?_))))
  obtain rfl := sj a
  exact rN (v := c8) rfl u (lB b.has Mh [(.int .i64 ((k.1).Op)), (.int .i64 ((k.1).K)), h1, h6, e1] rfl bB aC) ⟨_, _, _, rfl, (b.nF (Db (Kb Sn))), (d1.trans d2), (q.trans s), (ST.mE b (nS.mem (Db (Kb Sn)))), e1, rfl, rfl, c5⟩
 refine sg (Wh H (Wi rfl (Wa (ln (CI a rfl (fun f1 a => ?_) (fun f1 a => ?_))))))
 ·refine sg (Wh U (Wh I ?_))
  replace b := b.perm (Nr (Qb (Qb Qz)) Nz)
  obtain ⟨m6, b, d3, A, g2⟩ := ST.xi lI b D
  refine bS a fun t f9 a => ?_
  let h7 : Value := (.string (((t.1).lg).lp))
  let h5 : Value := (.string (((t.1).lg).lh))
  refine VE (eD b (Cb (Pb Pz) Cn) call248 (fun d => (uL G a0 3 K J _ _ d (g2.mono lI.mono (lP.refl _)) f9)) ?_)
  rintro _ l4 m7 i3 b d4 F ⟨l9, b5, rfl, c6⟩
  obtain rfl := b5.symm
  replace b := b.perm (Tb Tn)
  obtain ⟨a5, a9, rfl⟩ := c6.form
  let e2 : Value := (.slice a5 ((t.1).Kids).length a9)
  let d8 : Value := (.agg #[(.int .i64 ((t.1).Op)), (.int .i64 ((t.1).K)), h5, h7, e2])
  replace b := b.perm (Nb (Pb Pz) Nz)
  refine VO (lL d8 (#[(.int .i64 ((t.1).Op)), (.int .i64 ((t.1).K)), h5, h7, e2]) b u rfl aC oc nb rfl (fun k1 b => lt (nE (mo ?_))))
  obtain rfl := sj a
  exact rN (v := d8) rfl u (lB b.has Mh [(.int .i64 ((t.1).Op)), (.int .i64 ((t.1).K)), h5, h7, e2] rfl bB aC) ⟨_, _, _, rfl, (b.nF (Db (Kb Sn))), (d3.trans d4), (A.trans F), (ST.mE b (nS.mem (Db (Kb Sn)))), e2, rfl, rfl, c6⟩
 refine mX (ms (lD (sg (Wh H (Wh I ?_)))))
 replace b := b.perm (Nr (Qb (Qb Qz)) Nz)
 obtain ⟨m8, b, d5, L, g3⟩ := ST.xi lI b D
 refine bS a fun T g0 a => ?_
 refine VE (eD b (bH _) call288 (fun d => (Dc K J _ _ d (g3.mono lI.mono (lP.refl _)) g0)) ?_ (L0 := []))
 rintro _ l5 m9 i4 b d6 O ⟨m0, i5, b6, rfl, c7⟩
 obtain rfl := b6.symm
 replace b := b.perm (Tr Tn)
 obtain ⟨M, Q, rfl⟩ := c7.form
 let g6 : Value := (.slice M T.length Q)
 let b9 : Value := (.agg #[(.int .i64 4), (.int .i64 x), (.string zS), (.string zS), g6])
 refine V (nT (v := b9) (Fb rfl rfl rfl) (nq bI cK (BI _ cK) kr)) ?_
 replace b := b.perm (Nb (Pr Pz) Nz)
 refine VO (lL b9 (#[(.int .i64 4), (.int .i64 x), (.string zS), (.string zS), g6]) b u rfl aC oc nb rfl (fun k3 b => lt ?_))
 obtain rfl := sj a
 refine rN (v := b9) rfl u (lB b.has Mh [(.int .i64 4), (.int .i64 x), (.string zS), (.string zS), g6] rfl bB aC) ?_
 replace b := b.perm (Nr (Qb Qz) Nz)
 obtain ⟨n0, b, d7, P, g4⟩ := ST.xi lI b c7
 exact ⟨_, _, _, rfl, (b.nF (Db (Kb Sn))), ((d5.trans d6).trans d7), ((L.trans O).trans P), (ST.mE b (nS.mem (Db (Kb Sn)))), g6, rfl, rfl, g4⟩
theorem Ax (c9 : mu → Formula → Option (Formula × mu)) (e9 : ∀ (u : Nat) (a0 : mu) (a : Formula) (y : Value) (r : (Formula × mu)) (w : World) {μ0 : lZ} (h0 : oT μ0 ((u, Ol (nj a0) 249) :: []) w) (x : Sl lj 5 μ0 y a.Kids), c9 a0 a = some r → nm false pg0 191 [(.pointer (some ⟨u, 0, none⟩)), (.agg #[(.int .i64 a.Op), (.int .i64 a.K), (.string a.lg.lh), (.string a.lg.lp), y])] w μ0 ((u, Ol (nj a0) 249) :: []) (fun v L1 μ1 => ∃ O, v = (.agg #[(.int .i64 ((r.1).Op)), (.int .i64 ((r.1).K)), (.string (((r.1).lg).lh)), (.string (((r.1).lg).lp)), O]) ∧ L1 = ((u, Ol (nj (r.2)) 249) :: []) ∧ Sl lj 5 μ1 O ((r.1).Kids))) (u : Nat) (a0 : mu) (a : Formula) (y : Value) (r : (Formula × mu)) (w : World) {μ0 : lZ} (h0 : oT μ0 ((u, Ol (nj a0) 249) :: []) w) (x : Sl lj 5 μ0 y a.Kids) (hm : tj c9 a0 a = some r) :
  nm false pg0 191 [(.pointer (some ⟨u, 0, none⟩)), (.agg #[(.int .i64 a.Op), (.int .i64 a.K), (.string a.lg.lh), (.string a.lg.lp), y])] w μ0 ((u, Ol (nj a0) 249) :: []) (fun v L1 μ1 => ∃ O, v = (.agg #[(.int .i64 ((r.1).Op)), (.int .i64 ((r.1).K)), (.string (((r.1).lg).lh)), (.string (((r.1).lg).lp)), O]) ∧ L1 = ((u, Ol (nj (r.2)) 249) :: []) ∧ Sl lj 5 μ1 O ((r.1).Kids)) := by
 let d0 := ((u, Ol (nj a0) 249) :: [])
 refine uW h0 39 func191 rfl (fun b => sg ?_)
 obtain ⟨A1, c2, rfl⟩ := x.form
 let F := (C1 a.Op a.K a.lg.lh a.lg.lp A1 a.Kids.length c2)
 refine VE (mG b rfl (fun W4 b3 b => VE (ml b bI (fun W6 b5 b => lS (Wf vk (VB b (Mt Mh) rfl rfl dD (Wi rfl (ln (CI hm rfl (fun f8 hm => ?_) (fun f8 hm => ?_))))))))))
 ·refine sg (VA b (Mt Mh) F bB aC (VO (lL (.agg F.toArray) (F.toArray) b rfl rfl aC oc nb rfl (fun W8 b => ln ?_))))
  replace b := b.ll (Kb (Db St))
  refine mi (mo ?_)
  obtain rfl := sj hm
  exact rN (v := (.agg F.toArray)) rfl rfl (lB b.has Mh F rfl bB aC) ⟨_, _, _, rfl, (b.nF (Db (Kb Sn))), (lP.refl _), Lo.refl, (ST.mE b (nS.mem (Db (Kb Sn)))), (.slice A1 a.Kids.length c2), rfl, rfl, x⟩
 refine kg (Wa (lS (Wf uh (VB b (Mt Mh) rfl rfl gM (V (mS aF rfl x) (Wm (me ?_)))))))
 refine lD (mQ (fun i E W => ∃ I H T D J b7, (E 15 = .int .i64 (i : Nat) ∧ E 14 = .int .i64 (a.Kids.length : Nat)) ∧ lP μ0 J ∧ Lo (keys d0) w μ0 J ∧ ST false (keys d0) w W J ((u, Ol (nj D) 249) :: ((b5, Ol C6 58) :: ((b3, Ol F 58) :: (T ++ b7)))) ∧ E 0 = (.pointer (some ⟨u, 0, none⟩)) ∧ E 3 = (.pointer (some ⟨b3, 0, none⟩)) ∧ E 4 = (.pointer (some ⟨b5, 0, none⟩)) ∧ E 5 = I ∧ E 13 = (.slice A1 a.Kids.length c2) ∧ mO 58 lj 5 J I H T ∧ oX c9 a (a.Kids.drop i) H D = some r) a.Kids.length x.len ⟨(.slice none 0 0), ([]), [], a0, μ0, _, ⟨rfl, rfl⟩, (lP.refl _), Lo.refl, (b.ll (Sb (Pb (Pb Pz)) St)), rfl, rfl, rfl, rfl, rfl, (mO.nil _ _ _ _), hm⟩ dc dc dc (fun _ _ _ h => by obtain ⟨_, _, _, _, _, _, aa, _⟩ := h; exact aa) ?_ ?_)
 ·rintro f0 E W d7 ⟨I, H, T, D, J, b7, ⟨eI, eN⟩, z, d, b, a2, a3, G, R, b9, K, c⟩
  obtain ⟨t, f9, e5, e4, e6⟩ := mA d7
  rw [e5] at c
  refine bg (VQ (nM (i := (f0 : Int)) (x0 := t) lj.out aF aC b9 eI (x.mono lI.mono z) (aJ _) e4) (fun h7 ⟨_, ⟨h8, rfl, c0⟩, d8⟩ => V (lq rfl (ma b.has d8 bB aC)) (VE (ml b bI (fun g3 h5 b => ?_)))))
  obtain ⟨a7, a9, rfl⟩ := c0.form
  let a6 := (C1 t.Op t.K t.lg.lh t.lg.lp a7 t.Kids.length a9)
  refine VO (lL (.agg a6.toArray) (a6.toArray) b rfl rfl aC oc nb rfl (fun g4 b => ln (lG (Wh R (Wh a2 (VA b Mh a6 bB aC (bS c fun g d9 c => ?_)))))))
  refine VE (eD b (Cb (Pb Pz) Cn) call191 (fun L => (e9 u D t (.slice a7 t.Kids.length a9) _ _ L (c0.mono lI.mono (lP.refl _)) d9)) ?_)
  rintro _ h9 f4 g0 b b6 n ⟨i2, b1, rfl, c1⟩
  obtain rfl := b1.symm
  replace b := b.perm (Tb Tn)
  obtain ⟨M, U, rfl⟩ := c1.form
  let d1 : Value := (.slice M ((g.1).Kids).length U)
  refine VE (mh (cs := #[(.int .i64 ((g.1).Op)), (.int .i64 ((g.1).K)), (.string (((g.1).lg).lh)), (.string (((g.1).lg).lp)), d1]) b (om rfl) (oH aF aC bI) (fun g8 h6 b => ?_))
  replace b := b.perm (Nr (Qb (Qb (Qb (Qb (Qb Qz))))) Nz)
  refine bS c fun f1 d5 c => VE (wm (B := T) lI b dc aF qi.1 qi.2.1 rfl qi.2.2.1 qi.2.2.2 rfl rfl (K.mono lI b6) (Dn.lit lI (l := [g.1]) (.cons (ys := [(.int .i64 ((g.1).Op)), (.int .i64 ((g.1).K)), (.string (((g.1).lg).lh)), (.string (((g.1).lg).lp)), d1]) (lj.mk ⟨d1, rfl, c1⟩) .nil) rfl nb (b.at_ (Ma Mh))) d5 (fun g9 f2 e8 b d4 => Wa (me (ms (lD ?_)))))
  replace b := b.ll (Kr (Db (Kb (Db St))))
  exact ⟨eI, f2, f1, e8, g.2, f4, _, ⟨rfl, eN⟩, (z.trans b6), (d.trans n), (b.ll (Sb (Pr Pz) (Sb (Pr Pz) (Sb (Pr Pz) St)))), a2, a3, G, rfl, b9, d4, (by rw [e6]; exact c)⟩
 rintro E W ⟨I, H, T, D, J, b7, ⟨eI, eN⟩, z, d, b, a2, a3, G, R, b9, K, c⟩
 rw [aP] at c
 refine lD (lH (sg (V (lA vk a3) (VB b (Mt (Mt Mh)) rfl rfl dD (Wi rfl (ln (CI c rfl (fun d6 c => ?_) (fun d6 c => ?_))))))))
 ·refine sg (Wh a2 (V (lA zB a3) (VB b (Mt (Mt Mh)) rfl rfl dD (Wh R ?_))))
  replace b := b.perm (Nr (Qb (Qb (Qb Qz))) Nz)
  obtain ⟨i5, b, c5, o, e2⟩ := ST.xi lI b K
  refine bS c fun j e0 c => ?_
  let f3 : Value := (.string (((j.1).lg).lp))
  let d3 : Value := (.string (((j.1).lg).lh))
  refine VE (eD b (Cb Pz Cn) call247 (fun L => (Bj u D a.K I H _ _ L (e2.mono lI.mono (lP.refl _)) e0)) ?_)
  rintro _ i0 i6 g1 b c6 q ⟨i3, b2, rfl, c3⟩
  obtain rfl := b2.symm
  replace b := b.perm (Tb Tn)
  obtain ⟨N, Y, rfl⟩ := c3.form
  let b8 : Value := (.slice N ((j.1).Kids).length Y)
  let a5 : Value := (.agg #[(.int .i64 ((j.1).Op)), (.int .i64 ((j.1).K)), d3, f3, b8])
  replace b := b.perm (Nb (Pb Pz) Nz)
  refine VO (lL a5 (#[(.int .i64 ((j.1).Op)), (.int .i64 ((j.1).K)), d3, f3, b8]) b G rfl aC oc nb rfl (fun h2 b => ln ?_))
  replace b := b.ll (Kb (Kb (Db St)))
  refine mi (mo ?_)
  obtain rfl := sj c
  exact rN (v := a5) rfl G (lB b.has Mh [(.int .i64 ((j.1).Op)), (.int .i64 ((j.1).K)), d3, f3, b8] rfl bB aC) ⟨_, _, _, rfl, (b.nF (Db (Kb Sn))), ((z.trans c5).trans c6), ((d.trans o).trans q), (ST.mE b (nS.mem (Db (Kb Sn)))), b8, rfl, rfl, c3⟩
 refine kg (Wh a2 (V (lA vk a3) (VB b (Mt (Mt Mh)) rfl rfl dD (Wh R ?_))))
 replace b := b.perm (Nr (Qb (Qb (Qb Qz))) Nz)
 obtain ⟨i7, b, c7, s, e3⟩ := ST.xi lI b K
 refine bS c fun k e1 c => ?_
 let f5 : Value := (.int .i64 ((k.1).Op))
 let e7 : Value := (.string (((k.1).lg).lp))
 let d2 : Value := (.string (((k.1).lg).lh))
 refine VE (eD b (Cb Pz Cn) call248 (fun L => (uL u D a.Op I H _ _ L (e3.mono lI.mono (lP.refl _)) e1)) ?_)
 rintro _ i1 i8 g2 b c8 A ⟨i4, b4, rfl, c4⟩
 obtain rfl := b4.symm
 replace b := b.perm (Tb Tn)
 obtain ⟨Q, Z, rfl⟩ := c4.form
 let P : Value := (.slice Q ((k.1).Kids).length Z)
 let a4 : Value := (.agg #[f5, (.int .i64 ((k.1).K)), d2, e7, P])
 replace b := b.perm (Nb (Pb Pz) Nz)
 refine VO (lL a4 (#[f5, (.int .i64 ((k.1).K)), d2, e7, P]) b G rfl aC oc nb rfl (fun h4 b => ln ?_))
 replace b := b.ll (Kb (Kb (Db St)))
 refine mi ?_
 obtain rfl := sj c
 exact rN (v := a4) rfl G (lB b.has Mh [f5, (.int .i64 ((k.1).K)), d2, e7, P] rfl bB aC) ⟨_, _, _, rfl, (b.nF (Db (Kb Sn))), ((z.trans c7).trans c8), ((d.trans s).trans A), (ST.mE b (nS.mem (Db (Kb Sn)))), P, rfl, rfl, c4⟩
theorem yk : ∀ (n : Nat) (c : Nat) (j : mu) (g : Formula) (a : Value) (r : (Formula × mu)) (w : World) {k : lZ} (y : oT k ((c, Ol (nj j) 249) :: []) w) (i : Sl lj 5 k a g.Kids) (_ : oA n j g = some r),
  nm false pg0 191 [(.pointer (some ⟨c, 0, none⟩)), (.agg #[(.int .i64 g.Op), (.int .i64 g.K), (.string g.lg.lh), (.string g.lg.lp), a])] w k ((c, Ol (nj j) 249) :: []) (fun v u x => ∃ t, v = (.agg #[(.int .i64 ((r.1).Op)), (.int .i64 ((r.1).K)), (.string (((r.1).lg).lh)), (.string (((r.1).lg).lp)), t]) ∧ u = ((c, Ol (nj (r.2)) 249) :: []) ∧ Sl lj 5 x t ((r.1).Kids))
 | 0 => by intros; rename_i h; simp only [oA] at h; cases h
 | n + 1 => Ax (oA n) (yk n)
theorem FV (c : Formula) (u : Value) (r : (Formula × Int)) (w : World) {Z : lZ} (F : oT Z [] w) (k : Sl lj 5 Z u c.Kids) (hm : yx c = some r) :
  nm false pg0 132 [(.agg #[(.int .i64 c.Op), (.int .i64 c.K), (.string c.lg.lh), (.string c.lg.lp), u])] w Z [] (fun v L1 μ1 => ∃ s, v = (.tuple #[(.agg #[(.int .i64 ((r.1).Op)), (.int .i64 ((r.1).K)), (.string (((r.1).lg).lh)), (.string (((r.1).lg).lp)), s]), (.int .i64 (r.2))]) ∧ L1 = [] ∧ Sl lj 5 μ1 s ((r.1).Kids)) := by
 refine uW F 27 func132 rfl (fun b => sg ?_)
 obtain ⟨H, I, rfl⟩ := k.form
 let o := (C1 c.Op c.K c.lg.lh c.lg.lp H c.Kids.length I)
 refine VE (mG b rfl (fun W4 O b => VE (ml b bI (fun W6 q b => Wa (lS (VA b (Mt Mh) o bB aC (bS hm fun r7 a5 hm => VE (Eg b call72 (tN c (.slice H c.Kids.length I) _ _ (k.mono lI.mono b.lx) a5) (fun W9 b => V (ot rfl) (ln (CI hm rfl (fun Q hm => ?_) (fun Q hm => ?_))))))))))))
 ·refine sg (V (nT (v := (.agg C6.toArray)) sC (nq bI cK (BI _ cK) kr)) (VO (lL (.agg C6.toArray) (C6.toArray) b rfl rfl aC oc nb rfl (fun R b => Wa (ln ?_)))))
  replace b := b.ll (Kb (Db St))
  refine mi (mo ?_)
  obtain rfl := sj hm
  exact sF (v0 := (.agg C6.toArray)) (v1 := (.int .i64 11)) rfl rfl (lB b.has Mh C6 rfl bB aC) rfl ⟨_, _, _, rfl, (b.nF Sn), (lP.refl _), Lo.refl, (ST.mE b (nS.mem Sn)), (.slice none 0 0), rfl, rfl, (Sl.nil _ _ _)⟩
 refine kg (V (nT (v := (.agg (nj K6).toArray)) sC (nq zeroValue249 kz (SF _ kz) kr)) (VE (mG b rfl (fun b7 A b => Wa (lr (Wm (VA b (Mt (Mt Mh)) o bB aC (bS hm fun a U hm => ?_))))))))
 let n : Value := (.int .i64 ((a.1).K))
 let l : Value := (.int .i64 ((a.1).Op))
 let h : Value := (.string (((a.1).lg).lp))
 let a2 : Value := (.string (((a.1).lg).lh))
 refine VE (eD b (Cb Pz Cn) call191 (fun L => ((yk mq) A K6 c (.slice H c.Kids.length I) _ _ L (k.mono lI.mono (lP.refl _)) U)) ?_)
 rintro _ c7 a9 P b D d ⟨c9, y, rfl, z⟩
 obtain rfl := y.symm
 replace b := b.perm (Tb Tn)
 refine VE (ml b bI (fun c0 K b => ?_))
 obtain ⟨i, j, rfl⟩ := z.form
 let a0 : Value := (.slice i ((a.1).Kids).length j)
 let N : Value := (.agg #[l, n, a2, h, a0])
 refine VO (lL N (#[l, n, a2, h, a0]) b rfl rfl aC oc nb rfl (fun c1 b => ln ?_))
 replace b := b.ll (Kb (Kb (Kb (Db St))))
 refine lH (sg (Wm (Wn (Wf Lc (VB b (Mt Mh) rfl rfl isAgg40 (Wi rfl (Wm (LJ hm (fun M E W => ∃ J, ST false (keys []) w W a9 ((K, Ob #[l, n, a2, h, a0] 58) :: ((q, Ol C6 58) :: J)) ∧ E 2 = (.pointer (some ⟨q, 0, none⟩)) ∧ E 5 = (.pointer (some ⟨K, 0, none⟩)) ∧ E 24 = (.bool M)) 4 ?_ (fun M t G => ?_)))))))))
 ·rintro c8 E W ⟨J, b, B, a3, a4⟩ x
  refine ln (CI x a4 (fun T x => ?_) (fun T x => ?_))
  ·refine sg (V (nT (v := (.agg C6.toArray)) sC (nq bI cK (BI _ cK) kr)) ?_)
   replace b := b.perm (Nb (Pb Pz) Nz)
   refine VO (lL (.agg C6.toArray) (C6.toArray) b B rfl aC oc nb rfl (fun c3 b => Wa (ln ?_)))
   replace b := b.ll (Kb (Db St))
   refine mi (mo ?_)
   obtain rfl := sj x
   exact sF (v0 := (.agg C6.toArray)) (v1 := (.int .i64 12)) rfl B (lB b.has Mh C6 rfl bB aC) rfl ⟨_, _, _, rfl, (b.nF Sn), D, d, (ST.mE b (nS.mem Sn)), (.slice none 0 0), rfl, rfl, (Sl.nil _ _ _)⟩
  refine kg (V (lq a3 (lB b.has Mh [l, n, a2, h, a0] rfl bB aC)) ?_)
  replace b := b.perm (Nb (Pb Pz) Nz)
  refine VO (lL N (#[l, n, a2, h, a0]) b B rfl aC oc nb rfl (fun c4 b => Wa (ln ?_)))
  replace b := b.ll (Kb (Db St))
  refine mi ?_
  obtain rfl := sj x
  exact sF (v0 := N) (v1 := (.int .i64 0)) rfl B (lB b.has Mh [l, n, a2, h, a0] rfl bB aC) rfl ⟨_, _, _, rfl, (b.nF Sn), D, d, (ST.mE b (nS.mem Sn)), a0, rfl, rfl, z⟩
 refine bC t (fun g t => ?_) (fun g t => ?_)
 ·refine un g (un g (un g (V (lX (cB g) rfl) ?_)))
  obtain rfl := sj t
  exact G _ _ ⟨_, (b.ll (Kb (Db St))), rfl, rfl, rfl⟩
 refine ug g (lq rfl (lB b.has Mh [l, n, a2, h, a0] rfl bB aC)) (bS t fun c6 Y t => vC g (Eg b call72 (tN a.1 a0 _ _ (z.mono lI.mono b.lx) Y) (fun c5 b => ug g (ot rfl) (V (lW (cB g) rfl) ?_))))
 obtain rfl := sj t
 exact G _ _ ⟨_, (b.ll (Kb (Db St))), rfl, rfl, rfl⟩
theorem IU (a : Formula) (k : Value) (c : Formula) (t : Value) (r : (Formula × Int)) (w : World) {N : lZ} (s : oT N [] w) (i : Sl lj 5 N k a.Kids) (j : Sl lj 5 N t c.Kids) (hm : yG a c = some r) :
  nm false pg0 133 [(.agg #[(.int .i64 a.Op), (.int .i64 a.K), (.string a.lg.lh), (.string a.lg.lp), k]), (.agg #[(.int .i64 c.Op), (.int .i64 c.K), (.string c.lg.lh), (.string c.lg.lp), t])] w N [] (fun v Z μ1 => ∃ Y, v = (.tuple #[(.agg #[(.int .i64 ((r.1).Op)), (.int .i64 ((r.1).K)), (.string (((r.1).lg).lh)), (.string (((r.1).lg).lp)), Y]), (.int .i64 (r.2))]) ∧ Z = [] ∧ Sl lj 5 μ1 Y ((r.1).Kids)) := by
 refine uW s 13 func133 rfl (fun b => sg ?_)
 obtain ⟨u, z, rfl⟩ := i.form
 let a3 : Value := (.slice u a.Kids.length z)
 refine VE (mG b rfl (fun W4 R b => ?_))
 obtain ⟨y, G, rfl⟩ := j.form
 let o : Value := (.slice y c.Kids.length G)
 refine VE (mG b rfl (fun W8 W b => VE (ml b bI (fun a5 b9 b => Wa (lr (VA b (Mt (Mt Mh)) (C1 a.Op a.K a.lg.lh a.lg.lp u a.Kids.length z) bB aC (VA b (Mt Mh) (C1 c.Op c.K c.lg.lh c.lg.lp y c.Kids.length G) bB aC (VE (mh (cs := #[(.int .i64 a.Op), (.int .i64 a.K), (.string a.lg.lh), (.string a.lg.lp), a3, (.int .i64 c.Op), (.int .i64 c.K), (.string c.lg.lh), (.string c.lg.lp), o]) b (sQ rfl rfl) (oH aF aC bI) (fun E I b => V (nT (v := (.agg #[(.int .i64 2), (.int .i64 0), (.string zS), (.string zS), (.slice (some ⟨I, 0, none⟩) 2 2)])) (sQ rfl rfl) (nq bI cK (BI _ cK) kr)) ?_))))))))))
 obtain ⟨O, b, K, d, U⟩ := ST.xi (B := [(I, Ob #[(.int .i64 a.Op), (.int .i64 a.K), (.string a.lg.lh), (.string a.lg.lp), a3, (.int .i64 c.Op), (.int .i64 c.K), (.string c.lg.lh), (.string c.lg.lp), o] 58)]) lI b (mO.lit lI (l := [a, c]) (.cons (ys := C1 a.Op a.K a.lg.lh a.lg.lp u a.Kids.length z) (lj.mk ⟨a3, rfl, i⟩) (.cons (ys := C1 c.Op c.K c.lg.lh c.lg.lp y c.Kids.length G) (lj.mk ⟨o, rfl, j⟩) .nil)) rfl nb rfl)
 refine bS hm fun g T hm => ?_
 let q : Value := (.int .i64 ((g.1).Op))
 let a2 : Value := (.string (((g.1).lg).lp))
 let n : Value := (.string (((g.1).lg).lh))
 refine VE (eD b (bH _) call132 (fun A => (FV (⟨2, 0, K0, [a, c]⟩ : Formula) (.slice (some ⟨I, 0, none⟩) 2 2) _ _ A (U.mono lI.mono (lP.refl _)) T)) ?_ (L0 := []))
 rintro _ a9 P a4 b M h ⟨L, H, rfl, J⟩
 obtain rfl := H.symm
 refine Wx rfl (Wx rfl ?_)
 obtain ⟨x, D, rfl⟩ := J.form
 let a0 : Value := (.slice x ((g.1).Kids).length D)
 let Q : Value := (.agg #[q, (.int .i64 ((g.1).K)), n, a2, a0])
 refine VO (lL Q (#[q, (.int .i64 ((g.1).K)), n, a2, a0]) b rfl rfl aC oc nb rfl (fun F b => Wa (ln ?_)))
 replace b := b.ll (Kb (Db (Db St)))
 refine mi ?_
 obtain rfl := sj hm
 exact sF (v0 := Q) (v1 := (.int .i64 g.2)) rfl rfl (lB b.has Mh [q, (.int .i64 ((g.1).K)), n, a2, a0] rfl bB aC) rfl ⟨_, _, _, rfl, (b.nF Sn), (K.trans M), (d.trans h), (ST.mE b (nS.mem Sn)), a0, rfl, rfl, J⟩
theorem KJ (d1 : Value) (a0 : List Formula) (r : (Formula × Int)) (w : World) {μ0 : lZ} (h0 : oT μ0 [] w) (c7 : Sl lj 5 μ0 d1 a0) (hm : xc a0 = some r) :
  nm false pg0 71 [d1] w μ0 [] (fun v L1 μ1 => ∃ y1, v = (.tuple #[(.agg #[(.int .i64 ((r.1).Op)), (.int .i64 ((r.1).K)), (.string (((r.1).lg).lh)), (.string (((r.1).lg).lp)), y1]), (.int .i64 (r.2))]) ∧ L1 = [] ∧ Sl lj 5 μ1 y1 ((r.1).Kids)) := by
 let e5 := (a0.drop (Int.toNat 1))
 refine uW h0 36 func71 rfl (fun b => sg (VE (ml b bI (fun W2 F b => Wa (lr (Wm (bS hm fun x6 e3 hm => VQ (nM (i := 0) (x0 := x6) lj.out aF aC rfl rfl c7 (mc e3) (lU e3)) (fun p3 ⟨_, ⟨v8, rfl, f2⟩, f1⟩ => V (lq rfl (ma b.has f1 bB aC)) (bS hm fun j e6 hm => ?_)))))))))
 refine VE (eD b (bH _) call132 (fun hh => (FV x6 v8 _ _ hh (f2.mono lI.mono (lP.refl _)) e6)) ?_ (L0 := []))
 rintro _ i4 a9 i0 b a4 n ⟨i5, b6, rfl, d0⟩
 obtain rfl := b6.symm
 refine Wm (Wx rfl (Wx rfl (VE (ml b bI (fun i2 L b => ?_)))))
 obtain ⟨c2, c5, rfl⟩ := d0.form
 let d2 : Value := (.slice c2 ((j.1).Kids).length c5)
 refine VO (lL (.agg #[(.int .i64 ((j.1).Op)), (.int .i64 ((j.1).K)), (.string (((j.1).lg).lh)), (.string (((j.1).lg).lp)), d2]) (#[(.int .i64 ((j.1).Op)), (.int .i64 ((j.1).K)), (.string (((j.1).lg).lh)), (.string (((j.1).lg).lp)), d2]) b rfl rfl aC oc nb rfl (fun i3 b => Wa (lS (Wm (bS hm fun _ c8 hm => VQ (FQ (i := 1) aF aC rfl rfl (c7.mono lI.mono a4) (uw c8) (um c8)) (fun f3 b5 => V (mS aF rfl b5.1) (Wm (ln (CJ hm (fun u E W => ∃ s U c3, lP a9 U ∧ Lo (keys []) w a9 U ∧ ST false (keys []) w W U ((L, Ob #[(.int .i64 u.2.1), (.int .i64 u.2.2.1), (.string u.2.2.2.1.lh), (.string u.2.2.2.1.lp), s] 58) :: ((F, Ol C6 58) :: c3)) ∧ E 2 = (.pointer (some ⟨F, 0, none⟩)) ∧ E 4 = (.pointer (some ⟨L, 0, none⟩)) ∧ E 5 = (.int .i64 u.1) ∧ Sl lj 5 U s u.2.2.2.2) (fun u d7 => ?_) ?_)))))))))
 ·refine mQ (fun i E W => ∃ A G H y x N z P, (E 18 = .int .i64 (i : Nat) ∧ E 17 = .int .i64 (e5.length : Nat)) ∧ lP a9 z ∧ Lo (keys []) w a9 z ∧ ST false (keys []) w W z ((L, Ob #[(.int .i64 G), (.int .i64 H), (.string y.lh), (.string y.lp), x] 58) :: ((F, Ol C6 58) :: P)) ∧ E 2 = (.pointer (some ⟨F, 0, none⟩)) ∧ E 4 = (.pointer (some ⟨L, 0, none⟩)) ∧ E 5 = (.int .i64 A) ∧ E 16 = f3 ∧ Sl lj 5 z x N ∧ uz (e5.drop i) A G H y N = some u) e5.length b5.1.len ⟨j.2, ((j.1).Op), ((j.1).K), ((j.1).lg), d2, ((j.1).Kids), a9, _, ⟨rfl, rfl⟩, (lP.refl _), Lo.refl, (b.ll St), rfl, rfl, rfl, rfl, d0, d7⟩ dc dc dc (fun _ _ _ h => by obtain ⟨_, _, _, _, _, _, _, _, aa, _⟩ := h; exact aa) ?_ ?_
  ·rintro e7 E W d6 ⟨A, G, H, y, x, N, z, P, ⟨eI, eN⟩, t, d, b, a2, D, a3, R, I, c⟩
   obtain ⟨a, f6, e1, e0, e2⟩ := mA d6
   rw [e1] at c
   refine bg (VQ (nM (i := (e7 : Int)) (x0 := a) lj.out aF aC R eI (b5.1.mono lI.mono t) (aJ _) e0) (fun h1 ⟨_, ⟨h4, rfl, c0⟩, d8⟩ => V (lq rfl (ma b.has d8 bB aC)) (VE (ml b bI (fun g2 g8 b => ?_)))))
   obtain ⟨Y, Z, rfl⟩ := c0.form
   let b8 := (C1 a.Op a.K a.lg.lh a.lg.lp Y a.Kids.length Z)
   refine VO (lL (.agg b8.toArray) (b8.toArray) b rfl rfl aC oc nb rfl (fun g3 b => lS (Wh a3 (Wi rfl (ln (CI c rfl (fun d5 c => ?_) (fun d5 c => ?_)))))))
   ·refine oI (ow (Sj (by simp) (ow (sU (lD ?_)))))
    obtain rfl := sj c
    exact ⟨x, z, _, t, d, (b.ll (Db St)), a2, D, a3, I⟩
   refine kn (lG (V (lq D (lB b.has (Mt Mh) [(.int .i64 G), (.int .i64 H), (.string y.lh), (.string y.lp), x] rfl bB aC)) (VA b Mh b8 bB aC (bS c fun g d9 c => ?_))))
   refine VE (eD b (bH _) call133 (fun hh => (IU (⟨G, H, y, N⟩ : Formula) x a (.slice Y a.Kids.length Z) _ _ hh (I.mono lI.mono (lP.refl _)) (c0.mono lI.mono (lP.refl _)) d9)) ?_ (L0 := []))
   rintro _ h5 f0 f9 b c9 o ⟨h8, a5, rfl, c1⟩
   obtain rfl := a5.symm
   refine Wm (Wx rfl (Wx rfl ?_))
   obtain ⟨b0, b3, rfl⟩ := c1.form
   let d3 : Value := (.slice b0 ((g.1).Kids).length b3)
   replace b := b.perm (Nb (Pb Pz) Nz)
   refine VO (lL (.agg #[(.int .i64 ((g.1).Op)), (.int .i64 ((g.1).K)), (.string (((g.1).lg).lh)), (.string (((g.1).lg).lp)), d3]) (#[(.int .i64 ((g.1).Op)), (.int .i64 ((g.1).K)), (.string (((g.1).lg).lh)), (.string (((g.1).lg).lp)), d3]) b D rfl aC oc nb rfl (fun g7 b => Wa (me (ms (lD ?_)))))
   replace b := b.ll (Kb (Db St))
   exact ⟨eI, g.2, ((g.1).Op), ((g.1).K), ((g.1).lg), d3, ((g.1).Kids), f0, _, ⟨rfl, eN⟩, (t.trans c9), (d.trans o), (b.ll St), a2, D, rfl, R, c1, (by rw [e2]; exact c)⟩
  rintro E W ⟨A, G, H, y, x, N, z, P, ⟨eI, eN⟩, t, d, b, a2, D, a3, R, I, c⟩
  rw [aP] at c
  refine lD ?_
  obtain rfl := sj c
  exact ⟨x, z, _, t, d, (b.ll St), a2, D, a3, I⟩
 rintro ⟨e8, Q, T, k, M⟩ E W ⟨s, U, c3, a8, l, b, q, e4, c6, b9⟩ B
 refine lH (sg (Wh c6 (Wi rfl (ln (CI B rfl (fun d4 B => ?_) (fun d4 B => ?_))))))
 ·refine sg (V (nT (v := (.agg C6.toArray)) sC (nq bI cK (BI _ cK) kr)) (Wh c6 ?_))
  replace b := b.perm (Nb (Pb Pz) Nz)
  refine VO (lL (.agg C6.toArray) (C6.toArray) b q rfl aC oc nb rfl (fun g0 b => Wa (ln ?_)))
  replace b := b.ll (Kb (Db St))
  refine mi (mo ?_)
  obtain rfl := sj B
  exact sF (v0 := (.agg C6.toArray)) (v1 := (.int .i64 e8)) rfl q (lB b.has Mh C6 rfl bB aC) rfl ⟨_, _, _, rfl, (b.nF Sn), (a4.trans a8), (n.trans l), (ST.mE b (nS.mem Sn)), (.slice none 0 0), rfl, rfl, (Sl.nil _ _ _)⟩
 refine kg (V (lq e4 (lB b.has Mh [(.int .i64 Q), (.int .i64 T), (.string k.lh), (.string k.lp), s] rfl bB aC)) ?_)
 obtain ⟨J, K, rfl⟩ := b9.form
 let O := (C1 Q T k.lh k.lp J M.length K)
 replace b := b.perm (Nb (Pb Pz) Nz)
 refine VO (lL (.agg O.toArray) (O.toArray) b q rfl aC oc nb rfl (fun g1 b => Wa (ln ?_)))
 replace b := b.ll (Kb (Db St))
 refine mi ?_
 obtain rfl := sj B
 exact sF (v0 := (.agg O.toArray)) (v1 := (.int .i64 0)) rfl q (lB b.has Mh O rfl bB aC) rfl ⟨_, _, _, rfl, (b.nF Sn), (a4.trans a8), (n.trans l), (ST.mE b (nS.mem Sn)), (.slice J M.length K), rfl, rfl, b9⟩
theorem Bq (k : lm) (G H : Value) (q : lf) (r : (Formula × Int)) (w : World) {μ0 : lZ} (h0 : oT μ0 [] w) (t : Sl mn 15 μ0 G k.lJ) (y : Sl mW 8 μ0 H k.mf) (hm : wN k q = some r) :
  nm false pg0 23 [(.agg #[(.string k.Name), G, H]), (.agg (li q).toArray)] w μ0 [] (fun v L1 μ1 => ∃ y1, v = (.tuple #[(.agg #[(.int .i64 ((r.1).Op)), (.int .i64 ((r.1).K)), (.string (((r.1).lg).lh)), (.string (((r.1).lg).lp)), y1]), (.int .i64 (r.2))]) ∧ L1 = [] ∧ Sl lj 5 μ1 y1 ((r.1).Kids)) := by
 refine uW h0 41 func23 rfl (fun b => sg ?_)
 obtain ⟨A1, c2, rfl⟩ := t.form
 obtain ⟨A3, R, rfl⟩ := y.form
 let f5 := (C8 k.Name A1 k.lJ.length c2 A3 k.mf.length R)
 refine VE (mG b rfl (fun W6 b5 b => VE (mG b rfl (fun W8 b7 b => VE (ml b bI (fun i4 b9 b => Wa (lr (VA b (Mt (Mt Mh)) f5 gA fD (VA b (Mt Mh) (li q) bP aH (bS hm fun a e7 hm => ?_))))))))))
 let b8 : Value := (.int .i64 (((a.1).ly).K))
 let s : Value := (.int .i64 (((a.1).ly).Op))
 let b1 := (((a.1).ly).lg)
 let A : Value := (.string (b1.lp))
 let d8 : Value := (.string (b1.lh))
 let a0 := (((a.1).Signed).lf)
 refine VE (eD b (bH _) call69 (fun F => (Kp k (.slice A1 k.lJ.length c2) (.slice A3 k.mf.length R) q _ _ F (t.mono mI.mono (lP.refl _)) (y.mono nY.mono (lP.refl _)) e7)) ?_ (L0 := []))
 rintro _ j4 j8 i2 b I d ⟨j6, j7, a5, rfl, e9, c5⟩
 obtain rfl := a5.symm
 refine Wm (Wx rfl (Wx rfl (VE (ml b gx (fun i6 j3 b => ?_)))))
 obtain ⟨d9, e1, rfl⟩ := e9.form
 let f8 : Value := (.slice d9 (((a.1).Signed).Tag).length e1)
 obtain ⟨z, D, rfl⟩ := c5.form
 let a2 : Value := (.slice z (((a.1).ly).Kids).length D)
 refine VO (lL (.agg #[(.int .i64 (a0.Kind)), (.string ((a0.Head).lh)), (.string ((a0.Head).lp)), (.string (a0.lM)), (.string ((a0.B).lh)), (.string ((a0.B).lp)), (.string ((a0.C).lh)), (.string ((a0.C).lp)), (.string (a0.lN)), f8, s, b8, d8, A, a2]) (#[(.int .i64 (a0.Kind)), (.string ((a0.Head).lh)), (.string ((a0.Head).lp)), (.string (a0.lM)), (.string ((a0.B).lh)), (.string ((a0.B).lp)), (.string ((a0.C).lh)), (.string ((a0.C).lp)), (.string (a0.lN)), f8, s, b8, d8, A, a2]) b rfl rfl dW oc nb rfl (fun i7 b => Wa (lS (Wm (V (ot rfl) (ln (CI hm rfl (fun e6 hm => ?_) (fun e6 hm => ?_))))))))
 ·refine sg (V (nT (v := (.agg C6.toArray)) sC (nq bI cK (BI _ cK) kr)) ?_)
  replace b := b.perm (Nb (Pb Pz) Nz)
  refine VO (lL (.agg C6.toArray) (C6.toArray) b rfl rfl aC oc nb rfl (fun i8 b => Wa (ln ?_)))
  replace b := b.ll (Kb (Db (Db (Db St))))
  refine mi (mo ?_)
  obtain rfl := sj hm
  exact sF (v0 := (.agg C6.toArray)) (v1 := (.int .i64 42)) rfl rfl (lB b.has Mh C6 rfl bB aC) rfl ⟨_, _, _, rfl, (b.nF Sn), I, d, (ST.mE b (nS.mem Sn)), (.slice none 0 0), rfl, rfl, (Sl.nil _ _ _)⟩
 refine kg (Wf J0 (VA b Mh [s, b8, d8, A, a2] bB aC (VE (mh (cs := #[s, b8, d8, A, a2]) b (om rfl) (oH aF aC bI) (fun i9 e0 b => Wa (ln ?_))))))
 replace b := b.ll (Kb (Db St))
 refine lH (sg (VA b (Mt (Mt (Mt Mh))) f5 gA fD (VA b (Mt (Mt Mh)) (li q) bP aH (bS hm fun c6 e8 hm => ?_))))
 refine VE (eD b (bH _) call70 (fun F => (I3 k (.slice A1 k.lJ.length c2) (.slice A3 k.mf.length R) q _ _ F (t.mono mI.mono I) (y.mono nY.mono I) e8)) ?_ (L0 := []))
 rintro _ j5 e2 i3 b a8 L ⟨f6, a6, rfl, P⟩
 obtain rfl := a6.symm
 refine V (mS cZ rfl P) (Wm (ln ?_))
 replace b := b.ll (Kb (Kb (Db (Db St))))
 replace b := b.Gt
 refine mQ (fun i E W => ∃ Q N K Z, (E 27 = .int .i64 (i : Nat) ∧ E 26 = .int .i64 (c6.length : Nat)) ∧ ST false (keys []) w W e2 ((b9, Ol C6 58) :: (K ++ Z)) ∧ E 4 = (.pointer (some ⟨b9, 0, none⟩)) ∧ E 8 = Q ∧ E 25 = f6 ∧ mO 58 lj 5 e2 Q N K ∧ vc (c6.drop i) N = some r) c6.length P.len ⟨(.slice (some ⟨e0, 0, none⟩) 1 1), ([(a.1).ly]), [(e0, Ob #[s, b8, d8, A, a2] 58)], _, ⟨rfl, rfl⟩, (b.ll (Sb (Pr Pz) St)), rfl, rfl, rfl, (mO.lit lI (l := [(a.1).ly]) (.cons (ys := [s, b8, d8, A, a2]) (lj.mk ⟨a2, rfl, (c5.mono lI.mono a8)⟩) .nil) rfl nb rfl), hm⟩ dc dc dc (fun _ _ _ h => by obtain ⟨_, _, _, _, aa, _⟩ := h; exact aa) ?_ ?_
 ·rintro f0 E W d0 ⟨Q, N, K, Z, ⟨eI, eN⟩, b, T, a3, a4, U, j⟩
  obtain ⟨c, f7, d6, d5, d7⟩ := mA d0
  rw [d6] at j
  refine bg (VQ (nM (i := (f0 : Int)) (x0 := c) mW.out cZ eK a4 eI P (aJ _) d5) (fun h2 ⟨_, ⟨h5, h6, rfl, a9, d3⟩, d1⟩ => V (lq rfl (ma b.has d1 lc eK)) (VE (ml b jj (fun g0 g8 b => ?_)))))
  obtain ⟨u, x, rfl⟩ := a9.form
  let c7 := (C1 c.ly.Op c.ly.K c.ly.lg.lh c.ly.lg.lp u c.ly.Kids.length x)
  obtain ⟨b2, b6, rfl⟩ := d3.form
  let c0 := (C5 c.lg.lh c.lg.lp c.ly.Op c.ly.K c.ly.lg.lh c.ly.lg.lp u c.ly.Kids.length x b2 c.ns.length b6)
  refine VO (lL (.agg c0.toArray) (c0.toArray) b rfl rfl eK oc nb rfl (fun g1 b => ln (lG (Wh a3 (Wf Ku (VA b Mh c7 bB aC (VE (mh (cs := c7.toArray) b (om rfl) (oH aF aC bI) (fun g2 g9 b => ?_)))))))))
  replace b := b.perm (Nr (Qb (Qb (Qb Qz))) Nz)
  refine bS j fun f1 c9 j => VE (wm (B := K) lI b dc aF qi.1 qi.2.1 rfl qi.2.2.1 qi.2.2.2 rfl rfl U (Dn.lit lI (l := [c.ly]) (.cons (ys := C1 c.ly.Op c.ly.K c.ly.lg.lh c.ly.lg.lp u c.ly.Kids.length x) (lj.mk ⟨(.slice u c.ly.Kids.length x), rfl, a9⟩) .nil) rfl nb (b.at_ (Ma Mh))) c9 (fun g3 f2 e3 b c8 => Wa (me (ms (lD ?_)))))
  replace b := b.ll (Kr (Db (Db St)))
  exact ⟨eI, f2, f1, e3, _, ⟨rfl, eN⟩, (b.ll (Sb (Pr Pz) St)), T, rfl, a4, c8, (by rw [d7]; exact j)⟩
 rintro E W ⟨Q, N, K, Z, ⟨eI, eN⟩, b, T, a3, a4, U, j⟩
 rw [aP] at j
 refine lD (sg (Wh a3 ?_))
 replace b := b.perm (Nr (Qb Qz) Nz)
 obtain ⟨i0, b, c1, n, d4⟩ := ST.xi lI b U
 refine bS j fun g d2 j => ?_
 let g4 : Value := (.int .i64 ((g.1).Op))
 let f4 : Value := (.string (((g.1).lg).lp))
 let f3 : Value := (.string (((g.1).lg).lh))
 refine VE (eD b (bH _) call71 (fun F => (KJ Q N _ _ F (d4.mono lI.mono (lP.refl _)) d2)) ?_ (L0 := []))
 rintro _ h7 i1 f9 b c3 o ⟨h8, Y, rfl, b0⟩
 obtain rfl := Y.symm
 refine Wx rfl (Wx rfl ?_)
 obtain ⟨J, M, rfl⟩ := b0.form
 let O : Value := (.slice J ((g.1).Kids).length M)
 let b4 : Value := (.agg #[g4, (.int .i64 ((g.1).K)), f3, f4, O])
 refine VO (lL b4 (#[g4, (.int .i64 ((g.1).K)), f3, f4, O]) b T rfl aC oc nb rfl (fun g7 b => Wa (lt ?_)))
 obtain rfl := sj j
 exact sF (v0 := b4) (v1 := (.int .i64 g.2)) rfl T (lB b.has Mh [g4, (.int .i64 ((g.1).K)), f3, f4, O] rfl bB aC) rfl ⟨_, _, _, rfl, (b.nF Sn), (((I.trans a8).trans c1).trans c3), (((d.trans L).trans n).trans o), (ST.mE b (nS.mem Sn)), O, rfl, rfl, b0⟩
theorem FD (a : mg) (g c : Value) (H : Nat) (y : ByteArray) (i : Value) (t : List mg) (j : Value) (x : List nQ) (r : Bool) (w : World) (u : Sl (Pl (mj .u8)) 1 (hp w) g a.Signed.Tag) (k : Sl lj 5 (hp w) c a.ly.Kids) (B : Sl mn 15 (hp w) i t) (D : Sl mW 8 (hp w) j x) (I : At (hp w) (.pointer (some ⟨H, 0, none⟩)) [(.string y), i, j]) (hm : vI a y t x = some r) :
  lV false pg0 203 [(.agg #[(.int .i64 a.Signed.lf.Kind), (.string a.Signed.lf.Head.lh), (.string a.Signed.lf.Head.lp), (.string a.Signed.lf.lM), (.string a.Signed.lf.B.lh), (.string a.Signed.lf.B.lp), (.string a.Signed.lf.C.lh), (.string a.Signed.lf.C.lp), (.string a.Signed.lf.lN), g, (.int .i64 a.ly.Op), (.int .i64 a.ly.K), (.string a.ly.lg.lh), (.string a.ly.lg.lp), c]), (.pointer (some ⟨H, 0, none⟩))] w (.bool r) := by
 refine cG 16 func203 rfl (fun b => sg ?_)
 obtain ⟨U, Z, rfl⟩ := u.form
 obtain ⟨Y, s, rfl⟩ := k.form
 refine VE (mG b rfl (fun W6 q b => Wa (lr (V (lq rfl (ma b.has I gA fD)) (Wf xF (Wf tF (VA b Mh (li a.Signed.lf) bP aH (bS hm fun z Q hm => ?_))))))))
 refine VE (eD b (bH _) call23 (fun h => (Bq (⟨y, t, x⟩ : lm) i j a.Signed.lf _ _ h (B.mono mI.mono (lP.refl _)) (D.mono nY.mono (lP.refl _)) Q)) ?_ (L0 := []))
 rintro _ l o a2 b T d ⟨n, G, rfl, N⟩
 obtain rfl := G.symm
 refine Wm (Wx rfl (Wx rfl (VE (ml b bI (fun a3 a5 b => ?_)))))
 obtain ⟨J, K, rfl⟩ := N.form
 refine VO (lL (.agg #[(.int .i64 ((z.1).Op)), (.int .i64 ((z.1).K)), (.string (((z.1).lg).lh)), (.string (((z.1).lg).lp)), (.slice J ((z.1).Kids).length K)]) (#[(.int .i64 ((z.1).Op)), (.int .i64 ((z.1).K)), (.string (((z.1).lg).lh)), (.string (((z.1).lg).lp)), (.slice J ((z.1).Kids).length K)]) b rfl rfl aC oc nb rfl (fun a4 b => Wa (ln ?_)))
 replace b := b.ll (Db (Db St))
 exact sg (Wm (Wi rfl (Wa (lt (rQ hm b)))))
theorem HV (c : lm) (g j : Value) (r : Bool) (w : World) (a : Sl mn 15 (hp w) g c.lJ) (i : Sl mW 8 (hp w) j c.mf) (hm : xT c = some r) :
  lV false pg0 143 [(.agg #[(.string c.Name), g, j])] w (.bool r) := by
 refine cG 8 func143 rfl (fun b => sg ?_)
 obtain ⟨k, u, rfl⟩ := a.form
 obtain ⟨y, z, rfl⟩ := i.form
 refine VE (mG b rfl (fun I t b => Wa (lr (Wf zo (VB b Mh rfl rfl ko (V (tw (by exact uT rfl) rfl) (bS hm fun K D hm => VE (Eg b call202 (zV (.slice k c.lJ.length u) c.lJ (.func (.func 203) #[] #[(.pointer (some ⟨t, 0, none⟩))]) (fun (x : mg) => vI x c.Name c.lJ c.mf) _ _ (a.mono mI.mono b.lx) ⟨203, #[], #[(.pointer (some ⟨t, 0, none⟩))], rfl, call203, fun W x vs r d h hm => by obtain ⟨_, rfl, B⟩ := h; obtain ⟨G, H, rfl, l, n⟩ := B.out; exact FD x G H t c.Name (.slice k c.lJ.length u) c.lJ (.slice y c.mf.length z) c.mf r W l n (a.mono mI.mono (b.lx.trans d)) (i.mono nY.mono (b.lx.trans d)) (At.of (d _ _ (b.at_ Mh)) _ rfl) hm⟩ D) (fun J b => V (ot rfl) (Wa (ln ?_)))))))))))
 exact mi (rQ hm b)
theorem D6 (a : lm) (u x : Value) (r : Int) (w : World) (g : Sl mn 15 (hp w) u a.lJ) (c : Sl mW 8 (hp w) x a.mf) (hm : wT a = some r) :
  lV false pg0 79 [(.agg #[(.string a.Name), u, x])] w (.int .i64 r) := by
 refine cG 26 func79 rfl (fun b => sg ?_)
 obtain ⟨D, G, rfl⟩ := g.form
 let b8 : Value := (.slice D a.lJ.length G)
 obtain ⟨z, B, rfl⟩ := c.form
 let a4 : Value := (.slice z a.mf.length B)
 let a0 := (C8 a.Name D a.lJ.length G z a.mf.length B)
 refine VE (mG b rfl (fun W6 d b => Wa (ln (lH (bg (Wf NF (VB b Mh rfl rfl cL (bS hm fun r7 o hm => VE (Eg b kZ (lV.ng (sc a.Name _ _  o)) (fun W9 b => V (ot rfl) (Wa (me ?_))))))))))))
 refine lD (CI hm rfl (fun Q hm => ?_) (fun Q hm => ?_))
 ·refine sg (Wa (ln ?_))
  replace b := b.ll (Db St)
  refine mi (nE (mo ?_))
  obtain rfl := sj hm
  exact rP b
 refine sg (VA b Mh a0 gA fD (bS hm fun A Z hm => VE (Eg b call140 (JH a b8 a4 _ _ (g.mono mI.mono b.lx) (c.mono nY.mono b.lx) Z) (fun a9 b => Wa (ln (CI hm rfl (fun T hm => ?_) (fun T hm => ?_)))))))
 ·refine sg (Wa (ln ?_))
  replace b := b.ll (Db St)
  refine mi (nE (mo ?_))
  obtain rfl := sj hm
  exact rP b
 refine sg (VA b Mh a0 gA fD (bS hm fun F h hm => VE (Eg b call141 (IM a b8 a4 _ _ (g.mono mI.mono b.lx) (c.mono nY.mono b.lx) h) (fun q b => V (ot rfl) (Wm (LJ hm (fun N E W => ∃ J, ST false mR w W (hp w) ((d, Ol a0 25) :: J) ∧ E 1 = (.pointer (some ⟨d, 0, none⟩)) ∧ E 20 = (.bool N)) 5 ?_ (fun N t I => ?_)))))))
 ·rintro P E W ⟨J, b, a5, l⟩ Y
  refine Wh l (LJ Y (fun M E W => ∃ K, ST false mR w W (hp w) K ∧ E 25 = (.bool M)) 4 ?_ (fun M k H => ?_))
  ·rintro R E W ⟨K, b, n⟩ y
   refine Wg n (ln (CI y rfl (fun U y => ?_) (fun U y => ?_)))
   ·refine sg (Wa (lt (nE (mo ?_))))
    obtain rfl := sj y
    exact rP b
   exact mX (ms (lD (sg (Wa (lt (rQ y b))))))
  refine bC k (fun j k => ?_) (fun j k => ?_)
  ·refine un j (un j (un j (V (lX (cB j) rfl) ?_)))
   obtain rfl := sj k
   exact H _ _ ⟨_, (b.ll (Db St)), rfl⟩
  refine ug j (lq a5 (lB b.has Mh a0 rfl gA fD)) (bS k fun L a2 k => vC j (Eg b call143 (HV a b8 a4 _ _ (g.mono mI.mono b.lx) (c.mono nY.mono b.lx) a2) (fun s b => ug j (ot rfl) (V (lW (cB j) rfl) ?_))))
  obtain rfl := sj k
  exact H _ _ ⟨_, (b.ll (Db St)), rfl⟩
 refine bC t (fun i t => ?_) (fun i t => ?_)
 ·refine un i (un i (un i (un i (V (lX (cB i) rfl) ?_))))
  obtain rfl := sj t
  exact I _ _ ⟨_, (b.ll St), rfl, rfl⟩
 refine ug i (lA EP rfl) (ug i (lq rfl (lK b.has Mh rfl isAgg23)) (bS t fun O a3 t => vC i (Eg b call142 (KB a4 a.mf _ _ (c.mono nY.mono b.lx) a3) (fun v b => ug i (ot rfl) (V (lW (cB i) rfl) ?_)))))
 obtain rfl := sj t
 exact I _ _ ⟨_, (b.ll St), rfl, rfl⟩
theorem JL (a : lm) (k z : Value) (B : ByteArray) (I : Int) (r : (mY × Int)) (w : World) {M : lZ} (h0 : oT M [] w) (g : Sl mn 15 M k a.lJ) (i : Sl mW 8 M z a.mf) (hm : xD a B I = some r) :
  nm false pg0 54 [(.agg #[(.string a.Name), k, z]), (.string B), (.int .i64 I)] w M [] (fun v L1 N => ∃ o q s A F a9, v = (.tuple #[(.agg #[(.string (((r.1).lm).Name)), o, q, (.string ((r.1).mx)), (.int .i64 ((r.1).Room)), s, A, F, a9]), (.int .i64 (r.2))]) ∧ L1 = [] ∧ Sl mn 15 N o (((r.1).lm).lJ) ∧ Sl mW 8 N q (((r.1).lm).mf) ∧ Sl (Pl li) 9 N s ((r.1).lE) ∧ Sl (Pl li) 9 N A ((r.1).Shown) ∧ Sl (Pl lu) 2 N F ((r.1).lT) ∧ Sl (Pl lu) 2 N a9 ((r.1).mH)) := by
 refine uW h0 33 func54 rfl (fun b => sg ?_)
 obtain ⟨t, x, rfl⟩ := g.form
 obtain ⟨u, y, rfl⟩ := i.form
 let d := (C8 a.Name t a.lJ.length x u a.mf.length y)
 let a0 := (Ue a.Name t a.lJ.length x u a.mf.length y B I)
 refine VE (mG b rfl (fun W6 Q b => VE (ml b la (fun W8 T b => Wa (lr (VA b (Mt Mh) d gA fD (bS hm fun r9 b4 hm => VE (Eg b call79 (D6 a (.slice t a.lJ.length x) (.slice u a.mf.length y) _ _ (g.mono mI.mono b.lx) (i.mono nY.mono b.lx) b4) (fun d7 b => Wa (ln (lH (CJ hm (fun l E W => ∃ U, ST false (keys []) w W M ((T, Ol Kz 36) :: ((Q, Ol d 25) :: U)) ∧ E 1 = (.string B) ∧ E 2 = (.int .i64 I) ∧ E 3 = (.pointer (some ⟨Q, 0, none⟩)) ∧ E 6 = (.pointer (some ⟨T, 0, none⟩)) ∧ E 8 = (.int .i64 l)) (fun l c => ?_) ?_))))))))))))
 ·refine bg (Wm (Wi rfl (Wa (ln (CI c rfl (fun O c => ?_) (fun O c => ?_))))))
  ·refine mX (ms (lD ?_))
   obtain rfl := sj c
   exact ⟨_, (b.ll St), rfl, rfl, rfl, rfl, rfl⟩
  refine sg (Wm (bS c fun e1 b6 c => VE (Eg b kZ (lV.ng (sc B _ _  b6)) (fun e0 b => V (ot rfl) (Wa (ln (CI c rfl (fun P c => ?_) (fun P c => ?_))))))))
  ·refine lG (Wa (me (ms (lD ?_))))
   obtain rfl := sj c
   exact ⟨_, (b.ll St), rfl, rfl, rfl, rfl, rfl⟩
  refine sg (Wm (Wi rfl (Wm (LJ c (fun n E W => ∃ Y, ST false (keys []) w W M ((T, Ol Kz 36) :: ((Q, Ol d 25) :: Y)) ∧ E 1 = (.string B) ∧ E 2 = (.int .i64 I) ∧ E 3 = (.pointer (some ⟨Q, 0, none⟩)) ∧ E 6 = (.pointer (some ⟨T, 0, none⟩)) ∧ E 8 = (.int .i64 r9) ∧ E 24 = (.bool n)) 3 ?_ (fun n H K => ?_)))))
  ·rintro e2 E W ⟨Y, b, a3, a4, a5, h, c3, c5⟩ G
   refine Wg c5 (ln (CI G rfl (fun R G => ?_) (fun R G => ?_)))
   ·refine lG (Wa (me (ms (lD ?_))))
    obtain rfl := sj G
    exact ⟨_, (b.ll St), a3, a4, a5, h, rfl⟩
   refine mX (ms (lD ?_))
   obtain rfl := sj G
   exact ⟨_, (b.ll St), a3, a4, a5, h, c3⟩
  refine bC H (fun j H => ?_) (fun j H => ?_)
  ·refine un j (un j (V (lX (cB j) rfl) ?_))
   obtain rfl := sj H
   exact K _ _ ⟨_, (b.ll St), rfl, rfl, rfl, rfl, rfl, rfl⟩
  refine ug j (lz rfl) (ug j (mz rfl rfl rfl) (V (lW (cB j) rfl) ?_))
  obtain rfl := sj H
  exact K _ _ ⟨_, (b.ll St), rfl, rfl, rfl, rfl, rfl, rfl⟩
 rintro c6 E W ⟨U, b, b9, c0, c1, J, Z⟩ D
 refine lH (sg (Wh Z (Wi rfl (ln (CI D rfl (fun L D => ?_) (fun L D => ?_))))))
 ·refine sg (V (nT (v := (.agg Kz.toArray)) sC (nq la fC (R0 _ fC) kr)) (Wh Z (VO (lL (.agg Kz.toArray) (Kz.toArray) b J rfl fM oc nb rfl (fun d8 b => Wa (ln ?_))))))
  replace b := b.ll (Kb (Db St))
  refine mi (mo ?_)
  obtain rfl := sj D
  exact sF (v0 := (.agg Kz.toArray)) (v1 := (.int .i64 c6)) rfl J (lB b.has Mh Kz rfl ic fM) rfl ⟨_, _, _, rfl, (b.nF Sn), (lP.refl _), Lo.refl, (ST.mE b (nS.mem Sn)), (.slice none 0 0), (.slice none 0 0), (.slice none 0 0), (.slice none 0 0), (.slice none 0 0), (.slice none 0 0), rfl, rfl, (Sl.nil _ _ _), (Sl.nil _ _ _), (Sl.nil _ _ _), (Sl.nil _ _ _), (Sl.nil _ _ _), (Sl.nil _ _ _)⟩
 refine kg (V (lq c1 (lB b.has (Mt Mh) d rfl gA fD)) (Wh b9 (Wh c0 (V (nT (v := (.agg a0.toArray)) (Fb rfl rfl rfl) (nq la fC (R0 _ fC) kr)) (VO (lL (.agg a0.toArray) (a0.toArray) b J rfl fM oc nb rfl (fun d9 b => Wa (ln ?_))))))))
 replace b := b.ll (Kb (Db St))
 refine mi ?_
 obtain rfl := sj D
 exact sF (v0 := (.agg a0.toArray)) (v1 := (.int .i64 0)) rfl J (lB b.has Mh a0 rfl ic fM) rfl ⟨_, _, _, rfl, (b.nF Sn), (lP.refl _), Lo.refl, (ST.mE b (nS.mem Sn)), (.slice t a.lJ.length x), (.slice u a.mf.length y), (.slice none 0 0), (.slice none 0 0), (.slice none 0 0), (.slice none 0 0), rfl, rfl, g, i, (Sl.nil _ _ _), (Sl.nil _ _ _), (Sl.nil _ _ _), (Sl.nil _ _ _)⟩
theorem AI (y : lm) (t x : Value) (D : lf) (r : (Signed × Bool)) (w : World) {M : lZ} (L : oT M [] w) (g : Sl mn 15 M t y.lJ) (z : Sl mW 8 M x y.mf) (hm : yy y D = some r) :
  nm true pg0 66 [(.agg #[(.string y.Name), t, x]), (.agg (li D).toArray)] w M [] (fun v L1 μ1 => ∃ A, v = (.tuple #[(.agg #[(.int .i64 (((r.1).lf).Kind)), (.string ((((r.1).lf).Head).lh)), (.string ((((r.1).lf).Head).lp)), (.string (((r.1).lf).lM)), (.string ((((r.1).lf).B).lh)), (.string ((((r.1).lf).B).lp)), (.string ((((r.1).lf).C).lh)), (.string ((((r.1).lf).C).lp)), (.string (((r.1).lf).lN)), A]), (.bool (r.2))]) ∧ L1 = [] ∧ Sl (Pl (mj .u8)) 1 μ1 A ((r.1).Tag)) := by
 refine uW L 24 func66 rfl (fun b => sg ?_)
 obtain ⟨A1, c2, rfl⟩ := g.form
 obtain ⟨A3, c4, rfl⟩ := z.form
 refine VE (mG b rfl (fun W6 b5 b => VE (mG b rfl (fun W8 o b => VE (ml b dG (fun d1 q b => Wa (lS (Wf zo (VB b (Mt (Mt Mh)) rfl rfl ko (V (mS dV rfl g) (Wm (ln ?_))))))))))))
 replace b := b.ll (Kb (Kb (Db St)))
 refine mQ (fun i E W => ∃ B, (E 11 = .int .i64 (i : Nat) ∧ E 10 = .int .i64 (y.lJ.length : Nat)) ∧ ST true (keys []) w W M ((q, Ol C7 55) :: ((o, Ol (li D) 52) :: B)) ∧ E 3 = (.pointer (some ⟨o, 0, none⟩)) ∧ E 4 = (.pointer (some ⟨q, 0, none⟩)) ∧ E 9 = (.slice A1 y.lJ.length c2) ∧ uE D (y.lJ.drop i) = some r) y.lJ.length g.len ⟨_, ⟨rfl, rfl⟩, (b.ll St), rfl, rfl, rfl, hm⟩ dc dc dc (fun _ _ _ h => by obtain ⟨_, l, _⟩ := h; exact l) ?_ ?_
 ·rintro F E W U ⟨B, ⟨d, s⟩, b, G, u, H, c⟩
  obtain ⟨a, c9, Z, Y, a2⟩ := mA U
  rw [Z] at c
  refine bg (VQ (nM (i := (F : Int)) (x0 := a) mn.out dV dW H d g (aJ _) Y) (fun c3 ⟨_, ⟨c7, c8, rfl, I, T⟩, Q⟩ => V (lq rfl (ma b.has Q kp dW)) (VE (ml b gx (fun O b6 b => ?_)))))
  obtain ⟨j, k, rfl⟩ := I.form
  let a0 := (C2 a.Signed.lf.Kind a.Signed.lf.Head.lh a.Signed.lf.Head.lp a.Signed.lf.lM a.Signed.lf.B.lh a.Signed.lf.B.lp a.Signed.lf.C.lh a.Signed.lf.C.lp a.Signed.lf.lN j a.Signed.Tag.length k)
  obtain ⟨J, K, rfl⟩ := T.form
  let n := (C3 a.Signed.lf.Kind a.Signed.lf.Head.lh a.Signed.lf.Head.lp a.Signed.lf.lM a.Signed.lf.B.lh a.Signed.lf.B.lp a.Signed.lf.C.lh a.Signed.lf.C.lp a.Signed.lf.lN j a.Signed.Tag.length k a.ly.Op a.ly.K a.ly.lg.lh a.ly.lg.lp J a.ly.Kids.length K)
  refine VO (lL (.agg n.toArray) (n.toArray) b rfl rfl dW oc nb rfl (fun P b => lr (Wf xF (Wf tF (VA b Mh (li a.Signed.lf) bP aH (V (lq G (lB b.has (Mt (Mt Mh)) (li D) rfl bP aH)) (V (AD rfl rfl (qV gC) (xe (xN _ a.Signed.lf D))) (ln (CI c rfl (fun N c => ?_) (fun N c => ?_))))))))))
  ·refine sg (Wf xF (VA b Mh a0 ib cT ?_))
   replace b := b.perm (Nb (Pb Pz) Nz)
   refine VO (lL (.agg a0.toArray) (a0.toArray) b u rfl cT oc nb rfl (fun R b => Wa (ln ?_)))
   replace b := b.ll (Kb (Db (Db St)))
   refine mi (nE (mo (nE (mo ?_))))
   obtain rfl := sj c
   exact sF (v0 := (.agg a0.toArray)) (v1 := (.bool true)) rfl u (lB b.has Mh a0 rfl ib cT) rfl ⟨_, _, _, rfl, (b.nF Sn), (lP.refl _), Lo.refl, (ST.mE b (nS.mem Sn)), (.slice j a.Signed.Tag.length k), rfl, rfl, I⟩
  refine mX (ms (lD ?_))
  replace b := b.ll (Db St)
  exact ⟨d, _, ⟨rfl, s⟩, (b.ll St), G, u, H, (by rw [a2]; exact c)⟩
 rintro E W ⟨B, ⟨d, s⟩, b, G, u, H, c⟩
 rw [aP] at c
 refine lD ?_
 replace b := b.ll (Kb (Db St))
 refine sg (V (nT (v := (.agg C7.toArray)) sC (nq dG fK (MB _ fK) kr)) (VO (lL (.agg C7.toArray) (C7.toArray) b u rfl cT oc nb rfl (fun b4 b => Wa (lt ?_)))))
 obtain rfl := sj c
 exact sF (v0 := (.agg C7.toArray)) (v1 := (.bool false)) rfl u (lB b.has Mh C7 rfl ib cT) rfl ⟨_, _, _, rfl, (b.nF Sn), (lP.refl _), Lo.refl, (ST.mE b (nS.mem Sn)), (.slice none 0 0), rfl, rfl, (Sl.nil _ _ _)⟩
theorem Kx (a : lf) (r : List lg) (w : World) (hm : zx a = some r) :
  nR true pg0 243 [(.agg (li a).toArray)] w 50 lu 2 r := by
 refine zh 27 func243 rfl (fun b => sg (VE (mG b rfl (fun W2 h b => Wa (lS (VA b Mh (li a) bP aH (bS hm fun r3 q hm => VE (Eg b call113 (xK a _ _  q) (fun W5 b => V (ot rfl) (me ?_))))))))))
 refine lD (CI hm rfl (fun o hm => ?_) (fun o hm => ?_))
 ·refine sg (Wa (ln ?_))
  replace b := b.ll (Db St)
  refine mi (mo ?_)
  obtain rfl := sj hm
  exact na (v := (.slice none 0 0)) rfl rfl ⟨_, [], rfl, b.px (fun p d => by cases d) (by simp), lR.nil _ _ _⟩
 refine kg (Wf uM (VA b Mh (lu a.Head) bO aN (VE (mh (cs := (lu a.Head).toArray) b (om rfl) (oH bK aN eG) (fun W8 y b => Wa (ln (lH (CJ hm (fun I E W => ∃ j i z, ST true mR w W (hp w) ((h, Ol (li a) 52) :: (i ++ z)) ∧ E 1 = (.pointer (some ⟨h, 0, none⟩)) ∧ E 3 = j ∧ lR 50 lu 2 j I i) (fun I g => ?_) ?_))))))))
 ·refine sg (Wf zr (VB b (Mt Mh) rfl rfl dD (Wi rfl (ln (CI g rfl (fun Q g => ?_) (fun Q g => ?_))))))
  ·refine lG (Wm (Wf rr (VA b (Mt Mh) (lu a.B) bO aN (VE (mh (cs := (lu a.B).toArray) b (om rfl) (oH bK aN eG) (fun L a4 b => ?_))))))
   replace b := b.perm (Nb (Pb Pz) Nz)
   refine bS g fun c0 T g => VE (pq (enc := lu) (v := (.slice (some ⟨y, 0, none⟩) 1 1)) (vs := (.slice (some ⟨a4, 0, none⟩) 1 1)) (R := [(y, Ol (lu a.Head) 50)]) b oU dc ra bK rM.1 rM.2.1 rfl rM.2.2.1 rM.2.2.2 rfl rfl (lR.lit (l := [a.Head]) (enc := lu) rfl dc rfl rfl) (Sl.lit (enc := lu) (l := [a.B]) oU rfl nb rfl (b.at_ (Mt Mh))) T (fun O a9 n b K => Wa (ln ?_)))
   obtain rfl := sj g
   exact ⟨a9, n, _, (b.ll (Sb (Pr (Pb Pz)) (Kr (Db St)))), rfl, rfl, K⟩
  refine kn ?_
  obtain rfl := sj g
  replace b := b.Gt
  exact ⟨(.slice (some ⟨y, 0, none⟩) 1 1), [(y, Ol (lu a.Head) 50)], _, (b.ll (Sb (Pr Pz) St)), rfl, rfl, (lR.lit (l := [a.Head]) (enc := lu) rfl dc rfl rfl)⟩
 rintro P E W ⟨j, i, z, b, D, G, u⟩ U
 refine lH (CJ U (fun H E W => ∃ t k B, ST true mR w W (hp w) (k ++ B) ∧ E 3 = t ∧ lR 50 lu 2 t H k) (fun H c => ?_) ?_)
 ·refine sg (V (lA zr D) (VB b Mh rfl rfl dD (Wi rfl (ln (CI c rfl (fun M c => ?_) (fun M c => ?_))))))
  ·refine lG (Wh G (V (lA zm D) (VA b Mh (lu a.C) bO aN (VE (mh (cs := (lu a.C).toArray) b (om rfl) (oH bK aN eG) (fun A a3 b => ?_))))))
   replace b := b.perm (Nr (Qb (Qb Qz)) Nz)
   refine bS c fun b9 N c => VE (pq (enc := lu) (v := j) (vs := (.slice (some ⟨a3, 0, none⟩) 1 1)) (R := i) b oU dc ra bK rM.1 rM.2.1 rfl rM.2.2.1 rM.2.2.2 rfl rfl u (Sl.lit (enc := lu) (l := [a.C]) oU rfl nb rfl (b.at_ (Ma Mh))) N (fun F s Z b J => Wa (ln ?_)))
   obtain rfl := sj c
   exact ⟨s, Z, _, (b.ll (Kr (Db (Db St)))), rfl, J⟩
  refine kn ?_
  obtain rfl := sj c
  exact ⟨j, i, _, (b.ll (Db St)), G, u⟩
 rintro b6 E W ⟨t, k, B, b, a5, x⟩ Y
 refine sg (Wh a5 (Wa (lt ?_)))
 obtain rfl := sj Y
 exact na (v := t) rfl rfl ⟨_, k, rfl, b.px (fun p d => (Ml d)) x.nd, x⟩
theorem DY (M : Nat) (u : Value) (a9 : List (lg × (List (ByteArray × Bool)))) (G : LO) (D : Value) (a0 : List lf) (B : LO) (a : Value) (Y : List (lg × (List lf))) (I : LO) (c : Value) (K : List (ByteArray × (List lf))) (t : LO) (j : Value) (a4 : List lF) (y : LO) (J : Int) (H : lf) (r : ((List lf) × (List (lg × (List lf))) × (List (ByteArray × (List lf))))) (w : World) {μ0 : lZ} (h0 : oT μ0 ((M, Ob #[u, D, a, c, j, (.int .i64 J)] 189) :: (G ++ (B ++ (I ++ (t ++ (y ++ [])))))) w) (e9 : nu (fun (x : lg) => (.agg (lu x).toArray)) (nr Value.string (fun (x : Bool) => (Value.bool x))) u a9 G) (a6 : lR 52 li 9 D a0 B) (b2 : nu (fun (x : lg) => (.agg (lu x).toArray)) (lR 52 li 9) a Y I) (T : nu Value.string (lR 52 li 9) c K t) (e1 : rF 111 nv 3 j a4 y) (hm : uu a9 a0 Y K a4 J H = some r) :
  nl true pg0 187 [(.pointer (some ⟨M, 0, none⟩)), (.agg (li H).toArray)] w ((M, Ob #[u, D, a, c, j, (.int .i64 J)] 189) :: (G ++ (B ++ (I ++ (t ++ (y ++ [])))))) (fun v L1 W' => ∃ y1 S2 S4 S6, v = (.tuple #[]) ∧ L1 = ((M, Ob #[u, y1, a, c, j, (.int .i64 J)] 189) :: (G ++ (S2 ++ (S4 ++ (S6 ++ (y ++ [])))))) ∧ lR 52 li 9 y1 r.1 S2 ∧ nu (fun (x : lg) => (.agg (lu x).toArray)) (lR 52 li 9) a r.2.1 S4 ∧ nu Value.string (lR 52 li 9) c r.2.2 S6) := by
 refine AN h0 55 func187 rfl (fun d => sg (VE (mG d rfl (fun W2 b1 d => ln (lH ?_)))))
 replace d := d.drew
 have n := d.has.ll (Kb Sn)
 have q := d.has.ll (Db (Kb Sn))
 refine vm 10 n q lY (mJ 0 rfl kr (.inl rfl) rfl dc (fun _ _ h => ⟨h.1, nf br h.2⟩) ⟨n, fun _ => q⟩ (fun _ _ _ _ => lz rfl) (mJ 1 rfl kr (.inl rfl) rfl dc (fun _ _ h => ⟨h.1, nf br h.2⟩) ⟨n, fun _ => q⟩ (fun _ _ _ _ => lz rfl) (mJ 2 rfl kr (.inl rfl) rfl dc (fun _ _ h => ⟨h.1, nf br h.2⟩) ⟨n, fun _ => q⟩ (fun _ _ _ _ => nA rfl) (mJ 3 rfl kr (.inl rfl) rfl dc (fun _ _ h => ⟨h.1, nf br h.2⟩) ⟨n, fun _ => q⟩ (fun _ _ _ _ => lA H9 rfl) (mJ 4 rfl kr (.inl rfl) rfl dc (fun _ _ h => ⟨h.1, nf br h.2⟩) ⟨n, fun _ => q⟩ (fun l W A F => have s := (F.2 (A.Dp 10 [4] kr rfl)); lq rfl (lK s Mh rfl eZ)) (mJ 5 rfl kr (.inl rfl) rfl dc (fun _ _ h => ⟨h.1, nf br h.2⟩) ⟨n, fun _ => q⟩ (fun l W A F => have s := F.1; lq rfl (lB s Mh (li H) rfl bP aH)) (XE 6 rfl (mh (cs := (li H).toArray) d (om rfl) (oH aG aH cM) (fun k0 g0 d => ?_)))))))))
 have n := d.has.ll (Db (Kb Sn))
 have q := d.has.ll (Db (Db (Kb Sn)))
 refine ⟨⟨n, fun _ => q⟩, ?_⟩
 replace d := d.perm (Nr (Qb (Qb (Qb (Qr Qz)))) Nz)
 refine bS hm fun a5 f0 hm => XE 7 rfl (pq (enc := li) (v := D) (vs := (.slice (some ⟨g0, 0, none⟩) 1 1)) (R := B) d mN dc oQ aG nZ.1 nZ.2.1 rfl nZ.2.2.1 nZ.2.2.2 rfl rfl a6 (Sl.lit (enc := li) (l := [H]) mN rfl nb rfl (d.at_ (Ma Mh))) f0 (fun k1 k4 b7 d b5 => ?_))
 have n := d.has.ll (Dr (Db (Kb Sn)))
 have q := d.has.ll (Dr (Db (Db (Kb Sn))))
 refine ⟨⟨n, fun _ => q⟩, (mJ 8 rfl kr (.inl rfl) rfl dc (fun _ _ h => ⟨h.1, nf br h.2⟩) ⟨n, fun _ => q⟩ (fun _ _ _ _ => nA rfl) (mJ 9 rfl kr (.inl rfl) rfl dc (fun _ _ h => ⟨h.1, nf br h.2⟩) ⟨n, fun _ => q⟩ (fun _ _ _ _ => lA H9 rfl) ?_))⟩
 obtain ⟨a8, b0, rfl⟩ := b5.form
 let L : Value := (.slice a8 a5.length b0)
 replace d := d.perm (Nb (Pr (Pb (Pb Pz))) Nz)
 refine XO 10 rfl (lL L (#[u, L, a, c, j, (.int .i64 J)]) d rfl rfl iC oc nb rfl (fun k2 d => ?_))
 have n := d.has.ll (Db (Dr (Db (Kb Sn))))
 refine ⟨⟨n, fun h => zY kr h⟩, (mM kr (lD ?_))⟩
 replace d := d.ll (Kb (Kr (Db St)))
 refine lH (sg (VA d (Mt (Ma Mh)) (li H) bP aH (bS hm fun c1 f1 hm => VE (tW d call243 (Kx H _ _  f1) (fun k3 k5 k6 j9 d g4 ab e8 => ?_)))))
 let b8 := (c1.drop (Int.toNat 1))
 obtain ⟨g3, d, g7, ad, f2⟩ := ST.EJ d e8 oU
 refine bS hm fun _ b9 hm => VQ (FQ (i := 1) bK aN rfl rfl f2 (uw b9) (um b9)) (fun g1 b6 => V (mS bK rfl b6.1) (Wm (ln (mQ (fun i E W => ∃ a3 U P, (E 20 = .int .i64 (i : Nat) ∧ E 19 = .int .i64 (b8.length : Nat)) ∧ ST true (keys ((M, Ob #[u, D, a, c, j, (.int .i64 J)] 189) :: (G ++ (B ++ (I ++ (t ++ (y ++ []))))))) w W g3 ((M, Ob #[u, L, a, c, j, (.int .i64 J)] 189) :: ((b1, Ol (li H) 52) :: (U ++ (b7 ++ (G ++ (t ++ (y ++ P))))))) ∧ E 0 = (.pointer (some ⟨M, 0, none⟩)) ∧ E 3 = (.pointer (some ⟨b1, 0, none⟩)) ∧ E 18 = g1 ∧ nu (fun (x : lg) => (.agg (lu x).toArray)) (lR 52 li 9) a a3 U ∧ pI H K a5 (b8.drop i) a3 = some r) b8.length b6.1.len ⟨Y, I, _, ⟨rfl, rfl⟩, (d.ll (Kb (Sb (Pr Pz) (Sr (Qr (Qr Qz)) St)))), rfl, rfl, rfl, b2, hm⟩ dc dc dc (fun _ _ _ h => by obtain ⟨_, _, _, aa, _⟩ := h; exact aa) ?_ ?_))))
 ·rintro f3 E W d3 ⟨a3, U, P, ⟨eI, eN⟩, d, a2, N, b4, Z, g⟩
  obtain ⟨Q, h4, d8, d7, d9⟩ := mA d3
  rw [d8] at g
  refine bg (VQ (qb (enc := lu) (i := (f3 : Int)) (x0 := Q) bK aN b4 eI b6.1 (aJ _) d7) (fun j4 d4 => V (lq rfl (ma d.has d4 bO aN)) (VE (ml d eG (fun i1 j0 d => VO (lL (.agg (lu Q).toArray) ((lu Q).toArray) d rfl rfl aN (ra Q) nb rfl (fun i2 d => ln ?_)))))))
  replace d := d.drew
  have n := d.has.ll (Kb (Kb (Kb Sn)))
  refine mw n lY (X 0 rfl n (lz a2) (X 1 rfl n (nA rfl) (X 2 rfl n (lA Lt rfl) (XH 3 rfl n (fun _ s => lq rfl (lK s (Mt Mh) rfl isAgg185)) (XH 4 rfl n (fun _ s => lq rfl (lB s Mh (lu Q) rfl bO aN)) (XH 5 rfl n (fun _ s => lq N (lB s (Mt (Mt Mh)) (li H) rfl bP aH)) (XE 6 rfl (mh (cs := (li H).toArray) d (om rfl) (oH aG aH cM) (fun i3 e6 d => ?_)))))))))
  have n := d.has.ll (Db (Kb (Kb (Kb Sn))))
  refine ⟨n, ?_⟩
  obtain ⟨h1, d1⟩ := Z
  replace d := d.perm (Nr (Qb (Qb (Qb (Qb Qz)))) Nz)
  refine XE 7 rfl (Mv (k := Q) (x0 := [])  lO A4 underlying185 kq (lR.nil _ _ _) d d1 rfl rfl (fun i4 f5 h3 h6 e2 d c3 c2 => ?_))
  have n := d.has.ll (Dr (Dr (Db (Kb (Kb (Kb Sn))))))
  refine ⟨n, (X 8 rfl n (og rfl rfl) (X 10 rfl n (og rfl rfl) ?_))⟩
  replace d := d.perm (Nr (Qr Qz) Nz)
  refine bS g fun c0 c8 g => XE 9 rfl (pq (enc := li) (v := f5) (vs := (.slice (some ⟨e6, 0, none⟩) 1 1)) (R := e2) d mN dc oQ aG nZ.1 nZ.2.1 rfl nZ.2.2.1 nZ.2.2.2 rfl rfl c3 (Sl.lit (enc := li) (l := [H]) mN rfl nb rfl (d.at_ (Ma (Ma Mh)))) c8 (fun i5 j5 h7 d c4 => ?_))
  have n := d.has.ll (Dr (Dr (Db (Kb (Kb (Kb Sn))))))
  refine ⟨n, ?_⟩
  replace d := d.perm (Nr (Qr Qz) Nz)
  refine XO 11 rfl (Kq (e := 0) (z := c0)  lO A4 d c2 rfl rfl rfl c4 (fun i6 h2 e3 d c5 => ?_))
  have n := d.has.ll (Dr (Db (Kb (Kb (Kb Sn)))))
  refine ⟨n, (mM kr (ms (lD ?_)))⟩
  replace d := d.ll (Kr (Db (Db St)))
  exact ⟨eI, (pw lQ a3 Q c0), e3, _, ⟨rfl, eN⟩, (d.ll (Sb (Pr Pz) (Sb (Pr Pz) St))), a2, N, b4, c5.e, (by rw [d9]; exact g)⟩
 rintro E W ⟨a3, U, P, ⟨eI, eN⟩, d, a2, N, b4, Z, g⟩
 rw [aP] at g
 refine lD (sg (V (lA zr N) (VB d (Mt Mh) rfl rfl dD (Wi rfl (ln (CI g rfl (fun c9 g => ?_) (fun c9 g => ?_)))))))
 ·replace d := d.drew
  have n := d.has.ll (Kb (Kb Sn))
  have q := d.has.ll (Db (Db (Dr (Dr (Dr (Kr Sn))))))
  refine vm 15 n q lY (mJ 0 rfl kr (.inl rfl) rfl dc (fun _ _ h => ⟨h.1, nf br h.2⟩) ⟨n, fun _ => q⟩ (fun _ _ _ _ => lz a2) (mJ 1 rfl kr (.inl rfl) rfl dc (fun _ _ h => ⟨h.1, nf br h.2⟩) ⟨n, fun _ => q⟩ (fun _ _ _ _ => nA rfl) (mJ 2 rfl kr (.inl rfl) rfl dc (fun _ _ h => ⟨h.1, nf br h.2⟩) ⟨n, fun _ => q⟩ (fun _ _ _ _ => lA HK rfl) (mJ 3 rfl kr (.inl rfl) rfl dc (fun _ _ h => ⟨h.1, nf br h.2⟩) ⟨n, fun _ => q⟩ (fun l W A F => have s := F.1; lq rfl (lK s Mh rfl isAgg186)) (mJ 4 rfl kr (.inl rfl) rfl dc (fun _ _ h => ⟨h.1, nf br h.2⟩) ⟨n, fun _ => q⟩ (fun _ _ _ _ => lA AT N) (mJ 5 rfl kr (.inl rfl) rfl dc (fun _ _ h => ⟨h.1, nf br h.2⟩) ⟨n, fun _ => q⟩ (fun l W A F => have s := F.1; lq rfl (lK s (Mt Mh) rfl cL)) (mJ 6 rfl kr (.inl rfl) rfl dc (fun _ _ h => ⟨h.1, nf br h.2⟩) ⟨n, fun _ => q⟩ (fun _ _ _ _ => lz a2) (mJ 7 rfl kr (.inl rfl) rfl dc (fun _ _ h => ⟨h.1, nf br h.2⟩) ⟨n, fun _ => q⟩ (fun _ _ _ _ => nA rfl) (mJ 8 rfl kr (.inl rfl) rfl dc (fun _ _ h => ⟨h.1, nf br h.2⟩) ⟨n, fun _ => q⟩ (fun _ _ _ _ => lA HK rfl) (mJ 9 rfl kr (.inl rfl) rfl dc (fun _ _ h => ⟨h.1, nf br h.2⟩) ⟨n, fun _ => q⟩ (fun l W A F => have s := F.1; lq rfl (lK s Mh rfl isAgg186)) (mJ 10 rfl kr (.inl rfl) rfl dc (fun _ _ h => ⟨h.1, nf br h.2⟩) ⟨n, fun _ => q⟩ (fun _ _ _ _ => lA AT N) (mJ 11 rfl kr (.inl rfl) rfl dc (fun _ _ h => ⟨h.1, nf br h.2⟩) ⟨n, fun _ => q⟩ (fun l W A F => have s := F.1; lq rfl (lK s (Mt Mh) rfl cL)) ?_))))))))))))
  obtain ⟨e0, O⟩ := T
  obtain ⟨h8, g8, g9⟩ := nP.rowAt nD.1 O H.lN
  refine mJ 12 rfl kr (.inl rfl) rfl dc (fun _ _ h => ⟨h.1, nf br h.2⟩) ⟨n, fun _ => q⟩ (fun l W A F => have s := (F.2 (A.Dp 15 [12] kr rfl)); qv (k := H.lN) (z := (.slice none 0 0)) D9 underlying186 kq rfl rfl O (fun b o hq => s.2 b o (Ml hq))) (mJ 13 rfl kr (.inl rfl) rfl dc (fun _ _ h => ⟨h.1, nf br h.2⟩) ⟨n, fun _ => q⟩ (fun l W A F => have s := F.1; lq N (lB s (Mt Mh) (li H) rfl bP aH)) (XE 14 rfl (mh (cs := (li H).toArray) d (om rfl) (oH aG aH cM) (fun i7 e7 d => ?_))))
  have n := d.has.ll (Db (Kb (Kb Sn)))
  have q := d.has.ll (Db (Db (Db (Dr (Dr (Dr (Kr Sn)))))))
  refine ⟨⟨n, fun _ => q⟩, ?_⟩
  replace d := d.perm (Nr (Qb (Qb (Qb (Qr (Qr (Qr Qz)))))) Nz)
  obtain ⟨h9, e4, d5, d6, d2⟩ := nP.open nD.1 (lR.nil _ _ _) O H.lN
  replace d := d.perm (T4 d5)
  replace d := d.perm (Nr (Qr Qz) Nz)
  refine bS g fun f4 d0 g => XE 15 rfl (pq (enc := li) (v := (qt mK e0 H.lN (.slice none 0 0))) (vs := (.slice (some ⟨e7, 0, none⟩) 1 1)) (R := e4) d mN dc oQ aG nZ.1 nZ.2.1 rfl nZ.2.2.1 nZ.2.2.2 rfl rfl d6 (Sl.lit (enc := li) (l := [H]) mN rfl nb rfl (d.at_ (Ma (Ma Mh)))) d0 (fun i8 j6 i0 d c6 => ?_))
  have n := d.has.ll (Dr (Dr (Db (Kb (Kb Sn)))))
  refine ⟨⟨n, fun h => zY kr h⟩, ?_⟩
  replace d := d.perm (Nr (Qr Qz) Nz)
  refine XO 16 rfl (Re (k := H.lN) (z := f4)  D9 underlying186 d d2 rfl rfl rfl c6 (fun i9 e5 d c7 => ?_))
  have n := d.has.ll (Dr (Db (Kb (Kb Sn))))
  refine ⟨⟨n, fun h => zY kr h⟩, (mM kr (rS ?_))⟩
  obtain rfl := sj g
  exact qk rfl ⟨_, _, rfl, (d.nF (Sb (Pr (Pb Pz)) (Sr (Qr (Qb (Qb (Qr (Qr Qz))))) (Sr (Qr (Qb (Qb (Qr Qz)))) (Sr (Qr (Qb (Qb Qz))) (Kr (Db (Db (Kr Sn))))))))), L, b7, U, e5, rfl, rfl, b5, Z, c7.e⟩
 refine mX (rS ?_)
 obtain rfl := sj g
 exact qk rfl ⟨_, _, rfl, (d.nF (Kb (Db (Sr (Qr (Qr Qz)) (Sr (Qr Qz) (Kr (Kr (Kr Sn)))))))), L, b7, U, t, rfl, rfl, b5, Z, T⟩
theorem sk (J : Nat) (g : Value) (a0 : List (lg × (List (ByteArray × Bool)))) (D : LO) (a : Value) (M : List lf) (u : LO) (j : Value) (Z : List (lg × (List lf))) (B : LO) (c : Value) (N : List (ByteArray × (List lf))) (y : LO) (i : Value) (Y : List lF) (t : LO) (H : Int) (G : lg) (U : ByteArray) (r : ((List (lg × (List (ByteArray × Bool)))) × (List lF) × Int)) (w : World) {μ0 : lZ} (h0 : oT μ0 ((J, Ob #[g, a, j, c, i, (.int .i64 H)] 189) :: (D ++ (u ++ (B ++ (y ++ (t ++ [])))))) w) (a5 : nu (fun (x : lg) => (.agg (lu x).toArray)) (nr Value.string (fun (x : Bool) => (Value.bool x))) g a0 D) (b5 : lR 52 li 9 a M u) (c3 : nu (fun (x : lg) => (.agg (lu x).toArray)) (lR 52 li 9) j Z B) (b6 : nu Value.string (lR 52 li 9) c N y) (K : rF 111 nv 3 i Y t) (hm : pa a0 M Z N Y H G U = some r) :
  nl true pg0 244 [(.pointer (some ⟨J, 0, none⟩)), (.agg (lu G).toArray), (.string U)] w ((J, Ob #[g, a, j, c, i, (.int .i64 H)] 189) :: (D ++ (u ++ (B ++ (y ++ (t ++ [])))))) (fun v L1 W' => ∃ S1 y3 S4, v = (.tuple #[]) ∧ L1 = ((J, Ob #[g, a, j, c, y3, (.int .i64 (r.2.2))] 189) :: (S1 ++ (u ++ (B ++ (y ++ (S4 ++ [])))))) ∧ nu (fun (x : lg) => (.agg (lu x).toArray)) (nr Value.string (fun (x : Bool) => (Value.bool x))) g r.1 S1 ∧ rF 111 nv 3 y3 r.2.1 S4) := by
 let a1 := (#[g, a, j, c, i, (.int .i64 H)] : Array Value)
 refine AN h0 53 func244 rfl (fun n => sg (VE (mG n rfl (fun W2 b1 n => ln (lH (lH ?_))))))
 replace n := n.drew
 have d := n.has.ll (Kb (Kb (Kr Sn)))
 refine mw d lY (X 0 rfl d (lz rfl) (X 1 rfl d (nA rfl) (X 2 rfl d (lA xW rfl) (XH 3 rfl d (fun _ s => lq rfl (lK s (Mt Mh) rfl jk)) (XH 4 rfl d (fun _ s => lq rfl (lB s Mh (lu G) rfl bO aN)) ?_)))))
 obtain ⟨f4, Q⟩ := a5
 refine XH 5 rfl d (fun _ s => qv (k := G) (z := (.map none)) A4 fR gN rfl rfl Q (fun b o L => s.2 b o (Mt (Mt (Ml L))))) (X 6 rfl d (lz rfl) (XH 7 rfl d (fun _ s => AK (k := U) (z := false) (vf := (fun (x : Bool) => (Value.bool x))) D9 gS kP rfl rfl (nP.DR (μ := hp _) lO.1 Q G (fun b o L => s.2 b o (Mt (Mt (Ml L)))))) (mM kr (lD (CI hm rfl (fun d5 hm => ?_) (fun d5 hm => ?_))))))
 ·refine mi (mo ?_)
  obtain rfl := sj hm
  exact qk rfl ⟨_, _, rfl, (n.nF (Db (Kb (Kr (Kr (Kr (Kr (Kr Sn)))))))), D, i, t, rfl, rfl, Q.e, K⟩
 refine kn (lH (CJ hm (fun b2 E W => ∃ a8 c0, ST true (keys ((J, Obj.cells a1 189 (0, 0)) :: (D ++ (u ++ (B ++ (y ++ (t ++ []))))))) w W μ0 ((b1, Ol (lu G) 50) :: ((J, Obj.cells a1 189 (0, 0)) :: (a8 ++ (u ++ (B ++ (y ++ (t ++ c0))))))) ∧ E 0 = (.pointer (some ⟨J, 0, none⟩)) ∧ E 2 = (.string U) ∧ E 4 = (.pointer (some ⟨b1, 0, none⟩)) ∧ nu (fun (x : lg) => (.agg (lu x).toArray)) (nr Value.string (fun (x : Bool) => (Value.bool x))) g b2 a8) (fun b2 I => ?_) ?_))
 ·refine lH ?_
  replace n := n.drew
  have d := n.has.ll (Kb (Kb (Kr Sn)))
  refine mw d lY (X 0 rfl d (lz rfl) (X 1 rfl d (nA rfl) (X 2 rfl d (lA xW rfl) (XH 3 rfl d (fun _ s => lq rfl (lK s (Mt Mh) rfl jk)) (XH 4 rfl d (fun _ s => lq rfl (lB s Mh (lu G) rfl bO aN)) (XH 5 rfl d (fun _ s => qv (k := G) (z := (.map none)) A4 fR gN rfl rfl Q (fun b o L => s.2 b o (Mt (Mt (Ml L))))) (X 6 rfl d (KK lO.1 gS Q rfl rfl) (mM kr (lD (CI I rfl (fun b7 I => ?_) (fun b7 I => ?_)))))))))))
  ·replace n := n.drew
   have d := n.has.ll (Kb (Kb Sn))
   refine mw d lY (X 0 rfl d (lz rfl) (X 1 rfl d (nA rfl) (X 2 rfl d (lA xW rfl) (XH 3 rfl d (fun _ s => lq rfl (lK s (Mt Mh) rfl jk)) (XH 4 rfl d (fun _ s => lq rfl (lB s Mh (lu G) rfl bO aN)) (XE 5 rfl (Ii (P := pg0) Value.string (fun (x : Bool) => (Value.bool x)) n (fun e1 e7 d9 n b3 => ?_))))))))
   have d := n.has.ll (Dr (Kb (Kb Sn)))
   refine ⟨d, ?_⟩
   replace n := n.perm (Nr (Qr (Qb (Qb Qz))) Nz)
   refine bS I fun e4 b9 I => XO 6 rfl (IJ (k := G) (z := ([]))  A4 fR n Q rfl rfl rfl b3 b9 (fun e2 c4 n b4 => ?_))
   have d := n.has.ll (Dr (Kb (Kb Sn)))
   refine ⟨d, (mM kr (lD ?_))⟩
   obtain rfl := sj I
   exact ⟨c4, _, (n.ll (Sb (Pr Pz) (Sb (Pr Pz) St))), rfl, rfl, rfl, b4.e⟩
  refine kn ?_
  obtain rfl := sj I
  exact ⟨D, _, (n.ll St), rfl, rfl, rfl, Q.e⟩
 rintro f2 E W ⟨a8, c0, n, O, c1, c2, c8⟩ T
 refine lH ?_
 replace n := n.drew
 have d := n.has.ll (Kb (Kb Sn))
 have q := n.has.ll (Db (Db (Kr Sn)))
 refine vm 7 d q lY (mJ 0 rfl kr (.inl rfl) rfl dc (fun _ _ h => ⟨h.1, nf br h.2⟩) ⟨d, fun _ => q⟩ (fun _ _ _ _ => lz O) (mJ 1 rfl kr (.inl rfl) rfl dc (fun _ _ h => ⟨h.1, nf br h.2⟩) ⟨d, fun _ => q⟩ (fun _ _ _ _ => nA rfl) (mJ 2 rfl kr (.inl rfl) rfl dc (fun _ _ h => ⟨h.1, nf br h.2⟩) ⟨d, fun _ => q⟩ (fun _ _ _ _ => lA xW rfl) (mJ 3 rfl kr (.inl rfl) rfl dc (fun _ _ h => ⟨h.1, nf br h.2⟩) ⟨d, fun _ => q⟩ (fun l W A F => have s := F.1; lq rfl (lK s (Mt Mh) rfl jk)) (mJ 4 rfl kr (.inl rfl) rfl dc (fun _ _ h => ⟨h.1, nf br h.2⟩) ⟨d, fun _ => q⟩ (fun l W A F => have s := F.1; lq c2 (lB s Mh (lu G) rfl bO aN)) ?_)))))
 obtain ⟨e5, a9⟩ := c8
 refine mJ 5 rfl kr (.inl rfl) rfl dc (fun _ _ h => ⟨h.1, nf br h.2⟩) ⟨d, fun _ => q⟩ (fun l W A F => have s := (F.2 (A.Dp 7 [5] kr rfl)); qv (k := G) (z := (.map none)) A4 fR gN rfl rfl a9 (fun b o L => s.2 b o (Ml L))) (mJ 6 rfl kr (.inl rfl) rfl dc (fun _ _ h => ⟨h.1, nf br h.2⟩) ⟨d, fun _ => q⟩ (fun _ _ _ _ => lz c1) ?_)
 replace n := n.perm (Nr (Qb (Qb Qz)) Nz)
 refine bS T fun f3 c7 T => XO 7 rfl (M1 (k := G) (v := true) (vf := (fun (x : Bool) => (Value.bool x)))  lO.1 D9 gS n a9 rfl rfl rfl c7 (fun e8 c9 n c5 => ?_))
 have d := n.has.ll (Dr (Kb (Kb Sn)))
 refine ⟨⟨d, fun h => zY kr h⟩, (mM kr (lD (sg (Wh O (Wn (Wf Fj (VB n (Ma (Mt Mh)) rfl rfl dD (Wi rfl (Wn (Wf Fj ?_))))))))))⟩
 replace n := n.perm (Nb (Pr (Pb Pz)) Nz)
 refine VO (lL (.int .i64 (wi0 .i64 (H + 1))) (#[g, a, j, c, i, (.int .i64 (wi0 .i64 (H + 1)))]) n rfl rfl jv (D5 _ (wi0 .i64 (H + 1))) nb rfl (fun e9 n => ln ?_))
 replace n := n.drew
 have d := n.has.ll (Db (Dr (Kb Sn)))
 have q := n.has.ll (Kb Sn)
 refine vm 12 d q lY (mJ 0 rfl kr (.inl rfl) rfl dc (fun _ _ h => ⟨h.1, nf br h.2⟩) ⟨d, fun _ => q⟩ (fun _ _ _ _ => lz O) (mJ 1 rfl kr (.inl rfl) rfl dc (fun _ _ h => ⟨h.1, nf br h.2⟩) ⟨d, fun _ => q⟩ (fun _ _ _ _ => lz O) (mJ 2 rfl kr (.inl rfl) rfl dc (fun _ _ h => ⟨h.1, nf br h.2⟩) ⟨d, fun _ => q⟩ (fun _ _ _ _ => nA rfl) (mJ 3 rfl kr (.inl rfl) rfl dc (fun _ _ h => ⟨h.1, nf br h.2⟩) ⟨d, fun _ => q⟩ (fun _ _ _ _ => lA Bz rfl) (mJ 4 rfl kr (.inl rfl) rfl dc (fun _ _ h => ⟨h.1, nf br h.2⟩) ⟨d, fun _ => q⟩ (fun l W A F => have s := (F.2 (A.Dp 12 [4] kr rfl)); lq rfl (lK s Mh rfl isAgg187)) (mJ 5 rfl kr (.inl rfl) rfl dc (fun _ _ h => ⟨h.1, nf br h.2⟩) ⟨d, fun _ => q⟩ (fun l W A F => have s := F.1; lq c2 (lB s Mh (lu G) rfl bO aN)) (mJ 6 rfl kr (.inl rfl) rfl dc (fun _ _ h => ⟨h.1, nf br h.2⟩) ⟨d, fun _ => q⟩ (fun _ _ _ _ => lz c1) (mJ 7 rfl kr (.inl rfl) rfl dc (fun _ _ h => ⟨h.1, nf br h.2⟩) ⟨d, fun _ => q⟩ (fun _ _ _ _ => nT (v := (.agg (nv (⟨G, U⟩ : lF)).toArray)) (sQ rfl rfl) (nq kR gQ (PM _ gQ) kr)) (XE 8 rfl (mh (cs := (nv (⟨G, U⟩ : lF)).toArray) n (om rfl) (oH jf kH kR) (fun f0 d4 n => ?_)))))))))))
 have d := n.has.ll (Db (Db (Dr (Kb Sn))))
 have q := n.has.ll (Db (Kb Sn))
 refine ⟨⟨d, fun _ => q⟩, ?_⟩
 replace n := n.perm (Nr (Qb (Qb (Qr (Qb (Qr (Qr (Qr Qz))))))) Nz)
 refine bS T fun b0 c6 T => XE 9 rfl (KQ (enc := nv) (v := i) (vs := (.slice (some ⟨d4, 0, none⟩) 1 1)) (R := t) n xd dc Lb jf Fx.1 Fx.2.1 rfl Fx.2.2.1 Fx.2.2.2 rfl rfl K (Sl.lit (enc := nv) (l := [(⟨G, U⟩ : lF)]) xd rfl nb rfl (n.at_ (Ma Mh))) c6 (fun f1 e6 d0 n a7 => ?_))
 have d := n.has.ll (Dr (Db (Db (Dr (Kb Sn)))))
 have q := n.has.ll (Dr (Db (Kb Sn)))
 refine ⟨⟨d, fun _ => q⟩, (mJ 10 rfl kr (.inl rfl) rfl dc (fun _ _ h => ⟨h.1, nf br h.2⟩) ⟨d, fun _ => q⟩ (fun _ _ _ _ => nA rfl) (mJ 11 rfl kr (.inl rfl) rfl dc (fun _ _ h => ⟨h.1, nf br h.2⟩) ⟨d, fun _ => q⟩ (fun _ _ _ _ => lA Bz rfl) ?_))⟩
 obtain ⟨a3, a4, rfl⟩ := a7.form
 let a2 : Value := (.slice a3 b0.length a4)
 replace n := n.perm (Nb (Pr (Pb Pz)) Nz)
 refine XO 12 rfl (lL a2 (#[g, a, j, c, a2, (.int .i64 (wi0 .i64 (H + 1)))]) n rfl rfl sizeOf187 oc nb rfl (fun e0 n => ?_))
 have d := n.has.ll (Db (Dr (Db (Dr (Kb Sn)))))
 refine ⟨⟨d, fun h => zY kr h⟩, (mM kr (rS ?_))⟩
 obtain rfl := sj T
 exact qk rfl ⟨_, _, rfl, (n.nF (Kb (Sr (Qr (Qb Qz)) (Sr (Qr (Qb (Qb Qz))) (Sr (Qr (Qb (Qb Qz))) (Sr (Qr (Qb (Qb Qz))) (Kr Sn))))))), c9, a2, d0, rfl, rfl, c5.e, a7⟩
theorem wU (a : Value) (g : List (ByteArray × Bool)) (r : Unit) (w : World) (c : vH Value.string (fun (x : Bool) => (Value.bool x)) (hp w) a g) (hm : pV g = some r) :
  nl true pg0 283 [a] w [] (fun v k W' => ∃ i, v = (.func (.func 319) #[] #[(.pointer (some ⟨i, 0, none⟩))]) ∧ k = ((i, Ob #[a] 190) :: [])) := by
 refine zh 4 func283 rfl (fun b => sg ?_)
 obtain ⟨t, rfl⟩ := c.form
 refine VE (mG b rfl (fun u j b => Wa (lr (V (tw (by exact uT rfl) rfl) (Wa (lt ?_))))))
 obtain rfl := sj hm
 exact na (v := (.func (.func 319) #[] #[(.pointer (some ⟨j, 0, none⟩))])) rfl rfl ⟨_, _, rfl, (b.Py (Kb Sn)), j, rfl, rfl⟩
theorem HS {β : Type} {vf : β → Value} {l : List (ByteArray × β)} {b : Nat} {a : Value} {W : World} {r : List ByteArray} (c : W.heap[b]? = some (.cells #[a] 190 (0, 0))) (hm : vH Value.string vf (hp W) a l) (hk : GW l = some r) : nR false pg0 282 [.func (.func 319) #[] #[.pointer (some ⟨b, 0, none⟩)]] W 9 DL 1 r := KC (P := pg0) QJ QE RF rfl bY call319 call310 c hm hk
theorem za (T : Nat) (a : Value) (u : List (lg × (List (ByteArray × Bool)))) (c : Value) (t : List lf) (j : Value) (G : List (lg × (List lf))) (g : Value) (B : List (ByteArray × (List lf))) (i : Value) (D : List lF) (Q : Int) (H : lg) (r : List ByteArray) (w : World) (J : rj (fun (x : lg) => (.agg (lu x).toArray)) (nr Value.string (fun (x : Bool) => (Value.bool x))) (hp w) a u) (Z : Sl (Pl li) 9 (hp w) c t) (a4 : rj (fun (x : lg) => (.agg (lu x).toArray)) (lR 52 li 9) (hp w) j G) (a0 : rj Value.string (lR 52 li 9) (hp w) g B) (a3 : Sl (Pl nv) 3 (hp w) i D) (Y : At (hp w) (.pointer (some ⟨T, 0, none⟩)) [a, c, j, g, i, (.int .i64 Q)]) (hm : rR u t G B D Q H = some r) :
  nR false pg0 245 [(.pointer (some ⟨T, 0, none⟩)), (.agg (lu H).toArray)] w 9 DL 1 r := by
 refine zh 15 func245 rfl (fun d => sg (VE (mG d rfl (fun W2 R d => Wa (lS (Wm (V (tE underlying132 rfl rfl) (ln (re rfl ?_)))))))))
 refine kn (lH ?_)
 replace d := d.drew
 have h := d.has.ll (Kb Sn)
 refine mw h lY (X 0 rfl h (lz rfl) (X 1 rfl h (nA rfl) (XQ 2 rfl h (wq [a] xW rfl Y rfl) (fun b9 E => XH 3 rfl h (fun _ l => lq rfl (qR l (y := a) E jk)) (XH 4 rfl h (fun _ l => lq rfl (lB l Mh (lu H) rfl bO aN)) ?_)))))
 obtain ⟨a9, b4, K, M⟩ := J
 refine XH 5 rfl h (fun _ l => qv (k := H) (z := (.map none)) A4 fR gN rfl rfl K (fun b o n => l.1 b o (M b o n))) (bS hm fun c0 F hm => ?_)
 refine XE 6 rfl (Hf d (bH _) call283 (fun _ _ _ _ => nl.ng (wU (qt lQ a9 H (.map none)) ((mL lQ u H).getD []) _ _ ((nP.DR lO.1 K H M).mono d.lx) F)) (fun b5 c2 c3 W d I s q a5 => ?_) (L0 := []))
 obtain ⟨b7, N, rfl⟩ := a5
 replace N := N.symm; subst N
 replace d := d.perm (Tb Tn)
 have h := d.has.ox I (Db (Kb Sn))
 refine ⟨h, (bS hm fun c1 L hm => XE 7 rfl (tW d call282 (HS (vf := (fun (x : Bool) => (Value.bool x))) (d.has.2 _ _ Mh) ((nP.DR lO.1 K H M).mono (fun b o n => d.has.1 b o (I b o n))) L) (fun b6 P c4 O d a2 A U => ?_)))⟩
 have h := d.has.ox (I.trans a2) (Dr (Db (Kb Sn)))
 refine ⟨h, (X 8 rfl h (ny rfl) (mM kr (lD ?_)))⟩
 replace d := d.ll (Kr (Db (Db St)))
 refine mi ?_
 obtain rfl := sj hm
 exact na (v := P) rfl rfl ⟨_, O, rfl, d.px (fun p n => (Ml n)) U.nd, U⟩
theorem Ed (K : Nat) (g : Value) (N : List (lg × (List (ByteArray × Bool)))) (G : LO) (a : Value) (H : List lf) (k : LO) (j : Value) (J : List (lg × (List lf))) (u : LO) (c : Value) (I : List (ByteArray × (List lf))) (t : LO) (z : Value) (M : List lF) (B : LO) (Z : Int) (F a2 : lg) (r : ((List (lg × (List (ByteArray × Bool)))) × (List lF) × Int)) (w : World) {μ0 : lZ} (h0 : oT μ0 ((K, Ob #[g, a, j, c, z, (.int .i64 Z)] 189) :: (G ++ (k ++ (u ++ (t ++ (B ++ [])))))) w) (a5 : nu (fun (x : lg) => (.agg (lu x).toArray)) (nr Value.string (fun (x : Bool) => (Value.bool x))) g N G) (Q : lR 52 li 9 a H k) (a4 : nu (fun (x : lg) => (.agg (lu x).toArray)) (lR 52 li 9) j J u) (T : nu Value.string (lR 52 li 9) c I t) (a3 : rF 111 nv 3 z M B) (hm : uV N H J I M Z F a2 = some r) :
  nl false pg0 284 [(.pointer (some ⟨K, 0, none⟩)), (.agg (lu F).toArray), (.agg (lu a2).toArray)] w ((K, Ob #[g, a, j, c, z, (.int .i64 Z)] 189) :: (G ++ (k ++ (u ++ (t ++ (B ++ [])))))) (fun v L1 W' => ∃ S1 y3 S4, v = (.tuple #[]) ∧ L1 = ((K, Ob #[g, a, j, c, y3, (.int .i64 (r.2.2))] 189) :: (S1 ++ (k ++ (u ++ (t ++ (S4 ++ [])))))) ∧ nu (fun (x : lg) => (.agg (lu x).toArray)) (nr Value.string (fun (x : Bool) => (Value.bool x))) g r.1 S1 ∧ rF 111 nv 3 y3 r.2.1 S4) := by
 refine AN h0 21 func284 rfl (fun d => sg (VE (mG d rfl (fun W2 b1 d => VE (mG d rfl (fun W4 b3 d => lr (Wm (VA d (Mt Mh) (lu F) bO aN (bS hm fun r5 e6 hm => VE (tW d call245 (za K g N a H j J c I z M Z F _ _ (a5.at (fun b o l => d.at_ (Mt (Mt (Mt (Ml l)))))) (Q.sl mN (fun b o l => d.at_ (Mt (Mt (Mt (Ma (Ml l))))))) (a4.at (fun b o l => d.at_ (Mt (Mt (Mt (Ma (Ma (Ml l)))))))) (T.at (fun b o l => d.at_ (Mt (Mt (Mt (Ma (Ma (Ma (Ml l))))))))) ((a3.Co xd).mono (Pl.mono _) (nG (fun b o l => d.at_ (Mt (Mt (Mt (Ma (Ma (Ma (Ma (Ml l))))))))))) (At.of (d.at_ (Mt (Mt Mh))) _ rfl) e6) (fun W7 e7 A e2 d f5 ae a9 => V (sw kB rfl a9) (Wm ?_))))))))))))
 refine ln ?_
 replace d := d.ll (Kr (Kb (Db St)))
 refine vO (mQ (fun i E W => ∃ n U a0 q Y s L R, (E 12 = .int .i64 (i : Nat) ∧ E 11 = .int .i64 (r5.length : Nat)) ∧ lP A L ∧ ST false (keys ((K, Ob #[g, a, j, c, z, (.int .i64 Z)] 189) :: (G ++ (k ++ (u ++ (t ++ (B ++ []))))))) w W L ((K, Ob #[g, a, j, c, a0, (.int .i64 s)] 189) :: ((b3, Ol (lu a2) 50) :: (U ++ (k ++ (u ++ (t ++ (Y ++ (e2 ++ R)))))))) ∧ E 0 = (.pointer (some ⟨K, 0, none⟩)) ∧ E 5 = (.pointer (some ⟨b3, 0, none⟩)) ∧ E 10 = e7 ∧ nu (fun (x : lg) => (.agg (lu x).toArray)) (nr Value.string (fun (x : Bool) => (Value.bool x))) g n U ∧ rF 111 nv 3 a0 q Y ∧ rh H J I a2 (r5.drop i) n q s = some r) r5.length a9.len ⟨N, G, z, M, B, Z, A, _, ⟨rfl, rfl⟩, (lP.refl _), (d.ll (Sb (Pr (Pb Pz)) (Sb (Pr Pz) (Sr (Qr Qz) (Sr (Qr Qz) (Sr (Qr Qz) (Sr (Qr Qz) (Sr (Qr Qz) St)))))))), rfl, rfl, rfl, a5, a3, hm⟩ dc dc dc (fun _ _ _ h => by obtain ⟨_, _, _, _, _, _, _, _, aa, _⟩ := h; exact aa) ?_ ?_)
 ·rintro d8 E W c9 ⟨n, U, a0, q, Y, s, L, R, ⟨eI, eN⟩, b6, d, c0, c1, c2, O, P, D⟩
  obtain ⟨c4, f0, d2, c5, d3⟩ := mA c9
  rw [d2] at D
  refine bg (VQ (oY (i := (d8 : Int)) (x0 := c4) kB iV c2 eI a9 (aJ _) c5) (fun f6 d0 => V (lq rfl (Ji d.has (fun p l => (Mt (Mt (Ma (Ma (Ma (Ma (Ma (Ml l))))))))) a9 (fun _ => rfl) d0 c5 (y := (.string c4)) rfl cL)) (Wa (ln (lG (Wh c0 (V (lq c1 (lB d.has (Mt Mh) (lu a2) rfl bO aN)) (Wm (bS D fun c3 d1 D => ?_)))))))))
  refine VE (eM d (Cb Pz (Cr (Qb Qz) (Cr (Qb Qz) (Cr (Qb Qz) (Cr (Qb Qz) (Cr (Qb Qz) Cn)))))) call244 (fun hh _ => nl.ng (sk K g n U a H k j J u c I t a0 q Y s a2 c4 _ _ hh O Q a4 T P d1)) ?_)
  rintro _ f7 e1 f2 d c7 ab ad ⟨d6, e0, d7, b4, rfl, d4, d5⟩
  obtain rfl := b4.symm
  replace d := d.perm (Tb (Tr (Tr (Tr (Tr (Tr Tn))))))
  exact me (ms (lD ⟨eI, c3.1, d6, e0, c3.2.1, d7, c3.2.2, e1, _, ⟨rfl, eN⟩, (b6.trans c7), (d.ll (Kb (Sb (Pr (Pr (Pr (Pr (Pr Pz))))) St))), c0, c1, c2, d4, d5, (by rw [d3]; exact D)⟩))
 rintro E W ⟨n, U, a0, q, Y, s, L, R, ⟨eI, eN⟩, b6, d, c0, c1, c2, O, P, D⟩
 rw [aP] at D
 refine lD ?_
 replace d := d.ll (Kb (Db (Kr (Kr (Kr (Kr (Kr (Dr St))))))))
 refine rS ?_
 obtain rfl := sj D
 exact qk rfl ⟨_, _, rfl, (d.nF (Kb (Kr (Kr (Kr (Kr (Kr Sn))))))), U, a0, Y, rfl, rfl, O, P⟩
theorem Ab (K : Nat) (G : Value) (Z : List (lg × (List (ByteArray × Bool)))) (D : LO) (g : Value) (I : List lf) (a : LO) (B : Value) (N : List (lg × (List lf))) (y : LO) (i : Value) (J : List (ByteArray × (List lf))) (c : LO) (t : Value) (M : List lF) (j : LO) (a0 : Int) (Q : lf) (a2 : lF) (r : ((List (lg × (List (ByteArray × Bool)))) × (List lF) × Int)) (w : World) {μ0 : lZ} (h0 : oT μ0 ((K, Ob #[G, g, B, i, t, (.int .i64 a0)] 189) :: (D ++ (a ++ (y ++ (c ++ (j ++ [])))))) w) (U : nu (fun (x : lg) => (.agg (lu x).toArray)) (nr Value.string (fun (x : Bool) => (Value.bool x))) G Z D) (T : lR 52 li 9 g I a) (a3 : nu (fun (x : lg) => (.agg (lu x).toArray)) (lR 52 li 9) B N y) (Y : nu Value.string (lR 52 li 9) i J c) (H : rF 111 nv 3 t M j) (hm : sN Z I N J M a0 Q a2 = some r) :
  nl false pg0 246 [(.pointer (some ⟨K, 0, none⟩)), (.agg (li Q).toArray), (.agg (nv a2).toArray)] w ((K, Ob #[G, g, B, i, t, (.int .i64 a0)] 189) :: (D ++ (a ++ (y ++ (c ++ (j ++ [])))))) (fun v L1 W' => ∃ S1 y3 S4, v = (.tuple #[]) ∧ L1 = ((K, Ob #[G, g, B, i, y3, (.int .i64 (r.2.2))] 189) :: (S1 ++ (a ++ (y ++ (c ++ (S4 ++ [])))))) ∧ nu (fun (x : lg) => (.agg (lu x).toArray)) (nr Value.string (fun (x : Bool) => (Value.bool x))) G r.1 S1 ∧ rF 111 nv 3 y3 r.2.1 S4) := by
 let F := (#[G, g, B, i, t, (.int .i64 a0)] : Array Value)
 refine AN h0 57 func246 rfl (fun d => sg (VE (mG d rfl (fun W2 L d => VE (mG d rfl (fun W4 P d => lr (Wf zr (VB d (Mt Mh) rfl rfl dD (ln (nz (lH ?_)))))))))))
 refine lG (Wi rfl (Wa (ln (CI hm rfl (fun e5 hm => ?_) (fun e5 hm => ?_)))))
 ·refine lG (Wm (Wf uM (VA d (Mt Mh) (lu Q.Head) bO aN (Wf By (VB d Mh rfl rfl cL (bS hm fun r6 e6 hm => ?_))))))
  refine VE (eM d (Cb (Pb (Pb Pz)) (Cr (Qb (Qb Qz)) (Cr (Qb (Qb Qz)) (Cr (Qb (Qb Qz)) (Cr (Qb (Qb Qz)) (Cr (Qb (Qb Qz)) Cn)))))) call244 (fun A _ => nl.ng (sk K G Z D g I a B N y i J c t M j a0 Q.Head a2.lM _ _ A U T a3 Y H e6)) ?_)
  rintro _ g7 ad f8 d f2 a6 n ⟨d2, e7, d3, a8, rfl, c5, c6⟩
  obtain rfl := a8.symm
  replace d := d.perm (Tb (Tr (Tr (Tr (Tr (Tr Tn))))))
  refine me (ms (rS ?_))
  obtain rfl := sj hm
  exact qk rfl ⟨_, _, rfl, (d.nF (Kb (Kr (Kr (Kr (Kr (Kr Sn))))))), d2, e7, d3, rfl, rfl, c5, c6⟩
 refine sg (Wi rfl (Wa (ln (CI hm rfl (fun c0 hm => ?_) (fun c0 hm => ?_)))))
 ·refine lG (Wm (Wf By (VB d Mh rfl rfl cL (Wf AT (VB d (Mt Mh) rfl rfl cL (V (nT (v := (.agg (lu (⟨a2.lM, Q.lN⟩ : lg)).toArray)) (sQ rfl rfl) (nq eG dO (Mu _ dO) kr)) (Wf uM (VA d (Mt Mh) (lu Q.Head) bO aN (bS hm fun g3 c3 hm => ?_)))))))))
  refine VE (eM d (Cb (Pb (Pb Pz)) (Cr (Qb (Qb Qz)) (Cr (Qb (Qb Qz)) (Cr (Qb (Qb Qz)) (Cr (Qb (Qb Qz)) (Cr (Qb (Qb Qz)) Cn)))))) call284 (fun A _ => (Ed K G Z D g I a B N y i J c t M j a0 (⟨a2.lM, Q.lN⟩ : lg) Q.Head _ _ A U T a3 Y H c3)) ?_)
  rintro _ g8 h2 f9 d f3 aa n ⟨d4, e9, d5, a9, rfl, c7, c8⟩
  obtain rfl := a9.symm
  replace d := d.perm (Tb (Tr (Tr (Tr (Tr (Tr Tn))))))
  refine me (ms (rS ?_))
  obtain rfl := sj hm
  exact qk rfl ⟨_, _, rfl, (d.nF (Kb (Kr (Kr (Kr (Kr (Kr Sn))))))), d4, e9, d5, rfl, rfl, c7, c8⟩
 refine sg (Wi rfl (Wa (ln (CI hm rfl (fun c1 hm => ?_) (fun c1 hm => ?_)))))
 ·refine lH ?_
  replace d := d.drew
  have h := d.has.ll (Kb (Kb (Kb (Kr Sn))))
  refine mw h lY (X 0 rfl h (lz rfl) (X 1 rfl h (nA rfl) (X 2 rfl h (lA xW rfl) (XH 3 rfl h (fun _ l => lq rfl (lK l (Mt (Mt Mh)) rfl jk)) (X 4 rfl h (lA rr rfl) (XH 5 rfl h (fun _ l => lq rfl (lB l (Mt Mh) (lu Q.B) rfl bO aN)) ?_))))))
  obtain ⟨f7, a5⟩ := U
  refine XH 6 rfl h (fun _ l => qv (k := Q.B) (z := (.map none)) A4 fR gN rfl rfl a5 (fun b o q => l.2 b o (Mt (Mt (Mt (Ml q)))))) (X 7 rfl h (lA By rfl) (XH 8 rfl h (fun _ l => lq rfl (lK l Mh rfl cL)) (XH 9 rfl h (fun _ l => AK (k := a2.lM) (z := false) (vf := (fun (x : Bool) => (Value.bool x))) D9 gS kP rfl rfl (nP.DR (μ := hp _) lO.1 a5 Q.B (fun b o q => l.2 b o (Mt (Mt (Mt (Ml q))))))) (X 10 rfl h (lz rfl) (PJ hm (fun b5 E W => ∃ R, ST false (keys ((K, Obj.cells F 189 (0, 0)) :: (D ++ (a ++ (y ++ (c ++ (j ++ []))))))) w W μ0 ((P, Ol (nv a2) 111) :: ((L, Ol (li Q) 52) :: ((K, Obj.cells F 189 (0, 0)) :: (D ++ (a ++ (y ++ (c ++ (j ++ R)))))))) ∧ E 0 = (.pointer (some ⟨K, 0, none⟩)) ∧ E 4 = (.pointer (some ⟨L, 0, none⟩)) ∧ E 5 = (.pointer (some ⟨P, 0, none⟩)) ∧ E 50 = (.bool b5)) (bm 22 4194303) 0 ?_ (fun b5 s O => ?_))))))
  ·rintro h1 E W ⟨R, d, e1, e2, e3, e4⟩ a4
   refine mM kr (lD (CI a4 e4 (fun c2 a4 => ?_) (fun c2 a4 => ?_)))
   ·refine lG (Wh e1 (V (lA uM e2) (VA d (Mt Mh) (lu Q.Head) bO aN (V (lA By e3) (VB d Mh rfl rfl cL (bS a4 fun g4 c4 a4 => ?_))))))
    refine VE (eM d (Cb (Pb (Pb Pz)) (Cr (Qb (Qb Qz)) (Cr (Qb (Qb Qz)) (Cr (Qb (Qb Qz)) (Cr (Qb (Qb Qz)) (Cr (Qb (Qb Qz)) Cn)))))) call244 (fun A _ => nl.ng (sk K G Z D g I a B N y i J c t M j a0 Q.Head a2.lM _ _ A a5.e T a3 Y H c4)) ?_)
    rintro _ g9 h3 g0 d f4 ab n ⟨d7, f0, d8, b0, rfl, c9, d0⟩
    obtain rfl := b0.symm
    replace d := d.perm (Tb (Tr (Tr (Tr (Tr (Tr Tn))))))
    refine me (ms (rS ?_))
    obtain rfl := sj a4
    exact qk rfl ⟨_, _, rfl, (d.nF (Kb (Kr (Kr (Kr (Kr (Kr Sn))))))), d7, f0, d8, rfl, rfl, c9, d0⟩
   refine mX (ms (rS ?_))
   obtain rfl := sj a4
   exact qk rfl ⟨_, _, rfl, (d.nF (Db (Db (Kb (Kr (Kr (Kr (Kr (Kr Sn))))))))), D, t, j, rfl, rfl, a5.e, H⟩
  refine bC s (fun u s => ?_) (fun u s => ?_)
  ·refine Xg 11 rfl rfl (cB u) h (lz rfl) (Xg 12 rfl rfl (cB u) h (nA rfl) (Xg 13 rfl rfl (cB u) h (lA xW rfl) (rE 14 rfl rfl (cB u) h (fun _ l => lq rfl (lK l (Mt (Mt Mh)) rfl jk)) (Xg 15 rfl rfl (cB u) h (lA zm rfl) (rE 16 rfl rfl (cB u) h (fun _ l => lq rfl (lB l (Mt Mh) (lu Q.C) rfl bO aN)) (rE 17 rfl rfl (cB u) h (fun _ l => qv (k := Q.C) (z := (.map none)) A4 fR gN rfl rfl a5 (fun b o q => l.2 b o (Mt (Mt (Mt (Ml q)))))) (Xg 18 rfl rfl (cB u) h (lA By rfl) (rE 19 rfl rfl (cB u) h (fun _ l => lq rfl (lK l Mh rfl cL)) (rE 20 rfl rfl (cB u) h (fun _ l => AK (k := a2.lM) (z := false) (vf := (fun (x : Bool) => (Value.bool x))) D9 gS kP rfl rfl (nP.DR (μ := hp _) lO.1 a5 Q.C (fun b o q => l.2 b o (Mt (Mt (Mt (Ml q))))))) (X 21 rfl h (lX (cB u) rfl) ?_))))))))))
   obtain rfl := sj s
   refine nk kr (O _ _ ⟨_, (d.ll St), rfl, rfl, rfl, rfl⟩)
  refine Xn 11 rfl rfl (cB u) h (Xn 12 rfl rfl (cB u) h (Xn 13 rfl rfl (cB u) h (Xn 14 rfl rfl (cB u) h (Xn 15 rfl rfl (cB u) h (Xn 16 rfl rfl (cB u) h (Xn 17 rfl rfl (cB u) h (Xn 18 rfl rfl (cB u) h (Xn 19 rfl rfl (cB u) h (Xn 20 rfl rfl (cB u) h (X 21 rfl h (lW (cB u) rfl) ?_))))))))))
  obtain rfl := sj s
  refine nk kr (O _ _ ⟨_, (d.ll St), rfl, rfl, rfl, rfl⟩)
 refine mX (ms (rS ?_))
 obtain rfl := sj hm
 exact qk rfl ⟨_, _, rfl, (d.nF (Db (Db (Kb (Kr (Kr (Kr (Kr (Kr Sn))))))))), D, t, j, rfl, rfl, U, H⟩
theorem Ds (K : Nat) (g : Value) (T : List (lg × (List (ByteArray × Bool)))) (D : LO) (a : Value) (G : List lf) (j : LO) (t : Value) (J : List (lg × (List lf))) (u : LO) (c : Value) (H : List (ByteArray × (List lf))) (k : LO) (z : Value) (M : List lF) (B : LO) (a0 : Int) (Z : lf) (r : ((List (lg × (List (ByteArray × Bool)))) × (List lF) × Int)) (w : World) {μ0 : lZ} (h0 : oT μ0 ((K, Ob #[g, a, t, c, z, (.int .i64 a0)] 189) :: (D ++ (j ++ (u ++ (k ++ (B ++ [])))))) w) (a2 : nu (fun (x : lg) => (.agg (lu x).toArray)) (nr Value.string (fun (x : Bool) => (Value.bool x))) g T D) (N : lR 52 li 9 a G j) (Y : nu (fun (x : lg) => (.agg (lu x).toArray)) (lR 52 li 9) t J u) (Q : nu Value.string (lR 52 li 9) c H k) (U : rF 111 nv 3 z M B) (hm : tR T G J H M a0 Z = some r) :
  nl false pg0 188 [(.pointer (some ⟨K, 0, none⟩)), (.agg (li Z).toArray)] w ((K, Ob #[g, a, t, c, z, (.int .i64 a0)] 189) :: (D ++ (j ++ (u ++ (k ++ (B ++ [])))))) (fun v L1 W' => ∃ S1 y3 S4, v = (.tuple #[]) ∧ L1 = ((K, Ob #[g, a, t, c, y3, (.int .i64 (r.2.2))] 189) :: (S1 ++ (j ++ (u ++ (k ++ (S4 ++ [])))))) ∧ nu (fun (x : lg) => (.agg (lu x).toArray)) (nr Value.string (fun (x : Bool) => (Value.bool x))) g r.1 S1 ∧ rF 111 nv 3 y3 r.2.1 S4) := by
 refine AN h0 33 func188 rfl (fun d => sg (VE (mG d rfl (fun W2 b1 d => lr (Wf zr (VB d Mh rfl rfl dD (ln (bg ?_))))))))
 refine Wi rfl (Wa (ln (CI hm rfl (fun f1 hm => ?_) (fun f1 hm => ?_))))
 ·refine lG (Wm (Wf uM (VA d Mh (lu Z.Head) bO aN (Wf Di (VB d Mh rfl rfl cL (bS hm fun r4 f2 hm => ?_))))))
  refine VE (eM d (Cb (Pb Pz) (Cr (Qb Qz) (Cr (Qb Qz) (Cr (Qb Qz) (Cr (Qb Qz) (Cr (Qb Qz) Cn)))))) call244 (fun hh _ => nl.ng (sk K g T D a G j t J u c H k z M B a0 Z.Head Z.lM _ _ hh a2 N Y Q U f2)) ?_)
  rintro _ h1 ae g8 d g2 ad n ⟨e7, f4, e8, c2, rfl, e0, e1⟩
  obtain rfl := c2.symm
  replace d := d.perm (Tb (Tr (Tr (Tr (Tr (Tr Tn))))))
  refine me (ms (rS ?_))
  obtain rfl := sj hm
  exact qk rfl ⟨_, _, rfl, (d.nF (Kb (Kr (Kr (Kr (Kr (Kr Sn))))))), e7, f4, e8, rfl, rfl, e0, e1⟩
 refine sg (Wm (Wf rr (VA d Mh (lu Z.B) bO aN (bS hm fun c6 d9 hm => VE (tW d call245 (za K g T a G t J c H z M a0 Z.B _ _ (a2.at (fun b o l => d.at_ (Mt (Mt (Ml l))))) (N.sl mN (fun b o l => d.at_ (Mt (Mt (Ma (Ml l)))))) (Y.at (fun b o l => d.at_ (Mt (Mt (Ma (Ma (Ml l))))))) (Q.at (fun b o l => d.at_ (Mt (Mt (Ma (Ma (Ma (Ml l)))))))) ((U.Co xd).mono (Pl.mono _) (nG (fun b o l => d.at_ (Mt (Mt (Ma (Ma (Ma (Ma (Ml l)))))))))) (At.of (d.at_ (Mt Mh)) _ rfl) d9) (fun g9 f3 d5 e5 d f6 ab L => V (sw kB rfl L) (Wm (ln (vO (mQ (fun i E W => ∃ q a3 a5 s a4 a9 O b9, (E 13 = .int .i64 (i : Nat) ∧ E 12 = .int .i64 (c6.length : Nat)) ∧ lP d5 O ∧ ST false (keys ((K, Ob #[g, a, t, c, z, (.int .i64 a0)] 189) :: (D ++ (j ++ (u ++ (k ++ (B ++ []))))))) w W O ((K, Ob #[g, a, t, c, a5, (.int .i64 a9)] 189) :: ((b1, Ol (li Z) 52) :: (a3 ++ (j ++ (u ++ (k ++ (a4 ++ (e5 ++ b9)))))))) ∧ E 0 = (.pointer (some ⟨K, 0, none⟩)) ∧ E 3 = (.pointer (some ⟨b1, 0, none⟩)) ∧ E 11 = f3 ∧ nu (fun (x : lg) => (.agg (lu x).toArray)) (nr Value.string (fun (x : Bool) => (Value.bool x))) g q a3 ∧ rF 111 nv 3 a5 s a4 ∧ qw G J H Z (c6.drop i) q s a9 = some r) c6.length L.len ⟨T, D, z, M, B, a0, d5, _, ⟨rfl, rfl⟩, (lP.refl _), (d.ll (Sb (Pr (Pb Pz)) (Sb (Pr Pz) (Sr (Qr Qz) (Sr (Qr Qz) (Sr (Qr Qz) (Sr (Qr Qz) (Sr (Qr Qz) St)))))))), rfl, rfl, rfl, a2, U, hm⟩ dc dc dc (fun _ _ _ h => by obtain ⟨_, _, _, _, _, _, _, _, a1, _⟩ := h; exact a1) ?_ ?_))))))))))
 ·rintro e2 E W c8 ⟨q, a3, a5, s, a4, a9, O, b9, ⟨eI, eN⟩, b7, d, c0, F, c1, P, R, I⟩
  obtain ⟨A, f7, d1, c4, d2⟩ := mA c8
  rw [d1] at I
  refine bg (VQ (oY (i := (e2 : Int)) (x0 := A) kB iV c1 eI L (aJ _) c4) (fun g3 c9 => V (lq rfl (Ji d.has (fun p l => (Mt (Mt (Ma (Ma (Ma (Ma (Ma (Ml l))))))))) L (fun _ => rfl) c9 c4 (y := (.string A)) rfl cL)) (Wa (ln (lG (Wh c0 (V (lq F (lB d.has (Mt Mh) (li Z) rfl bP aH)) (V (lA rr F) (VA d (Mt Mh) (lu Z.B) bO aN (Wm (V (nT (v := (.agg (nv (⟨Z.B, A⟩ : lF)).toArray)) (sQ rfl rfl) (nq kR gQ (PM _ gQ) kr)) ?_)))))))))))
  refine bS I fun c3 d0 I => ?_
  refine VE (eM d (Cb Pz (Cr (Qb Qz) (Cr (Qb Qz) (Cr (Qb Qz) (Cr (Qb Qz) (Cr (Qb Qz) Cn)))))) call246 (fun hh _ => (Ab K g q a3 a G j t J u c H k a5 s a4 a9 Z (⟨Z.B, A⟩ : lF) _ _ hh P N Y Q R d0)) ?_)
  rintro _ g4 e4 f9 d c5 aa n ⟨d6, e3, d7, b5, rfl, d3, d4⟩
  obtain rfl := b5.symm
  replace d := d.perm (Tb (Tr (Tr (Tr (Tr (Tr Tn))))))
  exact me (ms (lD ⟨eI, c3.1, d6, e3, c3.2.1, d7, c3.2.2, e4, _, ⟨rfl, eN⟩, (b7.trans c5), (d.ll (Kb (Sb (Pr (Pr (Pr (Pr (Pr Pz))))) St))), c0, F, c1, d3, d4, (by rw [d2]; exact I)⟩))
 rintro E W ⟨q, a3, a5, s, a4, a9, O, b9, ⟨eI, eN⟩, b7, d, c0, F, c1, P, R, I⟩
 rw [aP] at I
 refine lD ?_
 replace d := d.ll (Kb (Db (Kr (Kr (Kr (Kr (Kr (Dr St))))))))
 refine ms (rS ?_)
 obtain rfl := sj I
 exact qk rfl ⟨_, _, rfl, (d.nF (Kb (Kr (Kr (Kr (Kr (Kr Sn))))))), a3, a5, a4, rfl, rfl, P, R⟩
theorem CM (I : Nat) (a : Value) (e8 : List (lg × (List (ByteArray × Bool)))) (K : LO) (c : Value) (Q : List lf) (j : LO) (u : Value) (N : List (lg × (List lf))) (y : LO) (g : Value) (H : List (ByteArray × (List lf))) (t : LO) (G : Value) (d4 : List lF) (D : LO) (a0 : Int) (r : ((List (lg × (List (ByteArray × Bool)))) × (List lF) × Int)) (w : World) {μ0 : lZ} (h0 : oT μ0 ((I, Ob #[a, c, u, g, G, (.int .i64 a0)] 189) :: (K ++ (j ++ (y ++ (t ++ (D ++ [])))))) w) (h4 : nu (fun (x : lg) => (.agg (lu x).toArray)) (nr Value.string (fun (x : Bool) => (Value.bool x))) a e8 K) (c1 : lR 52 li 9 c Q j) (g7 : nu (fun (x : lg) => (.agg (lu x).toArray)) (lR 52 li 9) u N y) (c2 : nu Value.string (lR 52 li 9) g H t) (g4 : rF 111 nv 3 G d4 D) (hm : vy e8 Q N H d4 a0 = some r) :
  nl false pg0 189 [(.pointer (some ⟨I, 0, none⟩))] w ((I, Ob #[a, c, u, g, G, (.int .i64 a0)] 189) :: (K ++ (j ++ (y ++ (t ++ (D ++ [])))))) (fun v L1 W' => ∃ S1 y3 S4, v = (.tuple #[]) ∧ L1 = ((I, Ob #[a, c, u, g, y3, (.int .i64 (r.2.2))] 189) :: (S1 ++ (j ++ (y ++ (t ++ (S4 ++ [])))))) ∧ nu (fun (x : lg) => (.agg (lu x).toArray)) (nr Value.string (fun (x : Bool) => (Value.bool x))) a r.1 S1 ∧ rF 111 nv 3 y3 r.2.1 S4) := by
 let g5 : Value := (.pointer (some ⟨I, 0, none⟩))
 let b8 := ((I, Ob #[a, c, u, g, G, (.int .i64 a0)] 189) :: (K ++ (j ++ (y ++ (t ++ (D ++ []))))))
 refine AN h0 75 func189 rfl (fun d => vO (nz (ph (fun m E W => ∃ e3 b7 e4 a1 b9 d1 b4 h5, lP μ0 b4 ∧ ST false (keys b8) w W b4 ((I, Ob #[a, c, u, g, e4, (.int .i64 d1)] 189) :: (b7 ++ (j ++ (y ++ (t ++ (b9 ++ h5)))))) ∧ E 0 = g5 ∧ nu (fun (x : lg) => (.agg (lu x).toArray)) (nr Value.string (fun (x : Bool) => (Value.bool x))) a e3 b7 ∧ rF 111 nv 3 e4 a1 b9 ∧ oG Q N H m e3 a1 d1 = some r) mq ⟨e8, K, G, d4, D, a0, μ0, _, (lP.refl _), (d.ll St), rfl, h4, g4, hm⟩ ?_)))
 rintro m E W ⟨e3, b7, e4, a1, b9, d1, b4, h5, i0, d, L, g9, c5, M⟩
 cases m with
 | zero => rw [oG] at M; cases M
 | succ n0 =>
  refine lH (sg (Wh L (Wn (Wf Bz (VB d Mh rfl rfl isAgg187 (V (Pd jf rfl c5) (Wi rfl (ln (CI M rfl (fun i7 M => ?_) (fun i7 M => ?_))))))))))
  ·refine kn (bg (Wh L (Wn (Wf Bz (VB d Mh rfl rfl isAgg187 (bS M fun B h2 M => VQ (qb (enc := nv) (i := 0) (x0 := B) jf kH rfl rfl (c5.Co xd) (mc h2) (lU h2)) (fun q0 j7 => V (lq rfl (ma (pj.hp _) (j7.mono (nG (fun b o q => d.has.2 b o (Mt (Ma (Ma (Ma (Ma (Ml q))))))))) isAgg111 kH)) (VE (ml d kR (fun o9 a5 d => VO (lL (.agg (nv B).toArray) ((nv B).toArray) d rfl rfl kH (Lb B) nb rfl (fun p0 d => me ?_))))))))))))
   let j2 := ((mL lQ N B.lg).getD [])
   let j1 : Value := (.pointer (some ⟨a5, 0, none⟩))
   let i6 := ((nv B).toArray : Array Value)
   let i5 := ((mL mK H B.lg.lp).getD [])
   refine lD (sg (Wh L (Wh L (Wn (Wf Bz (VB d (Mt Mh) rfl rfl isAgg187 (bS M fun _ g8 M => VQ (Mq (i := 1) jf kH rfl rfl xd c5 (uw g8) (um g8)) (fun q3 h1 => Wn (Wf Bz ?_)))))))))
   obtain ⟨f7, g0, rfl⟩ := h1.form
   let g6 : Value := (.slice f7 (a1.drop (Int.toNat 1)).length g0)
   replace d := d.perm (Nb (Pb Pz) Nz)
   refine VO (lL g6 (#[a, c, u, g, g6, (.int .i64 d1)]) d rfl rfl sizeOf187 oc nb rfl (fun p1 d => ln (lH (lH ?_))))
   replace d := d.drew
   have l := d.has.ll (Kb (Kb (Dr (Dr (Kr Sn)))))
   refine mw l lY (X 0 rfl l (lz L) (X 1 rfl l (nA rfl) (X 2 rfl l (lA Lt rfl) (XH 3 rfl l (fun _ n => lq rfl (lK n Mh rfl isAgg185)) (X 4 rfl l (lA H8 rfl) (XH 5 rfl l (fun _ n => lq rfl (lB n (Mt Mh) (lu B.lg) rfl bO aN)) ?_))))))
   obtain ⟨l7, c3⟩ := g7
   obtain ⟨o7, f0, k2⟩ := nP.rowAt lO.1 c3 B.lg
   refine XH 6 rfl l (fun _ n => qv (k := B.lg) (z := (.slice none 0 0)) A4 underlying185 kq rfl rfl c3 (fun b o q => n.2 b o (Mt (Mt (Ml q))))) (X 7 rfl l (mS aG rfl (f0.Co mN)) (X 8 rfl l (lz rfl) (mM kr (lD (CJ M (fun d0 E W => ∃ d6 e5 d7 b5 h6, lP b4 b5 ∧ ST false (keys b8) w W b5 ((I, Ob #[a, c, u, g, e5, (.int .i64 d0.2.2)] 189) :: ((a5, Obj.cells i6 111 (0, 0)) :: (d6 ++ (j ++ (y ++ (t ++ (d7 ++ h6))))))) ∧ E 0 = g5 ∧ E 2 = j1 ∧ nu (fun (x : lg) => (.agg (lu x).toArray)) (nr Value.string (fun (x : Bool) => (Value.bool x))) a d0.1 d6 ∧ rF 111 nv 3 e5 d0.2.1 d7) (fun d0 j6 => ?_) ?_)))))
   ·refine mQ (fun i E W => ∃ c7 a3 R c8 a4 d2 d3 f9, (E 35 = .int .i64 (i : Nat) ∧ E 34 = .int .i64 (j2.length : Nat)) ∧ lP b4 d3 ∧ ST false (keys b8) w W d3 ((I, Ob #[a, c, u, g, R, (.int .i64 d2)] 189) :: ((a5, Obj.cells i6 111 (0, 0)) :: (a3 ++ (j ++ (y ++ (t ++ (a4 ++ f9))))))) ∧ E 0 = g5 ∧ E 2 = j1 ∧ E 33 = (qt lQ l7 B.lg (.slice none 0 0)) ∧ nu (fun (x : lg) => (.agg (lu x).toArray)) (nr Value.string (fun (x : Bool) => (Value.bool x))) a c7 a3 ∧ rF 111 nv 3 R c8 a4 ∧ qg Q N H B (j2.drop i) c7 c8 d2 = some d0) j2.length (f0.Co mN).len ⟨e3, b7, g6, (a1.drop (Int.toNat 1)), b9, d1, b4, _, ⟨rfl, rfl⟩, (lP.refl _), (d.ll St), L, rfl, rfl, g9, h1, j6⟩ dc dc dc (fun _ _ _ h => by obtain ⟨_, _, _, _, _, _, _, _, A, _⟩ := h; exact A) ?_ ?_
    ·rintro m5 E W j0 ⟨c7, a3, R, c8, a4, d2, d3, f9, ⟨s, eN⟩, d5, d, e1, e2, g1, f3, f4, T⟩
     obtain ⟨b3, o3, l1, l0, l2⟩ := mA j0
     rw [l1] at T
     refine bg (VQ (qb (enc := li) (i := (m5 : Int)) (x0 := b3) aG aH g1 s (f0.Co mN) (aJ _) l0) (fun q2 j9 => V (lq rfl (ma (pj.hp _) (j9.mono (nG (fun b o q => d.has.2 b o (Mt (Mt (Ma (Ma (Ml (k2 b o q))))))))) bP aH)) (VE (ml d cM (fun p5 p9 d => VO (lL (.agg (li b3).toArray) ((li b3).toArray) d rfl rfl aH (oQ b3) nb rfl (fun p6 d => ln (lG (Wh e1 (VA d Mh (li b3) bP aH (V (lq e2 (lB d.has (Mt (Mt Mh)) (nv B) rfl isAgg111 kH)) (bS T fun g3 k1 T => ?_))))))))))))
     refine VE (eM d (Cb (Pb Pz) (Cr (Qb (Qb Qz)) (Cr (Qb (Qb Qz)) (Cr (Qb (Qb Qz)) (Cr (Qb (Qb Qz)) (Cr (Qb (Qb Qz)) Cn)))))) call246 (fun hh _ => (Ab I a c7 a3 c Q j u N y g H t R c8 a4 d2 b3 B _ _ hh f3 c1 c3.e c2 f4 k1)) ?_)
     rintro _ q5 n6 o6 d i4 ab F ⟨m1, n4, m2, f6, rfl, l5, l6⟩
     obtain rfl := f6.symm
     replace d := d.perm (Tb (Tr (Tr (Tr (Tr (Tr Tn))))))
     refine me (ms (lD ?_))
     replace d := d.ll (Kb (Kr (Kr (Kr (Kr (Kr (Db St)))))))
     exact ⟨s, g3.1, m1, n4, g3.2.1, m2, g3.2.2, n6, _, ⟨rfl, eN⟩, (d5.trans i4), (d.ll (Kb (Sb (Pr (Pr (Pr (Pr (Pr Pz))))) St))), e1, e2, g1, l5, l6, (by rw [l2]; exact T)⟩
    rintro E W ⟨c7, a3, R, c8, a4, d2, d3, f9, ⟨s, eN⟩, d5, d, e1, e2, g1, f3, f4, T⟩
    rw [aP] at T
    refine lD ?_
    obtain rfl := sj T
    exact ⟨a3, R, a4, d3, _, d5, (d.ll St), e1, e2, f3, f4⟩
   rintro ⟨m6, m7, n1⟩ E W ⟨d6, e5, d7, b5, h6, i1, d, h8, h9, k3, k4⟩ j3
   refine lH ?_
   replace d := d.drew
   have l := d.has.ll (Kb (Kb (Dr (Dr (Dr (Kr Sn))))))
   refine mw l lY (X 0 rfl l (lz h8) (X 1 rfl l (nA rfl) (X 2 rfl l (lA HK rfl) (XH 3 rfl l (fun _ n => lq rfl (lK n Mh rfl isAgg186)) (X 4 rfl l (lA H8 h9) (X 5 rfl l (lA xA rfl) (XH 6 rfl l (fun _ n => lq rfl (lK n (Mt Mh) rfl cL)) ?_)))))))
   obtain ⟨l8, e9⟩ := c2
   obtain ⟨o8, f1, k5⟩ := nP.rowAt nD.1 e9 B.lg.lp
   refine XH 7 rfl l (fun _ n => qv (k := B.lg.lp) (z := (.slice none 0 0)) D9 underlying186 kq rfl rfl e9 (fun b o q => n.2 b o (Mt (Mt (Ml q))))) (X 8 rfl l (mS aG rfl (f1.Co mN)) (X 9 rfl l (lz rfl) (mM kr (lD (vO (CJ j3 (fun c9 E W => ∃ d8 e6 d9 e7 h7, lP b5 e7 ∧ ST false (keys b8) w W e7 ((I, Ob #[a, c, u, g, e6, (.int .i64 c9.2.2)] 189) :: (d8 ++ (j ++ (y ++ (t ++ (d9 ++ h7)))))) ∧ E 0 = g5 ∧ nu (fun (x : lg) => (.agg (lu x).toArray)) (nr Value.string (fun (x : Bool) => (Value.bool x))) a c9.1 d8 ∧ rF 111 nv 3 e6 c9.2.1 d9) (fun c9 j5 => ?_) ?_))))))
   ·refine mQ (fun i E W => ∃ a9 Y a2 P Z b2 b6 f8, (E 53 = .int .i64 (i : Nat) ∧ E 52 = .int .i64 (i5.length : Nat)) ∧ lP b5 b6 ∧ ST false (keys b8) w W b6 ((I, Ob #[a, c, u, g, a2, (.int .i64 b2)] 189) :: ((a5, Obj.cells i6 111 (0, 0)) :: (Y ++ (j ++ (y ++ (t ++ (Z ++ f8))))))) ∧ E 0 = g5 ∧ E 2 = j1 ∧ E 51 = (qt mK l8 B.lg.lp (.slice none 0 0)) ∧ nu (fun (x : lg) => (.agg (lu x).toArray)) (nr Value.string (fun (x : Bool) => (Value.bool x))) a a9 Y ∧ rF 111 nv 3 a2 P Z ∧ pf B Q N H (i5.drop i) a9 P b2 = some c9) i5.length (f1.Co mN).len ⟨m6, d6, e5, m7, d7, n1, b5, _, ⟨rfl, rfl⟩, (lP.refl _), (d.ll St), h8, h9, rfl, k3, k4, j5⟩ dc dc dc (fun _ _ _ h => by obtain ⟨_, _, _, _, _, _, _, _, A, _⟩ := h; exact A) ?_ ?_
    ·rintro m4 E W i9 ⟨a9, Y, a2, P, Z, b2, b6, f8, ⟨s, eN⟩, a8, d, O, c0, e0, f2, c6, J⟩
     obtain ⟨U, o2, k9, k8, h3⟩ := mA i9
     rw [k9] at J
     refine bg (VQ (qb (enc := li) (i := (m4 : Int)) (x0 := U) aG aH e0 s (f1.Co mN) (aJ _) k8) (fun q1 j8 => V (lq rfl (ma (pj.hp _) (j8.mono (nG (fun b o q => d.has.2 b o (Mt (Mt (Ma (Ma (Ma (Ml (k5 b o q)))))))))) bP aH)) (VE (ml d cM (fun p2 p8 d => VO (lL (.agg (li U).toArray) ((li U).toArray) d rfl rfl aH (oQ U) nb rfl (fun p3 d => ln (lH ?_))))))))
     replace d := d.drew
     have l := d.has.ll (Kb (Kb (Kb (Kr Sn))))
     refine mw l lY (X 0 rfl l (lz O) (X 1 rfl l (nA rfl) (X 2 rfl l (lA xW rfl) (XH 3 rfl l (fun _ n => lq rfl (lK n (Mt Mh) rfl jk)) (X 4 rfl l (lA rr rfl) (XH 5 rfl l (fun _ n => lq rfl (lB n Mh (lu U.B) rfl bO aN)) ?_))))))
     obtain ⟨o0, c4⟩ := f2
     refine XH 6 rfl l (fun _ n => qv (k := U.B) (z := (.map none)) A4 fR gN rfl rfl c4 (fun b o q => n.2 b o (Mt (Mt (Mt (Ml q)))))) (X 7 rfl l (lA H8 c0) (X 8 rfl l (lA vh rfl) (XH 9 rfl l (fun _ n => lq rfl (lK n (Mt (Mt Mh)) rfl cL)) (XH 10 rfl l (fun _ n => AK (k := B.lg.lh) (z := false) (vf := (fun (x : Bool) => (Value.bool x))) D9 gS kP rfl rfl (nP.DR (μ := hp _) lO.1 c4 U.B (fun b o q => n.2 b o (Mt (Mt (Mt (Ml q))))))) (mM kr (lD (CI J rfl (fun i8 J => ?_) (fun i8 J => ?_))))))))
     ·refine lG (Wh O (Wf uM (VA d Mh (lu U.Head) bO aN (V (lA By c0) (VB d (Mt (Mt Mh)) rfl rfl cL (bS J fun g2 k0 J => ?_))))))
      refine VE (eM d (Cb (Pb Pz) (Cr (Qb (Qb Qz)) (Cr (Qb (Qb Qz)) (Cr (Qb (Qb Qz)) (Cr (Qb (Qb Qz)) (Cr (Qb (Qb Qz)) Cn)))))) call244 (fun hh _ => nl.ng (sk I a a9 Y c Q j u N y g H t a2 P Z b2 U.Head B.lM _ _ hh c4.e c1 c3.e e9.e c6 k0)) ?_)
      rintro _ q4 n5 o5 d i3 aa F ⟨l9, n3, m0, f5, rfl, l3, l4⟩
      obtain rfl := f5.symm
      replace d := d.perm (Tb (Tr (Tr (Tr (Tr (Tr Tn))))))
      refine me (ms (lD ?_))
      replace d := d.ll (Kb (Kr (Kr (Kr (Kr (Kr (Db St)))))))
      exact ⟨s, g2.1, l9, n3, g2.2.1, m0, g2.2.2, n5, _, ⟨rfl, eN⟩, (a8.trans i3), (d.ll (Kb (Sb (Pr (Pr (Pr (Pr (Pr Pz))))) St))), O, c0, e0, l3, l4, (by rw [h3]; exact J)⟩
     refine mX (ms (lD ?_))
     replace d := d.ll (Db St)
     exact ⟨s, a9, Y, a2, P, Z, b2, b6, _, ⟨rfl, eN⟩, a8, (d.ll St), O, c0, e0, c4.e, c6, (by rw [h3]; exact J)⟩
    rintro E W ⟨a9, Y, a2, P, Z, b2, b6, f8, ⟨s, eN⟩, a8, d, O, c0, e0, f2, c6, J⟩
    rw [aP] at J
    refine lD ?_
    obtain rfl := sj J
    exact ⟨Y, a2, Z, b6, _, a8, (d.ll (Kb (Db St))), O, f2, c6⟩
   rintro ⟨m8, m9, n2⟩ E W ⟨d8, e6, d9, e7, h7, i2, d, m3, k6, k7⟩ j4
   exact ms (lD ⟨n0, bL _, m8, d8, e6, m9, d9, n2, e7, _, ((i0.trans i1).trans i2), (d.ll St), m3, k6, k7, j4⟩)
  refine oI (ow (ow (sU (lD (rS ?_)))))
  obtain rfl := sj M
  exact qk rfl ⟨_, _, rfl, (d.nF (Kb (Kr (Kr (Kr (Kr (Kr Sn))))))), b7, e4, b9, rfl, rfl, g9, c5⟩
theorem Eh (H : Nat) (g : Value) (c2 : List (lg × (List (ByteArray × Bool)))) (G : LO) (u : Value) (a7 : List lf) (k : LO) (c : Value) (b7 : List (lg × (List lf))) (z : LO) (a : Value) (a8 : List (ByteArray × (List lf))) (t : LO) (B : Value) (b6 : List lF) (y : LO) (K : Int) (d1 : Value) (s : List lf) (r : (Int × (List (lg × (List (ByteArray × Bool)))) × (List lf) × (List (lg × (List lf))) × (List (ByteArray × (List lf))) × (List lF) × Int)) (w : World) {μ0 : lZ} (h0 : oT μ0 ((H, Ob #[g, u, c, a, B, (.int .i64 K)] 189) :: (G ++ (k ++ (z ++ (t ++ (y ++ [])))))) w) (d6 : nu (fun (x : lg) => (.agg (lu x).toArray)) (nr Value.string (fun (x : Bool) => (Value.bool x))) g c2 G) (c6 : lR 52 li 9 u a7 k) (d3 : nu (fun (x : lg) => (.agg (lu x).toArray)) (lR 52 li 9) c b7 z) (c7 : nu Value.string (lR 52 li 9) a a8 t) (d2 : rF 111 nv 3 B b6 y) (d7 : Sl (Pl li) 9 μ0 d1 s) (hm : uU c2 a7 b7 a8 b6 K s = some r) :
  nl false pg0 125 [(.pointer (some ⟨H, 0, none⟩)), d1] w ((H, Ob #[g, u, c, a, B, (.int .i64 K)] 189) :: (G ++ (k ++ (z ++ (t ++ (y ++ [])))))) (fun v L1 W' => ∃ S1 y3 S4 S6 S8 i1 i0, v = (.int .i64 (r.1)) ∧ L1 = ((H, Ob #[g, y3, c, a, i1, (.int .i64 (r.2.2.2.2.2.2))] 189) :: (S1 ++ (S4 ++ (S6 ++ (S8 ++ (i0 ++ [])))))) ∧ nu (fun (x : lg) => (.agg (lu x).toArray)) (nr Value.string (fun (x : Bool) => (Value.bool x))) g r.2.1 S1 ∧ lR 52 li 9 y3 r.2.2.1 S4 ∧ nu (fun (x : lg) => (.agg (lu x).toArray)) (lR 52 li 9) c r.2.2.2.1 S6 ∧ nu Value.string (lR 52 li 9) a r.2.2.2.2.1 S8 ∧ rF 111 nv 3 i1 r.2.2.2.2.2.1 i0) := by
 let b8 := ((H, Ob #[g, u, c, a, B, (.int .i64 K)] 189) :: (G ++ (k ++ (z ++ (t ++ (y ++ []))))))
 refine AN h0 46 func125 rfl (fun d => sg (Wa (lS (Wm (V (tE underlying132 rfl rfl) (ln (re rfl (mX ?_))))))))
 refine lD (sg (Wm (Wn (Wf Fj (VB d Mh rfl rfl dD (Wa (lS (Wm (V (mS aG rfl d7) ?_)))))))))
 refine Wm (ln (mQ (fun i E W => ∃ a3 N M a4 Q a9 T q U a0 a5 Y a2 c1 d5, (E 16 = .int .i64 (i : Nat) ∧ E 15 = .int .i64 (s.length : Nat)) ∧ lP μ0 c1 ∧ ST false (keys b8) w W c1 ((H, Ob #[g, M, c, a, a0, (.int .i64 a2)] 189) :: (N ++ (Q ++ (T ++ (U ++ (Y ++ d5)))))) ∧ E 0 = (.pointer (some ⟨H, 0, none⟩)) ∧ E 5 = (.int .i64 K) ∧ E 14 = d1 ∧ nu (fun (x : lg) => (.agg (lu x).toArray)) (nr Value.string (fun (x : Bool) => (Value.bool x))) g a3 N ∧ lR 52 li 9 M a4 Q ∧ nu (fun (x : lg) => (.agg (lu x).toArray)) (lR 52 li 9) c a9 T ∧ nu Value.string (lR 52 li 9) a q U ∧ rF 111 nv 3 a0 a5 Y ∧ pc K (s.drop i) a3 a4 a9 q a5 a2 = some r) s.length d7.len ⟨c2, G, u, a7, k, b7, z, a8, t, B, b6, y, K, μ0, _, ⟨rfl, rfl⟩, (lP.refl _), (d.ll St), rfl, rfl, rfl, d6, c6, d3, c7, d2, hm⟩ dc dc dc (fun _ _ _ h => by obtain ⟨_, _, _, _, _, _, _, _, _, _, _, _, _, _, _, aa, _⟩ := h; exact aa) ?_ ?_))
 ·rintro f6 E W g3 ⟨a3, N, M, a4, Q, a9, T, q, U, a0, a5, Y, a2, c1, d5, ⟨eI, eN⟩, b1, d, F, c3, c4, O, A, P, R, b5, D⟩
  obtain ⟨I, j8, h4, h3, d9⟩ := mA g3
  rw [h4] at D
  refine bg (VQ (qb (enc := li) (i := (f6 : Int)) (x0 := I) aG aH c4 eI (d7.mono (Pl.mono _) b1) (aJ _) h3) (fun l1 g4 => V (lq rfl (ma d.has g4 bP aH)) (VE (ml d cM (fun k3 e8 d => VO (lL (.agg (li I).toArray) ((li I).toArray) d rfl rfl aH (oQ I) nb rfl (fun k4 d => ln (lH ?_))))))))
  replace d := d.drew
  have l := d.has.ll (Kb (Kb Sn))
  refine mw l lY (XH 0 rfl l (fun _ hS => lq rfl (lB hS Mh (li I) rfl bP aH)) (bS D fun l2 g7 D => XE 1 rfl (Eg d call113 (lV.ng (xK I _ _  g7)) (fun k5 d => ?_))))
  have l := d.has.ll (Kb (Kb Sn))
  refine ⟨l, (X 2 rfl l (lz rfl) (PJ D (fun f7 E W => ∃ e4, ST false (keys b8) w W c1 ((e8, Ol (li I) 52) :: ((H, Ob #[g, M, c, a, a0, (.int .i64 a2)] 189) :: (N ++ (Q ++ (T ++ (U ++ (Y ++ e4))))))) ∧ E 0 = (.pointer (some ⟨H, 0, none⟩)) ∧ E 5 = (.int .i64 K) ∧ E 7 = (.pointer (some ⟨e8, 0, none⟩)) ∧ E 14 = d1 ∧ E 15 = (.int .i64 (s.length : Int)) ∧ E 16 = (.int .i64 (f6 : Int)) ∧ E 30 = (.bool f7)) (bm 11 2047) 0 ?_ (fun f7 Z d4 => ?_)))⟩
  ·rintro l7 E W ⟨e4, d, c5, e9, f0, f1, f2, f3, i6⟩ J
   refine mM kr (lD (CI J i6 (fun g2 J => ?_) (fun g2 J => ?_)))
   ·refine sg (Wh c5 (V (lq f0 (lB d.has Mh (li I) rfl bP aH)) (bS J fun L g8 J => ?_)))
    refine VE (eM d (Cb (Pb Pz) (Cr (Qb Qz) (Cr (Qb Qz) (Cr (Qb Qz) (Cr (Qb Qz) (Cr (Qb Qz) Cn)))))) call187 (fun hh _ => nl.ng (DY H g a3 N M a4 Q c a9 T a q U a0 a5 Y a2 I _ _ hh O A P R b5 g8)) ?_)
    rintro _ l4 l8 k0 d f4 ab n ⟨f8, e5, e6, e7, c8, rfl, e0, e1, e2⟩
    obtain rfl := c8.symm
    replace d := d.perm (Tb (Tr (Tr (Tr (Tr (Tr Tn))))))
    refine ln (lG (Wh c5 (V (lq f0 (lB d.has (Mt (Ma (Ma (Ma (Ma (Ma Mh)))))) (li I) rfl bP aH)) (bS J fun d8 g9 J => ?_))))
    refine VE (eM d (Cb Pz (Cr Qz (Cr Qz (Cr Qz (Cr Qz (Cr Qz Cn)))))) call188 (fun hh _ => (Ds H g a3 N f8 L.1 e5 c L.2.1 e6 a L.2.2 e7 a0 a5 Y a2 I _ _ hh O e0 e1 e2 b5 g9)) ?_)
    rintro _ l5 j0 k1 d f5 ad n ⟨i2, i8, i3, c9, rfl, h5, h6⟩
    obtain rfl := c9.symm
    replace d := d.perm (Tb (Tr (Tr (Tr (Tr (Tr Tn))))))
    refine me (ms (lD ?_))
    replace d := d.ll (Kb (Kr (Kr (Kr (Kr (Kr (Db St)))))))
    exact ⟨f3, d8.1, i2, f8, L.1, e5, L.2.1, e6, L.2.2, e7, i8, d8.2.1, i3, d8.2.2, j0, _, ⟨rfl, f2⟩, ((b1.trans f4).trans f5), (d.ll St), c5, e9, f1, h5, e0, e1, e2, h6, (by rw [d9]; exact J)⟩
   refine mX (ms (lD ?_))
   replace d := d.ll (Db St)
   exact ⟨f3, a3, N, M, a4, Q, a9, T, q, U, a0, a5, Y, a2, c1, _, ⟨rfl, f2⟩, b1, (d.ll St), c5, e9, f1, O, A, P, R, b5, (by rw [d9]; exact J)⟩
  refine bC Z (fun j Z => ?_) (fun j Z => ?_)
  ·refine Xg 3 rfl rfl (cB j) l (lz F) (Xg 4 rfl rfl (cB j) l (nA rfl) (Xg 5 rfl rfl (cB j) l (lA H9 rfl) (rE 6 rfl rfl (cB j) l (fun _ hS => lq rfl (lK hS (Mt Mh) rfl eZ)) (rE 7 rfl rfl (cB j) l (fun _ hS => lq rfl (lB hS Mh (li I) rfl bP aH)) (bS Z fun l3 h1 Z => wo 8 rfl rfl (cB j) (Eg d call60 (lV.ng (Bn M a4 I _ _ (A.sl mN (fun b o hq => d.at_ (Mt (Mt (Ma (Ml hq)))))) h1)) (fun k8 d => ?_)))))))
   have l := d.has.ll (Kb (Kb Sn))
   refine ⟨l, (Xg 9 rfl rfl (cB j) l (ot rfl) (X 10 rfl l (lX (cB j) rfl) ?_))⟩
   obtain rfl := sj Z
   refine nk kr (d4 _ _ ⟨_, (d.ll St), F, c3, rfl, c4, eN, eI, rfl⟩)
  refine Xn 3 rfl rfl (cB j) l (Xn 4 rfl rfl (cB j) l (Xn 5 rfl rfl (cB j) l (Xn 6 rfl rfl (cB j) l (Xn 7 rfl rfl (cB j) l (Xn 8 rfl rfl (cB j) l (Xn 9 rfl rfl (cB j) l (X 10 rfl l (lW (cB j) rfl) ?_)))))))
  obtain rfl := sj Z
  refine nk kr (d4 _ _ ⟨_, (d.ll St), F, c3, rfl, c4, eN, eI, rfl⟩)
 rintro E W ⟨a3, N, M, a4, Q, a9, T, q, U, a0, a5, Y, a2, c1, d5, ⟨eI, eN⟩, b1, d, F, c3, c4, O, A, P, R, b5, D⟩
 rw [aP] at D
 refine lD (sg (Wh F (bS D fun i7 h2 D => ?_)))
 refine VE (eM d (Cb Pz (Cr Qz (Cr Qz (Cr Qz (Cr Qz (Cr Qz Cn)))))) call189 (fun hh _ => (CM H g a3 N M a4 Q c a9 T a q U a0 a5 Y a2 _ _ hh O A P R b5 h2)) ?_)
 rintro _ l6 l9 k2 d j6 ae n ⟨i4, i9, i5, d0, rfl, h7, h8⟩
 obtain rfl := d0.symm
 replace d := d.perm (Tb (Tr (Tr (Tr (Tr (Tr Tn))))))
 refine lr (Wh F (Wn (Wf Fj (VB d Mh rfl rfl dD (Wh c3 (Wi rfl (Wa (lt ?_))))))))
 obtain rfl := sj D
 exact na (v := (.int .i64 (wi0 .i64 (i7.2.2 - K)))) rfl rfl ⟨_, _, rfl, (d.nF (Kb (Kr (Kr (Kr (Kr (Kr Sn))))))), i4, M, Q, T, U, i9, i5, rfl, rfl, h7, A, P, R, h8⟩
theorem Hx (j : Value) (H : List lf) (r : ((List (lg × (List (ByteArray × Bool)))) × (List lf) × (List (lg × (List lf))) × (List (ByteArray × (List lf))) × (List lF) × Int)) (w : World) (J : Sl (Pl li) 9 (hp w) j H) (hm : wB H = some r) :
  nl false pg0 62 [j] w [] (fun v L1 W' => ∃ l o S3 q S6 s S9 D u G y, v = (.pointer (some ⟨l, 0, none⟩)) ∧ L1 = ((l, Ob #[o, q, s, D, G, (.int .i64 (r.2.2.2.2.2))] 189) :: (S3 ++ (S6 ++ (S9 ++ (u ++ (y ++ [])))))) ∧ nu (fun (x : lg) => (.agg (lu x).toArray)) (nr Value.string (fun (x : Bool) => (Value.bool x))) o r.1 S3 ∧ lR 52 li 9 q r.2.1 S6 ∧ nu (fun (x : lg) => (.agg (lu x).toArray)) (lR 52 li 9) s r.2.2.1 S9 ∧ nu Value.string (lR 52 li 9) D r.2.2.2.1 u ∧ rF 111 nv 3 G r.2.2.2.2.1 y) := by
 refine zh 13 func62 rfl (fun b => sg (Wa (lr (VE (Bk (P := pg0) (fun (x : lg) => (.agg (lu x).toArray)) (nr Value.string (fun (x : Bool) => (Value.bool x))) b (fun W1 v4 R2 b z => VE (Bk (P := pg0) (fun (x : lg) => (.agg (lu x).toArray)) (lR 52 li 9) b (fun W5 v8 R6 b B => VE (Bk (P := pg0) Value.string (lR 52 li 9) b (fun W9 R Y b t => ?_))))))))))
 obtain ⟨a, rfl⟩ := z.form
 obtain ⟨c, rfl⟩ := B.form
 obtain ⟨g, rfl⟩ := t.form
 refine V (nT (v := (.agg #[(.map (some a)), (.slice none 0 0), (.map (some c)), (.map (some g)), (.slice none 0 0), (.int .i64 0)])) (Fb rfl rfl rfl) (nq zeroValue189 fQ (SX _ fQ) kr)) (VE (mG b rfl (fun c1 k b => Wa (lr (Wm (Wm (bS hm fun O K hm => ?_)))))))
 refine VE (eM b (Cb Pz (Cr (Qr (Qr Qz)) (C0 (Cr (Qr Qz) (Cr Qz (C0 Cn)))))) call125 (fun F h => (Eh k (.map (some a)) ([]) R2 (.slice none 0 0) ([]) [] (.map (some c)) ([]) R6 (.map (some g)) ([]) Y (.slice none 0 0) ([]) [] 0 j H _ _ F z (lR.nil _ _ _) B t (rF.nil _ _ _) (J.mono (Pl.mono _) h) K)) ?_)
 rintro _ W c6 L b I n d ⟨Z, A, a2, a3, a4, E, a5, i, rfl, M, N, Q, T, U⟩
 obtain rfl := i.symm
 replace b := b.perm (Tb (Tr (Tr (Tr (Tr (Tr Tn))))))
 refine lr (Wm (Wa (lt ?_)))
 obtain rfl := sj hm
 exact na (v := (.pointer (some ⟨k, 0, none⟩))) rfl rfl ⟨_, _, rfl, (b.Py (Kb (Kr (Kr (Kr (Kr (Kr Sn))))))), k, (.map (some a)), Z, A, a2, (.map (some c)), a3, (.map (some g)), a4, E, a5, rfl, rfl, M, N, Q, T, U⟩
theorem EU (i : mY) (a c g t j k : Value) (r : ((List (lg × (List (ByteArray × Bool)))) × (List lf) × (List (lg × (List lf))) × (List (ByteArray × (List lf))) × (List lF) × Int × ByteArray × ByteArray × Int)) (w : World) (y : Sl mn 15 (hp w) a i.lm.lJ) (z : Sl mW 8 (hp w) c i.lm.mf) (u : Sl (Pl li) 9 (hp w) g i.lE) (G : Sl (Pl li) 9 (hp w) t i.Shown) (B : Sl (Pl lu) 2 (hp w) j i.lT) (D : Sl (Pl lu) 2 (hp w) k i.mH) (hm : vo i = some r) :
  nl false pg0 21 [(.agg #[(.string i.lm.Name), a, c, (.string i.mx), (.int .i64 i.Room), g, t, j, k])] w [] (fun v L1 W' => ∃ h l o S4 q S7 s J U K Y M Q, v = (.func (.func 63) #[] #[(.pointer (some ⟨h, 0, none⟩)), (.pointer (some ⟨Q, 0, none⟩))]) ∧ L1 = ((h, Ob #[(.pointer (some ⟨l, 0, none⟩))] 132) :: ((l, Ob #[o, q, s, U, Y, (.int .i64 (r.2.2.2.2.2.1))] 189) :: ((Q, Ob #[(.string (r.2.2.2.2.2.2.1)), a, c, (.string (r.2.2.2.2.2.2.2.1)), (.int .i64 (r.2.2.2.2.2.2.2.2)), g, t, j, k] 36) :: (S4 ++ (S7 ++ (J ++ (K ++ (M ++ [])))))))) ∧ nu (fun (x : lg) => (.agg (lu x).toArray)) (nr Value.string (fun (x : Bool) => (Value.bool x))) o r.1 S4 ∧ lR 52 li 9 q r.2.1 S7 ∧ nu (fun (x : lg) => (.agg (lu x).toArray)) (lR 52 li 9) s r.2.2.1 J ∧ nu Value.string (lR 52 li 9) U r.2.2.2.1 K ∧ rF 111 nv 3 Y r.2.2.2.2.1 M) := by
 refine zh 8 func21 rfl (fun b => sg ?_)
 obtain ⟨A1, c2, rfl⟩ := y.form
 obtain ⟨A3, c4, rfl⟩ := z.form
 obtain ⟨A5, R, rfl⟩ := u.form
 obtain ⟨A7, c8, rfl⟩ := G.form
 obtain ⟨A9, c1, rfl⟩ := B.form
 obtain ⟨a7, c3, rfl⟩ := D.form
 refine VE (mG b rfl (fun e6 N b => Wa (lr (Wf zP (VB b Mh rfl rfl eZ (bS hm fun f0 A hm => ?_))))))
 refine VE (Hf b (bH _) call62 (fun _ _ _ _ => (Hx (.slice A5 i.lE.length R) i.lE _ _ (u.mono (Pl.mono _) b.lx) A)) (fun e7 f1 f2 e5 b d6 n d Z => ?_) (L0 := []))
 obtain ⟨I, W, a9, c9, F, d1, L, d2, O, d3, P, H, rfl, a2, a3, a4, a5, E⟩ := Z
 replace H := H.symm; subst H
 replace b := b.perm (Tb (Tr (Tr (Tr (Tr (Tr Tn))))))
 refine VE (ml b zeroValue132 (fun e8 T b => VO (lL (.pointer (some ⟨I, 0, none⟩)) (#[(.pointer (some ⟨I, 0, none⟩))]) b rfl rfl sizeOf132 oc nb rfl (fun e9 b => lr (V (tw (by exact xv rfl rfl) rfl) (Wa (lt ?_)))))))
 obtain rfl := sj hm
 exact na (v := (.func (.func 63) #[] #[(.pointer (some ⟨T, 0, none⟩)), (.pointer (some ⟨N, 0, none⟩))])) rfl rfl ⟨_, _, rfl, (b.Py (Kb (Kb (Sb (Pr (Pr (Pr (Pr (Pr Pz))))) (Kr (Kr (Kr (Kr (Kr Sn))))))))), T, I, W, a9, c9, F, d1, L, d2, O, d3, P, N, rfl, rfl, a2, a3, a4, a5, E⟩
theorem DM (Q : Formula → (lg → Option Bool) → Option Bool) (a5 : ∀ (g : Formula) (k : Value) (t : Value) (J : lg → Option Bool) (r : Bool) (w : World) (c : Sl lj 5 (hp w) k g.Kids) (K : yS pg0 t (hp w) (fun (x : lg) => [(.agg (lu x).toArray)]) (fun (r : Bool) => (.bool r)) J), Q g J = some r → lV false pg0 73 [(.agg #[(.int .i64 g.Op), (.int .i64 g.K), (.string g.lg.lh), (.string g.lg.lp), k]), t] w (.bool r)) (g : Formula) (k t : Value) (J : lg → Option Bool) (r : Bool) (w : World) (c : Sl lj 5 (hp w) k g.Kids) (K : yS pg0 t (hp w) (fun (x : lg) => [(.agg (lu x).toArray)]) (fun (r : Bool) => (.bool r)) J) (hm : wC Q g J = some r) :
  lV false pg0 73 [(.agg #[(.int .i64 g.Op), (.int .i64 g.K), (.string g.lg.lh), (.string g.lg.lp), k]), t] w (.bool r) := by
 refine cG 45 func73 rfl (fun b => sg ?_)
 obtain ⟨A1, c2, rfl⟩ := c.form
 refine VE (mG b rfl (fun W4 o b => Wa (lS (Wf vk (VB b Mh rfl rfl dD (Wi rfl (ln (CI hm rfl (fun a9 hm => ?_) (fun a9 hm => ?_)))))))))
 ·refine sg (Wm (Wf zN (VA b Mh (lu g.lg) bO aN (bS hm fun r6 A hm => VE (Ks g.lg b K (lP.refl _) rfl (uT rfl) A (fun W8 b => Wa (ln ?_)))))))
  replace b := b.ll (Db St)
  refine mi (mo ?_)
  obtain rfl := sj hm
  exact rP b
 refine kg (Wa (lS (Wf uh (VB b Mh rfl rfl gM (V (mS aF rfl c) (Wm (me ?_)))))))
 refine lD (mQ (fun i E W => ∃ z I, (E 18 = .int .i64 (i : Nat) ∧ E 17 = .int .i64 (g.Kids.length : Nat)) ∧ ST false mR w W (hp w) ((o, Ol (C1 g.Op g.K g.lg.lh g.lg.lp A1 g.Kids.length c2) 58) :: I) ∧ E 1 = t ∧ E 2 = (.pointer (some ⟨o, 0, none⟩)) ∧ E 5 = (.int .i64 z) ∧ E 16 = (.slice A1 g.Kids.length c2) ∧ qD Q J g (g.Kids.drop i) z = some r) g.Kids.length c.len ⟨0, _, ⟨rfl, rfl⟩, (b.ll St), rfl, rfl, rfl, rfl, hm⟩ dc dc dc (fun _ _ _ h => by obtain ⟨_, _, l, _⟩ := h; exact l) ?_ ?_)
 ·rintro F E W a4 ⟨z, I, ⟨d, n⟩, b, G, u, y, H, a⟩
  obtain ⟨j, c1, v, s, N⟩ := mA a4
  rw [v] at a
  refine bg (VQ (nM (i := (F : Int)) (x0 := j) lj.out aF aC H d c (aJ _) s) (fun b7 ⟨_, ⟨c0, rfl, M⟩, Z⟩ => V (lq rfl (ma b.has Z bB aC)) (VE (ml b bI (fun L R b => ?_)))))
  obtain ⟨B, D, rfl⟩ := M.form
  let a0 := (C1 j.Op j.K j.lg.lh j.lg.lp B j.Kids.length D)
  refine VO (lL (.agg a0.toArray) (a0.toArray) b rfl rfl aC oc nb rfl (fun O b => lr (VA b Mh a0 bB aC (Wh G (bS a fun b9 q a => VE (Eg b call73 (a5 j (.slice B j.Kids.length D) t J _ _ (M.mono lI.mono b.lx) (K.mono b.lx) q) (fun P b => ln ?_)))))))
  replace b := b.ll (Db St)
  refine CI a rfl (fun T a => ?_) (fun T a => ?_)
  ·exact lG (Wh y (Wi rfl (Wa (me (ms (lD ⟨d, (wi0 .i64 (z + 1)), _, ⟨rfl, n⟩, (b.ll St), G, u, rfl, H, (by rw [N]; exact a)⟩))))))
  exact mX (ms (lD ⟨d, z, _, ⟨rfl, n⟩, (b.ll St), G, u, y, H, (by rw [N]; exact a)⟩))
 rintro E W ⟨z, I, ⟨d, n⟩, b, G, u, y, H, a⟩
 rw [aP] at a
 refine lD (lH (sg (V (lA vk u) (VB b Mh rfl rfl dD (ln (bg (Wi rfl (Wa (ln ?_)))))))))
 refine CI a rfl (fun U a => ?_) (fun U a => ?_)
 ·refine sg (Wh y (V (lA uh u) (VB b Mh rfl rfl gM (V (mS aF rfl c) (Wi rfl (Wa (ln ?_)))))))
  replace b := b.ll (Db St)
  refine mi (nE (mo ?_))
  obtain rfl := sj a
  exact rP b
 refine sg (Wi rfl (Wa (ln (CI a rfl (fun Y a => ?_) (fun Y a => ?_)))))
 ·refine sg (Wh y (Wi rfl (Wa (ln ?_))))
  replace b := b.ll (Db St)
  refine mi (nE (mo ?_))
  obtain rfl := sj a
  exact rP b
 refine mX (ms (lD (sg (Wh y (V (lA zB u) (VB b Mh rfl rfl dD (Wi rfl (Wa (ln ?_)))))))))
 exact mi (rQ a b)
theorem Cw : ∀ (n : Nat) (c : Formula) (a : Value) (g : Value) (j : lg → Option Bool) (r : Bool) (w : World) (i : Sl lj 5 (hp w) a c.Kids) (k : yS pg0 g (hp w) (fun (x : lg) => [(.agg (lu x).toArray)]) (fun (r : Bool) => (.bool r)) j) (_ : qW n c j = some r),
  lV false pg0 73 [(.agg #[(.int .i64 c.Op), (.int .i64 c.K), (.string c.lg.lh), (.string c.lg.lp), a]), g] w (.bool r)
 | 0 => by intros; rename_i h; simp only [qW] at h; cases h
 | n + 1 => DM (qW n) (Cw n)
theorem Ai (a : Formula) (j k : Value) (G : lg → Option Bool) (r : Bool) (w : World) (c : Sl lj 5 (hp w) j a.Kids) (z : yS pg0 k (hp w) (fun (x : lg) => [(.agg (lu x).toArray)]) (fun (r : Bool) => (.bool r)) G) (hm : tf a G = some r) :
  lV false pg0 24 [(.agg #[(.int .i64 a.Op), (.int .i64 a.K), (.string a.lg.lh), (.string a.lg.lp), j]), k] w (.bool r) := by
 refine cG 16 func24 rfl (fun b => sg ?_)
 obtain ⟨u, y, rfl⟩ := c.form
 let a0 := (C1 a.Op a.K a.lg.lh a.lg.lp u a.Kids.length y)
 refine VE (mG b rfl (fun U Z b => Wa (lr (Wm (V (Oe underlying65 z.form rfl rfl) (Wm (Vg rfl rfl (lq rfl (lB b.has Mh a0 rfl bB aC)) (bS hm fun d K hm => N4 rfl rfl (Eg b call72 (tN a (.slice u a.Kids.length y) _ _ (c.mono lI.mono b.lx) K) (fun Y b => V (lX rfl rfl) (Wm (LJ hm (fun D E W => ∃ B, ST false mR w W (hp w) B ∧ E 4 = (.bool false) ∧ E 15 = (.bool D)) 4 ?_ (fun D g t => ?_)))))))))))))
 ·rintro T E W ⟨B, b, N, J⟩ H
  exact Wg J (lt (rQ H b))
 refine bC g (fun i g => ?_) (fun i g => ?_)
 ·refine ug i (lq rfl (lB b.has Mh a0 rfl bB aC)) (ug i (lz rfl) (bS g fun Q I g => vC i (Eg b call73 ((Cw mq) a (.slice u a.Kids.length y) k G _ _ (c.mono lI.mono b.lx) (z.mono b.lx) I) (fun M b => V (lX (cB i) rfl) ?_))))
  obtain rfl := sj g
  exact t _ _ ⟨_, (b.ll (Db St)), rfl, rfl⟩
 refine un i (un i (un i (V (lW (cB i) rfl) ?_)))
 obtain rfl := sj g
 exact t _ _ ⟨_, (b.ll (Db St)), rfl, rfl⟩
theorem BX (K : Nat) (a : Value) (G : List (lg × (List (ByteArray × Bool)))) (c : Value) (t : List lf) (j : Value) (D : List (lg × (List lf))) (g : Value) (u : List (ByteArray × (List lf))) (i : Value) (B : List lF) (J : Int) (I : lg) (a2 : ByteArray) (r : Bool) (w : World) (H : rj (fun (x : lg) => (.agg (lu x).toArray)) (nr Value.string (fun (x : Bool) => (Value.bool x))) (hp w) a G) (T : Sl (Pl li) 9 (hp w) c t) (Z : rj (fun (x : lg) => (.agg (lu x).toArray)) (lR 52 li 9) (hp w) j D) (U : rj Value.string (lR 52 li 9) (hp w) g u) (Y : Sl (Pl nv) 3 (hp w) i B) (Q : At (hp w) (.pointer (some ⟨K, 0, none⟩)) [a, c, j, g, i, (.int .i64 J)]) (hm : tb G t D u B J I a2 = some r) :
  lV true pg0 64 [(.pointer (some ⟨K, 0, none⟩)), (.agg (lu I).toArray), (.string a2)] w (.bool r) := by
 refine cG 19 func64 rfl (fun l => sg (VE (mG l rfl (fun W2 v l => Wa (ln (lH ?_))))))
 replace l := l.drew
 have d := l.has.ll (Kb Sn)
 refine mw d lY (X 0 rfl d (lz rfl) (X 1 rfl d (DX underlying132 rfl rfl) (X 2 rfl d (lz rfl) (Xg 3 rfl rfl rfl d (lz rfl) (Xg 4 rfl rfl rfl d (nA rfl) (uI 5 rfl kr (.inr ⟨2, true, 9, rfl, rfl, by decide, rfl⟩) rfl dc (fun _ _ h => h) d (wq [a] xW rfl Q rfl) (fun s a3 => rE 6 rfl rfl rfl d (fun _ n => lq rfl (qR n (y := a) a3 jk)) (rE 7 rfl rfl rfl d (fun _ n => lq rfl (lB n Mh (lu I) rfl bO aN)) ?_))))))))
 obtain ⟨a4, a5, M, N⟩ := H
 refine rE 8 rfl rfl rfl d (fun _ n => qv (k := I) (z := (.map none)) A4 fR gN rfl rfl M (fun b o q => n.1 b o (N b o q))) (Xg 9 rfl rfl rfl d (lz rfl) (rE 10 rfl rfl rfl d (fun _ n => AK (k := a2) (z := false) (vf := (fun (x : Bool) => (Value.bool x))) D9 gS kP rfl rfl ((nP.DR lO.1 M I N).mono (fun b o q => n.1 b o q))) (X 11 rfl d (lX rfl rfl) (X 12 rfl d (ny rfl) (mM kr (lD ?_))))))
 exact mi (rQ hm l)
theorem BK (a0 : lg) (l Z : Nat) (I : Value) (U : List (lg × (List (ByteArray × Bool)))) (g : Value) (G : List lf) (u : Value) (N : List (lg × (List lf))) (i : Value) (H : List (ByteArray × (List lf))) (t : Value) (M : List lF) (d : Int) (n : Nat) (B : ByteArray) (a : Value) (j : List mg) (c : Value) (z : List nQ) (k : ByteArray) (a5 : Int) (D : Value) (J : List lf) (T : Value) (a2 : List lf) (K : Value) (Y : List lg) (Q : Value) (h : List lg) (r : Bool) (w : World) (a9 : rj (fun (x : lg) => (.agg (lu x).toArray)) (nr Value.string (fun (x : Bool) => (Value.bool x))) (hp w) I U) (a3 : Sl (Pl li) 9 (hp w) g G) (q : rj (fun (x : lg) => (.agg (lu x).toArray)) (lR 52 li 9) (hp w) u N) (a4 : rj Value.string (lR 52 li 9) (hp w) i H) (o : Sl (Pl nv) 3 (hp w) t M) (s : At (hp w) (.pointer (some ⟨Z, 0, none⟩)) [I, g, u, i, t, (.int .i64 d)]) (v : At (hp w) (.pointer (some ⟨l, 0, none⟩)) [(.pointer (some ⟨Z, 0, none⟩))]) (F : Sl mn 15 (hp w) a j) (O : Sl mW 8 (hp w) c z) (P : Sl (Pl li) 9 (hp w) D J) (W : Sl (Pl li) 9 (hp w) T a2) (R : Sl (Pl lu) 2 (hp w) K Y) (c2 : Sl (Pl lu) 2 (hp w) Q h) (c1 : At (hp w) (.pointer (some ⟨n, 0, none⟩)) [(.string B), a, c, (.string k), (.int .i64 a5), D, T, K, Q]) (hm : qF a0 U G N H M d B j z k a5 J a2 Y h = some r) :
  lV true pg0 63 [(.agg (lu a0).toArray), (.pointer (some ⟨l, 0, none⟩)), (.pointer (some ⟨n, 0, none⟩))] w (.bool r) := by
 refine cG 10 func63 rfl (fun b => sg (VE (mG b rfl (fun W2 L b => Wa (lr (V (lq rfl (qR b.has (y := (.pointer (some ⟨Z, 0, none⟩))) v isAgg132)) (VA b Mh (lu a0) bO aN (VQ (wq [(.string k)] HB rfl c1 rfl) (fun p3 A => V (lq rfl (qR b.has (y := (.string k)) A cL)) (bS hm fun r6 E hm => VE (Eg b call64 (BX Z I U g G u N i H t M d a0 k _ _ (a9.mono b.lx) (a3.mono (Pl.mono _) b.lx) (q.mono b.lx) (a4.mono b.lx) (o.mono (Pl.mono _) b.lx) (s.mono b.lx) E) (fun W8 b => ?_))))))))))))
 refine Wa (ln ?_)
 exact mi (rQ hm b)
theorem Bl (a : mY) (B D J N K M : Value) (q : lf) (r : Bool) (w : World) (c : Sl mn 15 (hp w) B a.lm.lJ) (i : Sl mW 8 (hp w) D a.lm.mf) (y : Sl (Pl li) 9 (hp w) J a.lE) (I : Sl (Pl li) 9 (hp w) N a.Shown) (G : Sl (Pl lu) 2 (hp w) K a.lT) (H : Sl (Pl lu) 2 (hp w) M a.mH) (hm : vr a q = some r) :
  lV false pg0 19 [(.agg #[(.string a.lm.Name), B, D, (.string a.mx), (.int .i64 a.Room), J, N, K, M]), (.agg (li q).toArray)] w (.bool r) := by
 refine cG 22 func19 rfl (fun d => sg ?_)
 obtain ⟨A1, c2, rfl⟩ := c.form
 let a9 : Value := (.slice A1 a.lm.lJ.length c2)
 obtain ⟨A3, R, rfl⟩ := i.form
 let P : Value := (.slice A3 a.lm.mf.length R)
 obtain ⟨A5, c6, rfl⟩ := y.form
 obtain ⟨A7, c8, rfl⟩ := I.form
 obtain ⟨A9, Y, rfl⟩ := G.form
 obtain ⟨T, Z, rfl⟩ := H.form
 let a0 := (C4 a.lm.Name A1 a.lm.lJ.length c2 A3 a.lm.mf.length R a.mx a.Room A5 a.lE.length c6 A7 a.Shown.length c8 A9 a.lT.length Y T a.mH.length Z)
 refine VE (mG d rfl (fun g3 e7 d => VE (mG d rfl (fun g4 h0 d => Wa (lr (Wf zK (VA d (Mt Mh) (C8 a.lm.Name A1 a.lm.lJ.length c2 A3 a.lm.mf.length R) gA fD (VA d Mh (li q) bP aH (bS hm fun j e0 hm => ?_)))))))))
 let A : Value := (.int .i64 ((j.1).K))
 let v : Value := (.int .i64 ((j.1).Op))
 let s : Value := (.string (((j.1).lg).lp))
 let a5 : Value := (.string (((j.1).lg).lh))
 refine VE (eD d (bH _) call23 (fun hh => (Bq a.lm a9 P q _ _ hh (c.mono mI.mono (lP.refl _)) (i.mono nY.mono (lP.refl _)) e0)) ?_ (L0 := []))
 rintro _ h1 d6 g2 d t ad ⟨h2, b0, rfl, c1⟩
 obtain rfl := b0.symm
 refine Wm (Wx rfl (Wx rfl (VE (ml d bI (fun g8 e8 d => ?_)))))
 obtain ⟨U, a2, rfl⟩ := c1.form
 let a4 : Value := (.slice U ((j.1).Kids).length a2)
 refine VO (lL (.agg #[v, A, a5, s, a4]) (#[v, A, a5, s, a4]) d rfl rfl aC oc nb rfl (fun g9 d => Wa (ln ?_)))
 replace d := d.ll (Kb (Db St))
 refine lH ?_
 replace d := d.drew
 have h := d.has.ll (Kb (Kb Sn))
 refine mw h lY (X 0 rfl h (lz rfl) (X 1 rfl h (mz rfl rfl rfl) (X 2 rfl h (lz rfl) (PJ hm (fun c3 E W => ∃ O b5, lP d6 O ∧ ST false mR w W O ((e8, Ob #[v, A, a5, s, a4] 58) :: ((e7, Ol a0 36) :: b5)) ∧ E 4 = (.bool false) ∧ E 21 = (.bool c3)) (bm 9 255) 1 ?_ (fun c3 z a3 => ?_)))))
 ·rintro g1 E W ⟨O, b5, c0, d, f8, d8⟩ c7
  have h := d.has.ox c0 (Kb (Kb Sn))
  refine X 8 rfl h (ny d8) (mM kr (lD ?_))
  exact mi (rQ c7 d)
 refine bC z (fun u z => ?_) (fun u z => ?_)
 ·refine rE 3 rfl rfl (cB u) h (fun _ hS => lq rfl (lB hS Mh [v, A, a5, s, a4] rfl bB aC)) (rE 4 rfl rfl (cB u) h (fun _ hS => lq rfl (lB hS (Mt Mh) a0 rfl ic fM)) (bS z fun g c9 z => ?_))
  refine wo 5 rfl rfl (cB u) (Hf d (bH _) call21 (fun _ _ _ _ => (EU a a9 P (.slice A5 a.lE.length c6) (.slice A7 a.Shown.length c8) (.slice A9 a.lT.length Y) (.slice T a.mH.length Z) _ _ (c.mono mI.mono (t.trans d.lx)) (i.mono nY.mono (t.trans d.lx)) (y.mono (Pl.mono _) (t.trans d.lx)) (I.mono (Pl.mono _) (t.trans d.lx)) (G.mono (Pl.mono _) (t.trans d.lx)) (H.mono (Pl.mono _) (t.trans d.lx)) c9)) (fun f6 g0 e6 f0 d k aa ab c5 => ?_) (L0 := []))
  obtain ⟨F, d7, e1, f1, e2, f2, e3, f3, e4, f4, e5, f5, L, Q, rfl, d1, d2, d3, d4, d5⟩ := c5
  replace Q := Q.symm; subst Q
  replace d := d.perm (Tb (Tb (Tb (Tr (Tr (Tr (Tr (Tr Tn))))))))
  have h := d.has.ox k (Db (Db (Db (Dr (Dr (Dr (Dr (Dr (Kb (Kb Sn))))))))))
  refine ⟨h, (bS z fun f9 d0 z => wo 6 rfl rfl (cB u) (Eg d call24 (Ai j.1 a4 (.func (.func 63) #[] #[(.pointer (some ⟨F, 0, none⟩)), (.pointer (some ⟨L, 0, none⟩))]) (fun (x : lg) => qF x g.1 g.2.1 g.2.2.1 g.2.2.2.1 g.2.2.2.2.1 g.2.2.2.2.2.1 g.2.2.2.2.2.2.1 a.lm.lJ a.lm.mf g.2.2.2.2.2.2.2.1 g.2.2.2.2.2.2.2.2 a.lE a.Shown a.lT a.mH) _ _ (c1.mono lI.mono (k.trans d.lx)) ⟨63, #[], #[(.pointer (some ⟨F, 0, none⟩)), (.pointer (some ⟨L, 0, none⟩))], rfl, call63, fun W x r n hm => (BK x F d7 e1 g.1 e2 g.2.1 e3 g.2.2.1 e4 g.2.2.2.1 e5 g.2.2.2.2.1 g.2.2.2.2.2.1 L g.2.2.2.2.2.2.1 a9 a.lm.lJ P a.lm.mf g.2.2.2.2.2.2.2.1 g.2.2.2.2.2.2.2.2 (.slice A5 a.lE.length c6) a.lE (.slice A7 a.Shown.length c8) a.Shown (.slice A9 a.lT.length Y) a.lT (.slice T a.mH.length Z) a.mH r W (d1.at (fun b o l => n _ _ ((fun b o l => d.at_ (Mt (Mt (Mt (Ml l))))) b o l))) (d2.sl mN (fun b o l => n _ _ ((fun b o l => d.at_ (Mt (Mt (Mt (Ma (Ml l)))))) b o l))) (d3.at (fun b o l => n _ _ ((fun b o l => d.at_ (Mt (Mt (Mt (Ma (Ma (Ml l))))))) b o l))) (d4.at (fun b o l => n _ _ ((fun b o l => d.at_ (Mt (Mt (Mt (Ma (Ma (Ma (Ml l)))))))) b o l))) ((d5.Co xd).mono (Pl.mono _) (nG (fun b o l => n _ _ ((fun b o l => d.at_ (Mt (Mt (Mt (Ma (Ma (Ma (Ma (Ml l))))))))) b o l)))) (At.of (n _ _ (d.at_ (Mt Mh))) _ rfl) (At.of (n _ _ (d.at_ Mh)) _ rfl) (c.mono mI.mono (((t.trans k).trans d.lx).trans n)) (i.mono nY.mono (((t.trans k).trans d.lx).trans n)) (y.mono (Pl.mono _) (((t.trans k).trans d.lx).trans n)) (I.mono (Pl.mono _) (((t.trans k).trans d.lx).trans n)) (G.mono (Pl.mono _) (((t.trans k).trans d.lx).trans n)) (H.mono (Pl.mono _) (((t.trans k).trans d.lx).trans n)) (At.of (n _ _ (d.at_ (Mt (Mt Mh)))) _ rfl) hm).ng⟩ d0) (fun f7 d => ?_)))⟩
  have h := d.has.ox k (Db (Db (Db (Dr (Dr (Dr (Dr (Dr (Kb (Kb Sn))))))))))
  refine ⟨h, (X 7 rfl h (lX (cB u) rfl) ?_)⟩
  obtain rfl := sj z
  refine nk kr (a3 _ _ ⟨e6, _, k, (d.ll (Db (Db (Db (Dr (Dr (Dr (Dr (Dr St))))))))), rfl, rfl⟩)
 refine Xn 3 rfl rfl (cB u) h (Xn 4 rfl rfl (cB u) h (Xn 5 rfl rfl (cB u) h (Xn 6 rfl rfl (cB u) h (X 7 rfl h (lW (cB u) rfl) ?_))))
 obtain rfl := sj z
 refine nk kr (a3 _ _ ⟨d6, _, (lP.refl _), (d.ll St), rfl, rfl⟩)
theorem HW (a : mY) (x y B M G K U : Value) (Y : List lf) (r : Int) (w : World) (t : Sl mn 15 (hp w) x a.lm.lJ) (u : Sl mW 8 (hp w) y a.lm.mf) (z : Sl (Pl li) 9 (hp w) B a.lE) (J : Sl (Pl li) 9 (hp w) M a.Shown) (D : Sl (Pl lu) 2 (hp w) G a.lT) (I : Sl (Pl lu) 2 (hp w) K a.mH) (H : Sl (Pl li) 9 (hp w) U Y) (hm : vP a Y = some r) :
  lV false pg0 65 [(.agg #[(.string a.lm.Name), x, y, (.string a.mx), (.int .i64 a.Room), B, M, G, K]), U] w (.int .i64 r) := by
 refine cG 41 func65 rfl (fun b => sg ?_)
 obtain ⟨A1, c2, rfl⟩ := t.form
 obtain ⟨A3, s, rfl⟩ := u.form
 obtain ⟨A5, c6, rfl⟩ := z.form
 obtain ⟨A7, c8, rfl⟩ := J.form
 obtain ⟨A9, a5, rfl⟩ := D.form
 obtain ⟨a4, R, rfl⟩ := I.form
 let a0 := (C4 a.lm.Name A1 a.lm.lJ.length c2 A3 a.lm.mf.length s a.mx a.Room A5 a.lE.length c6 A7 a.Shown.length c8 A9 a.lT.length a5 a4 a.mH.length R)
 refine VE (mG b rfl (fun h7 q b => Wa (lS (Wm (V (mS aG rfl H) (Wi rfl (ln (CI hm rfl (fun f1 hm => ?_) (fun f1 hm => ?_)))))))))
 ·refine sg (Wa (ln ?_))
  replace b := b.ll (Db St)
  refine mi (mo ?_)
  obtain rfl := sj hm
  exact rP b
 refine kS (Wm (V (mS aG rfl H) (Wm (ln (mQ (fun i E W => ∃ T a9, (E 16 = .int .i64 (i : Nat) ∧ E 15 = .int .i64 (Y.length : Nat)) ∧ lP (hp w) T ∧ ST false mR w W T ((q, Ol a0 36) :: a9) ∧ E 1 = U ∧ E 2 = (.pointer (some ⟨q, 0, none⟩)) ∧ E 14 = U ∧ ov a Y (Y.drop i) = some r) Y.length H.len ⟨(hp w), _, ⟨rfl, rfl⟩, (lP.refl _), (b.ll St), rfl, rfl, rfl, hm⟩ dc dc dc (fun _ _ _ h => by obtain ⟨_, _, l, _⟩ := h; exact l) ?_ ?_)))))
 ·rintro f2 E W d6 ⟨T, a9, ⟨d, n⟩, g, b, A, Z, F, j⟩
  obtain ⟨N, f5, e5, e4, e6⟩ := mA d6
  rw [e5] at j
  refine bg (VQ (qb (enc := li) (i := (f2 : Int)) (x0 := N) aG aH F d (H.mono (Pl.mono _) g) (aJ _) e4) (fun h1 e0 => V (lq rfl (ma b.has e0 bP aH)) (VE (ml b cM (fun f8 g8 b => VO (lL (.agg (li N).toArray) ((li N).toArray) b rfl rfl aH (oQ N) nb rfl (fun f9 b => lr (V (lA zK Z) (VA b (Mt Mh) (C8 a.lm.Name A1 a.lm.lJ.length c2 A3 a.lm.mf.length s) gA fD (VA b Mh (li N) bP aH (bS j fun c e2 j => ?_)))))))))))
  let o := (((c.1).lf).Head)
  refine VE (eD b (bH _) call66 (fun hh => nm.ng (AI a.lm (.slice A1 a.lm.lJ.length c2) (.slice A3 a.lm.mf.length s) N _ _ hh (t.mono mI.mono g) (u.mono nY.mono g) e2)) ?_ (L0 := []))
  rintro _ h4 f4 f7 b d1 P ⟨h6, a3, rfl, f0⟩
  obtain rfl := a3.symm
  refine Wm (Wx rfl (Wx rfl (VE (ml b dG (fun g1 g9 b => ?_)))))
  obtain ⟨b9, c7, rfl⟩ := f0.form
  refine VO (lL (.agg #[(.int .i64 (((c.1).lf).Kind)), (.string (o.lh)), (.string (o.lp)), (.string (((c.1).lf).lM)), (.string ((((c.1).lf).B).lh)), (.string ((((c.1).lf).B).lp)), (.string ((((c.1).lf).C).lh)), (.string ((((c.1).lf).C).lp)), (.string (((c.1).lf).lN)), (.slice b9 ((c.1).Tag).length c7)]) (#[(.int .i64 (((c.1).lf).Kind)), (.string (o.lh)), (.string (o.lp)), (.string (((c.1).lf).lM)), (.string ((((c.1).lf).B).lh)), (.string ((((c.1).lf).B).lp)), (.string ((((c.1).lf).C).lh)), (.string ((((c.1).lf).C).lp)), (.string (((c.1).lf).lN)), (.slice b9 ((c.1).Tag).length c7)]) b rfl rfl cT oc nb rfl (fun g2 b => Wa (ln ?_)))
  replace b := b.ll (Db (Db St))
  refine sg (Wm (V (ot rfl) (ln (CI j rfl (fun d4 j => ?_) (fun d4 j => ?_)))))
  ·refine sg (Wa (ln ?_))
   replace b := b.ll (Db St)
   refine mi (nE (mo (nE (mo ?_))))
   obtain rfl := sj j
   exact rP b
  exact mX (ms (lD ⟨d, f4, _, ⟨rfl, n⟩, (g.trans d1), (b.ll St), A, Z, F, (by rw [e6]; exact j)⟩))
 rintro E W ⟨T, a9, ⟨d, n⟩, g, b, A, Z, F, j⟩
 rw [aP] at j
 refine lD (lH (sg (Wh A (V (mS aG rfl H) (Wm (ln (NX j (fun d2 E W => ∃ c5, ST false mR w W T c5) (fun d2 d9 a2 => ?_) ?_)))))))
 ·refine mQ (fun i E W => ∃ v, (E 32 = .int .i64 (i : Nat) ∧ E 31 = .int .i64 (Y.length : Nat)) ∧ ST false mR w W T ((q, Ol a0 36) :: v) ∧ E 2 = (.pointer (some ⟨q, 0, none⟩)) ∧ E 30 = U ∧ oD a (Y.drop i) = some d2) Y.length H.len ⟨_, ⟨rfl, rfl⟩, (b.ll St), Z, rfl, d9⟩ dc dc dc (fun _ _ _ h => by obtain ⟨_, l, _⟩ := h; exact l) ?_ ?_
  ·rintro f3 E W d7 ⟨v, ⟨d, n⟩, b, L, O, k⟩
   obtain ⟨Q, f6, e8, e7, e9⟩ := mA d7
   rw [e8] at k
   refine bg (VQ (qb (enc := li) (i := (f3 : Int)) (x0 := Q) aG aH O d (H.mono (Pl.mono _) g) (aJ _) e7) (fun h2 e1 => V (lq rfl (ma b.has e1 bP aH)) (VE (ml b cM (fun g3 h0 b => VO (lL (.agg (li Q).toArray) ((li Q).toArray) b rfl rfl aH (oQ Q) nb rfl (fun g4 b => lr (V (lq L (lB b.has (Mt Mh) a0 rfl ic fM)) (VA b Mh (li Q) bP aH (bS k fun h3 e3 k => VE (Eg b call19 (Bl a (.slice A1 a.lm.lJ.length c2) (.slice A3 a.lm.mf.length s) (.slice A5 a.lE.length c6) (.slice A7 a.Shown.length c8) (.slice A9 a.lT.length a5) (.slice a4 a.mH.length R) Q _ _ (t.mono mI.mono (g.trans b.lx)) (u.mono nY.mono (g.trans b.lx)) (z.mono (Pl.mono _) (g.trans b.lx)) (J.mono (Pl.mono _) (g.trans b.lx)) (D.mono (Pl.mono _) (g.trans b.lx)) (I.mono (Pl.mono _) (g.trans b.lx)) e3) (fun g7 b => ?_))))))))))))
   refine V (ot rfl) (ln ?_)
   replace b := b.ll (Db St)
   refine CI k rfl (fun d5 k => ?_) (fun d5 k => ?_)
   ·refine sg (Wa (ln ?_))
    replace b := b.ll (Db St)
    refine mi (nE (mo (nE (mo ?_))))
    obtain rfl := sj k
    replace a2 : some 44 = some r := a2
    obtain rfl := sj a2
    exact rP b
   exact mX (ms (lD ⟨d, _, ⟨rfl, n⟩, (b.ll St), L, O, (by rw [e9]; exact k)⟩))
  rintro E W ⟨v, ⟨d, n⟩, b, L, O, k⟩
  rw [aP] at k
  refine lD ?_
  obtain rfl := sj k
  exact ⟨_, rfl, _, (b.ll (Db St))⟩
 rintro ⟨⟩ E W ⟨c5, b⟩ d8
 exact sg (Wa (lt (rQ d8 b)))
theorem Ej (g : Value) (i r : List Int) (w : World) (a : Sl (Pl (mj .u8)) 1 (hp w) g i) (hm : sR i = some r) :
  nR true pg0 67 [g] w 5 (mj .u8) 1 r := by
 unfold sR at hm
 refine zh 8 func67 rfl (fun b => sg (Wa (lS (Wm ?_))))
 obtain ⟨y, B, rfl⟩ := a.form
 refine V (zd bR rfl rfl) (ln ?_)
 rcases y with _ | z
 ·have u := a.isNil
  replace hm : some [] = some r := by rw [u] at hm; simpa [ol, maxLen] using hm
  refine wv (rfl) (sg (Wa (lt (mo ?_))))
  obtain rfl := sj hm
  exact na (v := (.slice none 0 0)) rfl rfl ⟨_, [], rfl, b.px (fun p d => by cases d) (by simp), lR.nil _ _ _⟩
 ·refine re (rfl) (kg (VE (mh (cs := #[]) b sC (tY [] bR jw jR dc rfl (by simp) rfl rfl) (fun G k b => Wm (bS hm fun H t hm => VE (pq (enc := (mj .u8)) (v := (.slice (some ⟨k, 0, none⟩) 0 0)) (vs := (.slice (some z) i.length B)) (R := [(k, Ob #[] 5)]) b (fun _ => rfl) dc (D5 _) bR rV.1 rV.2.1 rfl rV.2.2.1 rV.2.2.2 rfl rfl (lR.lit (l := []) (enc := (mj .u8)) rfl dc rfl rfl) (a.mono (Pl.mono _) b.lx) t (fun D x j b c => Wa (lt ?_))))))))
  obtain rfl := sj hm
  exact na (v := x) rfl rfl ⟨_, j, rfl, b.px (fun p d => (Ml d)) c.nd, c⟩
theorem CE (I : Int) (r : List lf) (w : World) (hm : tu I = some r) :
  nR true pg0 126 [(.slice none 0 0), (.int .i64 I)] w 52 li 9 r := by
 refine zh 27 func126 rfl (fun b => sg (Wa (lS (Wm (Wi rfl (ln (CI hm rfl (fun K hm => ?_) (fun K hm => ?_))))))))
 ·cases hm
 refine kn (lH (CJ hm (fun u E W => ∃ g c t, ST true mR w W (hp w) (c ++ t) ∧ E 0 = g ∧ lR 52 li 9 g u c) (fun u a => ?_) ?_))
 ·refine sg (Wm (Wm (V (JT aG rfl) (Wm (V (As aG rfl) (Wi rfl (Wi rfl (Wa (lr (Wm ?_))))))))))
  refine Wi rfl (ln (CI a rfl (fun y a => ?_) (fun y a => ?_)))
  ·refine lG (Wm (Wm (V (JT aG rfl) (V (MY aG aH rfl rfl) (Wm (bS a fun T B a => VE (Jw (enc := li) (z := Ro) b mN dc aG fF nZ.1 nZ.2.1 nZ.2.2.1 nZ.2.2.2 rfl rfl rfl B (fun N U H b x => Wm (V (As aG rfl) (bS a fun _ j a => VQ (zf (i := 0) aG aH rfl rfl x mN (uw j) (um j)) (fun M G => Wa (ln ?_))))))))))))
   obtain rfl := sj a
   exact ⟨M, H, _, (b.ll St), rfl, G⟩
  refine kn ?_
  obtain rfl := sj a
  exact ⟨(.slice none 0 0), [], _, (b.ll St), rfl, (lR.nil _ _ _)⟩
 rintro Q E W ⟨g, c, t, b, J, k⟩ D
 refine sg (Wh J (Wa (lt ?_)))
 obtain rfl := sj D
 exact na (v := g) rfl rfl ⟨_, c, rfl, b.px (fun p d => (Ml d)) k.nd, k⟩
theorem D1 (t : Value) (z : List (List lf)) (r : List lf) (w : World) (j : Sl (FR li 9) 1 (hp w) t z) (hm : qI z = some r) :
  nR true pg0 68 [t] w 52 li 9 r := by
 refine zh 36 func68 rfl (fun b => sg (Wa (lr (Wa (lS (Wm ?_))))))
 refine V (mS jg rfl j) (Wm (ln (mQ (fun i E W => ∃ u Q, (E 11 = .int .i64 (i : Nat) ∧ E 10 = .int .i64 (z.length : Nat)) ∧ ST true mR w W (hp w) Q ∧ E 0 = t ∧ E 3 = (.int .i64 u) ∧ E 9 = t ∧ pJ z (z.drop i) u = some r) z.length j.len ⟨0, _, ⟨rfl, rfl⟩, (b.ll St), rfl, rfl, rfl, hm⟩ dc dc dc (fun _ _ _ h => by obtain ⟨_, _, l, _⟩ := h; exact l) ?_ ?_)))
 ·rintro d1 E W b9 ⟨u, Q, ⟨d, n⟩, b, T, U, Y, a⟩
  obtain ⟨o, e0, c4, c3, c5⟩ := mA b9
  rw [c4] at a
  refine bg (VQ (Gm (enc := li) (k2 := 9) (i := (d1 : Int)) (x0 := o) jg iC Y d j (aJ _) c3) (fun e2 ⟨d3, c0, c2⟩ => V (lq rfl (qR b.has (y := d3) c0 eZ)) (Wa (lr (Wh U (Wm (V (mS aG rfl c2) (Wi rfl (Wa ?_)))))))))
  refine lr (Wm (Wi rfl (ln (CI a rfl (fun b7 a => ?_) (fun b7 a => ?_)))))
  ·cases a
  exact mX (ms (lD ⟨d, (wi0 .i64 (u + (o.length : Int))), _, ⟨rfl, n⟩, (b.ll St), T, rfl, Y, (by rw [c5]; exact a)⟩))
 rintro E W ⟨u, Q, ⟨d, n⟩, b, T, U, Y, a⟩
 rw [aP] at a
 refine lD (sg (Wh U (bS a fun d2 c1 a => VE (tW b call126 (CE u _ _  c1) (fun e1 d4 q d0 b a4 s b6 => Wa (lS (Wh T (V (mS jg rfl j) (Wm ?_)))))))))
 refine ln (CJ a (fun K E W => ∃ G x N, ST true mR w W q (x ++ N) ∧ E 6 = G ∧ lR 52 li 9 G K x) (fun K F => ?_) ?_)
 ·refine mQ (fun i E W => ∃ k D g H, (E 27 = .int .i64 (i : Nat) ∧ E 26 = .int .i64 (z.length : Nat)) ∧ ST true mR w W q (g ++ H) ∧ E 6 = k ∧ E 25 = t ∧ lR 52 li 9 k D g ∧ pG (z.drop i) D = some K) z.length j.len ⟨d4, d2, d0, _, ⟨rfl, rfl⟩, (b.ll St), rfl, rfl, b6, F⟩ dc dc dc (fun _ _ _ h => by obtain ⟨_, _, _, _, l, _⟩ := h; exact l) ?_ ?_
  ·rintro c6 E W a3 ⟨k, D, g, H, ⟨d, n⟩, b, I, J, B, c⟩
   obtain ⟨c9, d5, P, a9, b1⟩ := mA a3
   rw [P] at c
   refine bg (VQ (Gm (enc := li) (k2 := 9) (i := (c6 : Int)) (x0 := c9) jg iC J d (j.mono (FR.mono _ _) a4) (aJ _) a9) (fun d8 ⟨Z, L, O⟩ => V (lq rfl (qR b.has (y := Z) L eZ)) (Wa (ln (lG (Wh I (Wm (bS c fun c7 a2 c => VE (pq (enc := li) (v := k) (vs := Z) (R := g) b mN dc oQ aG nZ.1 nZ.2.1 rfl nZ.2.2.1 nZ.2.2.2 rfl rfl B (O.mono (Pl.mono _) b.lx) a2 (fun d6 c8 b4 b A => Wa (me ?_)))))))))))
   exact ms (lD ⟨d, c8, c7, b4, _, ⟨rfl, n⟩, (b.ll St), rfl, J, A, (by rw [b1]; exact c)⟩)
  rintro E W ⟨k, D, g, H, ⟨d, n⟩, b, I, J, B, c⟩
  rw [aP] at c
  refine lD ?_
  obtain rfl := sj c
  exact ⟨k, g, _, (b.ll St), I, B⟩
 rintro d7 E W ⟨G, x, N, b, b5, M⟩ a5
 refine sg (Wh b5 (Wa (lt ?_)))
 obtain rfl := sj a5
 exact na (v := G) rfl rfl ⟨_, x, rfl, b.px (fun p hq => (Ml hq)) M.nd, M⟩
theorem yT (N : Nat) (D : mY) (c g j x k t b9 : Value) (s : List lf) (r : ((List Signed) × Int × mY)) (w : World) {μ0 : lZ} (h0 : oT μ0 ((N, Ob #[(.string D.lm.Name), c, g, (.string D.mx), (.int .i64 D.Room), j, x, k, t] 36) :: []) w) (G : Sl mn 15 μ0 c D.lm.lJ) (H : Sl mW 8 μ0 g D.lm.mf) (Q : Sl (Pl li) 9 μ0 j D.lE) (U : Sl (Pl li) 9 μ0 x D.Shown) (a3 : Sl (Pl lu) 2 μ0 k D.lT) (a8 : Sl (Pl lu) 2 μ0 t D.mH) (e4 : Sl (Pl li) 9 μ0 b9 s) (hm : oz D s = some r) :
  nm false pg0 22 [(.pointer (some ⟨N, 0, none⟩)), b9] w μ0 ((N, Ob #[(.string D.lm.Name), c, g, (.string D.mx), (.int .i64 D.Room), j, x, k, t] 36) :: []) (fun v L1 μ1 => ∃ y1 y3 y5 y7 y9 k4 k5, v = (.tuple #[y1, (.int .i64 (r.2.1))]) ∧ L1 = ((N, Ob #[(.string (((r.2.2).lm).Name)), y3, y5, (.string ((r.2.2).mx)), (.int .i64 ((r.2.2).Room)), y7, y9, k4, k5] 36) :: []) ∧ Sl oq 10 μ1 y1 (r.1) ∧ Sl mn 15 μ1 y3 (((r.2.2).lm).lJ) ∧ Sl mW 8 μ1 y5 (((r.2.2).lm).mf) ∧ Sl (Pl li) 9 μ1 y7 ((r.2.2).lE) ∧ Sl (Pl li) 9 μ1 y9 ((r.2.2).Shown) ∧ Sl (Pl lu) 2 μ1 k4 ((r.2.2).lT) ∧ Sl (Pl lu) 2 μ1 k5 ((r.2.2).mH)) := by
 let f1 : Value := (.string D.lm.Name)
 let a0 := (#[f1, c, g, (.string D.mx), (.int .i64 D.Room), j, x, k, t] : Array Value)
 let b8 := ((N, Obj.cells a0 36 (0, 0)) :: [])
 refine uW h0 60 func22 rfl (fun d => sg (Wa (Wa (lS (Wm (V (tE underlying64 rfl rfl) (ln (re rfl ?_))))))))
 refine kS (Wm (Wn (VA d Mh [f1, c, g, (.string D.mx), (.int .i64 D.Room), j, x, k, t] ic fM (Wm (bS hm fun r1 k9 hm => VE (Eg d call65 (HW D c g j x k t b9 s _ _ (G.mono mI.mono d.lx) (H.mono nY.mono d.lx) (Q.mono (Pl.mono _) d.lx) (U.mono (Pl.mono _) d.lx) (a3.mono (Pl.mono _) d.lx) (a8.mono (Pl.mono _) d.lx) (e4.mono (Pl.mono _) d.lx) k9) (fun W3 d => Wa (ln (lH ?_)))))))))
 refine lG (Wm (Wi rfl (ln (CI hm rfl (fun k7 hm => ?_) (fun k7 hm => ?_)))))
 ·refine sg (Wm (Wa (Wa (lt (mo ?_)))))
  obtain rfl := sj hm
  exact ui (v := (.slice none 0 0)) (u := (.int .i64 r1)) rfl rfl rfl ⟨_, _, _, rfl, (d.nF (Kb Sn)), (lP.refl _), Lo.refl, (ST.mE d (nS.mem (Kb Sn))), (.slice none 0 0), c, g, j, x, k, t, rfl, rfl, (Sl.nil _ _ _), G, H, Q, U, a3, a8⟩
 refine kg (Wa (lS (Wm (bS hm fun r5 l0 hm => VE (tW d call52 (wD b9 s _ _ (e4.mono (Pl.mono _) d.lx) l0) (fun W7 k3 af k2 d T ag e3 => V (sw aG rfl e3) (Wm ?_)))))))
 refine ln (mQ (fun i E W => ∃ a9 c7 b2 a2 d8, (E 25 = .int .i64 (i : Nat) ∧ E 24 = .int .i64 (r5.length : Nat)) ∧ lP af a2 ∧ Lo (keys b8) w af a2 ∧ ST false (keys b8) w W a2 ((N, Obj.cells a0 36 (0, 0)) :: (b2 ++ (k2 ++ d8))) ∧ E 0 = (.pointer (some ⟨N, 0, none⟩)) ∧ E 1 = b9 ∧ E 7 = a9 ∧ E 23 = k3 ∧ mO 55 oq 10 a2 a9 c7 b2 ∧ oP D s (r5.drop i) c7 = some r) r5.length e3.len ⟨(.slice none 0 0), ([]), [], af, _, ⟨rfl, rfl⟩, (lP.refl _), Lo.refl, (d.ll (Sb (Pr Pz) St)), rfl, rfl, rfl, rfl, (mO.nil _ _ _ _), hm⟩ dc dc dc (fun _ _ _ h => by obtain ⟨_, _, _, _, _, ah, _⟩ := h; exact ah) ?_ ?_)
 ·rintro h3 E W i7 ⟨a9, c7, b2, a2, d8, ⟨eI, eN⟩, z, q, d, b3, c4, c5, c6, d1, I⟩
  obtain ⟨A, o7, i8, f3, i9⟩ := mA i7
  rw [i8] at I
  refine bg (VQ (oY (i := (h3 : Int)) (x0 := A) aG aH c6 eI e3 (aJ _) f3) (fun n8 f9 => V (lq rfl (rI d.has (fun p hq => (Mt (Ma (Ml hq)))) e3 mN f9 f3 bP aH)) (VE (ml d cM (fun m2 h5 d => VO (lL (.agg (li A).toArray) ((li A).toArray) d rfl rfl aH (oQ A) nb rfl (fun m3 d => ln (lH ?_))))))))
  replace d := d.drew
  have n := d.has.ll (Kb (Kb Sn))
  refine mw n lY (X 0 rfl n (lz b3) (X 1 rfl n (nA rfl) (X 2 rfl n (lA zK rfl) (XH 3 rfl n (fun _ hS => lq rfl (lB hS (Mt Mh) [f1, c, g] rfl gA fD)) (XH 4 rfl n (fun _ hS => lq rfl (lB hS Mh (li A) rfl bP aH)) (PJ I (fun y E W => ∃ d9 e6 c9 b6 f2, lP a2 b6 ∧ Lo (keys b8) w a2 b6 ∧ ST false (keys b8) w W b6 ((d9, Ob #[(.int .i64 y.2.2.2.1.Kind), (.string y.2.2.2.1.Head.lh), (.string y.2.2.2.1.Head.lp), (.string y.2.2.2.1.lM), (.string y.2.2.2.1.B.lh), (.string y.2.2.2.1.B.lp), (.string y.2.2.2.1.C.lh), (.string y.2.2.2.1.C.lp), (.string y.2.2.2.1.lN), c9] 55) :: ((h5, Ol (li A) 52) :: ((N, Obj.cells a0 36 (0, 0)) :: (b2 ++ (k2 ++ f2))))) ∧ E 0 = (.pointer (some ⟨N, 0, none⟩)) ∧ E 1 = b9 ∧ E 7 = a9 ∧ E 10 = (.pointer (some ⟨d9, 0, none⟩)) ∧ E 23 = k3 ∧ E 24 = (.int .i64 (r5.length : Int)) ∧ E 25 = (.int .i64 (h3 : Int)) ∧ E 36 = (.agg #[(.int .i64 y.1.Kind), (.string y.1.Head.lh), (.string y.1.Head.lp), (.string y.1.lM), (.string y.1.B.lh), (.string y.1.B.lp), (.string y.1.C.lh), (.string y.1.C.lp), (.string y.1.lN), e6]) ∧ E 37 = (.bool y.2.2.1) ∧ Sl (Pl (mj .u8)) 1 b6 e6 y.2.1 ∧ Sl (Pl (mj .u8)) 1 b6 c9 y.2.2.2.2 ∧ Fr w.heap.size c9) (bm 12 1023) 2 ?_ (fun y a5 d5 => ?_)))))))
  ·rintro ⟨a, c8, o5, o6, n7⟩ E W ⟨d9, e6, c9, b6, f2, b4, F, d, h9, i0, i1, e2, i2, i3, i4, i5, i6, f0, l1, k8⟩ b1
   obtain ⟨d6, e0, rfl⟩ := f0.form
   let d0 := (C2 a.Kind a.Head.lh a.Head.lp a.lM a.B.lh a.B.lp a.C.lh a.C.lp a.lN d6 c8.length e0)
   refine XO 10 rfl (lL (.agg d0.toArray) (d0.toArray) d e2 i5 cT oc nb rfl (fun m4 d => ?_))
   have n := d.has.ox b4 (Db (Kb (Kb Sn)))
   refine ⟨n, (X 11 rfl n (ny i6) (mM kr (lD ?_)))⟩
   replace d := d.ll (Kb (Db St))
   replace d := d.drew
   have n := d.has.ll (Kb Sn)
   refine mw n lY (X 0 rfl n (lz i1) (X 1 rfl n (lA tF e2) (XH 2 rfl n (fun _ hS => lq rfl (lB hS Mh (li a) rfl bP aH)) (X 3 rfl n (lA Dg e2) (XH 4 rfl n (fun _ hS => lq rfl (lK hS Mh rfl gZ)) (bS b1 fun Z g0 b1 => XE 5 rfl (tW d call67 (nR.ng (Ej (.slice d6 c8.length e0) c8 _ _ (f0.mono (Pl.mono _) d.lx) g0)) (fun m5 o1 o8 l9 d a4 L e8 => ?_))))))))
   have n := d.has.ox a4 (Dr (Kb Sn))
   refine ⟨n, ?_⟩
   obtain ⟨a6, a7, rfl⟩ := e8.form
   let e7 := (C2 a.Kind a.Head.lh a.Head.lp a.lM a.B.lh a.B.lp a.C.lh a.C.lp a.lN a6 Z.length a7)
   refine X 6 rfl n (nT (v := (.agg e7.toArray)) (sQ rfl rfl) (nq dG fK (MB _ fK) kr)) ?_
   obtain ⟨j9, d, b5, O, g7⟩ := ST.EJ d e8 (fun _ => rfl)
   refine XE 7 rfl (mh (cs := e7.toArray) d (om rfl) (oH eV cT dG) (fun m6 n6 d => ?_))
   have n := d.has.ox (a4.trans b5) (Db (Kb Sn))
   refine ⟨n, ?_⟩
   replace d := d.perm (Nr (Qb (Qb (Qb Qz))) Nz)
   refine bS b1 fun j0 f8 b1 => XE 8 rfl (wm (B := b2) qn d dc eV GP.1 GP.2.1 rfl GP.2.2.1 GP.2.2.2 rfl rfl (d1.mono qn ((b4.trans a4).trans b5)) (Dn.lit qn (l := [(⟨a, Z⟩ : Signed)]) (.cons (ys := C2 a.Kind a.Head.lh a.Head.lp a.lM a.B.lh a.B.lp a.C.lh a.C.lp a.lN a6 Z.length a7) (oq.mk ⟨(.slice a6 Z.length a7), rfl, g7⟩) .nil) rfl nb (d.at_ (Ma Mh))) f8 (fun m7 j5 h4 d f6 => ?_))
   have n := d.has.ox (a4.trans b5) (Dr (Db (Kb Sn)))
   refine ⟨n, (X 9 rfl n (ny rfl) (mM kr (ms (lD ?_))))⟩
   replace d := d.ll (Kr (Db (Db St)))
   exact ⟨i4, j5, j0, h4, j9, _, ⟨rfl, i3⟩, (((z.trans b4).trans a4).trans b5), (((q.trans F).trans L).trans O), (d.ll (Sb (Pr Pz) St)), h9, i0, rfl, i2, f6, (by rw [i9]; exact b1)⟩
  refine Hc 5 9 rfl rfl kr (.inl rfl) (.inl rfl) rfl rfl dc dc ?_ ?_
  ·refine bS a5 fun n9 g1 a5 => ?_
   refine Kv (args := [(.agg #[f1, c, g]), (.agg (li A).toArray)]) (caps := #[]) [] _ d (bH _) rfl call66 (by exact xv rfl rfl) (fun hH hN ai aj => nm.ng (AI D.lm c g A _ _ ⟨hH, hN, ai⟩ (G.mono mI.mono (T.trans z)) (H.mono nY.mono (T.trans z)) g1)) (fun m8 o2 k0 l7 d b7 P f4 => ?_)
   obtain ⟨j7, d2, rfl, h1⟩ := f4
   replace d2 := d2.symm; subst d2
   replace d := d.perm Tn
   have n := d.has.ox b7 (Kb (Kb Sn))
   refine ⟨n, (X 6 rfl n (lz rfl) (X 7 rfl n (og rfl rfl) (X 8 rfl n (og rfl rfl) (XE 9 rfl (ml d dG (fun m9 h6 d => ?_))))))⟩
   have n := d.has.ox b7 (Db (Kb (Kb Sn)))
   refine ⟨n, ?_⟩
   obtain rfl := sj a5
   refine nk kr (d5 _ _ ⟨h6, j7, (.slice none 0 0), k0, _, b7, P, (d.ll St), b3, c4, c5, rfl, c6, eN, eI, rfl, rfl, h1, (Sl.nil _ _ _), (Fr.nil _)⟩)
  ·refine ml d dG (fun n0 h7 d => ?_)
   have n := d.has.ll (Db (Kb (Kb Sn)))
   refine ⟨n, (bS a5 fun o0 g2 a5 => ?_)⟩
   refine XE 5 rfl (eD d (bH _) call66 (fun hh => nm.ng (AI D.lm c g A _ _ hh (G.mono mI.mono (T.trans z)) (H.mono nY.mono (T.trans z)) g2)) ?_ (L0 := []))
   rintro _ o3 k1 l8 d d4 R ⟨j8, d3, rfl, h2⟩
   obtain rfl := d3.symm
   have n := d.has.ox d4 (Db (Kb (Kb Sn)))
   refine ⟨n, (X 6 rfl n (lz rfl) (X 7 rfl n (og rfl rfl) (X 8 rfl n (og rfl rfl) ?_)))⟩
   obtain rfl := sj a5
   refine nk kr (d5 _ _ ⟨h7, j8, (.slice none 0 0), k1, _, d4, R, (d.ll St), b3, c4, c5, rfl, c6, eN, eI, rfl, rfl, h2, (Sl.nil _ _ _), (Fr.nil _)⟩)
 rintro E W ⟨a9, c7, b2, a2, d8, ⟨eI, eN⟩, z, q, d, b3, c4, c5, c6, d1, I⟩
 rw [aP] at I
 refine lD ?_
 replace d := d.ll (Kb (Kr (Dr St)))
 refine sg (Wh b3 (Wh b3 (Wn (Wf AQ (VB d Mh rfl rfl eZ (Wh c4 ?_))))))
 obtain ⟨c0, c2, rfl⟩ := U.form
 obtain ⟨c1, c3, rfl⟩ := e4.form
 refine VE (mh (cs := #[(.slice c0 D.Shown.length c2), (.slice c1 s.length c3)]) d (sQ rfl rfl) (oH jg iC kq) (fun n2 h8 d => bS I fun j3 g3 I => VE (tW d call68 (nR.ng (D1 (.slice (some ⟨h8, 0, none⟩) 2 2) ([D.Shown, s]) _ _ (FR.lit (l := [D.Shown, s]) (vs := [(.slice c0 D.Shown.length c2), (.slice c1 s.length c3)]) rfl nb (d.at_ Mh) (.cons (U.mono (Pl.mono _) ((T.trans z).trans d.lx)) (.cons (e4.mono (Pl.mono _) ((T.trans z).trans d.lx)) .nil))) g3)) (fun n3 j6 o9 m0 d J aa f7 => bS I fun e5 g4 I => VE (tW d call52 (wD j6 j3 _ _ (f7.sl mN (fun b o hq => d.at_ (Ml hq))) g4) (fun n4 o4 p0 m1 d K ab e9 => Wn (Wf AQ ?_)))))))
 obtain ⟨d7, e1, rfl⟩ := e9.form
 let f5 : Value := (.slice d7 e5.length e1)
 replace d := d.perm (Nb (Pr (Pr (Pb Pz))) Nz)
 refine VO (lL f5 (#[f1, c, g, (.string D.mx), (.int .i64 D.Room), j, f5, k, t]) d rfl rfl iC oc nb rfl (fun n5 d => ln ?_))
 replace d := d.ll (Kb (Kr (Dr (Db St))))
 refine sg (Wh c5 (Wa (Wa (lt ?_))))
 obtain rfl := sj I
 refine ui (v := a9) (u := (.int .i64 0)) rfl rfl rfl ?_
 replace d := d.perm (Nr (Qb (Qr Qz)) Nz)
 obtain ⟨p1, d, Y, ad, g8⟩ := ST.xi qn d (d1.mono qn (J.trans K))
 replace d := d.perm (Nr (Qb Qz) Nz)
 obtain ⟨p2, d, M, ae, g9⟩ := ST.EJ d e9 mN
 exact ⟨_, _, _, rfl, (d.nF (Kb Sn)), (((((T.trans z).trans J).trans K).trans Y).trans M), (((((ag.trans q).trans aa).trans ab).trans ad).trans ae), (ST.mE d (nS.mem (Kb Sn))), a9, c, g, j, f5, k, t, rfl, rfl, (g8.mono qn.mono M), (G.mono mI.mono (((((T.trans z).trans J).trans K).trans Y).trans M)), (H.mono nY.mono (((((T.trans z).trans J).trans K).trans Y).trans M)), (Q.mono (Pl.mono _) (((((T.trans z).trans J).trans K).trans Y).trans M)), g9, (a3.mono (Pl.mono _) (((((T.trans z).trans J).trans K).trans Y).trans M)), (a8.mono (Pl.mono _) (((((T.trans z).trans J).trans K).trans Y).trans M))⟩
theorem IW (a : Value) (j : List Int) (c : Value) (k : List Int) (r : Bool) (w : World) (g : Sl (Pl (mj .u8)) 1 (hp w) a j) (i : Sl (Pl (mj .u8)) 1 (hp w) c k) (hm : yM j k = some r) :
  lV true pg0 164 [a, c] w (.bool r) := by
 refine cG 10 func164 rfl (fun b => sg (Wa (lr (Wm (V (Fq bR fL bY rfl (g.mono (Pl.mono _) b.lx)) (Wm (V (Fq bR fL bY rfl (i.mono (Pl.mono _) b.lx)) (V (MT rfl rfl rfl) (Wa (me ?_))))))))))
 exact lD (mi (rQ hm b))
theorem My (g : Value) (y : List Int) (i : Value) (D : List Int) (j : Value) (G : List Int) (r : Bool) (w : World) (u : Sl (Pl (mj .u8)) 1 (hp w) g y) (I : Sl (Pl (mj .u8)) 1 (hp w) i D) (J : Sl (Pl (mj .u8)) 1 (hp w) j G) (hm : yf y D G = some r) :
  lV true pg0 123 [g, i, j] w (.bool r) := by
 refine cG 16 func123 rfl (fun d => sg (Wa (lr (Wm (bS hm fun v T hm => VE (Eg d call179 (FZ g y _ _ (u.mono (Pl.mono _) d.lx) T) (fun W3 d => Wm (LJ hm (fun B E W => ∃ x z, lP (hp w) x ∧ ST true mR w W x z ∧ E 6 = (.bool false) ∧ E 15 = (.bool B)) 6 ?_ (fun B c t => ?_)))))))))
 ·rintro a9 E W ⟨x, z, a3, d, q, Q⟩ K
  exact Wg Q (lt (rQ K d))
 refine bC c (fun a c => ?_) (fun a c => ?_)
 ·refine ug a (lz rfl) (ug a (lz rfl) (bS c fun U M c => vC a (tW d call118 (GR g y i D _ _ (u.mono (Pl.mono _) d.lx) (I.mono (Pl.mono _) d.lx) M) (fun a5 Y Z a4 d k h H => ug a (lz rfl) (bS c fun s N c => vC a (Eg d call164 (IW Y U j G _ _ (H.sl (fun _ => rfl) (fun b o l => d.at_ (Ml l))) (J.mono (Pl.mono _) (k.trans d.lx)) N) (fun n d => V (lX (cB a) rfl) ?_)))))))
  obtain rfl := sj c
  exact t _ _ ⟨Z, _, k, (d.ll (Dr St)), rfl, rfl⟩
 refine un a (un a (un a (un a (un a (V (lW (cB a) rfl) ?_)))))
 obtain rfl := sj c
 exact t _ _ ⟨(hp w), _, (lP.refl _), (d.ll St), rfl, rfl⟩
theorem Du (y : Value) (N : Option oe) (c : Signed) (t : Value) (r : Int) (w : World) (Z : vX oJ (hp w) y N) (k : Sl (Pl (mj .u8)) 1 (hp w) t c.Tag) (hm : qo N c = some r) :
  lV true pg0 59 [y, (.agg #[(.int .i64 c.lf.Kind), (.string c.lf.Head.lh), (.string c.lf.Head.lp), (.string c.lf.lM), (.string c.lf.B.lh), (.string c.lf.B.lp), (.string c.lf.C.lh), (.string c.lf.C.lp), (.string c.lf.lN), t])] w (.int .i64 r) := by
 refine cG 27 func59 rfl (fun h => sg ?_)
 obtain ⟨M, Q, rfl⟩ := k.form
 refine VE (mG h rfl (fun W4 L h => Wa (lr (Wm (Wf tF (VA h Mh (li c.lf) bP aH (bS hm fun v F hm => ?_)))))))
 refine VE (eD h (bH _) call117 (fun O => (AJ y N c.lf _ _ O (Z.mono ub (lP.refl _)) F)) ?_ (L0 := []))
 rintro _ c0 l b9 h a2 s ⟨a9, x, rfl, a3⟩
 obtain rfl := x.symm
 refine Wm (Wx rfl (Wx rfl (Wa (Wa (ln (lH (lH ?_)))))))
 replace h := h.drew
 have d := h.has.ll (Kb Sn)
 refine mw d lY (X 0 rfl d (lz rfl) (X 1 rfl d (mz rfl rfl rfl) (X 2 rfl d (lz rfl) (PJ hm (fun G E W => ∃ z B, lP l z ∧ ST true mR w W z ((L, Ol (C2 c.lf.Kind c.lf.Head.lh c.lf.Head.lp c.lf.lM c.lf.B.lh c.lf.B.lp c.lf.C.lh c.lf.C.lp c.lf.lN M c.Tag.length Q) 55) :: B) ∧ E 6 = (.int .i64 v.2) ∧ E 25 = (.bool G)) (bm 12 4095) 0 ?_ (fun G g u => ?_)))))
 ·rintro b7 E W ⟨z, B, D, h, T, U⟩ j
  refine mM kr (lD ?_)
  replace h := h.ll (Db St)
  refine CI j U (fun I j => ?_) (fun I j => ?_)
  ·refine sg (Wa (lt (mo ?_)))
   obtain rfl := sj j
   exact rP h
  exact kg (Wh T (Wa (lt (rQ j h))))
 refine bC g (fun a g => ?_) (fun a g => ?_)
 ·refine Xg 3 rfl rfl (cB a) d (lz rfl) (Xg 4 rfl rfl (cB a) d (lA tF rfl) (rE 5 rfl rfl (cB a) d (fun _ n => lq rfl (lB n Mh (li c.lf) rfl bP aH)) (Xg 7 rfl rfl (cB a) d (lA Dg rfl) (rE 8 rfl rfl (cB a) d (fun _ n => lq rfl (lK n Mh rfl gZ)) (bS g fun a4 J g => wo 6 rfl rfl (cB a) (tW h call119 (zU c.lf _ _  J) (fun Y a5 A R h i q H => ?_)))))))
  have d := h.has.ox i (Dr (Kb Sn))
  refine ⟨d, (bS g fun b6 K g => wo 9 rfl rfl (cB a) (Eg h call123 (My a9 v.1 a5 a4 (.slice M c.Tag.length Q) c.Tag _ _ (a3.mono (Pl.mono _) (i.trans h.lx)) (H.sl (fun _ => rfl) (fun b o P => h.at_ (Ml P))) (k.mono (Pl.mono _) ((a2.trans i).trans h.lx)) K) (fun b4 h => ?_)))⟩
  have d := h.has.ox i (Dr (Kb Sn))
  refine ⟨d, (Xg 10 rfl rfl (cB a) d (ot rfl) (X 11 rfl d (lX (cB a) rfl) ?_))⟩
  obtain rfl := sj g
  refine nk kr (u _ _ ⟨A, _, i, (h.ll (Dr St)), rfl, rfl⟩)
 refine Xn 3 rfl rfl (cB a) d (Xn 4 rfl rfl (cB a) d (Xn 5 rfl rfl (cB a) d (Xn 6 rfl rfl (cB a) d (Xn 7 rfl rfl (cB a) d (Xn 8 rfl rfl (cB a) d (Xn 9 rfl rfl (cB a) d (Xn 10 rfl rfl (cB a) d (X 11 rfl d (lW (cB a) rfl) ?_))))))))
 obtain rfl := sj g
 refine nk kr (u _ _ ⟨l, _, (lP.refl _), (h.ll St), rfl, rfl⟩)
set_option maxHeartbeats 1000000 in
theorem Eb (G : Nat) (B : mY) (c g x t j k b4 : Value) (a1 : Option oe) (c7 : Value) (a2 : List Signed) (r : (Int × Int × mY)) (w : World) {μ0 : lZ} (h0 : oT μ0 ((G, Ob #[(.string B.lm.Name), c, g, (.string B.mx), (.int .i64 B.Room), x, t, j, k] 36) :: []) w) (H : Sl mn 15 μ0 c B.lm.lJ) (J : Sl mW 8 μ0 g B.lm.mf) (a8 : Sl (Pl li) 9 μ0 x B.lE) (a7 : Sl (Pl li) 9 μ0 t B.Shown) (Z : Sl (Pl lu) 2 μ0 j B.lT) (a6 : Sl (Pl lu) 2 μ0 k B.mH) (f6 : vX oJ μ0 b4 a1) (e3 : Sl oq 10 μ0 c7 a2) (hm : sH B a1 a2 = some r) :
  nm false pg0 20 [(.pointer (some ⟨G, 0, none⟩)), b4, c7] w μ0 ((G, Ob #[(.string B.lm.Name), c, g, (.string B.mx), (.int .i64 B.Room), x, t, j, k] 36) :: []) (fun v L1 μ1 => ∃ y1 y3 y5 y7 y9 j8, v = (.tuple #[(.int .i64 (r.1)), (.int .i64 (r.2.1))]) ∧ L1 = ((G, Ob #[(.string (((r.2.2).lm).Name)), y1, y3, (.string ((r.2.2).mx)), (.int .i64 ((r.2.2).Room)), y5, y7, y9, j8] 36) :: []) ∧ Sl mn 15 μ1 y1 (((r.2.2).lm).lJ) ∧ Sl mW 8 μ1 y3 (((r.2.2).lm).mf) ∧ Sl (Pl li) 9 μ1 y5 ((r.2.2).lE) ∧ Sl (Pl li) 9 μ1 y7 ((r.2.2).Shown) ∧ Sl (Pl lu) 2 μ1 y9 ((r.2.2).lT) ∧ Sl (Pl lu) 2 μ1 j8 ((r.2.2).mH)) := by
 let g5 : Value := (.int .i64 B.Room)
 let f2 : Value := (.string B.lm.Name)
 let b8 : Value := (.pointer (some ⟨G, 0, none⟩))
 let b5 := ((G, Ob #[f2, c, g, (.string B.mx), g5, x, t, j, k] 36) :: [])
 refine uW h0 64 func20 rfl (fun d => sg (Wa (Wa (lS (Wm (V (tE underlying64 rfl rfl) (Wm (Vg rfl rfl (lz rfl) (Vg rfl rfl (GY underlying39 f6 rfl rfl) ?_)))))))))
 refine V (lW rfl rfl) (ln (CI hm rfl (fun j9 hm => ?_) (fun j9 hm => ?_)))
 ·refine sg (Wa (Wa (lt (mo ?_))))
  obtain rfl := sj hm
  exact ui (v := (.int .i64 0)) (u := (.int .i64 1)) rfl rfl rfl ⟨_, _, _, rfl, (d.nF (Kb Sn)), (lP.refl _), Lo.refl, (ST.mE d (nS.mem (Kb Sn))), c, g, x, t, j, k, rfl, rfl, H, J, a8, a7, Z, a6⟩
 refine kg (Wa (lS (Wm (V (mS eV rfl e3) (Wm (ln ?_))))))
 refine mQ (fun i E W => ∃ N D Y Q d1, (E 19 = .int .i64 (i : Nat) ∧ E 18 = .int .i64 (a2.length : Nat)) ∧ lP μ0 Q ∧ Lo (keys b5) w μ0 Q ∧ ST false (keys b5) w W Q ((G, Ob #[f2, c, g, (.string B.mx), g5, D, t, j, k] 36) :: d1) ∧ E 0 = b8 ∧ E 1 = b4 ∧ E 8 = (.int .i64 N) ∧ E 17 = c7 ∧ Sl (Pl li) 9 Q D Y ∧ oM a1 B (a2.drop i) N Y = some r) a2.length e3.len ⟨0, x, B.lE, μ0, _, ⟨rfl, rfl⟩, (lP.refl _), Lo.refl, (d.ll St), rfl, rfl, rfl, rfl, a8, hm⟩ dc dc dc (fun _ _ _ h => by obtain ⟨_, _, _, _, _, ad, _⟩ := h; exact ad) ?_ ?_
 ·rintro e4 E W i6 ⟨N, D, Y, Q, d1, ⟨eI, eN⟩, y, s, d, b7, b9, c0, c1, T, K⟩
  let e2 := (#[f2, c, g, (.string B.mx), g5, D, t, j, k] : Array Value)
  obtain ⟨a, m8, i8, i7, e9⟩ := mA i6
  rw [i8] at K
  refine bg (VQ (nM (i := (e4 : Int)) (x0 := a) oq.out eV cT c1 eI (e3.mono qn.mono y) (aJ _) i7) (fun m0 ⟨_, ⟨m5, rfl, e1⟩, g0⟩ => V (lq rfl (ma d.has g0 ib cT)) (VE (ml d dG (fun k7 d3 d => ?_)))))
  obtain ⟨b0, b1, rfl⟩ := e1.form
  let a0 := (C2 a.lf.Kind a.lf.Head.lh a.lf.Head.lp a.lf.lM a.lf.B.lh a.lf.B.lp a.lf.C.lh a.lf.C.lp a.lf.lN b0 a.Tag.length b1)
  refine VO (lL (.agg a0.toArray) (a0.toArray) d rfl rfl cT oc nb rfl (fun k8 d => ln (lH (lH ?_))))
  replace d := d.drew
  have n := d.has.ll (Kb (Kb Sn))
  refine mw n lY (X 0 rfl n (lz b9) (XH 1 rfl n (fun _ A => lq rfl (lB A Mh a0 rfl ib cT)) (bS K fun m1 g1 K => XE 2 rfl (Eg d call59 (lV.ng (Du b4 a1 a (.slice b0 a.Tag.length b1) _ _ (f6.mono ub (y.trans d.lx)) (e1.mono (Pl.mono _) d.lx) g1)) (fun k9 d => ?_)))))
  have n := d.has.ll (Kb (Kb Sn))
  refine ⟨n, (X 3 rfl n (mz rfl rfl rfl) (X 4 rfl n (lz rfl) (PJ K (fun f0 E W => ∃ e5, ST false (keys b5) w W Q ((d3, Ol a0 55) :: ((G, Obj.cells e2 36 (0, 0)) :: e5)) ∧ E 0 = b8 ∧ E 1 = b4 ∧ E 8 = (.int .i64 N) ∧ E 10 = (.pointer (some ⟨d3, 0, none⟩)) ∧ E 17 = c7 ∧ E 18 = (.int .i64 (a2.length : Int)) ∧ E 19 = (.int .i64 (e4 : Int)) ∧ E 35 = (.bool f0)) (bm 13 8191) 0 ?_ (fun f0 U c9 => ?_))))⟩
  ·rintro m7 E W ⟨e5, d, a5, d5, c2, h5, d6, d7, d8, h6⟩ M
   refine mM kr (lD (CI M h6 (fun f7 M => ?_) (fun f7 M => ?_)))
   ·refine oI (ow (sU (lD ?_)))
    replace d := d.ll (Db St)
    exact ⟨d8, N, D, Y, Q, _, ⟨rfl, d7⟩, y, s, (d.ll St), a5, d5, c2, d6, T, (by rw [e9]; exact M)⟩
   refine kn (lH (lH ?_))
   replace d := d.drew
   have n := d.has.ll (Db (Kb Sn))
   refine mw n lY (X 0 rfl n (lz a5) (X 1 rfl n (nA rfl) (X 2 rfl n (lA zP rfl) (XH 3 rfl n (fun _ A => lq rfl (lK A Mh rfl eZ)) (X 4 rfl n (mS aG rfl T) (X 5 rfl n (lz a5) (X 6 rfl n (nA rfl) (X 7 rfl n (lA Ky rfl) (XH 8 rfl n (fun _ A => lq rfl (lK A Mh rfl dD)) (X 9 rfl n (mz rfl rfl rfl) (mM kr (lD (CI M rfl (fun f8 M => ?_) (fun f8 M => ?_))))))))))))))
   ·refine sg (Wh c2 (Wa (Wa (ln ?_))))
    replace d := d.ll (Db St)
    refine mi (mo (nE (mo (nE (mo ?_)))))
    obtain rfl := sj M
    exact ui (v := (.int .i64 N)) (u := (.int .i64 40)) rfl rfl rfl ⟨_, _, _, rfl, (d.nF (Kb Sn)), y, s, (ST.mE d (nS.mem (Kb Sn))), c, g, D, t, j, k, rfl, rfl, (H.mono mI.mono y), (J.mono nY.mono y), T, (a7.mono (Pl.mono _) y), (Z.mono (Pl.mono _) y), (a6.mono (Pl.mono _) y)⟩
   refine kn (lH ?_)
   replace d := d.drew
   have n := d.has.ll (Kb Sn)
   have q := d.has.ll (Db (Kb Sn))
   refine vm 13 n q lY (mJ 0 rfl kr (.inl rfl) rfl dc (fun _ _ h => ⟨h.1, nf br h.2⟩) ⟨n, fun _ => q⟩ (fun _ _ _ _ => lz a5) (mJ 1 rfl kr (.inl rfl) rfl dc (fun _ _ h => ⟨h.1, nf br h.2⟩) ⟨n, fun _ => q⟩ (fun _ _ _ _ => lz a5) (mJ 2 rfl kr (.inl rfl) rfl dc (fun _ _ h => ⟨h.1, nf br h.2⟩) ⟨n, fun _ => q⟩ (fun _ _ _ _ => nA rfl) (mJ 3 rfl kr (.inl rfl) rfl dc (fun _ _ h => ⟨h.1, nf br h.2⟩) ⟨n, fun _ => q⟩ (fun _ _ _ _ => lA zP rfl) (mJ 4 rfl kr (.inl rfl) rfl dc (fun _ _ h => ⟨h.1, nf br h.2⟩) ⟨n, fun _ => q⟩ (fun l W ab hs => have A := (hs.2 (ab.Dp 13 [4] kr rfl)); lq rfl (lK A Mh rfl eZ)) (mJ 6 rfl kr (.inl rfl) rfl dc (fun _ _ h => ⟨h.1, nf br h.2⟩) ⟨n, fun _ => q⟩ (fun _ _ _ _ => lA tF h5) (mJ 7 rfl kr (.inl rfl) rfl dc (fun _ _ h => ⟨h.1, nf br h.2⟩) ⟨n, fun _ => q⟩ (fun l W ab hs => have A := hs.1; lq rfl (lB A Mh (li a.lf) rfl bP aH)) (PJ M (fun d9 E W => ∃ c4 b6 c5 d2 c6 e6, lP Q c6 ∧ Lo (keys b5) w Q c6 ∧ ST false (keys b5) w W c6 ((d3, Ol a0 55) :: ((G, Obj.cells e2 36 (0, 0)) :: (b6 ++ (d2 ++ e6)))) ∧ E 0 = b8 ∧ E 1 = b4 ∧ E 8 = (.int .i64 N) ∧ E 17 = c7 ∧ E 18 = (.int .i64 (a2.length : Int)) ∧ E 19 = (.int .i64 (e4 : Int)) ∧ E 47 = b8 ∧ E 52 = c4 ∧ E 55 = c5 ∧ lR 52 li 9 c4 d9.1 b6 ∧ lR 52 li 9 c5 d9.2 d2) (bm 14 511) 5 ?_ (fun d9 a4 c8 => ?_)))))))))
   ·rintro ⟨l8, l9⟩ E W ⟨c4, b6, c5, d2, c6, e6, I, F, d, h7, h8, h9, i0, i1, i2, i3, i4, i5, g8, g9⟩ a9
    replace d := d.perm (Nr (Qb (Qb Qz)) Nz)
    refine bS a9 fun i9 f9 a9 => XE 9 rfl (pq (enc := li) (v := c4) (vs := c5) (R := b6) d mN dc oQ aG nZ.1 nZ.2.1 rfl nZ.2.2.1 nZ.2.2.2 i4 i5 g8 (g9.Ts mN d (fun p hq => (Ma (Mt (Mt (Ml hq)))))) f9 (fun l0 j0 k5 d f3 => ?_))
    have n := d.has.ox I (Dr (Kb Sn))
    have q := d.has.ox I (Dr (Db (Kb Sn)))
    refine ⟨⟨n, fun _ => q⟩, (bS a9 fun c3 g2 a9 => XE 10 rfl (tW d call52 (wD j0 i9 _ _ (f3.sl mN (fun b o hq => d.at_ (Ml hq))) g2) (fun l1 m6 m9 k6 d b2 L e0 => ?_)))⟩
    have n := d.has.ox (I.trans b2) (Dr (Dr (Kb Sn)))
    have q := d.has.ox (I.trans b2) (Dr (Dr (Db (Kb Sn))))
    refine ⟨⟨n, fun _ => q⟩, (mJ 11 rfl kr (.inl rfl) rfl dc (fun _ _ h => ⟨h.1, nf br h.2⟩) ⟨n, fun _ => q⟩ (fun _ _ _ _ => nA i3) (mJ 12 rfl kr (.inl rfl) rfl dc (fun _ _ h => ⟨h.1, nf br h.2⟩) ⟨n, fun _ => q⟩ (fun _ _ _ _ => lA zP rfl) ?_))⟩
    obtain ⟨d0, d4, rfl⟩ := e0.form
    replace d := d.perm (Nb (Pr (Pr (Pb Pz))) Nz)
    refine XO 13 rfl (lL (.slice d0 c3.length d4) (#[f2, c, g, (.string B.mx), g5, (.slice d0 c3.length d4), t, j, k]) d rfl rfl iC oc nb rfl (fun l2 d => ?_))
    have n := d.has.ox (I.trans b2) (Db (Dr (Dr (Kb Sn))))
    refine ⟨⟨n, fun h => zY kr h⟩, (mM kr (lD ?_))⟩
    replace d := d.ll (Kb (Kr (Dr (Db (Dr St)))))
    refine lG (Wh h9 (Wi rfl (Wa (me (ms (lD ?_))))))
    replace d := d.perm (Nr (Qb Qz) Nz)
    obtain ⟨j5, d, f1, O, h1⟩ := ST.EJ d e0 mN
    exact ⟨i2, (wi0 .i64 (N + 1)), (.slice d0 c3.length d4), c3, j5, _, ⟨rfl, i1⟩, (((y.trans I).trans b2).trans f1), (((s.trans F).trans L).trans O), (d.ll St), h7, h8, rfl, i0, h1, (by rw [e9]; exact a9)⟩
   refine Hc 5 8 rfl rfl kr (.inl rfl) (.inl rfl) rfl rfl dc dc ?_ ?_
   ·refine bS a4 fun m2 g3 a4 => GQ (args := [D]) _ d rfl call61 (by exact uT rfl) (nR.ng (xg D Y _ _ (T.mono (Pl.mono _) d.lx) g3)) (fun l3 j3 j6 h2 d a3 P f4 => ?_)
    have n := d.has.ox a3 (Dr (Kb Sn))
    have q := d.has.ox a3 (Dr (Db (Kb Sn)))
    refine ⟨⟨n, fun _ => q⟩, (XE 8 rfl (mh (cs := (li a.lf).toArray) d (om rfl) (oH aG aH cM) (fun l4 e7 d => ?_)))⟩
    have n := d.has.ox a3 (Db (Dr (Kb Sn)))
    have q := d.has.ox a3 (Db (Dr (Db (Kb Sn))))
    refine ⟨⟨n, fun _ => q⟩, ?_⟩
    obtain rfl := sj a4
    replace d := d.Gt
    refine nk kr (c8 _ _ ⟨j3, h2, (.slice (some ⟨e7, 0, none⟩) 1 1), [(e7, Ol (li a.lf) 52)], j6, _, a3, P, (d.ll (Sb (Pr (Pr Pz)) (Sb (Pr (Pr Pz)) (Sr (Qr Qz) St)))), a5, d5, c2, d6, d7, d8, rfl, rfl, rfl, f4, (lR.lit (l := [a.lf]) (enc := li) rfl dc rfl rfl)⟩)
   ·refine mh (cs := (li a.lf).toArray) d (om rfl) (oH aG aH cM) (fun l5 e8 d => ?_)
    have n := d.has.ll (Db (Kb Sn))
    have q := d.has.ll (Db (Db (Kb Sn)))
    refine ⟨⟨n, fun _ => q⟩, (bS a4 fun m3 g4 a4 => XE 5 rfl (tW d call61 (nR.ng (xg D Y _ _ (T.mono (Pl.mono _) d.lx) g4)) (fun l6 j4 j7 h3 d b3 aa f5 => ?_)))⟩
    have n := d.has.ox b3 (Dr (Db (Kb Sn)))
    have q := d.has.ox b3 (Dr (Db (Db (Kb Sn))))
    refine ⟨⟨n, fun _ => q⟩, ?_⟩
    obtain rfl := sj a4
    replace d := d.perm (Nb (Pr Pz) Nz)
    replace d := d.Gt
    refine nk kr (c8 _ _ ⟨j4, h3, (.slice (some ⟨e8, 0, none⟩) 1 1), [(e8, Ol (li a.lf) 52)], j7, _, b3, aa, (d.ll (Sb (Pr (Pr Pz)) (Sb (Pr (Pr Pz)) (Sr (Qr Qz) St)))), a5, d5, c2, d6, d7, d8, rfl, rfl, rfl, f5, (lR.lit (l := [a.lf]) (enc := li) rfl dc rfl rfl)⟩)
  refine bC U (fun z U => ?_) (fun z U => ?_)
  ·refine Xn 5 rfl rfl (cB z) n (Xn 6 rfl rfl (cB z) n (Xn 7 rfl rfl (cB z) n (Xn 8 rfl rfl (cB z) n (Xn 9 rfl rfl (cB z) n (Xn 10 rfl rfl (cB z) n (Xn 11 rfl rfl (cB z) n (X 12 rfl n (lX (cB z) rfl) ?_)))))))
   obtain rfl := sj U
   refine nk kr (c9 _ _ ⟨_, (d.ll St), b7, b9, c0, rfl, c1, eN, eI, rfl⟩)
  refine Xg 5 rfl rfl (cB z) n (lz b7) (Xg 6 rfl rfl (cB z) n (nA rfl) (Xg 7 rfl rfl (cB z) n (lA zP rfl) (rE 8 rfl rfl (cB z) n (fun _ A => lq rfl (lK A (Mt Mh) rfl eZ)) (Xg 9 rfl rfl (cB z) n (lA tF rfl) (rE 10 rfl rfl (cB z) n (fun _ A => lq rfl (lB A Mh (li a.lf) rfl bP aH)) (bS U fun m4 g7 U => wo 11 rfl rfl (cB z) (Eg d call60 (lV.ng (Bn D Y a.lf _ _ (T.mono (Pl.mono _) d.lx) g7)) (fun l7 d => ?_))))))))
  have n := d.has.ll (Kb (Kb Sn))
  refine ⟨n, (X 12 rfl n (lW (cB z) rfl) ?_)⟩
  obtain rfl := sj U
  refine nk kr (c9 _ _ ⟨_, (d.ll St), b7, b9, c0, rfl, c1, eN, eI, rfl⟩)
 rintro E W ⟨N, D, Y, Q, d1, ⟨eI, eN⟩, y, s, d, b7, b9, c0, c1, T, K⟩
 rw [aP] at K
 refine lD (sg (Wh c0 (Wa (Wa (lt ?_)))))
 obtain rfl := sj K
 exact ui (v := (.int .i64 N)) (u := (.int .i64 0)) rfl rfl rfl ⟨_, _, _, rfl, (d.nF (Kb Sn)), y, s, (ST.mE d (nS.mem (Kb Sn))), c, g, D, t, j, k, rfl, rfl, (H.mono mI.mono y), (J.mono nY.mono y), T, (a7.mono (Pl.mono _) y), (Z.mono (Pl.mono _) y), (a6.mono (Pl.mono _) y)⟩
theorem J3 (c : Value) (D : List lf) (G : ByteArray) (r : ((List (lg × (List (ByteArray × Bool)))) × (List lf) × (List (lg × (List lf))) × (List (ByteArray × (List lf))) × (List lF) × Int × ByteArray)) (w : World) (I : Sl (Pl li) 9 (hp w) c D) (hm : zI D G = some r) :
  nl false pg0 51 [c, (.string G)] w [] (fun v L1 W' => ∃ g h l S4 n S7 o j z k B t u, v = (.func (.func 110) #[] #[(.pointer (some ⟨g, 0, none⟩)), (.pointer (some ⟨u, 0, none⟩))]) ∧ L1 = ((g, Ob #[(.pointer (some ⟨h, 0, none⟩))] 132) :: ((h, Ob #[l, n, o, z, B, (.int .i64 (r.2.2.2.2.2.1))] 189) :: ((u, Ob #[(.string (r.2.2.2.2.2.2))] 9) :: (S4 ++ (S7 ++ (j ++ (k ++ (t ++ [])))))))) ∧ nu (fun (x : lg) => (.agg (lu x).toArray)) (nr Value.string (fun (x : Bool) => (Value.bool x))) l r.1 S4 ∧ lR 52 li 9 n r.2.1 S7 ∧ nu (fun (x : lg) => (.agg (lu x).toArray)) (lR 52 li 9) o r.2.2.1 j ∧ nu Value.string (lR 52 li 9) z r.2.2.2.1 k ∧ rF 111 nv 3 B r.2.2.2.2.1 t) := by
 refine zh 9 func51 rfl (fun b => sg (VE (mG b rfl (fun W2 g b => Wa (lr (Wm (bS hm fun W q hm => ?_)))))))
 refine VE (Hf b (bH _) call62 (fun _ _ _ _ => (Hx c D _ _ (I.mono (Pl.mono _) b.lx) q)) (fun W5 v9 O R b P L d H => ?_) (L0 := []))
 obtain ⟨i, s, T, A, U, a9, Y, E, Z, F, a2, a, rfl, J, K, M, N, Q⟩ := H
 replace a := a.symm; subst a
 replace b := b.perm (Tb (Tr (Tr (Tr (Tr (Tr Tn))))))
 refine VE (ml b zeroValue132 (fun c1 y b => VO (lL (.pointer (some ⟨i, 0, none⟩)) (#[(.pointer (some ⟨i, 0, none⟩))]) b rfl rfl sizeOf132 oc nb rfl (fun c2 b => lr (V (tw (by exact xv rfl rfl) rfl) (Wa (lt ?_)))))))
 obtain rfl := sj hm
 exact na (v := (.func (.func 110) #[] #[(.pointer (some ⟨y, 0, none⟩)), (.pointer (some ⟨g, 0, none⟩))])) rfl rfl ⟨_, _, rfl, (b.Py (Kb (Kb (Sb (Pr (Pr (Pr (Pr (Pr Pz))))) (Kr (Kr (Kr (Kr (Kr Sn))))))))), y, i, s, T, A, U, a9, Y, E, Z, F, a2, g, rfl, rfl, J, K, M, N, Q⟩
theorem Hk (N : lg) (Q D : Nat) (t : Value) (B : List (lg × (List (ByteArray × Bool)))) (a : Value) (j : List lf) (i : Value) (z : List (lg × (List lf))) (c : Value) (k : List (ByteArray × (List lf))) (g : Value) (u : List lF) (I : Int) (T : Nat) (Y : ByteArray) (r : Bool) (w : World) (M : rj (fun (x : lg) => (.agg (lu x).toArray)) (nr Value.string (fun (x : Bool) => (Value.bool x))) (hp w) t B) (G : Sl (Pl li) 9 (hp w) a j) (K : rj (fun (x : lg) => (.agg (lu x).toArray)) (lR 52 li 9) (hp w) i z) (H : rj Value.string (lR 52 li 9) (hp w) c k) (J : Sl (Pl nv) 3 (hp w) g u) (U : At (hp w) (.pointer (some ⟨D, 0, none⟩)) [t, a, i, c, g, (.int .i64 I)]) (Z : At (hp w) (.pointer (some ⟨Q, 0, none⟩)) [(.pointer (some ⟨D, 0, none⟩))]) (d : At (hp w) (.pointer (some ⟨T, 0, none⟩)) [(.string Y)]) (hm : tU N B j z k u I Y = some r) :
  lV true pg0 110 [(.agg (lu N).toArray), (.pointer (some ⟨Q, 0, none⟩)), (.pointer (some ⟨T, 0, none⟩))] w (.bool r) := by
 refine cG 9 func110 rfl (fun b => sg (VE (mG b rfl (fun W2 h b => Wa (lr (V (lq rfl (qR b.has (y := (.pointer (some ⟨D, 0, none⟩))) Z isAgg132)) (VA b Mh (lu N) bO aN (V (lq rfl (qR b.has (y := (.string Y)) d cL)) (bS hm fun l a2 hm => VE (Eg b call64 (BX D t B a j i z c k g u I N Y _ _ (M.mono b.lx) (G.mono (Pl.mono _) b.lx) (K.mono b.lx) (H.mono b.lx) (J.mono (Pl.mono _) b.lx) (U.mono b.lx) a2) (fun W5 b => Wa ?_)))))))))))
 refine ln ?_
 exact mi (rQ hm b)
theorem Jy (k : lm) (H K c1 : Value) (O : List lf) (a2 : ByteArray) (r : List lf) (w : World) (g : Sl mn 15 (hp w) H k.lJ) (J : Sl mW 8 (hp w) K k.mf) (h5 : Sl (Pl li) 9 (hp w) c1 O) (hm : tK k O a2 = some r) :
  nR false pg0 13 [(.agg #[(.string k.Name), H, K]), c1, (.string a2)] w 52 li 9 r := by
 refine zh 47 func13 rfl (fun d => sg ?_)
 obtain ⟨A1, c2, rfl⟩ := g.form
 let c8 : Value := (.slice A1 k.lJ.length c2)
 obtain ⟨A3, c4, rfl⟩ := J.form
 let P := (C8 k.Name A1 k.lJ.length c2 A3 k.mf.length c4)
 refine VE (mG d rfl (fun W6 F d => Wa (lr (Wm (Wm (bS hm fun B i5 hm => ?_))))))
 refine VE (Hf d (bH _) call51 (fun _ _ _ _ => (J3 c1 O a2 _ _ (h5.mono (Pl.mono _) d.lx) i5)) (fun W9 l1 g4 l0 d a5 af ae h4 => ?_) (L0 := []))
 obtain ⟨N, s, e0, f9, e1, g0, e2, g1, e3, g2, e4, g3, Q, c0, rfl, h6, h7, h8, h9, i0⟩ := h4
 replace c0 := c0.symm; subst c0
 replace d := d.perm (Tb (Tb (Tb (Tr (Tr (Tr (Tr (Tr Tn))))))))
 refine Wa (lr (Wa (lS (Wf zo (VB d (Mt (Mt (Mt (Ma (Ma (Ma (Ma (Ma Mh)))))))) rfl rfl ko (V (mS dV rfl g) (Wm ?_)))))))
 refine ln (mQ (fun i E W => ∃ D I G A b4, (E 19 = .int .i64 (i : Nat) ∧ E 18 = .int .i64 (k.lJ.length : Nat)) ∧ lP g4 A ∧ ST false mR w W A ((N, Ob #[(.pointer (some ⟨s, 0, none⟩))] 132) :: ((s, Ob #[e0, e1, e2, e3, e4, (.int .i64 B.2.2.2.2.2.1)] 189) :: ((Q, Ob #[(.string B.2.2.2.2.2.2)] 9) :: ((F, Ol P 25) :: (G ++ (f9 ++ (g0 ++ (g1 ++ (g2 ++ (g3 ++ b4)))))))))) ∧ E 3 = (.pointer (some ⟨F, 0, none⟩)) ∧ E 7 = (.func (.func 110) #[] #[(.pointer (some ⟨N, 0, none⟩)), (.pointer (some ⟨Q, 0, none⟩))]) ∧ E 8 = D ∧ E 17 = c8 ∧ lR 52 li 9 D I G ∧ sr k B (k.lJ.drop i) I = some r) k.lJ.length g.len ⟨(.slice none 0 0), ([]), [], g4, _, ⟨rfl, rfl⟩, (lP.refl _), (d.ll (Kb (Kb (Kb (Sb (Pr (Pr (Pr (Pr (Pr Pz))))) St))))), rfl, rfl, rfl, rfl, (lR.nil _ _ _), hm⟩ dc dc dc (fun _ _ _ h => by obtain ⟨_, _, _, _, _, aa, _⟩ := h; exact aa) ?_ ?_)
 ·let b6 : Value := (.func (.func 110) #[] #[(.pointer (some ⟨N, 0, none⟩)), (.pointer (some ⟨Q, 0, none⟩))])
  rintro d8 E W f0 ⟨D, I, G, A, b4, ⟨L, eN⟩, u, d, Y, Z, a3, a4, M, j⟩
  obtain ⟨a, i6, f8, f7, c6⟩ := mA f0
  rw [f8] at j
  refine bg (VQ (nM (i := (d8 : Int)) (x0 := a) mn.out dV dW a4 L (g.mono mI.mono (a5.trans u)) (aJ _) f7) (fun k1 ⟨_, ⟨k4, k5, rfl, f5, f6⟩, f1⟩ => V (lq rfl (ma d.has f1 kp dW)) (VE (ml d gx (fun i9 d0 d => ?_)))))
  obtain ⟨b2, b7, rfl⟩ := f5.form
  obtain ⟨b3, b9, rfl⟩ := f6.form
  let a0 := (C3 a.Signed.lf.Kind a.Signed.lf.Head.lh a.Signed.lf.Head.lp a.Signed.lf.lM a.Signed.lf.B.lh a.Signed.lf.B.lp a.Signed.lf.C.lh a.Signed.lf.C.lp a.Signed.lf.lN b2 a.Signed.Tag.length b7 a.ly.Op a.ly.K a.ly.lg.lh a.ly.lg.lp b3 a.ly.Kids.length b9)
  refine VO (lL (.agg a0.toArray) (a0.toArray) d rfl rfl dW oc nb rfl (fun j0 d => lr (V (lq Y (lB d.has (Mt (Mt (Mt (Mt Mh)))) P rfl gA fD)) (Wf xF (Wf tF (VA d Mh (li a.Signed.lf) bP aH (bS j fun c f2 j => ?_)))))))
  let e5 : Value := (.string (((c.1).lg).lp))
  let d1 : Value := (.string (((c.1).lg).lh))
  refine VE (eD d (bH _) call23 (fun hh => (Bq k c8 (.slice A3 k.mf.length c4) a.Signed.lf _ _ hh (g.mono mI.mono (a5.trans u)) (J.mono nY.mono (a5.trans u)) f2)) ?_ (L0 := []))
  rintro _ k6 c3 i8 d a9 ab ⟨k8, a6, rfl, c7⟩
  obtain rfl := a6.symm
  refine Wm (Wx rfl (Wx rfl (VE (ml d bI (fun j4 k0 d => ?_)))))
  obtain ⟨T, U, rfl⟩ := c7.form
  let b8 : Value := (.slice T ((c.1).Kids).length U)
  refine VO (lL (.agg #[(.int .i64 ((c.1).Op)), (.int .i64 ((c.1).K)), d1, e5, b8]) (#[(.int .i64 ((c.1).Op)), (.int .i64 ((c.1).K)), d1, e5, b8]) d rfl rfl aC oc nb rfl (fun j5 d => Wa (lr (Wm (Wi rfl (Wm (LJ j (fun d9 E W => ∃ c9, ST false mR w W c3 ((d0, Ol a0 60) :: ((N, Ob #[(.pointer (some ⟨s, 0, none⟩))] 132) :: ((s, Ob #[e0, e1, e2, e3, e4, (.int .i64 B.2.2.2.2.2.1)] 189) :: ((Q, Ob #[(.string B.2.2.2.2.2.2)] 9) :: ((F, Ol P 25) :: (G ++ (f9 ++ (g0 ++ (g1 ++ (g2 ++ (g3 ++ c9))))))))))) ∧ E 3 = (.pointer (some ⟨F, 0, none⟩)) ∧ E 7 = b6 ∧ E 8 = D ∧ E 10 = (.pointer (some ⟨d0, 0, none⟩)) ∧ E 17 = c8 ∧ E 18 = (.int .i64 (k.lJ.length : Int)) ∧ E 19 = (.int .i64 (d8 : Int)) ∧ E 37 = (.bool d9)) 4 ?_ (fun d9 z b0 => ?_))))))))
  ·rintro k7 E W ⟨c9, d, d2, d3, d4, h2, d5, d6, d7, h3⟩ y
   refine ln (CI y h3 (fun e8 y => ?_) (fun e8 y => ?_))
   ·refine lG (Wh d4 (V (lA xF h2) (Wf tF (VA d Mh (li a.Signed.lf) bP aH (VE (mh (cs := (li a.Signed.lf).toArray) d (om rfl) (oH aG aH cM) (fun j6 h1 d => ?_)))))))
    replace d := d.perm (Nr (Qb (Qb (Qb (Qb (Qb (Qb Qz)))))) Nz)
    refine bS y fun i1 e9 y => VE (pq (enc := li) (v := D) (vs := (.slice (some ⟨h1, 0, none⟩) 1 1)) (R := G) d mN dc oQ aG nZ.1 nZ.2.1 rfl nZ.2.2.1 nZ.2.2.2 rfl rfl M (Sl.lit (enc := li) (l := [a.Signed.lf]) mN rfl nb rfl (d.at_ (Ma Mh))) e9 (fun j7 i2 g7 d e7 => Wa (me (ms (lD ?_)))))
    replace d := d.ll (Kr (Db (Db St)))
    exact ⟨d7, i2, i1, g7, c3, _, ⟨rfl, d6⟩, (u.trans a9), (d.ll (Sb (Pr Pz) (Sb (Pr Pz) (Sb (Pr Pz) (Sb (Pr Pz) St))))), d2, d3, rfl, d5, e7, (by rw [c6]; exact y)⟩
   refine mX (ms (lD ?_))
   replace d := d.ll (Db St)
   exact ⟨d7, D, I, G, c3, _, ⟨rfl, d6⟩, (u.trans a9), (d.ll St), d2, d3, d4, d5, M, (by rw [c6]; exact y)⟩
  refine bC z (fun t z => ?_) (fun t z => ?_)
  ·refine ug t (lq rfl (lB d.has Mh [(.int .i64 ((c.1).Op)), (.int .i64 ((c.1).K)), d1, e5, b8] rfl bB aC)) (ug t (lz Z) (bS z fun k2 f3 z => vC t (Eg d call24 (Ai c.1 b8 b6 (fun (x : lg) => tU x B.1 B.2.1 B.2.2.1 B.2.2.2.1 B.2.2.2.2.1 B.2.2.2.2.2.1 B.2.2.2.2.2.2) _ _ (c7.mono lI.mono d.lx) ⟨110, #[], #[(.pointer (some ⟨N, 0, none⟩)), (.pointer (some ⟨Q, 0, none⟩))], rfl, call110, fun W x r q hm => (Hk x N s e0 B.1 e1 B.2.1 e2 B.2.2.1 e3 B.2.2.2.1 e4 B.2.2.2.2.1 B.2.2.2.2.2.1 Q B.2.2.2.2.2.2 r W (h6.at (fun b o n => q _ _ ((fun b o n => d.at_ (Mt (Mt (Mt (Mt (Mt (Mt (Ma (Ml n))))))))) b o n))) (h7.sl mN (fun b o n => q _ _ ((fun b o n => d.at_ (Mt (Mt (Mt (Mt (Mt (Mt (Ma (Ma (Ml n)))))))))) b o n))) (h8.at (fun b o n => q _ _ ((fun b o n => d.at_ (Mt (Mt (Mt (Mt (Mt (Mt (Ma (Ma (Ma (Ml n))))))))))) b o n))) (h9.at (fun b o n => q _ _ ((fun b o n => d.at_ (Mt (Mt (Mt (Mt (Mt (Mt (Ma (Ma (Ma (Ma (Ml n)))))))))))) b o n))) ((i0.Co xd).mono (Pl.mono _) (nG (fun b o n => q _ _ ((fun b o n => d.at_ (Mt (Mt (Mt (Mt (Mt (Mt (Ma (Ma (Ma (Ma (Ma (Ml n))))))))))))) b o n)))) (At.of (q _ _ (d.at_ (Mt (Mt (Mt Mh))))) _ rfl) (At.of (q _ _ (d.at_ (Mt (Mt Mh)))) _ rfl) (At.of (q _ _ (d.at_ (Mt (Mt (Mt (Mt Mh)))))) _ rfl) hm).ng⟩ f3) (fun j8 d => V (lX (cB t) rfl) ?_))))
   obtain rfl := sj z
   exact b0 _ _ ⟨_, (d.ll (Db St)), Y, Z, a3, rfl, a4, eN, L, rfl⟩
  refine un t (un t (un t (V (lW (cB t) rfl) ?_)))
  obtain rfl := sj z
  exact b0 _ _ ⟨_, (d.ll (Db St)), Y, Z, a3, rfl, a4, eN, L, rfl⟩
 rintro E W ⟨D, I, G, A, b4, ⟨L, eN⟩, u, d, Y, Z, a3, a4, M, j⟩
 rw [aP] at j
 refine lD ?_
 replace d := d.ll (Db (Db (Db (Db (Kr (Dr (Dr (Dr (Dr (Dr St))))))))))
 refine sg (Wh a3 (bS j fun k3 f4 j => VE (tW d call52 (wD D I _ _ (M.sl mN (fun b o n => d.at_ (Ml n))) f4) (fun j9 i3 k9 g8 d i4 ad c5 => Wa (ln ?_)))))
 replace d := d.ll (Kr (Dr St))
 refine mi ?_
 obtain rfl := sj j
 exact na (v := i3) rfl rfl ⟨_, g8, rfl, d.px (fun p n => (Ml n)) c5.nd, c5⟩
theorem HY (Q : lf) (T : Nat) (k : ByteArray) (c : Value) (i : List mg) (g : Value) (j : List nQ) (H : ByteArray) (I : Int) (t : Value) (u : List lf) (a : Value) (z : List lf) (x : Value) (D : List lg) (B : Value) (G : List lg) (r : Bool) (w : World) (K : Sl mn 15 (hp w) c i) (M : Sl mW 8 (hp w) g j) (N : Sl (Pl li) 9 (hp w) t u) (J : Sl (Pl li) 9 (hp w) a z) (U : Sl (Pl lu) 2 (hp w) x D) (Z : Sl (Pl lu) 2 (hp w) B G) (Y : At (hp w) (.pointer (some ⟨T, 0, none⟩)) [(.string k), c, g, (.string H), (.int .i64 I), t, a, x, B]) (hm : xV Q k i j H I u z D G = some r) :
  lV true pg0 120 [(.agg (li Q).toArray), (.pointer (some ⟨T, 0, none⟩))] w (.bool r) := by
 refine cG 8 func120 rfl (fun b => sg (VE (mG b rfl (fun W2 h b => Wa (lr (VQ (wq [a] AQ rfl Y rfl) (fun l d => V (lq rfl (qR b.has (y := a) d eZ)) (VA b Mh (li Q) bP aH (bS hm fun n a2 hm => VE (Eg b call60 (Bn a z Q _ _ (J.mono (Pl.mono _) b.lx) a2) (fun W8 b => Wa ?_)))))))))))
 refine ln ?_
 exact mi (rQ hm b)
theorem FK (a : mY) (j k t H z G : Value) (r : List lf) (w : World) (c : Sl mn 15 (hp w) j a.lm.lJ) (g : Sl mW 8 (hp w) k a.lm.mf) (i : Sl (Pl li) 9 (hp w) t a.lE) (D : Sl (Pl li) 9 (hp w) H a.Shown) (y : Sl (Pl lu) 2 (hp w) z a.lT) (B : Sl (Pl lu) 2 (hp w) G a.mH) (hm : yB a = some r) :
  nR false pg0 55 [(.agg #[(.string a.lm.Name), j, k, (.string a.mx), (.int .i64 a.Room), t, H, z, G])] w 52 li 9 r := by
 refine zh 12 func55 rfl (fun b => sg ?_)
 obtain ⟨M, Q, rfl⟩ := c.form
 obtain ⟨N, T, rfl⟩ := g.form
 obtain ⟨A5, o, rfl⟩ := i.form
 obtain ⟨A7, P, rfl⟩ := D.form
 obtain ⟨A9, Y, rfl⟩ := y.form
 obtain ⟨U, Z, rfl⟩ := B.form
 refine VE (mG b rfl (fun b7 J b => Wa (lr (Wf zK (VA b Mh (C8 a.lm.Name M a.lm.lJ.length Q N a.lm.mf.length T) gA fD (Wf zP (VB b Mh rfl rfl eZ (Wf HB (VB b Mh rfl rfl cL (bS hm fun F a5 hm => VE (tW b call13 (Jy a.lm (.slice M a.lm.lJ.length Q) (.slice N a.lm.mf.length T) (.slice A5 a.lE.length o) a.lE a.mx _ _ (c.mono mI.mono b.lx) (g.mono nY.mono b.lx) (i.mono (Pl.mono _) b.lx) a5) (fun b9 L c5 a9 b u q a4 => V (tw (by exact uT rfl) rfl) ?_))))))))))))
 refine bS hm fun c1 A hm => ?_
 refine VE (Hf b (Cr Qz Cn) call111 (fun hH R d n => (xM L F a9 (.func (.func 120) #[] #[(.pointer (some ⟨J, 0, none⟩))]) (fun (x : lf) => xV x a.lm.Name a.lm.lJ a.lm.mf a.mx a.Room a.lE a.Shown a.lT a.mH) _ _ ⟨hH, R, lP.refl _⟩ a4 ⟨120, #[], #[(.pointer (some ⟨J, 0, none⟩))], rfl, call120, fun W x r h hm => (HY x J a.lm.Name (.slice M a.lm.lJ.length Q) a.lm.lJ (.slice N a.lm.mf.length T) a.lm.mf a.mx a.Room (.slice A5 a.lE.length o) a.lE (.slice A7 a.Shown.length P) a.Shown (.slice A9 a.lT.length Y) a.lT (.slice U a.mH.length Z) a.mH r W (c.mono mI.mono ((u.trans d).trans h)) (g.mono nY.mono ((u.trans d).trans h)) (i.mono (Pl.mono _) ((u.trans d).trans h)) (D.mono (Pl.mono _) ((u.trans d).trans h)) (y.mono (Pl.mono _) ((u.trans d).trans h)) (B.mono (Pl.mono _) ((u.trans d).trans h)) (At.of (h _ _ (n _ _ Mh)) _ rfl) hm).ng⟩ A)) (fun c0 c3 c7 b6 b b5 s l a3 => ?_))
 obtain ⟨O, E, I, rfl, K⟩ := a3
 replace I := I.symm; subst I
 replace b := b.perm (Tr Tn)
 refine Wa (ln ?_)
 replace b := b.ll (Kr (Db St))
 refine mi ?_
 obtain rfl := sj hm
 exact na (v := O) rfl rfl ⟨_, E, rfl, b.px (fun p hq => (Ml hq)) K.nd, K⟩
theorem Kn (c : Signed) (t : Value) (g : Signed) (u : Value) (r : Bool) (w : World) (i : Sl (Pl (mj .u8)) 1 (hp w) t c.Tag) (j : Sl (Pl (mj .u8)) 1 (hp w) u g.Tag) (hm : zG c g = some r) :
  lV true pg0 56 [(.agg #[(.int .i64 c.lf.Kind), (.string c.lf.Head.lh), (.string c.lf.Head.lp), (.string c.lf.lM), (.string c.lf.B.lh), (.string c.lf.B.lp), (.string c.lf.C.lh), (.string c.lf.C.lp), (.string c.lf.lN), t]), (.agg #[(.int .i64 g.lf.Kind), (.string g.lf.Head.lh), (.string g.lf.Head.lp), (.string g.lf.lM), (.string g.lf.B.lh), (.string g.lf.B.lp), (.string g.lf.C.lh), (.string g.lf.C.lp), (.string g.lf.lN), u])] w (.bool r) := by
 refine cG 19 func56 rfl (fun b => sg ?_)
 obtain ⟨G, I, rfl⟩ := i.form
 refine VE (mG b rfl (fun N T b => ?_))
 obtain ⟨H, J, rfl⟩ := j.form
 refine VE (mG b rfl (fun Q U b => Wa (lr (Wf tF (VA b (Mt Mh) (li c.lf) bP aH (Wf tF (VA b Mh (li g.lf) bP aH (V (AD rfl rfl (qV gC) (xe (xN _ c.lf g.lf))) (Wm (LJ hm (fun z E W => ∃ y, ST true mR w W (hp w) y ∧ E 4 = (.bool false) ∧ E 18 = (.bool z)) 8 ?_ (fun z k x => ?_)))))))))))
 ·rintro M E W ⟨y, b, K, D⟩ B
  exact Wg D (lt (rQ B b))
 refine bC k (fun a k => ?_) (fun a k => ?_)
 ·refine ug a (lA Dg rfl) (ug a (lq rfl (lK b.has (Mt Mh) rfl gZ)) (ug a (Fq bR fL bY rfl (i.mono (Pl.mono _) b.lx)) (ug a (lA Dg rfl) (ug a (lq rfl (lK b.has Mh rfl gZ)) (ug a (Fq bR fL bY rfl (j.mono (Pl.mono _) b.lx)) (ug a (MT rfl rfl rfl) (V (lX (cB a) rfl) ?_)))))))
  obtain rfl := sj k
  exact x _ _ ⟨_, (b.ll (Db (Db St))), rfl, rfl⟩
 refine un a (un a (un a (un a (un a (un a (un a (V (lW (cB a) rfl) ?_)))))))
 obtain rfl := sj k
 exact x _ _ ⟨_, (b.ll (Db (Db St))), rfl, rfl⟩
theorem Ei (g : Value) (i r : List lg) (w : World) (a : Sl (Pl lu) 2 (hp w) g i) (hm : sM i = some r) :
  nR true pg0 151 [g] w 50 lu 2 r := by
 unfold sM at hm
 refine zh 8 func151 rfl (fun b => sg (Wa (lS (Wm ?_))))
 obtain ⟨y, B, rfl⟩ := a.form
 refine V (zd bK rfl rfl) (ln ?_)
 rcases y with _ | z
 ·have u := a.isNil
  replace hm : some [] = some r := by rw [u] at hm; simpa [ol, maxLen] using hm
  refine wv (rfl) (sg (Wa (lt (mo ?_))))
  obtain rfl := sj hm
  exact na (v := (.slice none 0 0)) rfl rfl ⟨_, [], rfl, b.px (fun p d => by cases d) (by simp), lR.nil _ _ _⟩
 ·refine re (rfl) (kg (VE (mh (cs := #[]) b sC (tY [] bK aN eG dc rfl (by simp) rfl rfl) (fun G k b => Wm (bS hm fun H t hm => VE (pq (enc := lu) (v := (.slice (some ⟨k, 0, none⟩) 0 0)) (vs := (.slice (some z) i.length B)) (R := [(k, Ob #[] 50)]) b oU dc ra bK rM.1 rM.2.1 rfl rM.2.2.1 rM.2.2.2 rfl rfl (lR.lit (l := []) (enc := lu) rfl dc rfl rfl) (a.mono (Pl.mono _) b.lx) t (fun D x j b c => Wa (lt ?_))))))))
  obtain rfl := sj hm
  exact na (v := x) rfl rfl ⟨_, j, rfl, b.px (fun p d => (Ml d)) c.nd, c⟩
theorem B9 (g : Value) (t : List lg) (j : Value) (B : lg → Option Bool) (r : Int) (w : World) (c : Sl (Pl lu) 2 (hp w) g t) (D : yS pg0 j (hp w) (fun (x : lg) => [(.agg (lu x).toArray)]) (fun (r : Bool) => (.bool r)) B) (hm : uX t B = some r) :
  lV false pg0 206 [g, j] w (.int .i64 r) := by
 refine cG 19 func206 rfl (fun b => sg (Wa (lS (Wm (V (mS bK rfl c) (Wm (ln (mQ (fun i E W => ∃ k, (E 8 = .int .i64 (i : Nat) ∧ E 7 = .int .i64 (t.length : Nat)) ∧ ST false mR w W (hp w) k ∧ E 0 = g ∧ E 1 = j ∧ pS B (t.drop i) i = some r) t.length c.len ⟨_, ⟨rfl, rfl⟩, (b.ll St), rfl, rfl, hm⟩ dc dc dc (fun _ _ _ h => by obtain ⟨_, l, _⟩ := h; exact l) ?_ ?_))))))))
 ·rintro Q E W H ⟨k, ⟨d, n⟩, b, u, y, a⟩
  obtain ⟨z, T, M, K, N⟩ := mA H
  rw [M] at a
  refine bg (Wh d (Wa (lr (Wh y (Wh u (Wm (VQ (qb (enc := lu) (i := (Q : Int)) (x0 := z) bK aN rfl rfl c (aJ _) K) (fun Y I => V (lq rfl (ma b.has I bO aN)) (bS a fun Z J a => ?_)))))))))
  refine VE (Ks z b D (lP.refl _) rfl (uT rfl) J (fun U b => ln (CI a rfl (fun G a => ?_) (fun G a => ?_))))
  ·refine sg (Wm (Wa (lt (nE (mo (nE (mo ?_)))))))
   obtain rfl := sj a
   exact rP b
  exact mX (ms (lD ⟨d, _, ⟨rfl, n⟩, (b.ll St), u, y, (by rw [N]; exact a)⟩))
 rintro E W ⟨k, ⟨d, n⟩, b, u, y, a⟩
 rw [aP] at a
 exact lD (sg (Wa (lt (rQ a b))))
theorem B5 (j : Value) (a0 : List lg) (t : LO) (H : Value) (f1 : lg → Option Bool) (r : List lg) (w : World) {μ0 : lZ} (h0 : oT μ0 (t ++ []) w) (T : lR 50 lu 2 j a0 t) (a4 : yS pg0 H μ0 (fun (x : lg) => [(.agg (lu x).toArray)]) (fun (r : Bool) => (.bool r)) f1) (hm : sd a0 f1 = some r) :
  nl false pg0 148 [j, H] w (t ++ []) (fun v L1 W' => ∃ q S2, v = q ∧ L1 = (S2 ++ []) ∧ lR 50 lu 2 q r S2) := by
 refine AN h0 42 func148 rfl (fun d => sg (Wa (lr (Wm (Wm (bS hm fun n d3 hm => VE (Eg d call206 (B9 j a0 H f1 _ _ (T.sl oU (fun b o h => d.at_ (Ml h))) (a4.mono d.lx) d3) (fun W3 d => Wa (ln ?_)))))))))
 refine lH (sg (Wm (Wi rfl (ln (CI hm rfl (fun d2 hm => ?_) (fun d2 hm => ?_))))))
 ·refine sg (Wm (Wa (lt (mo ?_))))
  obtain rfl := sj hm
  exact na (v := j) rfl rfl ⟨_, _, rfl, (d.nF (Kr Sn)), j, t, rfl, rfl, T⟩
 refine kS (Wm (Wi rfl (Wa (ln (nz (ph (fun m E W => ∃ U I B D a2, ST false (keys (t ++ [])) w W μ0 (I ++ a2) ∧ E 0 = j ∧ E 1 = H ∧ E 5 = (.int .i64 B) ∧ E 6 = (.int .i64 D) ∧ lR 50 lu 2 j U I ∧ oS f1 m U B D = some r) mq ⟨a0, t, n, (wi0 .i64 (n + 1)), _, (d.ll St), rfl, rfl, rfl, rfl, T, hm⟩ ?_))))))
 rintro m E W ⟨U, I, B, D, a2, d, y, Q, G, K, g, a⟩
 cases m with
 | zero => rw [oS] at a; cases a
 | succ c8 =>
  refine lH (sg (Wh K (Wh y (V (sw bK rfl g) (Wi rfl (ln (CI a rfl (fun A a => ?_) (fun A a => ?_))))))))
  ·refine kn (lH (CJ a (fun Y E W => ∃ J a3, ST false (keys (t ++ [])) w W μ0 (J ++ a3) ∧ E 0 = j ∧ E 1 = H ∧ E 5 = (.int .i64 Y.2) ∧ E 6 = (.int .i64 D) ∧ lR 50 lu 2 j Y.1 J) (fun Y c => ?_) ?_))
   ·refine bg (Wh y (Wh K (bS c fun k M c => VQ (oY (i := D) (x0 := k) bK aN rfl rfl g (mc M) (lU M)) (fun e4 O => V (lq rfl (rI d.has (fun p h => (Ml h)) g oU O (lU M) bO aN)) (VE (ml d eG (fun d7 e2 d => VO (lL (.agg (lu k).toArray) ((lu k).toArray) d rfl rfl aN (ra k) nb rfl (fun d8 d => lr (Wh Q ?_))))))))))
    refine VA d Mh (lu k) bO aN (bS c fun e6 R c => VE (Ks k d a4 (lP.refl _) rfl (uT rfl) R (fun d9 d => V (ot rfl) (ln (CI c rfl (fun F c => ?_) (fun F c => ?_))))))
    ·refine sg (Wh y (Wh G (VA d Mh (lu k) bO aN (bS c fun d0 N c => VQ (oY (i := B) (x0 := d0) bK aN rfl rfl g (mc N) (lU N)) (fun e5 P => ?_)))))
     replace d := d.perm (Nr (Qb Qz) Nz)
     refine VO (xQ (u := (.agg (lu k).toArray)) (x1 := k)  d g oU ra rfl rfl rfl P (lU N) aN (fun e0 c1 d s => ln ?_))
     replace d := d.ll (Kr (Db St))
     refine lG (Wh G (Wi rfl (Wa (me (ms (lD ?_))))))
     obtain rfl := sj c
     exact ⟨c1, _, (d.ll St), y, Q, rfl, K, s⟩
    refine mX (ms (lD ?_))
    obtain rfl := sj c
    exact ⟨I, _, (d.ll (Db St)), y, Q, G, K, g⟩
   rintro ⟨c7, c9⟩ E W ⟨J, a3, d, c3, c4, c5, c6, b6⟩ L
   exact lG (Wh c6 (Wi rfl (Wa (ln ⟨c8, bL _, c7, J, c9, (wi0 .i64 (D + 1)), _, (d.ll St), c3, c4, c5, rfl, b6, L⟩))))
  refine oI (ow (ow (sU (lD (sg (Wh y (Wh G (bS a fun _ Z a => VQ (vz (i := B) bK aN rfl rfl g (uw Z) (um Z)) (fun e7 b7 => VO (yA (z := K0)  d g oU ra bK eG b7 rfl rfl (fun e1 c2 d a9 => lr (Wh y ?_))))))))))))
  refine Wh G (bS a fun _ l a => VQ (zf (i := B) bK aN rfl rfl a9 oU (uw l) (um l)) (fun a5 b9 => Wa (lt ?_)))
  obtain rfl := sj a
  exact na (v := a5) rfl rfl ⟨_, _, rfl, (d.nF (Kr Sn)), a5, c2, rfl, rfl, b9⟩
theorem I0 (a : lg) (r : Bool) (w : World) (hm : yK a = some r) :
  lV true pg0 152 [(.agg (lu a).toArray)] w (.bool r) := by
 refine cG 6 func152 rfl (fun b => sg (VE (mG b rfl (fun g j b => Wa (lr (VA b Mh (lu a) bO aN (bS hm fun k c hm => VE (Eg b km (sx a _ _  c) (fun i b => V (ot rfl) (Wa (me ?_)))))))))))
 refine lD ?_
 exact mi (rQ hm b)
theorem MZ (c : Value) (k : List lg) (a : LO) (g : Value) (t : (lg × lg) → Option Int) (r : List lg) (w : World) {y : lZ} (u : oT y (a ++ []) w) (i : lR 50 lu 2 c k a) (j : RR pg0 g y (fun (x : (lg × lg)) => [(.agg (lu x.1).toArray), (.agg (lu x.2).toArray)]) (fun (r : Int) => (.int .i64 r)) t) (hm : yL t k = some r) :
  nl true pg0 154 [c, g] w (a ++ []) (fun v z W' => ∃ S, v = (.tuple #[]) ∧ z = (S ++ []) ∧ lR 50 lu 2 c r S) := F5 (P := pg0) (ρ := Oh) RO 2 bO aN lu oU ra u.H u.S i j hm
theorem DC (j : Value) (a0 : List lg) (x : LO) (r : List lg) (w : World) {μ0 : lZ} (h0 : oT μ0 (x ++ []) w) (B : lR 50 lu 2 j a0 x) (hm : tX a0 = some r) :
  nl true pg0 156 [j] w (x ++ []) (fun v L1 W' => ∃ y1 S2, v = y1 ∧ L1 = (S2 ++ []) ∧ lR 50 lu 2 y1 r S2) := by
 refine AN h0 61 func156 rfl (fun b => sg (Wa (lS (Wm (V (sw bK rfl B) (Wi rfl (ln (CI hm rfl (fun g0 hm => ?_) (fun g0 hm => ?_)))))))))
 ·refine sg (Wm (Wa (lt (mo ?_))))
  obtain rfl := sj hm
  exact na (v := j) rfl rfl ⟨_, _, rfl, (b.nF (Kr Sn)), j, x, rfl, rfl, B⟩
 refine kS (Wa (ln (nz (ph (fun m E W => ∃ t P, ST true (keys (x ++ [])) w W μ0 (x ++ P) ∧ E 0 = j ∧ E 3 = (.int .i64 t) ∧ pA a0 m t = some r) mq ⟨1, _, (b.ll St), rfl, rfl, hm⟩ ?_))))
 rintro m E W ⟨t, P, b, D, H, a⟩
 cases m with
 | zero => rw [pA] at a; cases a
 | succ f5 =>
  refine lH (sg (Wh H (Wh D (V (sw bK rfl B) (Wi rfl (ln (CI a rfl (fun d0 a => ?_) (fun d0 a => ?_))))))))
  ·refine kn (lH (nz (lH ?_)))
   replace b := b.drew
   have d := b.has.ll (Kr Sn)
   refine mw d lY (X 0 rfl d (lz D) (X 1 rfl d (lz H) (bS a fun c3 Z a => XQ 2 rfl d (oY (i := t) (x0 := c3) bK aN rfl rfl B (mc Z) (lU Z)) (fun g7 d6 => XH 3 rfl d (fun _ l => lq rfl (rI l (fun p h => (Ml h)) B oU d6 (lU Z) bO aN)) (X 4 rfl d (lz D) (X 5 rfl d (lz H) (X 6 rfl d (mz rfl rfl rfl) (bS a fun c4 n a => XQ 7 rfl d (oY (i := (wi0 .i64 (t - 1))) (x0 := c4) bK aN rfl rfl B (mc n) (lU n)) (fun g8 d7 => XH 8 rfl d (fun _ l => lq rfl (rI l (fun p h => (Ml h)) B oU d7 (lU n) bO aN)) (X 9 rfl d (AD rfl rfl (qV iF) (xe (vw _ c3 c4))) (mM kr (lD ?_))))))))))))
   refine CI a rfl (fun d1 a => ?_) (fun d1 a => ?_)
   ·refine sg (Wh D (Wh H (bS a fun _ A a => VQ (vz (i := t) bK aN rfl rfl B (uw A) (um A)) (fun c1 M => Wa (lS (Wa (ln ?_)))))))
    refine CJ a (fun U E W => ∃ o R, ST true (keys (x ++ [])) w W μ0 (o ++ R) ∧ E 0 = j ∧ E 3 = (.int .i64 U.2) ∧ lR 50 lu 2 j U.1 o) (fun U d4 => ?_) ?_
    ·refine nz (ph (fun m E W => ∃ q K Y y b6, ST true (keys (x ++ [])) w W μ0 (K ++ b6) ∧ E 0 = j ∧ E 3 = (.int .i64 Y) ∧ E 4 = c1 ∧ E 5 = (.int .i64 y) ∧ lR 50 lu 2 j q K ∧ pt t m q Y y = some U) mq ⟨a0, x, t, 1, _, (b.ll St), D, H, rfl, rfl, B, d4⟩ ?_)
     rintro m E W ⟨q, K, Y, y, b6, b, Q, T, I, J, g, k⟩
     cases m with
     | zero => rw [pt] at k; cases k
     | succ f6 =>
      refine lH (sg (Wh J (Wh I (V (EA bK rfl M g) (Wi rfl (ln (CI k rfl (fun d2 k => ?_) (fun d2 k => ?_))))))))
      ·refine kn (lH (CJ k (fun s E W => ∃ N b7, ST true (keys (x ++ [])) w W μ0 (N ++ b7) ∧ E 0 = j ∧ E 3 = (.int .i64 s.2) ∧ E 4 = c1 ∧ E 5 = (.int .i64 y) ∧ lR 50 lu 2 j s.1 N) (fun s c => ?_) ?_))
       ·refine nz (lH ?_)
        replace b := b.drew
        have d := b.has.ll (Kr Sn)
        refine mw d lY (X 0 rfl d (lz I) (X 1 rfl d (lz J) (bS c fun c6 a2 c => XQ 2 rfl d (vB (i := y) (x0 := c6) bK aN rfl rfl g M (mc a2) (lU a2)) (fun g9 d8 => XH 3 rfl d (fun _ l => lq rfl (rI l (fun p h => (Ml h)) g oU d8 (xJ (lU a2)) bO aN)) (X 4 rfl d (lz I) (X 5 rfl d (lz J) (X 6 rfl d (mz rfl rfl rfl) (bS c fun c7 a3 c => XQ 7 rfl d (vB (i := (wi0 .i64 (y - 1))) (x0 := c7) bK aN rfl rfl g M (mc a3) (lU a3)) (fun h1 d9 => XH 8 rfl d (fun _ l => lq rfl (rI l (fun p h => (Ml h)) g oU d9 (xJ (lU a3)) bO aN)) (X 9 rfl d (Jc rfl rfl (qV iF) (Fi (vw _ c6 c7))) (mM kr (lD ?_))))))))))))
        refine CI c rfl (fun d3 c => ?_) (fun d3 c => ?_)
        ·refine sg (Wh Q (Wh T (Wh I (Wh J (bS c fun a9 a4 c => VQ (vB (i := y) (x0 := a9) bK aN rfl rfl g M (mc a4) (lU a4)) (fun h2 e0 => V (lq rfl (rI b.has (fun p h => (Ml h)) g oU e0 (xJ (lU a4)) bO aN)) (bS c fun f8 a5 c => VQ (oY (i := Y) (x0 := f8) bK aN rfl rfl g (mc a5) (lU a5)) (fun h3 e1 => VO (xQ (u := (.agg (lu a9).toArray)) (x1 := a9)  b g oU ra rfl rfl rfl e1 (lU a5) aN (fun g3 e8 b c9 => ln (lG ?_)))))))))))
         refine Wh T (Wi rfl (Wa (me (ms (lD ?_)))))
         obtain rfl := sj c
         exact ⟨e8, _, (b.ll St), Q, rfl, I, J, c9⟩
        refine mX (ms (lD ?_))
        obtain rfl := sj c
        exact ⟨K, _, (b.ll St), Q, T, I, J, g⟩
       rintro ⟨f4, f7⟩ E W ⟨N, b7, b, f0, f1, f2, f3, e4⟩ d5
       exact lG (Wh f3 (Wi rfl (Wa (ln ⟨f6, bL _, f4, N, f7, (wi0 .i64 (y + 1)), _, (b.ll St), f0, f1, f2, rfl, e4, d5⟩))))
      refine oI (ow (ow (sU (lD ?_))))
      obtain rfl := sj k
      exact ⟨K, _, (b.ll St), Q, T, g⟩
    rintro ⟨g4, c5⟩ E W ⟨o, R, b, b9, c0, O⟩ G
    refine sg (Wh b9 (Wh c0 (bS G fun _ F G => VQ (vz (i := c5) bK aN rfl rfl O (uw F) (um F)) (fun h4 e2 => VO (yA (z := K0)  b O oU ra bK eG e2 rfl rfl (fun g2 e7 b c8 => lr (Wh b9 (Wh c0 (bS G fun _ L G => VQ (zf (i := c5) bK aN rfl rfl c8 oU (uw L) (um L)) (fun c2 e3 => ?_))))))))))
    refine Wa (lt (nE (mo (mo (nE (mo ?_))))))
    obtain rfl := sj G
    exact na (v := c2) rfl rfl ⟨_, _, rfl, (b.nF (Kr Sn)), c2, e7, rfl, rfl, e3⟩
   exact mX (ms (lD (lG (Wh H (Wi rfl (Wa (ln ⟨f5, bL _, (wi0 .i64 (t + 1)), _, (b.ll St), D, rfl, a⟩)))))))
  refine oI (ow (ow (sU (lD (sg (Wh D (Wa (lt ?_))))))))
  obtain rfl := sj a
  exact na (v := j) rfl rfl ⟨_, _, rfl, (b.nF (Kr Sn)), j, x, rfl, rfl, B⟩
theorem GM (i : Value) (t r : List lg) (w : World) (B : Sl (Pl lu) 2 (hp w) i t) (hm : yg t = some r) :
  nR false pg0 86 [i] w 50 lu 2 r := by
 refine zh 11 func86 rfl (fun b => sg (Wa (lr (Wm (bS hm fun y T hm => VE (tW b call151 (nR.ng (Ei i t _ _ (B.mono (Pl.mono _) b.lx) T)) (fun W3 v7 z R8 b a5 q Q => bS hm fun U D hm => ?_)))))))
 refine VE (eM b (Cr Qz Cn) call148 (fun h _ => (B5 v7 y R8 (.func (.func 152) #[] #[]) (fun (x : lg) => yK x) _ _ h Q ⟨152, #[], #[], rfl, call152, fun W x r u hm => (I0 x r W  hm).ng⟩ D)) ?_)
 rintro _ O b9 E b A l d ⟨k, K, a, rfl, I⟩
 obtain rfl := a.symm
 replace b := b.perm (Tr Tn)
 refine Wa (lr (Wm (bS hm fun Y G hm => ?_)))
 refine VE (eM b (Cr Qz Cn) call154 (fun h _ => nl.ng (MZ k U K (.func (.func 155) #[] #[]) (fun (x : (lg × lg)) => oV x.1 x.2) _ _ h I ⟨155, #[], rfl, call155, fun W x r u hm => Ad x.1 x.2 r W  hm⟩ G)) ?_)
 rintro _ P c0 a9 b a2 n d ⟨M, c, rfl, J⟩
 obtain rfl := c.symm
 replace b := b.perm (Tr Tn)
 refine lr (Wm (bS hm fun L H hm => ?_))
 refine VE (eM b (Cr Qz Cn) call156 (fun h _ => nl.ng (DC k Y M _ _ h J H)) ?_)
 rintro _ R c1 F b a3 o d ⟨Z, N, g, rfl, j⟩
 obtain rfl := g.symm
 replace b := b.perm (Tr Tn)
 refine Wa (lt ?_)
 obtain rfl := sj hm
 exact na (v := Z) rfl rfl ⟨_, N, rfl, b.px (fun p s => (Ml s)) j.nd, j⟩
theorem zX (t : Value) (y : List lg) (u : Value) (K : List lg) (r : Bool) (w : World) (c : Sl (Pl lu) 2 (hp w) t y) (z : Sl (Pl lu) 2 (hp w) u K) (hm : qZ y K = some r) :
  lV true pg0 94 [t, u] w (.bool r) := by
 refine cG 26 func94 rfl (fun d => sg (Wa (lS (Wm (V (mS bK rfl c) (Wm (V (mS bK rfl z) (Wi rfl (me ?_)))))))))
 refine lD (CI hm rfl (fun U hm => ?_) (fun U hm => ?_))
 ·refine sg (Wa (lt (mo ?_)))
  obtain rfl := sj hm
  exact rP d
 refine kS (Wm (V (mS bK rfl c) (Wm (ln (mQ (fun i E W => ∃ g, (E 13 = .int .i64 (i : Nat) ∧ E 12 = .int .i64 (y.length : Nat)) ∧ ST true mR w W (hp w) g ∧ E 0 = t ∧ E 1 = u ∧ pZ K (y.drop i) i = some r) y.length c.len ⟨_, ⟨rfl, rfl⟩, (d.ll St), rfl, rfl, hm⟩ dc dc dc (fun _ _ _ h => by obtain ⟨_, n, _⟩ := h; exact n) ?_ ?_)))))
 ·rintro I E W M ⟨g, ⟨l, q⟩, d, j, k, a⟩
  obtain ⟨J, a3, Q, N, T⟩ := mA M
  rw [Q] at a
  refine bg (Wh l (Wa (ln (lH ?_))))
  replace d := d.drew
  have b := d.has.ll Sn
  refine mw b lY (X 0 rfl b (lz j) (X 1 rfl b (lz rfl) (XQ 2 rfl b (qb (enc := lu) (i := (I : Int)) (x0 := J) bK aN rfl rfl c (aJ _) N) (fun Y G => XH 3 rfl b (fun _ o => lq rfl (ma o G bO aN)) (X 4 rfl b (lz k) (X 5 rfl b (lz rfl) (bS a fun B x a => XQ 6 rfl b (qb (enc := lu) (i := (I : Int)) (x0 := B) bK aN rfl rfl z (mc x) (lU x)) (fun Z H => XH 7 rfl b (fun _ o => lq rfl (ma o H bO aN)) (X 8 rfl b (Jc rfl rfl (qV iF) (Fi (vw _ J B))) (mM kr (lD (CI a rfl (fun D a => ?_) (fun D a => ?_)))))))))))))
  ·refine sg (Wa (lt (nE (mo (nE (mo ?_))))))
   obtain rfl := sj a
   exact rP d
  exact mX (ms (lD ⟨l, _, ⟨rfl, q⟩, (d.ll St), j, k, (by rw [T]; exact a)⟩))
 rintro E W ⟨g, ⟨l, q⟩, d, j, k, a⟩
 rw [aP] at a
 exact lD (sg (Wa (lt (rQ a d))))
theorem KT (a : mY) (z B J Z K Y : Value) (r : Bool) (w : World) (M : Sl mn 15 (hp w) z a.lm.lJ) (N : Sl mW 8 (hp w) B a.lm.mf) (t : Sl (Pl li) 9 (hp w) J a.lE) (I : Sl (Pl li) 9 (hp w) Z a.Shown) (D : Sl (Pl lu) 2 (hp w) K a.lT) (H : Sl (Pl lu) 2 (hp w) Y a.mH) (hm : AF a = some r) :
  lV false pg0 80 [(.agg #[(.string a.lm.Name), z, B, (.string a.mx), (.int .i64 a.Room), J, Z, K, Y])] w (.bool r) := by
 refine cG 33 func80 rfl (fun h => sg ?_)
 obtain ⟨A1, c2, rfl⟩ := M.form
 obtain ⟨A3, c4, rfl⟩ := N.form
 obtain ⟨A5, F, rfl⟩ := t.form
 obtain ⟨A7, L, rfl⟩ := I.form
 obtain ⟨A9, a4, rfl⟩ := D.form
 obtain ⟨a3, a5, rfl⟩ := H.form
 let a0 := (C4 a.lm.Name A1 a.lm.lJ.length c2 A3 a.lm.mf.length c4 a.mx a.Room A5 a.lE.length F A7 a.Shown.length L A9 a.lT.length a4 a3 a.mH.length a5)
 refine VE (mG h rfl (fun i8 s h => Wa (ln (lH ?_))))
 replace h := h.drew
 have d := h.has.ll (Kb Sn)
 refine mw d lY (X 0 rfl d (lA zP rfl) (XH 1 rfl d (fun _ l => lq rfl (lK l Mh rfl eZ)) (X 3 rfl d (lA zP rfl) (XH 4 rfl d (fun _ l => lq rfl (lK l Mh rfl eZ)) (bS hm fun f5 e4 hm => XE 2 rfl (tW h call52 (wD (.slice A5 a.lE.length F) a.lE _ _ (t.mono (Pl.mono _) h.lx) e4) (fun h2 f9 d2 g8 h c O d7 => ?_)))))))
 have d := h.has.ox c (Dr (Kb Sn))
 refine ⟨d, (bS hm fun i1 e5 hm => XE 5 rfl (Eg h call144 (lV.ng (xh f9 f5 (.slice A5 a.lE.length F) a.lE _ _ (d7.sl mN (fun b o n => h.at_ (Ml n))) (t.mono (Pl.mono _) (c.trans h.lx)) e5)) (fun h3 h => ?_)))⟩
 have d := h.has.ox c (Dr (Kb Sn))
 refine ⟨d, (X 6 rfl d (lz rfl) (PJ hm (fun d1 E W => ∃ q b7, lP d2 q ∧ ST false mR w W q ((s, Ol a0 36) :: b7) ∧ E 1 = (.pointer (some ⟨s, 0, none⟩)) ∧ E 2 = (.bool false) ∧ E 16 = (.bool d1)) (bm 31 16383) 17 ?_ (fun d1 y b0 => ?_)))⟩
 ·rintro i5 E W ⟨q, b7, k, h, v, c1, f2⟩ e1
  have d := h.has.ox (c.trans k) (Kb Sn)
  refine X 14 rfl d (lz f2) (PJ e1 (fun d0 E W => ∃ a2 b9, lP q a2 ∧ ST false mR w W a2 ((s, Ol a0 36) :: b9) ∧ E 1 = (.pointer (some ⟨s, 0, none⟩)) ∧ E 2 = (.bool false) ∧ E 24 = (.bool d0)) (bm 31 4194303) 9 ?_ (fun d0 x a9 => ?_))
  ·rintro i6 E W ⟨a2, b9, G, h, c3, c5, f3⟩ e2
   have d := h.has.ox ((c.trans k).trans G) (Kb Sn)
   refine X 22 rfl d (lz f3) (PJ e2 (fun c9 E W => ∃ A c0, lP a2 A ∧ ST false mR w W A ((s, Ol a0 36) :: c0) ∧ E 2 = (.bool false) ∧ E 32 = (.bool c9)) (bm 31 1073741823) 1 ?_ (fun c9 u a8 => ?_))
   ·rintro i7 E W ⟨A, c0, c7, h, i0, f4⟩ e3
    have d := h.has.ox (((c.trans k).trans G).trans c7) (Kb Sn)
    refine X 30 rfl d (ny f4) (mM kr (lD ?_))
    exact mi (rQ e3 h)
   refine bC u (fun j u => ?_) (fun j u => ?_)
   ·refine Xg 23 rfl rfl (cB j) d (lA J8 c3) (rE 24 rfl rfl (cB j) d (fun _ l => lq rfl (lK l Mh rfl isAgg34)) (Xg 26 rfl rfl (cB j) d (lA J8 c3) (rE 27 rfl rfl (cB j) d (fun _ l => lq rfl (lK l Mh rfl isAgg34)) (bS u fun f6 e6 u => wo 25 rfl rfl (cB j) (tW h call86 (GM (.slice a3 a.mH.length a5) a.mH _ _ (H.mono (Pl.mono _) (((c.trans k).trans G).trans h.lx)) e6) (fun h4 g0 g3 g9 h Q P d8 => ?_))))))
    have d := h.has.ox (((c.trans k).trans G).trans Q) (Dr (Kb Sn))
    refine ⟨d, (bS u fun i2 e7 u => wo 28 rfl rfl (cB j) (Eg h call94 (lV.ng (zX g0 f6 (.slice a3 a.mH.length a5) a.mH _ _ (d8.sl oU (fun b o n => h.at_ (Ml n))) (H.mono (Pl.mono _) ((((c.trans k).trans G).trans Q).trans h.lx)) e7)) (fun h5 h => ?_)))⟩
    have d := h.has.ox (((c.trans k).trans G).trans Q) (Dr (Kb Sn))
    refine ⟨d, (X 29 rfl d (lX (cB j) rfl) ?_)⟩
    obtain rfl := sj u
    refine nk kr (a8 _ _ ⟨g3, _, Q, (h.ll (Dr St)), c5, rfl⟩)
   refine Xn 23 rfl rfl (cB j) d (Xn 24 rfl rfl (cB j) d (Xn 25 rfl rfl (cB j) d (Xn 26 rfl rfl (cB j) d (Xn 27 rfl rfl (cB j) d (Xn 28 rfl rfl (cB j) d (X 29 rfl d (lW (cB j) rfl) ?_))))))
   obtain rfl := sj u
   refine nk kr (a8 _ _ ⟨a2, _, (lP.refl _), (h.ll St), c5, rfl⟩)
  refine bC x (fun i x => ?_) (fun i x => ?_)
  ·refine Xg 15 rfl rfl (cB i) d (lA JZ v) (rE 16 rfl rfl (cB i) d (fun _ l => lq rfl (lK l Mh rfl isAgg34)) (Xg 18 rfl rfl (cB i) d (lA JZ v) (rE 19 rfl rfl (cB i) d (fun _ l => lq rfl (lK l Mh rfl isAgg34)) (bS x fun f7 e8 x => wo 17 rfl rfl (cB i) (tW h call86 (GM (.slice A9 a.lT.length a4) a.lT _ _ (D.mono (Pl.mono _) ((c.trans k).trans h.lx)) e8) (fun h6 g1 g4 h0 h T R d9 => ?_))))))
   have d := h.has.ox ((c.trans k).trans T) (Dr (Kb Sn))
   refine ⟨d, (bS x fun i3 e9 x => wo 20 rfl rfl (cB i) (Eg h call94 (lV.ng (zX g1 f7 (.slice A9 a.lT.length a4) a.lT _ _ (d9.sl oU (fun b o n => h.at_ (Ml n))) (D.mono (Pl.mono _) (((c.trans k).trans T).trans h.lx)) e9)) (fun h7 h => ?_)))⟩
   have d := h.has.ox ((c.trans k).trans T) (Dr (Kb Sn))
   refine ⟨d, (X 21 rfl d (lX (cB i) rfl) ?_)⟩
   obtain rfl := sj x
   refine nk kr (a9 _ _ ⟨g4, _, T, (h.ll (Dr St)), v, c1, rfl⟩)
  refine Xn 15 rfl rfl (cB i) d (Xn 16 rfl rfl (cB i) d (Xn 17 rfl rfl (cB i) d (Xn 18 rfl rfl (cB i) d (Xn 19 rfl rfl (cB i) d (Xn 20 rfl rfl (cB i) d (X 21 rfl d (lW (cB i) rfl) ?_))))))
  obtain rfl := sj x
  refine nk kr (a9 _ _ ⟨q, _, (lP.refl _), (h.ll St), v, c1, rfl⟩)
 refine bC y (fun g y => ?_) (fun g y => ?_)
 ·refine Xg 7 rfl rfl (cB g) d (lA AQ rfl) (rE 8 rfl rfl (cB g) d (fun _ l => lq rfl (lK l Mh rfl eZ)) (Xg 10 rfl rfl (cB g) d (lA AQ rfl) (rE 11 rfl rfl (cB g) d (fun _ l => lq rfl (lK l Mh rfl eZ)) (bS y fun f8 f0 y => wo 9 rfl rfl (cB g) (tW h call52 (wD (.slice A7 a.Shown.length L) a.Shown _ _ (I.mono (Pl.mono _) (c.trans h.lx)) f0) (fun h8 g2 g7 h1 h U aa e0 => ?_))))))
  have d := h.has.ox (c.trans U) (Dr (Dr (Kb Sn)))
  refine ⟨d, (bS y fun i4 f1 y => wo 12 rfl rfl (cB g) (Eg h call144 (lV.ng (xh g2 f8 (.slice A7 a.Shown.length L) a.Shown _ _ (e0.sl mN (fun b o n => h.at_ (Ml n))) (I.mono (Pl.mono _) ((c.trans U).trans h.lx)) f1)) (fun h9 h => ?_)))⟩
  have d := h.has.ox (c.trans U) (Dr (Dr (Kb Sn)))
  refine ⟨d, (X 13 rfl d (lX (cB g) rfl) ?_)⟩
  obtain rfl := sj y
  refine nk kr (b0 _ _ ⟨g7, _, U, (h.ll (Dr (Dr St))), rfl, rfl, rfl⟩)
 refine Xn 7 rfl rfl (cB g) d (Xn 8 rfl rfl (cB g) d (Xn 9 rfl rfl (cB g) d (Xn 10 rfl rfl (cB g) d (Xn 11 rfl rfl (cB g) d (Xn 12 rfl rfl (cB g) d (X 13 rfl d (lW (cB g) rfl) ?_))))))
 obtain rfl := sj y
 refine nk kr (b0 _ _ ⟨d2, _, (lP.refl _), (h.ll (Dr St)), rfl, rfl, rfl⟩)
theorem A8 (a : Value) (g : List lf) (c : Value) (i : lf → Option Bool) (r : Bool) (w : World) (j : Sl (Pl li) 9 (hp w) a g) (k : yS pg0 c (hp w) (fun (x : lf) => [(.agg (li x).toArray)]) (fun (r : Bool) => (.bool r)) i) (hm : rz g i = some r) :
  lV false pg0 81 [a, c] w (.bool r) := by
 refine cG 9 func81 rfl (fun b => sg (Wa (lr (Wm (Wm (bS hm fun y t hm => VE (Eg b call145 (yl a g c i _ _ (j.mono (Pl.mono _) b.lx) (k.mono b.lx) t) (fun u b => Wi rfl (Wa (me ?_))))))))))
 exact lD (mi (rQ hm b))
theorem Hn (Q : lf) (T : Nat) (g : ByteArray) (a : Value) (i : List mg) (c : Value) (j : List nQ) (J : ByteArray) (K : Int) (t : Value) (u : List lf) (D : Value) (I : List lf) (x : Value) (G : List lg) (B : Value) (H : List lg) (r : Bool) (w : World) (y : Sl mn 15 (hp w) a i) (z : Sl mW 8 (hp w) c j) (N : Sl (Pl li) 9 (hp w) t u) (q : Sl (Pl li) 9 (hp w) D I) (U : Sl (Pl lu) 2 (hp w) x G) (Z : Sl (Pl lu) 2 (hp w) B H) (Y : At (hp w) (.pointer (some ⟨T, 0, none⟩)) [(.string g), a, c, (.string J), (.int .i64 K), t, D, x, B]) (hm : vu Q g i j J K u I G H = some r) :
  lV true pg0 82 [(.agg (li Q).toArray), (.pointer (some ⟨T, 0, none⟩))] w (.bool r) := by
 refine cG 15 func82 rfl (fun b => sg (VE (mG b rfl (fun W2 A b => Wa (lr (VQ (wq [(.string g), a, c] zK rfl Y rfl) (fun P h => V (lq rfl (ma b.has h gA fD)) (VA b Mh (li Q) bP aH (bS hm fun k l hm => ?_)))))))))
 let a0 := (((k.1).lf).Head)
 refine VE (eD b (bH _) call66 (fun n => (AI (⟨g, i, j⟩ : lm) a c Q _ _ n (y.mono mI.mono (lP.refl _)) (z.mono nY.mono (lP.refl _)) l)) ?_ (L0 := []))
 rintro _ L o a9 b s d ⟨O, M, rfl, a5⟩
 obtain rfl := M.symm
 refine Wm (Wx rfl (Wx rfl (VE (ml b dG (fun v F b => ?_)))))
 obtain ⟨a2, a3, rfl⟩ := a5.form
 refine VO (lL (.agg #[(.int .i64 (((k.1).lf).Kind)), (.string (a0.lh)), (.string (a0.lp)), (.string (((k.1).lf).lM)), (.string ((((k.1).lf).B).lh)), (.string ((((k.1).lf).B).lp)), (.string ((((k.1).lf).C).lh)), (.string ((((k.1).lf).C).lp)), (.string (((k.1).lf).lN)), (.slice a2 ((k.1).Tag).length a3)]) (#[(.int .i64 (((k.1).lf).Kind)), (.string (a0.lh)), (.string (a0.lp)), (.string (((k.1).lf).lM)), (.string ((((k.1).lf).B).lh)), (.string ((((k.1).lf).B).lp)), (.string ((((k.1).lf).C).lh)), (.string ((((k.1).lf).C).lp)), (.string (((k.1).lf).lN)), (.slice a2 ((k.1).Tag).length a3)]) b rfl rfl cT oc nb rfl (fun E b => Wa (ln ?_)))
 replace b := b.ll (Db (Db St))
 exact sg (Wm (V (ot rfl) (Wa (lt (rQ hm b)))))
theorem JO (a : mY) (t u H T J Q : Value) (r : Bool) (w : World) (c : Sl mn 15 (hp w) t a.lm.lJ) (g : Sl mW 8 (hp w) u a.lm.mf) (i : Sl (Pl li) 9 (hp w) H a.lE) (j : Sl (Pl li) 9 (hp w) T a.Shown) (y : Sl (Pl lu) 2 (hp w) J a.lT) (z : Sl (Pl lu) 2 (hp w) Q a.mH) (hm : zT a = some r) :
  lV false pg0 26 [(.agg #[(.string a.lm.Name), t, u, (.string a.mx), (.int .i64 a.Room), H, T, J, Q])] w (.bool r) := by
 refine cG 33 func26 rfl (fun b => sg ?_)
 obtain ⟨A1, c2, rfl⟩ := c.form
 let a4 : Value := (.slice A1 a.lm.lJ.length c2)
 obtain ⟨A3, s, rfl⟩ := g.form
 let a5 : Value := (.slice A3 a.lm.mf.length s)
 obtain ⟨A5, v, rfl⟩ := i.form
 obtain ⟨A7, c8, rfl⟩ := j.form
 let l : Value := (.slice A7 a.Shown.length c8)
 obtain ⟨A9, Y, rfl⟩ := y.form
 obtain ⟨U, Z, rfl⟩ := z.form
 let a0 := (C4 a.lm.Name A1 a.lm.lJ.length c2 A3 a.lm.mf.length s a.mx a.Room A5 a.lE.length v A7 a.Shown.length c8 A9 a.lT.length Y U a.mH.length Z)
 refine VE (mG b rfl (fun e5 I b => Wa (lS (Wf zK (VA b Mh (C8 a.lm.Name A1 a.lm.lJ.length c2 A3 a.lm.mf.length s) gA fD (bS hm fun f0 d7 hm => VE (Eg b call79 (D6 a.lm a4 a5 _ _ (c.mono mI.mono b.lx) (g.mono nY.mono b.lx) d7) (fun e6 b => Wi rfl (Wm (LJ hm (fun d2 E W => ∃ P, ST false mR w W (hp w) ((I, Ol a0 36) :: P) ∧ E 1 = (.pointer (some ⟨I, 0, none⟩)) ∧ E 12 = (.bool d2)) 5 ?_ (fun d2 N O => ?_)))))))))))
 ·let a3 : Value := (.pointer (some ⟨I, 0, none⟩))
  rintro f4 E W ⟨P, b, n, e1⟩ d4
  refine Wh e1 (LJ d4 (fun d1 E W => ∃ c1, ST false mR w W (hp w) ((I, Ol a0 36) :: c1) ∧ E 1 = a3 ∧ E 17 = (.bool d1)) 4 ?_ (fun d1 a2 L => ?_))
  ·rintro f5 E W ⟨c1, b, o, e2⟩ d5
   refine Wh e2 (LJ d5 (fun d0 E W => ∃ R, ST false mR w W (hp w) ((I, Ol a0 36) :: R) ∧ E 1 = a3 ∧ E 22 = (.bool d0)) 4 ?_ (fun d0 h F => ?_))
   ·rintro f6 E W ⟨R, b, q, e3⟩ d6
    refine Wh e3 (LJ d6 (fun c9 E W => ∃ c5, ST false mR w W (hp w) ((I, Ol a0 36) :: c5) ∧ E 1 = a3 ∧ E 27 = (.bool c9)) 4 ?_ (fun c9 M A => ?_))
    ·rintro f7 E W ⟨c5, b, c7, e4⟩ K
     refine ln (CI K e4 (fun d3 K => ?_) (fun d3 K => ?_))
     ·refine sg (Wa (ln ?_))
      replace b := b.ll (Db St)
      refine mi (mo ?_)
      obtain rfl := sj K
      exact rP b
     refine kg (V (lA AQ c7) (VB b Mh rfl rfl eZ (V (tw (by exact uT c7) rfl) (bS K fun f1 d8 K => VE (Eg b call81 (A8 l a.Shown (.func (.func 82) #[] #[a3]) (fun (x : lf) => vu x a.lm.Name a.lm.lJ a.lm.mf a.mx a.Room a.lE a.Shown a.lT a.mH) _ _ (j.mono (Pl.mono _) b.lx) ⟨82, #[], #[a3], rfl, call82, fun W x r d hm => (Hn x I a.lm.Name a4 a.lm.lJ a5 a.lm.mf a.mx a.Room (.slice A5 a.lE.length v) a.lE l a.Shown (.slice A9 a.lT.length Y) a.lT (.slice U a.mH.length Z) a.mH r W (c.mono mI.mono (b.lx.trans d)) (g.mono nY.mono (b.lx.trans d)) (i.mono (Pl.mono _) (b.lx.trans d)) (j.mono (Pl.mono _) (b.lx.trans d)) (y.mono (Pl.mono _) (b.lx.trans d)) (z.mono (Pl.mono _) (b.lx.trans d)) (At.of (d _ _ (b.at_ Mh)) _ rfl) hm).ng⟩ d8) (fun e7 b => V (ot rfl) (Wa (ln ?_))))))))
     exact mi (rQ K b)
    refine bC M (fun G M => ?_) (fun G M => ?_)
    ·refine un G (un G (un G (V (lX (cB G) rfl) ?_)))
     obtain rfl := sj M
     exact A _ _ ⟨_, (b.ll St), q, rfl⟩
    refine ug G (lq q (lB b.has Mh a0 rfl ic fM)) (bS M fun f2 d9 M => vC G (Eg b call80 (KT a a4 a5 (.slice A5 a.lE.length v) l (.slice A9 a.lT.length Y) (.slice U a.mH.length Z) _ _ (c.mono mI.mono b.lx) (g.mono nY.mono b.lx) (i.mono (Pl.mono _) b.lx) (j.mono (Pl.mono _) b.lx) (y.mono (Pl.mono _) b.lx) (z.mono (Pl.mono _) b.lx) d9) (fun e8 b => ug G (ot rfl) (V (lW (cB G) rfl) ?_))))
    obtain rfl := sj M
    exact A _ _ ⟨_, (b.ll St), q, rfl⟩
   refine bC h (fun D h => ?_) (fun D h => ?_)
   ·refine un D (un D (un D (V (lX (cB D) rfl) ?_)))
    obtain rfl := sj h
    exact F _ _ ⟨_, (b.ll St), o, rfl⟩
   refine ug D (lA Ky o) (ug D (lq rfl (lK b.has Mh rfl dD)) (ug D (mz rfl rfl rfl) (V (lW (cB D) rfl) ?_)))
   obtain rfl := sj h
   exact F _ _ ⟨_, (b.ll St), o, rfl⟩
  refine bC a2 (fun B a2 => ?_) (fun B a2 => ?_)
  ·refine un B (un B (un B (V (lX (cB B) rfl) ?_)))
   obtain rfl := sj a2
   exact L _ _ ⟨_, (b.ll St), n, rfl⟩
  refine ug B (lA Ky n) (ug B (lq rfl (lK b.has Mh rfl dD)) (ug B (mz rfl rfl rfl) (V (lW (cB B) rfl) ?_)))
  obtain rfl := sj a2
  exact L _ _ ⟨_, (b.ll St), n, rfl⟩
 refine bC N (fun k N => ?_) (fun k N => ?_)
 ·refine un k (un k (un k (un k (V (lX (cB k) rfl) ?_))))
  obtain rfl := sj N
  exact O _ _ ⟨_, (b.ll St), rfl, rfl⟩
 refine ug k (lA HB rfl) (ug k (lq rfl (lK b.has Mh rfl cL)) (bS N fun f3 e0 N => vC k (Eg b kZ (lV.ng (sc a.mx _ _  e0)) (fun e9 b => ug k (ot rfl) (V (lW (cB k) rfl) ?_)))))
 obtain rfl := sj N
 exact O _ _ ⟨_, (b.ll St), rfl, rfl⟩
end Go.Proofs.YtklbhegeiijbjaaGreat
