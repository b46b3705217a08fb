/- a part of a proof of LeastShrinks -/
import Derived.Test.YtklbhegeiijbjaaGreatN4W1n
set_option linter.all false
namespace Go.Proofs.YtklbhegeiijbjaaGreat
open Go.RowKit
set_option maxRecDepth 10000
open Tryz
theorem uK (j : Nat) (a0 : mg) (c : Int) (K : Value) (a2 : List Formula) (r : (Formula × mg)) (w : World) {μ0 : lO} (h0 : ox μ0 ((j, Ol (mS a0) 249) :: []) w) (b5 : Sl kF 5 μ0 K a2) (hm : pp a0 c a2 = some r) :
  mo false Tryz.prog 248 [(.pointer (some ⟨j, 0, none⟩)), (.int .i64 c), K] w μ0 ((j, Ol (mS a0) 249) :: []) (fun v L1 μ1 => ∃ y1, v = (.agg #[(.int .i64 ((r.1).Op)), (.int .i64 ((r.1).K)), (.string (((r.1).kC).kD)), (.string (((r.1).kC).kJ)), y1]) ∧ L1 = ((j, Ol (mS (r.2)) 249) :: []) ∧ Sl kF 5 μ1 y1 ((r.1).Kids)) := by
 refine sF h0 37 func248 rfl (fun b => sg (VE (lG b aP (fun W2 P b => lr (Wm (Wi rfl (VE (lG b zeroValue3 (fun W4 q b => VO (lf (.int .i64 (IntKind.i64.wrap (5 - c))) (#[(.int .i64 (IntKind.i64.wrap (5 - c)))]) b rfl rfl iH (GL _ (IntKind.i64.wrap (5 - c))) nb rfl (fun W5 b => ln (kY ?_))))))))))))
 let a4 := (IntKind.i64.wrap (5 - c))
 let a9 : Value := (.agg (Hf a4).toArray)
 refine kV (Wm (Wm (bS hm fun r6 d1 hm => ?_)))
 refine VE (eD b (aX _) call289 (fun n => mo.mP (Jh c K a2 _ _ n (b5.mono kL.mono (lm.refl _)) d1)) ?_ (L0 := []))
 rintro _ f4 aa e2 b B d ⟨O, H, rfl, a3⟩
 obtain rfl := H.symm
 refine Wa (lS (Wm (V (wU (by exact wy rfl) rfl) (bS hm fun f3 c1 hm => VE (Eg b call194 (vJ O r6 (.func (.func 290) #[] #[(.pointer (some ⟨q, 0, none⟩))]) (fun (x : Formula) => rI x a4) _ _ (a3.mono kL.mono b.kN) ⟨290, #[], #[(.pointer (some ⟨q, 0, none⟩))], rfl, call290, fun W x vs r R s hm => by obtain ⟨_, rfl, U⟩ := s; obtain ⟨F, rfl, A⟩ := U.out; exact (Bq x F q a4 r W A (At.of (R _ _ (b.at_ Mh)) _ rfl) hm).mP⟩ c1) (fun e5 b => ln (CI hm rfl (fun b6 hm => ?_) (fun b6 hm => ?_))))))))
 ·refine sg (VB b Mh rfl rfl cD (V (mH (v := a9) (np rfl) (ml aP bF (uH _ bF) kr)) ?_))
  replace b := b.perm (Nb (Pb Pz) Nz)
  refine VO (lf a9 ((Hf a4).toArray) b rfl rfl aC oc nb rfl (fun e6 b => ln ?_))
  replace b := b.kG (Kb (Db St))
  refine lC (lL ?_)
  obtain rfl := sj hm
  exact ns (v := a9) rfl rfl (kM b.has Mh (Hf a4) rfl aK aC) ⟨_, _, _, rfl, (b.mW (Db (Kb Sn))), B, d, (ST.lU b (nn.mem (Db (Kb Sn)))), (.slice none 0 0), rfl, rfl, (Sl.nil _ _ _)⟩
 refine kn ?_
 replace b := b.kG (Db St)
 refine sg (Wm (bS hm fun d2 c2 hm => ?_))
 refine VE (eD b (aX _) call288 (fun n => (Di O r6 _ _ n (a3.mono kL.mono (lm.refl _)) c2)) ?_ (L0 := []))
 rintro _ f5 f9 e3 b N h ⟨d5, c7, I, rfl, c4⟩
 obtain rfl := I.symm
 replace b := b.perm (Tr Tn)
 refine bS hm fun z c3 hm => ?_
 refine VE (eD b (Cr Qz Cn) call291 (fun n => (Ao d5 d2 c7 (.func (.func 292) #[] #[]) (fun (x : (Formula × Formula)) => pg lB x.1 x.2) _ _ n c4 ⟨292, #[], #[], rfl, call292, fun W x vs r R s hm => by obtain ⟨_, _, rfl, U, d0⟩ := s; obtain ⟨F, rfl, A⟩ := U.out; obtain ⟨t0, rfl, j0⟩ := d0.out; exact (Dp lB) x.1 F x.2 t0 r W A j0 hm⟩ c3)) ?_)
 rintro _ f6 d7 e4 b Q l ⟨d6, J, rfl, y⟩
 obtain rfl := J.symm
 refine Wa (ln (kY (CJ hm (fun L E W => ∃ a5, ST false (keys ((j, Ol (mS a0) 249) :: [])) w W d7 ((P, Ol C5 58) :: ((j, Ol (mS L) 249) :: a5)) ∧ E 1 = (.int .i64 c) ∧ E 6 = (.pointer (some ⟨P, 0, none⟩)) ∧ E 8 = d6) (fun L u => ?_) ?_)))
 ·refine sg (Wm (V (mi aD rfl y) (Wi rfl (ln (CI u rfl (fun b9 u => ?_) (fun b9 u => ?_))))))
  ·refine kV (Wm (Wn (Wf Lv ?_)))
   replace b := b.perm (Nb (Pb Pz) Nz)
   refine VO (lf (.int .i64 12) ((mS (⟨12⟩ : mg)).toArray) b rfl rfl sizeOf40 (GL _ 12) nb rfl (fun f1 b => ln ?_))
   obtain rfl := sj u
   exact ⟨_, (b.kG (Sb (Pb Pz) St)), rfl, rfl, rfl⟩
  refine kn ?_
  obtain rfl := sj u
  exact ⟨_, (b.kG St), rfl, rfl, rfl⟩
 rintro f8 E W ⟨a5, b, c9, M, T⟩ g
 refine kY (sg (Wh T (V (mi aD rfl y) (Wi rfl (ln (CI g rfl (fun b7 g => ?_) (fun b7 g => ?_)))))))
 ·refine sg (Wh T (bS g fun a Z g => VQ (mT (i := 0) (x0 := a) kF.out aD aC rfl rfl y (lN Z) (lM Z)) (fun f2 ⟨_, ⟨f7, rfl, Y⟩, c0⟩ => V (kI rfl (lz b.has c0 aK aC)) ?_)))
  obtain ⟨D, G, rfl⟩ := Y.form
  let p := (C2 a.Op a.K a.kC.kD a.kC.kJ D a.Kids.length G)
  refine VO (lf (.agg p.toArray) (p.toArray) b M rfl aC oc nb rfl (fun e9 b => lt (lL ?_)))
  obtain rfl := sj g
  exact ns (v := (.agg p.toArray)) rfl M (kM b.has Mh p rfl aK aC) ⟨_, _, _, rfl, (b.mW (Db (Kb Sn))), ((B.trans N).trans Q), ((d.trans h).trans l), (ST.lU b (nn.mem (Db (Kb Sn)))), (.slice D a.Kids.length G), rfl, rfl, Y⟩
 refine kg (Wh c9 (Wh T ?_))
 obtain ⟨k, t, rfl⟩ := y.form
 let m := (Ty c k z.length t)
 refine V (mH (v := (.agg m.toArray)) (oU rfl rfl) (ml aP bF (uH _ bF) kr)) (VO (lf (.agg m.toArray) (m.toArray) b M rfl aC oc nb rfl (fun f0 b => lt ?_)))
 obtain rfl := sj g
 exact ns (v := (.agg m.toArray)) rfl M (kM b.has Mh m rfl aK aC) ⟨_, _, _, rfl, (b.mW (Db (Kb Sn))), ((B.trans N).trans Q), ((d.trans h).trans l), (ST.lU b (nn.mem (Db (Kb Sn)))), (.slice k z.length t), rfl, rfl, y⟩
theorem Bn (G : Nat) (a0 : mg) (a1 : Int) (c2 : Value) (a2 : List Formula) (r : (Formula × mg)) (w : World) {μ0 : lO} (h0 : ox μ0 ((G, Ol (mS a0) 249) :: []) w) (c1 : Sl kF 5 μ0 c2 a2) (hm : rJ a0 a1 a2 = some r) :
  mo false Tryz.prog 247 [(.pointer (some ⟨G, 0, none⟩)), (.int .i64 a1), c2] w μ0 ((G, Ol (mS a0) 249) :: []) (fun v L1 μ1 => ∃ y1, v = (.agg #[(.int .i64 ((r.1).Op)), (.int .i64 ((r.1).K)), (.string (((r.1).kC).kD)), (.string (((r.1).kC).kJ)), y1]) ∧ L1 = ((G, Ol (mS (r.2)) 249) :: []) ∧ Sl kF 5 μ1 y1 ((r.1).Kids)) := by
 let j6 := ((mS a0).toArray : Array Value)
 refine sF h0 58 func247 rfl (fun b => sg (VE (lG b aP (fun W2 b1 b => lr (Wa (lS (Wm ?_)))))))
 refine V (mi aD rfl c1) (Wm (ln (mf (fun i E W => ∃ x K J N c0, (E 12 = .int .i64 (i : Nat) ∧ E 11 = .int .i64 (a2.length : Nat)) ∧ ST false (keys ((G, Obj.cells j6 249 (0, 0)) :: [])) w W μ0 ((b1, Ol C5 58) :: ((G, Obj.cells j6 249 (0, 0)) :: (N ++ c0))) ∧ E 0 = (.pointer (some ⟨G, 0, none⟩)) ∧ E 1 = (.int .i64 x) ∧ E 6 = (.pointer (some ⟨b1, 0, none⟩)) ∧ E 7 = K ∧ E 10 = c2 ∧ lW 58 kF 5 μ0 K J N ∧ nL a0 (a2.drop i) x J = some r) a2.length c1.len ⟨a1, (.slice none 0 0), ([]), [], _, ⟨rfl, rfl⟩, (b.kG St), rfl, rfl, rfl, rfl, rfl, (lW.nil _ _ _ _), hm⟩ dc dc dc (fun _ _ _ h => by obtain ⟨_, _, _, _, _, aa, _⟩ := h; exact aa) ?_ ?_)))
 ·rintro h2 E W f2 ⟨x, K, J, N, c0, ⟨R, eN⟩, b, U, H, u, I, P, D, a⟩
  obtain ⟨c, h8, g8, g7, b7⟩ := lX f2
  rw [g8] at a
  refine bg (VQ (mT (i := (h2 : Int)) (x0 := c) kF.out aD aC P R c1 (aH _) g7) (fun k7 ⟨_, ⟨l0, rfl, Y⟩, f3⟩ => V (kI rfl (lz b.has f3 aK aC)) (VE (lG b aP (fun i6 k4 b => ?_)))))
  obtain ⟨y, z, rfl⟩ := Y.form
  let j4 : Value := (.slice y c.Kids.length z)
  let b8 := (C2 c.Op c.K c.kC.kD c.kC.kJ y c.Kids.length z)
  refine VO (lf (.agg b8.toArray) (b8.toArray) b rfl rfl aC oc nb rfl (fun i7 b => ln (bg (VA b Mh b8 aK aC (bS a fun k8 f4 a => VE (Eg b call285 (lD.mP (Ap c j4 2 _ _ (Y.mono kL.mono b.kN) f4)) (fun i8 b => Wa (ln (CI a rfl (fun e5 a => ?_) (fun e5 a => ?_))))))))))
  ·refine kV (Wh H (Wi rfl (Wa (lH (lK (lK (kT ?_)))))))
   replace b := b.kG (Db St)
   exact ⟨R, (IntKind.i64.wrap (x - 1)), K, J, N, _, ⟨rfl, eN⟩, (b.kG St), U, rfl, u, I, P, D, (by rw [b7]; exact a)⟩
  refine sg (VA b Mh b8 aK aC (bS a fun k9 f5 a => VE (Eg b call285 (lD.mP (Ap c j4 3 _ _ (Y.mono kL.mono b.kN) f5)) (fun i9 b => V (ot rfl) (Wa (ln (CI a rfl (fun e6 a => ?_) (fun e6 a => ?_))))))))
  ·refine kV (Wh I (VA b Mh b8 aK aC (VE (lE (cs := b8.toArray) b (np rfl) (nq aD aC aP) (fun j0 k5 b => ?_)))))
   replace b := b.perm (Nr (Qb (Qb (Qb (Qb Qz)))) Nz)
   refine bS a fun h3 e7 a => VE (pQ (B := N) kL b dc aD mZ.1 mZ.2.1 rfl mZ.2.2.1 mZ.2.2.2 rfl rfl D (xG.lit kL (l := [c]) (.cons (ys := C2 c.Op c.K c.kC.kD c.kC.kJ y c.Kids.length z) (kF.mk ⟨j4, rfl, Y⟩) .nil) rfl nb (b.at_ (Ma Mh))) e7 (fun j3 h4 g9 b e4 => Wa (lH (lK (lK (kT ?_))))))
   replace b := b.kG (Kr (Db (Db St)))
   exact ⟨R, x, h4, h3, g9, _, ⟨rfl, eN⟩, (b.kG (Sb (Pr Pz) (Sb (Pr Pz) St))), U, H, u, rfl, P, e4, (by rw [b7]; exact a)⟩
  refine mr (lK (lK (kT ?_)))
  replace b := b.kG (Db St)
  exact ⟨R, x, K, J, N, _, ⟨rfl, eN⟩, (b.kG St), U, H, u, I, P, D, (by rw [b7]; exact a)⟩
 rintro E W ⟨x, K, J, N, c0, ⟨R, eN⟩, b, U, H, u, I, P, D, a⟩
 rw [aI] at a
 refine kT (kY (bg (Wh H (Wi rfl (Wa (ln (CI a rfl (fun e8 a => ?_) (fun e8 a => ?_))))))))
 ·refine sg (bS a fun g f6 a => ?_)
  let j1 : Value := (.string (((g).kC).kJ))
  let h7 : Value := (.string (((g).kC).kD))
  refine VE (eD b (aX _) call286 (fun d => mo.mP (GQ  _ _ d  f6)) ?_ (L0 := []))
  rintro _ l1 m2 i0 b c9 m ⟨l6, b2, rfl, c3⟩
  obtain rfl := b2.symm
  obtain ⟨Z, a6, rfl⟩ := c3.form
  let e3 : Value := (.slice Z ((g).Kids).length a6)
  let d9 : Value := (.agg #[(.int .i64 ((g).Op)), (.int .i64 ((g).K)), h7, j1, e3])
  refine VO (lf d9 (#[(.int .i64 ((g).Op)), (.int .i64 ((g).K)), h7, j1, e3]) b u rfl aC oc nb rfl (fun j5 b => ln ?_))
  replace b := b.kG (Kb (Kb (Dr St)))
  refine lC (nD (lL ?_))
  obtain rfl := sj a
  exact ns (v := d9) rfl u (kM b.has Mh [(.int .i64 ((g).Op)), (.int .i64 ((g).K)), h7, j1, e3] rfl aK aC) ⟨_, _, _, rfl, (b.mW (Db (Kb Sn))), c9, m, (ST.lU b (nn.mem (Db (Kb Sn)))), e3, rfl, rfl, c3⟩
 refine sg (Wh H (Wh I (V (qT aD rfl D) (Wi rfl (Wa (ln (CI a rfl (fun e9 a => ?_) (fun e9 a => ?_))))))))
 ·refine sg (bS a fun j f7 a => ?_)
  let j2 : Value := (.string (((j).kC).kJ))
  let h9 : Value := (.string (((j).kC).kD))
  refine VE (eD b (aX _) call287 (fun d => mo.mP (HU  _ _ d  f7)) ?_ (L0 := []))
  rintro _ l2 m3 i1 b d0 n ⟨l7, b3, rfl, c4⟩
  obtain rfl := b3.symm
  obtain ⟨a3, a7, rfl⟩ := c4.form
  let e2 : Value := (.slice a3 ((j).Kids).length a7)
  let d8 : Value := (.agg #[(.int .i64 ((j).Op)), (.int .i64 ((j).K)), h9, j2, e2])
  refine VO (lf d8 (#[(.int .i64 ((j).Op)), (.int .i64 ((j).K)), h9, j2, e2]) b u rfl aC oc nb rfl (fun j7 b => ln ?_))
  replace b := b.kG (Kb (Kb (Dr St)))
  refine lC (nD (lL ?_))
  obtain rfl := sj a
  exact ns (v := d8) rfl u (kM b.has Mh [(.int .i64 ((j).Op)), (.int .i64 ((j).K)), h9, j2, e2] rfl aK aC) ⟨_, _, _, rfl, (b.mW (Db (Kb Sn))), d0, n, (ST.lU b (nn.mem (Db (Kb Sn)))), e2, rfl, rfl, c4⟩
 refine sg (Wh H (Wh I (V (qT aD rfl D) (Wi rfl (Wa (ln (CI a rfl (fun f0 a => ?_) (fun f0 a => ?_))))))))
 ·refine sg (Wh U (Wh I ?_))
  replace b := b.perm (Nr (Qb (Qb Qz)) Nz)
  obtain ⟨m4, b, d1, p, g1⟩ := ST.tE kL b D
  refine bS a fun k f8 a => ?_
  let h5 : Value := (.string (((k.1).kC).kJ))
  let g6 : Value := (.string (((k.1).kC).kD))
  refine VE (eD b (Cb (Pb Pz) Cn) call248 (fun d => (uK G a0 2 K J _ _ d (g1.mono kL.mono (lm.refl _)) f8)) ?_)
  rintro _ l3 m5 i2 b d2 q ⟨l8, b4, rfl, c5⟩
  obtain rfl := b4.symm
  replace b := b.perm (Tb Tn)
  obtain ⟨a4, a8, rfl⟩ := c5.form
  let e0 : Value := (.slice a4 ((k.1).Kids).length a8)
  let b9 : Value := (.agg #[(.int .i64 ((k.1).Op)), (.int .i64 ((k.1).K)), g6, h5, e0])
  replace b := b.perm (Nb (Pb Pz) Nz)
  refine VO (lf b9 (#[(.int .i64 ((k.1).Op)), (.int .i64 ((k.1).K)), g6, h5, e0]) b u rfl aC oc nb rfl (fun j9 b => lt (nD (lL ?_))))
  obtain rfl := sj a
  exact ns (v := b9) rfl u (kM b.has Mh [(.int .i64 ((k.1).Op)), (.int .i64 ((k.1).K)), g6, h5, e0] rfl aK aC) ⟨_, _, _, rfl, (b.mW (Db (Kb Sn))), (d1.trans d2), (p.trans q), (ST.lU b (nn.mem (Db (Kb Sn)))), e0, rfl, rfl, c5⟩
 refine sg (Wh H (Wi rfl (Wa (ln (CI a rfl (fun f1 a => ?_) (fun f1 a => ?_))))))
 ·refine sg (Wh U (Wh I ?_))
  replace b := b.perm (Nr (Qb (Qb Qz)) Nz)
  obtain ⟨m6, b, d3, s, g2⟩ := ST.tE kL b D
  refine bS a fun t f9 a => ?_
  let h6 : Value := (.string (((t.1).kC).kJ))
  let h1 : Value := (.string (((t.1).kC).kD))
  refine VE (eD b (Cb (Pb Pz) Cn) call248 (fun d => (uK G a0 3 K J _ _ d (g2.mono kL.mono (lm.refl _)) f9)) ?_)
  rintro _ l4 m7 i3 b d4 A ⟨l9, b5, rfl, c6⟩
  obtain rfl := b5.symm
  replace b := b.perm (Tb Tn)
  obtain ⟨a5, a9, rfl⟩ := c6.form
  let e1 : Value := (.slice a5 ((t.1).Kids).length a9)
  let c8 : Value := (.agg #[(.int .i64 ((t.1).Op)), (.int .i64 ((t.1).K)), h1, h6, e1])
  replace b := b.perm (Nb (Pb Pz) Nz)
  refine VO (lf c8 (#[(.int .i64 ((t.1).Op)), (.int .i64 ((t.1).K)), h1, h6, e1]) b u rfl aC oc nb rfl (fun k1 b => lt (nD (lL ?_))))
  obtain rfl := sj a
  exact ns (v := c8) rfl u (kM b.has Mh [(.int .i64 ((t.1).Op)), (.int .i64 ((t.1).K)), h1, h6, e1] rfl aK aC) ⟨_, _, _, rfl, (b.mW (Db (Kb Sn))), (d3.trans d4), (s.trans A), (ST.lU b (nn.mem (Db (Kb Sn)))), e1, rfl, rfl, c6⟩
 refine mr (lK (kT (sg (Wh H (Wh I ?_)))))
 replace b := b.perm (Nr (Qb (Qb Qz)) Nz)
 obtain ⟨m8, b, d5, F, g3⟩ := ST.tE kL b D
 refine bS a fun T g0 a => ?_
 refine VE (eD b (aX _) call288 (fun d => (Di K J _ _ d (g3.mono kL.mono (lm.refl _)) g0)) ?_ (L0 := []))
 rintro _ l5 m9 i4 b d6 L ⟨m0, i5, b6, rfl, c7⟩
 obtain rfl := b6.symm
 replace b := b.perm (Tr Tn)
 obtain ⟨M, Q, rfl⟩ := c7.form
 let g5 := (Tz x M T.length Q)
 refine V (mH (v := (.agg g5.toArray)) (AZ rfl rfl rfl) (ml aP bF (uH _ bF) kr)) ?_
 replace b := b.perm (Nb (Pr Pz) Nz)
 refine VO (lf (.agg g5.toArray) (g5.toArray) b u rfl aC oc nb rfl (fun k3 b => lt ?_))
 obtain rfl := sj a
 refine ns (v := (.agg g5.toArray)) rfl u (kM b.has Mh g5 rfl aK aC) ?_
 replace b := b.perm (Nr (Qb Qz) Nz)
 obtain ⟨n0, b, d7, O, g4⟩ := ST.tE kL b c7
 exact ⟨_, _, _, rfl, (b.mW (Db (Kb Sn))), ((d5.trans d6).trans d7), ((F.trans L).trans O), (ST.lU b (nn.mem (Db (Kb Sn)))), (.slice M T.length Q), rfl, rfl, g4⟩
theorem As (c9 : mg → Formula → Option (Formula × mg)) (e9 : ∀ (u : Nat) (a0 : mg) (a : Formula) (y : Value) (r : (Formula × mg)) (w : World) {μ0 : lO} (h0 : ox μ0 ((u, Ol (mS a0) 249) :: []) w) (x : Sl kF 5 μ0 y a.Kids), c9 a0 a = some r → mo false Tryz.prog 191 [(.pointer (some ⟨u, 0, none⟩)), (.agg #[(.int .i64 a.Op), (.int .i64 a.K), (.string a.kC.kD), (.string a.kC.kJ), y])] w μ0 ((u, Ol (mS a0) 249) :: []) (fun v L1 μ1 => ∃ L, v = (.agg #[(.int .i64 ((r.1).Op)), (.int .i64 ((r.1).K)), (.string (((r.1).kC).kD)), (.string (((r.1).kC).kJ)), L]) ∧ L1 = ((u, Ol (mS (r.2)) 249) :: []) ∧ Sl kF 5 μ1 L ((r.1).Kids))) (u : Nat) (a0 : mg) (a : Formula) (y : Value) (r : (Formula × mg)) (w : World) {μ0 : lO} (h0 : ox μ0 ((u, Ol (mS a0) 249) :: []) w) (x : Sl kF 5 μ0 y a.Kids) (hm : tb c9 a0 a = some r) :
  mo false Tryz.prog 191 [(.pointer (some ⟨u, 0, none⟩)), (.agg #[(.int .i64 a.Op), (.int .i64 a.K), (.string a.kC.kD), (.string a.kC.kJ), y])] w μ0 ((u, Ol (mS a0) 249) :: []) (fun v L1 μ1 => ∃ L, v = (.agg #[(.int .i64 ((r.1).Op)), (.int .i64 ((r.1).K)), (.string (((r.1).kC).kD)), (.string (((r.1).kC).kJ)), L]) ∧ L1 = ((u, Ol (mS (r.2)) 249) :: []) ∧ Sl kF 5 μ1 L ((r.1).Kids)) := by
 let d0 := ((u, Ol (mS a0) 249) :: [])
 refine sF h0 39 func191 rfl (fun b => sg ?_)
 obtain ⟨A1, c2, rfl⟩ := x.form
 let A := (C2 a.Op a.K a.kC.kD a.kC.kJ A1 a.Kids.length c2)
 refine VE (lJ b rfl (fun W4 b3 b => VE (lG b aP (fun W6 b5 b => lS (Wf oB (VB b (Mt Mh) rfl rfl cD (Wi rfl (ln (CI hm rfl (fun f8 hm => ?_) (fun f8 hm => ?_))))))))))
 ·refine sg (VA b (Mt Mh) A aK aC (VO (lf (.agg A.toArray) (A.toArray) b rfl rfl aC oc nb rfl (fun W8 b => ln ?_))))
  replace b := b.kG (Kb (Db St))
  refine lC (lL ?_)
  obtain rfl := sj hm
  exact ns (v := (.agg A.toArray)) rfl rfl (kM b.has Mh A rfl aK aC) ⟨_, _, _, rfl, (b.mW (Db (Kb Sn))), (lm.refl _), Lo.refl, (ST.lU b (nn.mem (Db (Kb Sn)))), (.slice A1 a.Kids.length c2), rfl, rfl, x⟩
 refine kg (Wa (lS (Wf oA (VB b (Mt Mh) rfl rfl dZ (V (mi aD rfl x) (Wm (lH ?_)))))))
 refine kT (mf (fun i E W => ∃ I H T D J b7, (E 15 = .int .i64 (i : Nat) ∧ E 14 = .int .i64 (a.Kids.length : Nat)) ∧ lm μ0 J ∧ Lo (keys d0) w μ0 J ∧ ST false (keys d0) w W J ((u, Ol (mS D) 249) :: ((b5, Ol C5 58) :: ((b3, Ol A 58) :: (T ++ b7)))) ∧ E 0 = (.pointer (some ⟨u, 0, none⟩)) ∧ E 3 = (.pointer (some ⟨b3, 0, none⟩)) ∧ E 4 = (.pointer (some ⟨b5, 0, none⟩)) ∧ E 5 = I ∧ E 13 = (.slice A1 a.Kids.length c2) ∧ lW 58 kF 5 J I H T ∧ oR c9 a (a.Kids.drop i) H D = some r) a.Kids.length x.len ⟨(.slice none 0 0), ([]), [], a0, μ0, _, ⟨rfl, rfl⟩, (lm.refl _), Lo.refl, (b.kG (Sb (Pb (Pb Pz)) St)), rfl, rfl, rfl, rfl, rfl, (lW.nil _ _ _ _), hm⟩ dc dc dc (fun _ _ _ h => by obtain ⟨_, _, _, _, _, _, aa, _⟩ := h; exact aa) ?_ ?_)
 ·rintro f0 E W d7 ⟨I, H, T, D, J, b7, ⟨eI, eN⟩, z, d, b, a2, a3, G, P, b9, K, c⟩
  obtain ⟨t, f9, e5, e4, e6⟩ := lX d7
  rw [e5] at c
  refine bg (VQ (mT (i := (f0 : Int)) (x0 := t) kF.out aD aC b9 eI (x.mono kL.mono z) (aH _) e4) (fun h7 ⟨_, ⟨h8, rfl, c0⟩, d8⟩ => V (kI rfl (lz b.has d8 aK aC)) (VE (lG b aP (fun g3 h5 b => ?_)))))
  obtain ⟨a7, a9, rfl⟩ := c0.form
  let R := (C2 t.Op t.K t.kC.kD t.kC.kJ a7 t.Kids.length a9)
  refine VO (lf (.agg R.toArray) (R.toArray) b rfl rfl aC oc nb rfl (fun g4 b => ln (kV (Wh P (Wh a2 (VA b Mh R aK aC (bS c fun g d9 c => ?_)))))))
  refine VE (eD b (Cb (Pb Pz) Cn) call191 (fun F => (e9 u D t (.slice a7 t.Kids.length a9) _ _ F (c0.mono kL.mono (lm.refl _)) d9)) ?_)
  rintro _ h9 f4 g0 b b6 m ⟨i2, b1, rfl, c1⟩
  obtain rfl := b1.symm
  replace b := b.perm (Tb Tn)
  obtain ⟨M, U, rfl⟩ := c1.form
  let d1 : Value := (.slice M ((g.1).Kids).length U)
  refine VE (lE (cs := #[(.int .i64 ((g.1).Op)), (.int .i64 ((g.1).K)), (.string (((g.1).kC).kD)), (.string (((g.1).kC).kJ)), d1]) b (np rfl) (nq aD aC aP) (fun g8 h6 b => ?_))
  replace b := b.perm (Nr (Qb (Qb (Qb (Qb (Qb Qz))))) Nz)
  refine bS c fun f1 d5 c => VE (pQ (B := T) kL b dc aD mZ.1 mZ.2.1 rfl mZ.2.2.1 mZ.2.2.2 rfl rfl (K.mono kL b6) (xG.lit kL (l := [g.1]) (.cons (ys := [(.int .i64 ((g.1).Op)), (.int .i64 ((g.1).K)), (.string (((g.1).kC).kD)), (.string (((g.1).kC).kJ)), d1]) (kF.mk ⟨d1, rfl, c1⟩) .nil) rfl nb (b.at_ (Ma Mh))) d5 (fun g9 f2 e8 b d4 => Wa (lH (lK (kT ?_)))))
  replace b := b.kG (Kr (Db (Kb (Db St))))
  exact ⟨eI, f2, f1, e8, g.2, f4, _, ⟨rfl, eN⟩, (z.trans b6), (d.trans m), (b.kG (Sb (Pr Pz) (Sb (Pr Pz) (Sb (Pr Pz) St)))), a2, a3, G, rfl, b9, d4, (by rw [e6]; exact c)⟩
 rintro E W ⟨I, H, T, D, J, b7, ⟨eI, eN⟩, z, d, b, a2, a3, G, P, b9, K, c⟩
 rw [aI] at c
 refine kT (kY (sg (V (kP oB a3) (VB b (Mt (Mt Mh)) rfl rfl cD (Wi rfl (ln (CI c rfl (fun d6 c => ?_) (fun d6 c => ?_))))))))
 ·refine sg (Wh a2 (V (kP sH a3) (VB b (Mt (Mt Mh)) rfl rfl cD (Wh P ?_))))
  replace b := b.perm (Nr (Qb (Qb (Qb Qz))) Nz)
  obtain ⟨i5, b, c5, n, e2⟩ := ST.tE kL b K
  refine bS c fun j e0 c => ?_
  let f3 : Value := (.string (((j.1).kC).kJ))
  let d3 : Value := (.string (((j.1).kC).kD))
  refine VE (eD b (Cb Pz Cn) call247 (fun F => (Bn u D a.K I H _ _ F (e2.mono kL.mono (lm.refl _)) e0)) ?_)
  rintro _ i0 i6 g1 b c6 p ⟨i3, b2, rfl, c3⟩
  obtain rfl := b2.symm
  replace b := b.perm (Tb Tn)
  obtain ⟨N, Y, rfl⟩ := c3.form
  let b8 : Value := (.slice N ((j.1).Kids).length Y)
  let a5 : Value := (.agg #[(.int .i64 ((j.1).Op)), (.int .i64 ((j.1).K)), d3, f3, b8])
  replace b := b.perm (Nb (Pb Pz) Nz)
  refine VO (lf a5 (#[(.int .i64 ((j.1).Op)), (.int .i64 ((j.1).K)), d3, f3, b8]) b G rfl aC oc nb rfl (fun h2 b => ln ?_))
  replace b := b.kG (Kb (Kb (Db St)))
  refine lC (lL ?_)
  obtain rfl := sj c
  exact ns (v := a5) rfl G (kM b.has Mh [(.int .i64 ((j.1).Op)), (.int .i64 ((j.1).K)), d3, f3, b8] rfl aK aC) ⟨_, _, _, rfl, (b.mW (Db (Kb Sn))), ((z.trans c5).trans c6), ((d.trans n).trans p), (ST.lU b (nn.mem (Db (Kb Sn)))), b8, rfl, rfl, c3⟩
 refine kg (Wh a2 (V (kP oB a3) (VB b (Mt (Mt Mh)) rfl rfl cD (Wh P ?_))))
 replace b := b.perm (Nr (Qb (Qb (Qb Qz))) Nz)
 obtain ⟨i7, b, c7, q, e3⟩ := ST.tE kL b K
 refine bS c fun k e1 c => ?_
 let f5 : Value := (.int .i64 ((k.1).Op))
 let e7 : Value := (.string (((k.1).kC).kJ))
 let d2 : Value := (.string (((k.1).kC).kD))
 refine VE (eD b (Cb Pz Cn) call248 (fun F => (uK u D a.Op I H _ _ F (e3.mono kL.mono (lm.refl _)) e1)) ?_)
 rintro _ i1 i8 g2 b c8 s ⟨i4, b4, rfl, c4⟩
 obtain rfl := b4.symm
 replace b := b.perm (Tb Tn)
 obtain ⟨Q, Z, rfl⟩ := c4.form
 let O : Value := (.slice Q ((k.1).Kids).length Z)
 let a4 : Value := (.agg #[f5, (.int .i64 ((k.1).K)), d2, e7, O])
 replace b := b.perm (Nb (Pb Pz) Nz)
 refine VO (lf a4 (#[f5, (.int .i64 ((k.1).K)), d2, e7, O]) b G rfl aC oc nb rfl (fun h4 b => ln ?_))
 replace b := b.kG (Kb (Kb (Db St)))
 refine lC ?_
 obtain rfl := sj c
 exact ns (v := a4) rfl G (kM b.has Mh [f5, (.int .i64 ((k.1).K)), d2, e7, O] rfl aK aC) ⟨_, _, _, rfl, (b.mW (Db (Kb Sn))), ((z.trans c7).trans c8), ((d.trans q).trans s), (ST.lU b (nn.mem (Db (Kb Sn)))), O, rfl, rfl, c4⟩
theorem yj : ∀ (n : Nat) (c : Nat) (j : mg) (g : Formula) (a : Value) (r : (Formula × mg)) (w : World) {k : lO} (y : ox k ((c, Ol (mS j) 249) :: []) w) (i : Sl kF 5 k a g.Kids) (_ : oq n j g = some r),
  mo false Tryz.prog 191 [(.pointer (some ⟨c, 0, none⟩)), (.agg #[(.int .i64 g.Op), (.int .i64 g.K), (.string g.kC.kD), (.string g.kC.kJ), a])] w k ((c, Ol (mS j) 249) :: []) (fun v u x => ∃ t, v = (.agg #[(.int .i64 ((r.1).Op)), (.int .i64 ((r.1).K)), (.string (((r.1).kC).kD)), (.string (((r.1).kC).kJ)), t]) ∧ u = ((c, Ol (mS (r.2)) 249) :: []) ∧ Sl kF 5 x t ((r.1).Kids))
 | 0 => by intros; rename_i h; simp only [oq] at h; cases h
 | n + 1 => As (oq n) (yj n)
theorem F3 (c : Formula) (u : Value) (r : (Formula × Int)) (w : World) {Z : lO} (A : ox Z [] w) (k : Sl kF 5 Z u c.Kids) (hm : yF c = some r) :
  mo false Tryz.prog 132 [(.agg #[(.int .i64 c.Op), (.int .i64 c.K), (.string c.kC.kD), (.string c.kC.kJ), u])] w Z [] (fun v L1 μ1 => ∃ q, v = (.tuple #[(.agg #[(.int .i64 ((r.1).Op)), (.int .i64 ((r.1).K)), (.string (((r.1).kC).kD)), (.string (((r.1).kC).kJ)), q]), (.int .i64 (r.2))]) ∧ L1 = [] ∧ Sl kF 5 μ1 q ((r.1).Kids)) := by
 refine sF A 27 func132 rfl (fun b => sg ?_)
 obtain ⟨H, I, rfl⟩ := k.form
 let n := (C2 c.Op c.K c.kC.kD c.kC.kJ H c.Kids.length I)
 refine VE (lJ b rfl (fun W4 L b => VE (lG b aP (fun W6 p b => Wa (lS (VA b (Mt Mh) n aK aC (bS hm fun r7 a5 hm => VE (Eg b call72 (xd c (.slice H c.Kids.length I) _ _ (k.mono kL.mono b.kN) a5) (fun W9 b => V (ot rfl) (ln (CI hm rfl (fun Q hm => ?_) (fun Q hm => ?_))))))))))))
 ·refine sg (V (mH (v := (.agg C5.toArray)) ri (ml aP bF (uH _ bF) kr)) (VO (lf (.agg C5.toArray) (C5.toArray) b rfl rfl aC oc nb rfl (fun P b => Wa (ln ?_)))))
  replace b := b.kG (Kb (Db St))
  refine lC (lL ?_)
  obtain rfl := sj hm
  exact qV (v0 := (.agg C5.toArray)) (v1 := (.int .i64 11)) rfl rfl (kM b.has Mh C5 rfl aK aC) rfl ⟨_, _, _, rfl, (b.mW Sn), (lm.refl _), Lo.refl, (ST.lU b (nn.mem Sn)), (.slice none 0 0), rfl, rfl, (Sl.nil _ _ _)⟩
 refine kg (V (mH (v := (.agg (mS K6).toArray)) ri (ml zeroValue249 jX (SK _ jX) kr)) (VE (lJ b rfl (fun R s b => Wa (lr (Wm (VA b (Mt (Mt Mh)) n aK aC (bS hm fun a U hm => ?_))))))))
 let m : Value := (.int .i64 ((a.1).K))
 let l : Value := (.int .i64 ((a.1).Op))
 let h : Value := (.string (((a.1).kC).kJ))
 let a2 : Value := (.string (((a.1).kC).kD))
 refine VE (eD b (Cb Pz Cn) call191 (fun F => ((yj lB) s K6 c (.slice H c.Kids.length I) _ _ F (k.mono kL.mono (lm.refl _)) U)) ?_)
 rintro _ c7 a9 O b D d ⟨c9, y, rfl, z⟩
 obtain rfl := y.symm
 replace b := b.perm (Tb Tn)
 refine VE (lG b aP (fun c0 K b => ?_))
 obtain ⟨i, j, rfl⟩ := z.form
 let a0 : Value := (.slice i ((a.1).Kids).length j)
 let N : Value := (.agg #[l, m, a2, h, a0])
 refine VO (lf N (#[l, m, a2, h, a0]) b rfl rfl aC oc nb rfl (fun c1 b => ln ?_))
 replace b := b.kG (Kb (Kb (Kb (Db St))))
 refine kY (sg (Wm (Wn (Wf Lv (VB b (Mt Mh) rfl rfl isAgg40 (Wi rfl (Wm (LJ hm (fun M E W => ∃ J, ST false (keys []) w W a9 ((K, Ob #[l, m, a2, h, a0] 58) :: ((p, Ol C5 58) :: J)) ∧ E 2 = (.pointer (some ⟨p, 0, none⟩)) ∧ E 5 = (.pointer (some ⟨K, 0, none⟩)) ∧ E 24 = (.bool M)) 4 ?_ (fun M t G => ?_)))))))))
 ·rintro c8 E W ⟨J, b, B, a3, a4⟩ x
  refine ln (CI x a4 (fun T x => ?_) (fun T x => ?_))
  ·refine sg (V (mH (v := (.agg C5.toArray)) ri (ml aP bF (uH _ bF) kr)) ?_)
   replace b := b.perm (Nb (Pb Pz) Nz)
   refine VO (lf (.agg C5.toArray) (C5.toArray) b B rfl aC oc nb rfl (fun c3 b => Wa (ln ?_)))
   replace b := b.kG (Kb (Db St))
   refine lC (lL ?_)
   obtain rfl := sj x
   exact qV (v0 := (.agg C5.toArray)) (v1 := (.int .i64 12)) rfl B (kM b.has Mh C5 rfl aK aC) rfl ⟨_, _, _, rfl, (b.mW Sn), D, d, (ST.lU b (nn.mem Sn)), (.slice none 0 0), rfl, rfl, (Sl.nil _ _ _)⟩
  refine kg (V (kI a3 (kM b.has Mh [l, m, a2, h, a0] rfl aK aC)) ?_)
  replace b := b.perm (Nb (Pb Pz) Nz)
  refine VO (lf N (#[l, m, a2, h, a0]) b B rfl aC oc nb rfl (fun c4 b => Wa (ln ?_)))
  replace b := b.kG (Kb (Db St))
  refine lC ?_
  obtain rfl := sj x
  exact qV (v0 := N) (v1 := (.int .i64 0)) rfl B (kM b.has Mh [l, m, a2, h, a0] rfl aK aC) rfl ⟨_, _, _, rfl, (b.mW Sn), D, d, (ST.lU b (nn.mem Sn)), a0, rfl, rfl, z⟩
 refine bC t (fun g t => ?_) (fun g t => ?_)
 ·refine un g (un g (un g (V (li (cB g) rfl) ?_)))
  obtain rfl := sj t
  exact G _ _ ⟨_, (b.kG (Kb (Db St))), rfl, rfl, rfl⟩
 refine ug g (kI rfl (kM b.has Mh [l, m, a2, h, a0] rfl aK aC)) (bS t fun c6 Y t => sE g (Eg b call72 (xd a.1 a0 _ _ (z.mono kL.mono b.kN) Y) (fun c5 b => ug g (ot rfl) (V (lj (cB g) rfl) ?_))))
 obtain rfl := sj t
 exact G _ _ ⟨_, (b.kG (Kb (Db St))), rfl, rfl, rfl⟩
theorem I9 (a : Formula) (k : Value) (c : Formula) (t : Value) (r : (Formula × Int)) (w : World) {N : lO} (q : ox N [] w) (i : Sl kF 5 N k a.Kids) (j : Sl kF 5 N t c.Kids) (hm : yO a c = some r) :
  mo false Tryz.prog 133 [(.agg #[(.int .i64 a.Op), (.int .i64 a.K), (.string a.kC.kD), (.string a.kC.kJ), k]), (.agg #[(.int .i64 c.Op), (.int .i64 c.K), (.string c.kC.kD), (.string c.kC.kJ), t])] w N [] (fun v Z μ1 => ∃ Y, v = (.tuple #[(.agg #[(.int .i64 ((r.1).Op)), (.int .i64 ((r.1).K)), (.string (((r.1).kC).kD)), (.string (((r.1).kC).kJ)), Y]), (.int .i64 (r.2))]) ∧ Z = [] ∧ Sl kF 5 μ1 Y ((r.1).Kids)) := by
 refine sF q 13 func133 rfl (fun b => sg ?_)
 obtain ⟨u, z, rfl⟩ := i.form
 let a3 : Value := (.slice u a.Kids.length z)
 refine VE (lJ b rfl (fun W4 P b => ?_))
 obtain ⟨y, G, rfl⟩ := j.form
 let n : Value := (.slice y c.Kids.length G)
 refine VE (lJ b rfl (fun W8 R b => VE (lG b aP (fun a5 W b => Wa (lr (VA b (Mt (Mt Mh)) (C2 a.Op a.K a.kC.kD a.kC.kJ u a.Kids.length z) aK aC (VA b (Mt Mh) (C2 c.Op c.K c.kC.kD c.kC.kJ y c.Kids.length G) aK aC (VE (lE (cs := #[(.int .i64 a.Op), (.int .i64 a.K), (.string a.kC.kD), (.string a.kC.kJ), a3, (.int .i64 c.Op), (.int .i64 c.K), (.string c.kC.kD), (.string c.kC.kJ), n]) b (oU rfl rfl) (nq aD aC aP) (fun A I b => V (mH (v := (.agg #[(.int .i64 2), (.int .i64 0), (.string zS), (.string zS), (.slice (some ⟨I, 0, none⟩) 2 2)])) (oU rfl rfl) (ml aP bF (uH _ bF) kr)) ?_))))))))))
 obtain ⟨L, b, K, d, U⟩ := ST.tE (B := [(I, Ob #[(.int .i64 a.Op), (.int .i64 a.K), (.string a.kC.kD), (.string a.kC.kJ), a3, (.int .i64 c.Op), (.int .i64 c.K), (.string c.kC.kD), (.string c.kC.kJ), n] 58)]) kL b (lW.lit kL (l := [a, c]) (.cons (ys := C2 a.Op a.K a.kC.kD a.kC.kJ u a.Kids.length z) (kF.mk ⟨a3, rfl, i⟩) (.cons (ys := C2 c.Op c.K c.kC.kD c.kC.kJ y c.Kids.length G) (kF.mk ⟨n, rfl, j⟩) .nil)) rfl nb rfl)
 refine bS hm fun g T hm => ?_
 let p : Value := (.int .i64 ((g.1).Op))
 let a2 : Value := (.string (((g.1).kC).kJ))
 let m : Value := (.string (((g.1).kC).kD))
 refine VE (eD b (aX _) call132 (fun s => (F3 (⟨2, 0, K0, [a, c]⟩ : Formula) (.slice (some ⟨I, 0, none⟩) 2 2) _ _ s (U.mono kL.mono (lm.refl _)) T)) ?_ (L0 := []))
 rintro _ a9 O a4 b M h ⟨F, H, rfl, J⟩
 obtain rfl := H.symm
 refine Wx rfl (Wx rfl ?_)
 obtain ⟨x, D, rfl⟩ := J.form
 let a0 : Value := (.slice x ((g.1).Kids).length D)
 let Q : Value := (.agg #[p, (.int .i64 ((g.1).K)), m, a2, a0])
 refine VO (lf Q (#[p, (.int .i64 ((g.1).K)), m, a2, a0]) b rfl rfl aC oc nb rfl (fun E b => Wa (ln ?_)))
 replace b := b.kG (Kb (Db (Db St)))
 refine lC ?_
 obtain rfl := sj hm
 exact qV (v0 := Q) (v1 := (.int .i64 g.2)) rfl rfl (kM b.has Mh [p, (.int .i64 ((g.1).K)), m, a2, a0] rfl aK aC) rfl ⟨_, _, _, rfl, (b.mW Sn), (K.trans M), (d.trans h), (ST.lU b (nn.mem Sn)), a0, rfl, rfl, J⟩
theorem KW (d1 : Value) (a0 : List Formula) (r : (Formula × Int)) (w : World) {μ0 : lO} (h0 : ox μ0 [] w) (c7 : Sl kF 5 μ0 d1 a0) (hm : wT a0 = some r) :
  mo false Tryz.prog 71 [d1] w μ0 [] (fun v L1 μ1 => ∃ y1, v = (.tuple #[(.agg #[(.int .i64 ((r.1).Op)), (.int .i64 ((r.1).K)), (.string (((r.1).kC).kD)), (.string (((r.1).kC).kJ)), y1]), (.int .i64 (r.2))]) ∧ L1 = [] ∧ Sl kF 5 μ1 y1 ((r.1).Kids)) := by
 let e5 := (a0.drop (Int.toNat 1))
 refine sF h0 36 func71 rfl (fun b => sg (VE (lG b aP (fun W2 A b => Wa (lr (Wm (bS hm fun x6 e3 hm => VQ (mT (i := 0) (x0 := x6) kF.out aD aC rfl rfl c7 (lN e3) (lM e3)) (fun p3 ⟨_, ⟨v8, rfl, f2⟩, f1⟩ => V (kI rfl (lz b.has f1 aK aC)) (bS hm fun j e6 hm => ?_)))))))))
 refine VE (eD b (aX _) call132 (fun hh => (F3 x6 v8 _ _ hh (f2.mono kL.mono (lm.refl _)) e6)) ?_ (L0 := []))
 rintro _ i4 a9 i0 b a4 m ⟨i5, b6, rfl, d0⟩
 obtain rfl := b6.symm
 refine Wm (Wx rfl (Wx rfl (VE (lG b aP (fun i2 F b => ?_)))))
 obtain ⟨c2, c5, rfl⟩ := d0.form
 let d2 : Value := (.slice c2 ((j.1).Kids).length c5)
 refine VO (lf (.agg #[(.int .i64 ((j.1).Op)), (.int .i64 ((j.1).K)), (.string (((j.1).kC).kD)), (.string (((j.1).kC).kJ)), d2]) (#[(.int .i64 ((j.1).Op)), (.int .i64 ((j.1).K)), (.string (((j.1).kC).kD)), (.string (((j.1).kC).kJ)), d2]) b rfl rfl aC oc nb rfl (fun i3 b => Wa (lS (Wm (bS hm fun _ c8 hm => VQ (CS (i := 1) aD aC rfl rfl (c7.mono kL.mono a4) (vy c8) (vq c8)) (fun f3 R => V (mi aD rfl R.1) (Wm (ln (CJ hm (fun u E W => ∃ q U c3, lm a9 U ∧ Lo (keys []) w a9 U ∧ ST false (keys []) w W U ((F, Ob #[(.int .i64 u.2.1), (.int .i64 u.2.2.1), (.string u.2.2.2.1.kD), (.string u.2.2.2.1.kJ), q] 58) :: ((A, Ol C5 58) :: c3)) ∧ E 2 = (.pointer (some ⟨A, 0, none⟩)) ∧ E 4 = (.pointer (some ⟨F, 0, none⟩)) ∧ E 5 = (.int .i64 u.1) ∧ Sl kF 5 U q u.2.2.2.2) (fun u d7 => ?_) ?_)))))))))
 ·refine mf (fun i E W => ∃ s G H y x N z O, (E 18 = .int .i64 (i : Nat) ∧ E 17 = .int .i64 (e5.length : Nat)) ∧ lm a9 z ∧ Lo (keys []) w a9 z ∧ ST false (keys []) w W z ((F, Ob #[(.int .i64 G), (.int .i64 H), (.string y.kD), (.string y.kJ), x] 58) :: ((A, Ol C5 58) :: O)) ∧ E 2 = (.pointer (some ⟨A, 0, none⟩)) ∧ E 4 = (.pointer (some ⟨F, 0, none⟩)) ∧ E 5 = (.int .i64 s) ∧ E 16 = f3 ∧ Sl kF 5 z x N ∧ ux (e5.drop i) s G H y N = some u) e5.length R.1.len ⟨j.2, ((j.1).Op), ((j.1).K), ((j.1).kC), d2, ((j.1).Kids), a9, _, ⟨rfl, rfl⟩, (lm.refl _), Lo.refl, (b.kG St), rfl, rfl, rfl, rfl, d0, d7⟩ dc dc dc (fun _ _ _ h => by obtain ⟨_, _, _, _, _, _, _, _, aa, _⟩ := h; exact aa) ?_ ?_
  ·rintro e7 E W d6 ⟨s, G, H, y, x, N, z, O, ⟨eI, eN⟩, t, d, b, a2, D, a3, P, I, c⟩
   obtain ⟨a, f6, e1, e0, e2⟩ := lX d6
   rw [e1] at c
   refine bg (VQ (mT (i := (e7 : Int)) (x0 := a) kF.out aD aC P eI (R.1.mono kL.mono t) (aH _) e0) (fun h1 ⟨_, ⟨h4, rfl, c0⟩, d8⟩ => V (kI rfl (lz b.has d8 aK aC)) (VE (lG b aP (fun g2 g8 b => ?_)))))
   obtain ⟨Y, Z, rfl⟩ := c0.form
   let b8 := (C2 a.Op a.K a.kC.kD a.kC.kJ Y a.Kids.length Z)
   refine VO (lf (.agg b8.toArray) (b8.toArray) b rfl rfl aC oc nb rfl (fun g3 b => lS (Wh a3 (Wi rfl (ln (CI c rfl (fun d5 c => ?_) (fun d5 c => ?_)))))))
   ·refine nM (nB (Sv (by simp) (nB (qe (kT ?_)))))
    obtain rfl := sj c
    exact ⟨x, z, _, t, d, (b.kG (Db St)), a2, D, a3, I⟩
   refine kn (kV (V (kI D (kM b.has (Mt Mh) [(.int .i64 G), (.int .i64 H), (.string y.kD), (.string y.kJ), x] rfl aK aC)) (VA b Mh b8 aK aC (bS c fun g d9 c => ?_))))
   refine VE (eD b (aX _) call133 (fun hh => (I9 (⟨G, H, y, N⟩ : Formula) x a (.slice Y a.Kids.length Z) _ _ hh (I.mono kL.mono (lm.refl _)) (c0.mono kL.mono (lm.refl _)) d9)) ?_ (L0 := []))
   rintro _ h5 f0 f9 b c9 n ⟨h8, a5, rfl, c1⟩
   obtain rfl := a5.symm
   refine Wm (Wx rfl (Wx rfl ?_))
   obtain ⟨b0, b3, rfl⟩ := c1.form
   let d3 : Value := (.slice b0 ((g.1).Kids).length b3)
   replace b := b.perm (Nb (Pb Pz) Nz)
   refine VO (lf (.agg #[(.int .i64 ((g.1).Op)), (.int .i64 ((g.1).K)), (.string (((g.1).kC).kD)), (.string (((g.1).kC).kJ)), d3]) (#[(.int .i64 ((g.1).Op)), (.int .i64 ((g.1).K)), (.string (((g.1).kC).kD)), (.string (((g.1).kC).kJ)), d3]) b D rfl aC oc nb rfl (fun g7 b => Wa (lH (lK (kT ?_)))))
   replace b := b.kG (Kb (Db St))
   exact ⟨eI, g.2, ((g.1).Op), ((g.1).K), ((g.1).kC), d3, ((g.1).Kids), f0, _, ⟨rfl, eN⟩, (t.trans c9), (d.trans n), (b.kG St), a2, D, rfl, P, c1, (by rw [e2]; exact c)⟩
  rintro E W ⟨s, G, H, y, x, N, z, O, ⟨eI, eN⟩, t, d, b, a2, D, a3, P, I, c⟩
  rw [aI] at c
  refine kT ?_
  obtain rfl := sj c
  exact ⟨x, z, _, t, d, (b.kG St), a2, D, a3, I⟩
 rintro ⟨e8, Q, T, k, M⟩ E W ⟨q, U, c3, a8, l, b, p, e4, c6, b9⟩ B
 refine kY (sg (Wh c6 (Wi rfl (ln (CI B rfl (fun d4 B => ?_) (fun d4 B => ?_))))))
 ·refine sg (V (mH (v := (.agg C5.toArray)) ri (ml aP bF (uH _ bF) kr)) (Wh c6 ?_))
  replace b := b.perm (Nb (Pb Pz) Nz)
  refine VO (lf (.agg C5.toArray) (C5.toArray) b p rfl aC oc nb rfl (fun g0 b => Wa (ln ?_)))
  replace b := b.kG (Kb (Db St))
  refine lC (lL ?_)
  obtain rfl := sj B
  exact qV (v0 := (.agg C5.toArray)) (v1 := (.int .i64 e8)) rfl p (kM b.has Mh C5 rfl aK aC) rfl ⟨_, _, _, rfl, (b.mW Sn), (a4.trans a8), (m.trans l), (ST.lU b (nn.mem Sn)), (.slice none 0 0), rfl, rfl, (Sl.nil _ _ _)⟩
 refine kg (V (kI e4 (kM b.has Mh [(.int .i64 Q), (.int .i64 T), (.string k.kD), (.string k.kJ), q] rfl aK aC)) ?_)
 obtain ⟨J, K, rfl⟩ := b9.form
 let L := (C2 Q T k.kD k.kJ J M.length K)
 replace b := b.perm (Nb (Pb Pz) Nz)
 refine VO (lf (.agg L.toArray) (L.toArray) b p rfl aC oc nb rfl (fun g1 b => Wa (ln ?_)))
 replace b := b.kG (Kb (Db St))
 refine lC ?_
 obtain rfl := sj B
 exact qV (v0 := (.agg L.toArray)) (v1 := (.int .i64 0)) rfl p (kM b.has Mh L rfl aK aC) rfl ⟨_, _, _, rfl, (b.mW Sn), (a4.trans a8), (m.trans l), (ST.lU b (nn.mem Sn)), (.slice J M.length K), rfl, rfl, b9⟩
theorem M0 (k : lI) (G H : Value) (p : kE) (r : (Formula × Int)) (w : World) {μ0 : lO} (h0 : ox μ0 [] w) (t : Sl kW 15 μ0 G k.kO) (y : Sl lF 8 μ0 H k.lg) (hm : Bs k p = some r) :
  mo false Tryz.prog 23 [(.agg #[(.string k.Name), G, H]), (.agg (kK p).toArray)] w μ0 [] (fun v L1 μ1 => ∃ y1, v = (.tuple #[(.agg #[(.int .i64 ((r.1).Op)), (.int .i64 ((r.1).K)), (.string (((r.1).kC).kD)), (.string (((r.1).kC).kJ)), y1]), (.int .i64 (r.2))]) ∧ L1 = [] ∧ Sl kF 5 μ1 y1 ((r.1).Kids)) := by
 refine sF h0 41 func23 rfl (fun b => sg ?_)
 obtain ⟨A1, c2, rfl⟩ := t.form
 obtain ⟨A3, P, rfl⟩ := y.form
 let f5 := (C4 k.Name A1 k.kO.length c2 A3 k.lg.length P)
 refine VE (lJ b rfl (fun W6 b5 b => VE (lJ b rfl (fun W8 b7 b => VE (lG b aP (fun i4 b9 b => Wa (lr (VA b (Mt (Mt Mh)) f5 eJ dJ (VA b (Mt Mh) (kK p) bW aO (bS hm fun a e7 hm => ?_))))))))))
 let b8 : Value := (.int .i64 (((a.1).kH).K))
 let q : Value := (.int .i64 (((a.1).kH).Op))
 let b1 := (((a.1).kH).kC)
 let s : Value := (.string (b1.kJ))
 let d8 : Value := (.string (b1.kD))
 let a0 := (((a.1).Signed).kE)
 refine VE (eD b (aX _) call69 (fun A => (KF k (.slice A1 k.kO.length c2) (.slice A3 k.lg.length P) p _ _ A (t.mono kX.mono (lm.refl _)) (y.mono ma.mono (lm.refl _)) e7)) ?_ (L0 := []))
 rintro _ j4 j8 i2 b I d ⟨j6, j7, a5, rfl, e9, c5⟩
 obtain rfl := a5.symm
 refine Wm (Wx rfl (Wx rfl (VE (lG b eE (fun i6 j3 b => ?_)))))
 obtain ⟨d9, e1, rfl⟩ := e9.form
 let f8 : Value := (.slice d9 (((a.1).Signed).Tag).length e1)
 obtain ⟨z, D, rfl⟩ := c5.form
 let a2 : Value := (.slice z (((a.1).kH).Kids).length D)
 refine VO (lf (.agg #[(.int .i64 (a0.Kind)), (.string ((a0.Head).kD)), (.string ((a0.Head).kJ)), (.string (a0.lZ)), (.string ((a0.B).kD)), (.string ((a0.B).kJ)), (.string ((a0.C).kD)), (.string ((a0.C).kJ)), (.string (a0.mc)), f8, q, b8, d8, s, a2]) (#[(.int .i64 (a0.Kind)), (.string ((a0.Head).kD)), (.string ((a0.Head).kJ)), (.string (a0.lZ)), (.string ((a0.B).kD)), (.string ((a0.B).kJ)), (.string ((a0.C).kD)), (.string ((a0.C).kJ)), (.string (a0.mc)), f8, q, b8, d8, s, a2]) b rfl rfl cR oc nb rfl (fun i7 b => Wa (lS (Wm (V (ot rfl) (ln (CI hm rfl (fun e6 hm => ?_) (fun e6 hm => ?_))))))))
 ·refine sg (V (mH (v := (.agg C5.toArray)) ri (ml aP bF (uH _ bF) kr)) ?_)
  replace b := b.perm (Nb (Pb Pz) Nz)
  refine VO (lf (.agg C5.toArray) (C5.toArray) b rfl rfl aC oc nb rfl (fun i8 b => Wa (ln ?_)))
  replace b := b.kG (Kb (Db (Db (Db St))))
  refine lC (lL ?_)
  obtain rfl := sj hm
  exact qV (v0 := (.agg C5.toArray)) (v1 := (.int .i64 42)) rfl rfl (kM b.has Mh C5 rfl aK aC) rfl ⟨_, _, _, rfl, (b.mW Sn), I, d, (ST.lU b (nn.mem Sn)), (.slice none 0 0), rfl, rfl, (Sl.nil _ _ _)⟩
 refine kg (Wf E7 (VA b Mh [q, b8, d8, s, a2] aK aC (VE (lE (cs := #[q, b8, d8, s, a2]) b (np rfl) (nq aD aC aP) (fun i9 e0 b => Wa (ln ?_))))))
 replace b := b.kG (Kb (Db St))
 refine kY (sg (VA b (Mt (Mt (Mt Mh))) f5 eJ dJ (VA b (Mt (Mt Mh)) (kK p) bW aO (bS hm fun R e8 hm => ?_))))
 refine VE (eD b (aX _) call70 (fun A => (Ji k (.slice A1 k.kO.length c2) (.slice A3 k.lg.length P) p _ _ A (t.mono kX.mono I) (y.mono ma.mono I) e8)) ?_ (L0 := []))
 rintro _ j5 e2 i3 b a8 F ⟨f6, a6, rfl, O⟩
 obtain rfl := a6.symm
 refine V (mi cX rfl O) (Wm (ln ?_))
 replace b := b.kG (Kb (Kb (Db (Db St))))
 replace b := b.Bg
 refine mf (fun i E W => ∃ Q N K Z, (E 27 = .int .i64 (i : Nat) ∧ E 26 = .int .i64 (R.length : Nat)) ∧ ST false (keys []) w W e2 ((b9, Ol C5 58) :: (K ++ Z)) ∧ E 4 = (.pointer (some ⟨b9, 0, none⟩)) ∧ E 8 = Q ∧ E 25 = f6 ∧ lW 58 kF 5 e2 Q N K ∧ ve (R.drop i) N = some r) R.length O.len ⟨(.slice (some ⟨e0, 0, none⟩) 1 1), ([(a.1).kH]), [(e0, Ob #[q, b8, d8, s, a2] 58)], _, ⟨rfl, rfl⟩, (b.kG (Sb (Pr Pz) St)), rfl, rfl, rfl, (lW.lit kL (l := [(a.1).kH]) (.cons (ys := [q, b8, d8, s, a2]) (kF.mk ⟨a2, rfl, (c5.mono kL.mono a8)⟩) .nil) rfl nb rfl), hm⟩ dc dc dc (fun _ _ _ h => by obtain ⟨_, _, _, _, aa, _⟩ := h; exact aa) ?_ ?_
 ·rintro f0 E W d0 ⟨Q, N, K, Z, ⟨eI, eN⟩, b, T, a3, a4, U, j⟩
  obtain ⟨c, f7, d6, d5, d7⟩ := lX d0
  rw [d6] at j
  refine bg (VQ (mT (i := (f0 : Int)) (x0 := c) lF.out cX dW a4 eI O (aH _) d5) (fun h2 ⟨_, ⟨h5, h6, rfl, a9, d3⟩, d1⟩ => V (kI rfl (lz b.has d1 jR dW)) (VE (lG b iD (fun g0 g8 b => ?_)))))
  obtain ⟨u, x, rfl⟩ := a9.form
  let c7 := (C2 c.kH.Op c.kH.K c.kH.kC.kD c.kH.kC.kJ u c.kH.Kids.length x)
  obtain ⟨b2, b6, rfl⟩ := d3.form
  let c0 := (C7 c.kC.kD c.kC.kJ c.kH.Op c.kH.K c.kH.kC.kD c.kH.kC.kJ u c.kH.Kids.length x b2 c.na.length b6)
  refine VO (lf (.agg c0.toArray) (c0.toArray) b rfl rfl dW oc nb rfl (fun g1 b => ln (kV (Wh a3 (Wf Fk (VA b Mh c7 aK aC (VE (lE (cs := c7.toArray) b (np rfl) (nq aD aC aP) (fun g2 g9 b => ?_)))))))))
  replace b := b.perm (Nr (Qb (Qb (Qb Qz))) Nz)
  refine bS j fun f1 c9 j => VE (pQ (B := K) kL b dc aD mZ.1 mZ.2.1 rfl mZ.2.2.1 mZ.2.2.2 rfl rfl U (xG.lit kL (l := [c.kH]) (.cons (ys := C2 c.kH.Op c.kH.K c.kH.kC.kD c.kH.kC.kJ u c.kH.Kids.length x) (kF.mk ⟨(.slice u c.kH.Kids.length x), rfl, a9⟩) .nil) rfl nb (b.at_ (Ma Mh))) c9 (fun g3 f2 e3 b c8 => Wa (lH (lK (kT ?_)))))
  replace b := b.kG (Kr (Db (Db St)))
  exact ⟨eI, f2, f1, e3, _, ⟨rfl, eN⟩, (b.kG (Sb (Pr Pz) St)), T, rfl, a4, c8, (by rw [d7]; exact j)⟩
 rintro E W ⟨Q, N, K, Z, ⟨eI, eN⟩, b, T, a3, a4, U, j⟩
 rw [aI] at j
 refine kT (sg (Wh a3 ?_))
 replace b := b.perm (Nr (Qb Qz) Nz)
 obtain ⟨i0, b, c1, m, d4⟩ := ST.tE kL b U
 refine bS j fun g d2 j => ?_
 let g4 : Value := (.int .i64 ((g.1).Op))
 let f4 : Value := (.string (((g.1).kC).kJ))
 let f3 : Value := (.string (((g.1).kC).kD))
 refine VE (eD b (aX _) call71 (fun A => (KW Q N _ _ A (d4.mono kL.mono (lm.refl _)) d2)) ?_ (L0 := []))
 rintro _ h7 i1 f9 b c3 n ⟨h8, Y, rfl, b0⟩
 obtain rfl := Y.symm
 refine Wx rfl (Wx rfl ?_)
 obtain ⟨J, M, rfl⟩ := b0.form
 let L : Value := (.slice J ((g.1).Kids).length M)
 let b4 : Value := (.agg #[g4, (.int .i64 ((g.1).K)), f3, f4, L])
 refine VO (lf b4 (#[g4, (.int .i64 ((g.1).K)), f3, f4, L]) b T rfl aC oc nb rfl (fun g7 b => Wa (lt ?_)))
 obtain rfl := sj j
 exact qV (v0 := b4) (v1 := (.int .i64 g.2)) rfl T (kM b.has Mh [g4, (.int .i64 ((g.1).K)), f3, f4, L] rfl aK aC) rfl ⟨_, _, _, rfl, (b.mW Sn), (((I.trans a8).trans c1).trans c3), (((d.trans F).trans m).trans n), (ST.lU b (nn.mem Sn)), L, rfl, rfl, b0⟩
theorem DM (Q : Formula → (kC → Option Bool) → Option Bool) (a5 : ∀ (g : Formula) (k : Value) (t : Value) (J : kC → Option Bool) (r : Bool) (w : World) (c : Sl kF 5 (hp w) k g.Kids) (K : A4 Tryz.prog t (hp w) (fun (x : kC) => [(.agg (kQ x).toArray)]) (fun (r : Bool) => (.bool r)) J), Q g J = some r → lD false Tryz.prog 73 [(.agg #[(.int .i64 g.Op), (.int .i64 g.K), (.string g.kC.kD), (.string g.kC.kJ), k]), t] w (.bool r)) (g : Formula) (k t : Value) (J : kC → Option Bool) (r : Bool) (w : World) (c : Sl kF 5 (hp w) k g.Kids) (K : A4 Tryz.prog t (hp w) (fun (x : kC) => [(.agg (kQ x).toArray)]) (fun (r : Bool) => (.bool r)) J) (hm : wm Q g J = some r) :
  lD false Tryz.prog 73 [(.agg #[(.int .i64 g.Op), (.int .i64 g.K), (.string g.kC.kD), (.string g.kC.kJ), k]), t] w (.bool r) := by
 refine cG 45 func73 rfl (fun b => sg ?_)
 obtain ⟨A1, c2, rfl⟩ := c.form
 refine VE (lJ b rfl (fun W4 n b => Wa (lS (Wf oB (VB b Mh rfl rfl cD (Wi rfl (ln (CI hm rfl (fun a9 hm => ?_) (fun a9 hm => ?_)))))))))
 ·refine sg (Wm (Wf uP (VA b Mh (kQ g.kC) bG aR (bS hm fun r6 v hm => VE (Pw g.kC b K (lm.refl _) rfl (wy rfl) v (fun W8 b => Wa (ln ?_)))))))
  replace b := b.kG (Db St)
  refine lC (lL ?_)
  obtain rfl := sj hm
  exact rP b
 refine kg (Wa (lS (Wf oA (VB b Mh rfl rfl dZ (V (mi aD rfl c) (Wm (lH ?_)))))))
 refine kT (mf (fun i E W => ∃ z I, (E 18 = .int .i64 (i : Nat) ∧ E 17 = .int .i64 (g.Kids.length : Nat)) ∧ ST false lT w W (hp w) ((n, Ol (C2 g.Op g.K g.kC.kD g.kC.kJ A1 g.Kids.length c2) 58) :: I) ∧ E 1 = t ∧ E 2 = (.pointer (some ⟨n, 0, none⟩)) ∧ E 5 = (.int .i64 z) ∧ E 16 = (.slice A1 g.Kids.length c2) ∧ qk Q J g (g.Kids.drop i) z = some r) g.Kids.length c.len ⟨0, _, ⟨rfl, rfl⟩, (b.kG St), rfl, rfl, rfl, rfl, hm⟩ dc dc dc (fun _ _ _ h => by obtain ⟨_, _, l, _⟩ := h; exact l) ?_ ?_)
 ·rintro A E W a4 ⟨z, I, ⟨d, m⟩, b, G, u, y, H, a⟩
  obtain ⟨j, c1, s, q, N⟩ := lX a4
  rw [s] at a
  refine bg (VQ (mT (i := (A : Int)) (x0 := j) kF.out aD aC H d c (aH _) q) (fun R ⟨_, ⟨c0, rfl, M⟩, Z⟩ => V (kI rfl (lz b.has Z aK aC)) (VE (lG b aP (fun F P b => ?_)))))
  obtain ⟨B, D, rfl⟩ := M.form
  let a0 := (C2 j.Op j.K j.kC.kD j.kC.kJ B j.Kids.length D)
  refine VO (lf (.agg a0.toArray) (a0.toArray) b rfl rfl aC oc nb rfl (fun L b => lr (VA b Mh a0 aK aC (Wh G (bS a fun b9 p a => VE (Eg b call73 (a5 j (.slice B j.Kids.length D) t J _ _ (M.mono kL.mono b.kN) (K.mono b.kN) p) (fun O b => ln ?_)))))))
  replace b := b.kG (Db St)
  refine CI a rfl (fun T a => ?_) (fun T a => ?_)
  ·exact kV (Wh y (Wi rfl (Wa (lH (lK (kT ⟨d, (IntKind.i64.wrap (z + 1)), _, ⟨rfl, m⟩, (b.kG St), G, u, rfl, H, (by rw [N]; exact a)⟩))))))
  exact mr (lK (kT ⟨d, z, _, ⟨rfl, m⟩, (b.kG St), G, u, y, H, (by rw [N]; exact a)⟩))
 rintro E W ⟨z, I, ⟨d, m⟩, b, G, u, y, H, a⟩
 rw [aI] at a
 refine kT (kY (sg (V (kP oB u) (VB b Mh rfl rfl cD (ln (bg (Wi rfl (Wa (ln ?_)))))))))
 refine CI a rfl (fun U a => ?_) (fun U a => ?_)
 ·refine sg (Wh y (V (kP oA u) (VB b Mh rfl rfl dZ (V (mi aD rfl c) (Wi rfl (Wa (ln ?_)))))))
  replace b := b.kG (Db St)
  refine lC (nD (lL ?_))
  obtain rfl := sj a
  exact rP b
 refine sg (Wi rfl (Wa (ln (CI a rfl (fun Y a => ?_) (fun Y a => ?_)))))
 ·refine sg (Wh y (Wi rfl (Wa (ln ?_))))
  replace b := b.kG (Db St)
  refine lC (nD (lL ?_))
  obtain rfl := sj a
  exact rP b
 refine mr (lK (kT (sg (Wh y (V (kP sH u) (VB b Mh rfl rfl cD (Wi rfl (Wa (ln ?_)))))))))
 exact lC (rQ a b)
theorem Cz : ∀ (n : Nat) (c : Formula) (a : Value) (g : Value) (j : kC → Option Bool) (r : Bool) (w : World) (i : Sl kF 5 (hp w) a c.Kids) (k : A4 Tryz.prog g (hp w) (fun (x : kC) => [(.agg (kQ x).toArray)]) (fun (r : Bool) => (.bool r)) j) (_ : qQ n c j = some r),
  lD false Tryz.prog 73 [(.agg #[(.int .i64 c.Op), (.int .i64 c.K), (.string c.kC.kD), (.string c.kC.kJ), a]), g] w (.bool r)
 | 0 => by intros; rename_i h; simp only [qQ] at h; cases h
 | n + 1 => DM (qQ n) (Cz n)
theorem Df (a : Formula) (j k : Value) (G : kC → Option Bool) (r : Bool) (w : World) (c : Sl kF 5 (hp w) j a.Kids) (z : A4 Tryz.prog k (hp w) (fun (x : kC) => [(.agg (kQ x).toArray)]) (fun (r : Bool) => (.bool r)) G) (hm : vV a G = some r) :
  lD false Tryz.prog 24 [(.agg #[(.int .i64 a.Op), (.int .i64 a.K), (.string a.kC.kD), (.string a.kC.kJ), j]), k] w (.bool r) := by
 refine cG 16 func24 rfl (fun b => sg ?_)
 obtain ⟨u, y, rfl⟩ := c.form
 let a0 := (C2 a.Op a.K a.kC.kD a.kC.kJ u a.Kids.length y)
 refine VE (lJ b rfl (fun U Z b => Wa (lr (Wm (V (OF underlying65 z.form rfl rfl) (Wm (Vg rfl rfl (kI rfl (kM b.has Mh a0 rfl aK aC)) (bS hm fun d K hm => Oq rfl rfl (Eg b call72 (xd a (.slice u a.Kids.length y) _ _ (c.mono kL.mono b.kN) K) (fun Y b => V (li rfl rfl) (Wm (LJ hm (fun D E W => ∃ B, ST false lT w W (hp w) B ∧ E 4 = (.bool false) ∧ E 15 = (.bool D)) 4 ?_ (fun D g t => ?_)))))))))))))
 ·rintro T E W ⟨B, b, N, J⟩ H
  exact Wg J (lt (rQ H b))
 refine bC g (fun i g => ?_) (fun i g => ?_)
 ·refine ug i (kI rfl (kM b.has Mh a0 rfl aK aC)) (ug i (kR rfl) (bS g fun Q I g => sE i (Eg b call73 ((Cz lB) a (.slice u a.Kids.length y) k G _ _ (c.mono kL.mono b.kN) (z.mono b.kN) I) (fun M b => V (li (cB i) rfl) ?_))))
  obtain rfl := sj g
  exact t _ _ ⟨_, (b.kG (Db St)), rfl, rfl⟩
 refine un i (un i (un i (V (lj (cB i) rfl) ?_)))
 obtain rfl := sj g
 exact t _ _ ⟨_, (b.kG (Db St)), rfl, rfl⟩
theorem BV (K : Nat) (a : Value) (G : List (kC × (List (ByteArray × Bool)))) (c : Value) (t : List kE) (j : Value) (D : List (kC × (List kE))) (g : Value) (u : List (ByteArray × (List kE))) (i : Value) (B : List kZ) (J : Int) (I : kC) (a2 : ByteArray) (r : Bool) (w : World) (H : sI (fun (x : kC) => (.agg (kQ x).toArray)) (nf Value.string (fun (x : Bool) => (Value.bool x))) (hp w) a G) (T : Sl (Pl kK) 9 (hp w) c t) (Z : sI (fun (x : kC) => (.agg (kQ x).toArray)) (lA 52 kK 9) (hp w) j D) (U : sI Value.string (lA 52 kK 9) (hp w) g u) (Y : Sl (Pl lV) 3 (hp w) i B) (Q : At (hp w) (.pointer (some ⟨K, 0, none⟩)) [a, c, j, g, i, (.int .i64 J)]) (hm : uL G t D u B J I a2 = some r) :
  lD true Tryz.prog 64 [(.pointer (some ⟨K, 0, none⟩)), (.agg (kQ I).toArray), (.string a2)] w (.bool r) := by
 refine cG 19 func64 rfl (fun l => sg (VE (lJ l rfl (fun W2 q l => Wa (ln (kY ?_))))))
 replace l := l.drew
 have d := l.has.kG (Kb Sn)
 refine mj d lQ (X 0 rfl d (kR rfl) (X 1 rfl d (D6 underlying132 rfl rfl) (X 2 rfl d (kR rfl) (Xg 3 rfl rfl rfl d (kR rfl) (Xg 4 rfl rfl rfl d (ny rfl) (rT 5 rfl kr (.inr ⟨2, true, 9, rfl, rfl, by decide, rfl⟩) rfl dc (fun _ _ h => h) d (zn [a] xU rfl Q rfl) (fun p a3 => rM 6 rfl rfl rfl d (fun _ m => kI rfl (tS m (y := a) a3 jw)) (rM 7 rfl rfl rfl d (fun _ m => kI rfl (kM m Mh (kQ I) rfl bG aR)) ?_))))))))
 obtain ⟨a4, a5, M, N⟩ := H
 refine rM 8 rfl rfl rfl d (fun _ m => qc (k := I) (z := (.map none)) Bd fR gO rfl rfl M (fun b o n => m.1 b o (N b o n))) (Xg 9 rfl rfl rfl d (kR rfl) (rM 10 rfl rfl rfl d (fun _ m => AK (k := a2) (z := false) (vf := (fun (x : Bool) => (Value.bool x))) Hj gU kj rfl rfl ((nV.DX lx.1 M I N).mono (fun b o n => m.1 b o n))) (X 11 rfl d (li rfl rfl) (X 12 rfl d (om rfl) (ms kr (kT ?_))))))
 exact lC (rQ hm l)
theorem Hp (N : kC) (Q D : Nat) (t : Value) (B : List (kC × (List (ByteArray × Bool)))) (a : Value) (j : List kE) (i : Value) (z : List (kC × (List kE))) (c : Value) (k : List (ByteArray × (List kE))) (g : Value) (u : List kZ) (I : Int) (T : Nat) (Y : ByteArray) (r : Bool) (w : World) (M : sI (fun (x : kC) => (.agg (kQ x).toArray)) (nf Value.string (fun (x : Bool) => (Value.bool x))) (hp w) t B) (G : Sl (Pl kK) 9 (hp w) a j) (K : sI (fun (x : kC) => (.agg (kQ x).toArray)) (lA 52 kK 9) (hp w) i z) (H : sI Value.string (lA 52 kK 9) (hp w) c k) (J : Sl (Pl lV) 3 (hp w) g u) (U : At (hp w) (.pointer (some ⟨D, 0, none⟩)) [t, a, i, c, g, (.int .i64 I)]) (Z : At (hp w) (.pointer (some ⟨Q, 0, none⟩)) [(.pointer (some ⟨D, 0, none⟩))]) (d : At (hp w) (.pointer (some ⟨T, 0, none⟩)) [(.string Y)]) (hm : qR N B j z k u I Y = some r) :
  lD true Tryz.prog 110 [(.agg (kQ N).toArray), (.pointer (some ⟨Q, 0, none⟩)), (.pointer (some ⟨T, 0, none⟩))] w (.bool r) := by
 refine cG 9 func110 rfl (fun b => sg (VE (lJ b rfl (fun W2 h b => Wa (lr (V (kI rfl (tS b.has (y := (.pointer (some ⟨D, 0, none⟩))) Z isAgg132)) (VA b Mh (kQ N) bG aR (V (kI rfl (tS b.has (y := (.string Y)) d bV)) (bS hm fun l a2 hm => VE (Eg b call64 (BV D t B a j i z c k g u I N Y _ _ (M.mono b.kN) (G.mono (Pl.mono _) b.kN) (K.mono b.kN) (H.mono b.kN) (J.mono (Pl.mono _) b.kN) (U.mono b.kN) a2) (fun W5 b => Wa ?_)))))))))))
 refine ln ?_
 exact lC (rQ hm b)
theorem Er (g : Value) (i r : List kE) (w : World) (a : Sl (Pl kK) 9 (hp w) g i) (hm : sK i = some r) :
  nC true Tryz.prog 61 [g] w 52 kK 9 r := by
 unfold sK at hm
 refine xg 8 func61 rfl (fun b => sg (Wa (lS (Wm ?_))))
 obtain ⟨y, B, rfl⟩ := a.form
 refine V (AM aT rfl rfl) (ln ?_)
 rcases y with _ | z
 ·have u := a.isNil
  replace hm : some [] = some r := by rw [u] at hm; simpa [nJ, maxLen] using hm
  refine vm (rfl) (sg (Wa (lt (lL ?_))))
  obtain rfl := sj hm
  exact mI (v := (.slice none 0 0)) rfl rfl ⟨_, [], rfl, b.pn (fun p d => by cases d) (by simp), lA.nil _ _ _⟩
 ·refine rN (rfl) (kg (VE (lE (cs := #[]) b ri (Aq [] aT aO cW dc rfl (by simp) rfl rfl) (fun G k b => Wm (bS hm fun H t hm => VE (oW (enc := kK) (v := (.slice (some ⟨k, 0, none⟩) 0 0)) (vs := (.slice (some z) i.length B)) (R := [(k, Ob #[] 52)]) b mE dc oP aT pb.1 pb.2.1 rfl pb.2.2.1 pb.2.2.2 rfl rfl (lA.lit (l := []) (enc := kK) rfl dc rfl rfl) (a.mono (Pl.mono _) b.kN) t (fun D x j b c => Wa (lt ?_))))))))
  obtain rfl := sj hm
  exact mI (v := x) rfl rfl ⟨_, j, rfl, b.pn (fun p d => (Ml d)) c.nd, c⟩
theorem Cc (g : Value) (t : List kE) (j : Value) (B : kE → Option Bool) (r : Int) (w : World) (c : Sl (Pl kK) 9 (hp w) g t) (D : A4 Tryz.prog j (hp w) (fun (x : kE) => [(.agg (kK x).toArray)]) (fun (r : Bool) => (.bool r)) B) (hm : vc t B = some r) :
  lD false Tryz.prog 145 [g, j] w (.int .i64 r) := by
 refine cG 19 func145 rfl (fun b => sg (Wa (lS (Wm (V (mi aT rfl c) (Wm (ln (mf (fun i E W => ∃ k, (E 8 = .int .i64 (i : Nat) ∧ E 7 = .int .i64 (t.length : Nat)) ∧ ST false lT w W (hp w) k ∧ E 0 = g ∧ E 1 = j ∧ pF B (t.drop i) i = some r) t.length c.len ⟨_, ⟨rfl, rfl⟩, (b.kG St), rfl, rfl, hm⟩ dc dc dc (fun _ _ _ h => by obtain ⟨_, l, _⟩ := h; exact l) ?_ ?_))))))))
 ·rintro Q E W H ⟨k, ⟨d, m⟩, b, u, y, a⟩
  obtain ⟨z, T, M, K, N⟩ := lX H
  rw [M] at a
  refine bg (Wh d (Wa (lr (Wh y (Wh u (Wm (VQ (oF (enc := kK) (i := (Q : Int)) (x0 := z) aT aO rfl rfl c (aH _) K) (fun Y I => V (kI rfl (lz b.has I bW aO)) (bS a fun Z J a => ?_)))))))))
  refine VE (Pw z b D (lm.refl _) rfl (wy rfl) J (fun U b => ln (CI a rfl (fun G a => ?_) (fun G a => ?_))))
  ·refine sg (Wm (Wa (lt (nD (lL (nD (lL ?_)))))))
   obtain rfl := sj a
   exact rP b
  exact mr (lK (kT ⟨d, _, ⟨rfl, m⟩, (b.kG St), u, y, (by rw [N]; exact a)⟩))
 rintro E W ⟨k, ⟨d, m⟩, b, u, y, a⟩
 rw [aI] at a
 exact kT (sg (Wa (lt (rQ a b))))
theorem B4 (j : Value) (a0 : List kE) (t : LO) (H : Value) (f1 : kE → Option Bool) (r : List kE) (w : World) {μ0 : lO} (h0 : ox μ0 (t ++ []) w) (T : lA 52 kK 9 j a0 t) (a4 : A4 Tryz.prog H μ0 (fun (x : kE) => [(.agg (kK x).toArray)]) (fun (r : Bool) => (.bool r)) f1) (hm : rX a0 f1 = some r) :
  mY false Tryz.prog 111 [j, H] w (t ++ []) (fun v L1 W' => ∃ q S2, v = q ∧ L1 = (S2 ++ []) ∧ lA 52 kK 9 q r S2) := by
 refine BL h0 42 func111 rfl (fun d => sg (Wa (lr (Wm (Wm (bS hm fun n d3 hm => VE (Eg d call145 (Cc j a0 H f1 _ _ (T.sl mE (fun b o h => d.at_ (Ml h))) (a4.mono d.kN) d3) (fun W3 d => Wa (ln ?_)))))))))
 refine kY (sg (Wm (Wi rfl (ln (CI hm rfl (fun d2 hm => ?_) (fun d2 hm => ?_))))))
 ·refine sg (Wm (Wa (lt (lL ?_))))
  obtain rfl := sj hm
  exact mI (v := j) rfl rfl ⟨_, _, rfl, (d.mW (Kr Sn)), j, t, rfl, rfl, T⟩
 refine kS (Wm (Wi rfl (Wa (ln (mB (nS (fun m E W => ∃ U I B D a2, ST false (keys (t ++ [])) w W μ0 (I ++ a2) ∧ E 0 = j ∧ E 1 = H ∧ E 5 = (.int .i64 B) ∧ E 6 = (.int .i64 D) ∧ lA 52 kK 9 j U I ∧ oL f1 m U B D = some r) lB ⟨a0, t, n, (IntKind.i64.wrap (n + 1)), _, (d.kG St), rfl, rfl, rfl, rfl, T, hm⟩ ?_))))))
 rintro m E W ⟨U, I, B, D, a2, d, y, Q, G, K, g, a⟩
 cases m with
 | zero => rw [oL] at a; cases a
 | succ c8 =>
  refine kY (sg (Wh K (Wh y (V (po aT rfl g) (Wi rfl (ln (CI a rfl (fun A a => ?_) (fun A a => ?_))))))))
  ·refine kn (kY (CJ a (fun Y E W => ∃ J a3, ST false (keys (t ++ [])) w W μ0 (J ++ a3) ∧ E 0 = j ∧ E 1 = H ∧ E 5 = (.int .i64 Y.2) ∧ E 6 = (.int .i64 D) ∧ lA 52 kK 9 j Y.1 J) (fun Y c => ?_) ?_))
   ·refine bg (Wh y (Wh K (bS c fun k M c => VQ (pS (i := D) (x0 := k) aT aO rfl rfl g (lN M) (lM M)) (fun e4 O => V (kI rfl (vC d.has (fun p h => (Ml h)) g mE O (lM M) bW aO)) (VE (lG d cW (fun d7 e2 d => VO (lf (.agg (kK k).toArray) ((kK k).toArray) d rfl rfl aO (oP k) nb rfl (fun d8 d => lr (Wh Q ?_))))))))))
    refine VA d Mh (kK k) bW aO (bS c fun e6 R c => VE (Pw k d a4 (lm.refl _) rfl (wy rfl) R (fun d9 d => V (ot rfl) (ln (CI c rfl (fun F c => ?_) (fun F c => ?_))))))
    ·refine sg (Wh y (Wh G (VA d Mh (kK k) bW aO (bS c fun d0 N c => VQ (pS (i := B) (x0 := d0) aT aO rfl rfl g (lN N) (lM N)) (fun e5 P => ?_)))))
     replace d := d.perm (Nr (Qb Qz) Nz)
     refine VO (DA (u := (.agg (kK k).toArray)) (x1 := k)  d g mE oP rfl rfl rfl P (lM N) aO (fun e0 c1 d s => ln ?_))
     replace d := d.kG (Kr (Db St))
     refine kV (Wh G (Wi rfl (Wa (lH (lK (kT ?_))))))
     obtain rfl := sj c
     exact ⟨c1, _, (d.kG St), y, Q, rfl, K, s⟩
    refine mr (lK (kT ?_))
    obtain rfl := sj c
    exact ⟨I, _, (d.kG (Db St)), y, Q, G, K, g⟩
   rintro ⟨c7, c9⟩ E W ⟨J, a3, d, c3, c4, c5, c6, b6⟩ L
   exact kV (Wh c6 (Wi rfl (Wa (ln ⟨c8, bB _, c7, J, c9, (IntKind.i64.wrap (D + 1)), _, (d.kG St), c3, c4, c5, rfl, b6, L⟩))))
  refine nM (nB (nB (qe (kT (sg (Wh y (Wh G (bS a fun _ Z a => VQ (Az (i := B) aT aO rfl rfl g (vy Z) (vq Z)) (fun e7 b7 => VO (CZ (z := K9)  d g mE oP aT cW b7 rfl rfl (fun e1 c2 d a9 => lr (Wh y ?_))))))))))))
  refine Wh G (bS a fun _ l a => VQ (EL (i := B) aT aO rfl rfl a9 mE (vy l) (vq l)) (fun a5 b9 => Wa (lt ?_)))
  obtain rfl := sj a
  exact mI (v := a5) rfl rfl ⟨_, _, rfl, (d.mW (Kr Sn)), a5, c2, rfl, rfl, b9⟩
theorem I5 (a : kE) (r : Bool) (w : World) (hm : yN a = some r) :
  lD true Tryz.prog 112 [(.agg (kK a).toArray)] w (.bool r) := by
 refine cG 6 func112 rfl (fun b => sg (VE (lJ b rfl (fun g j b => Wa (lr (VA b Mh (kK a) bW aO (bS hm fun k c hm => VE (Eg b call113 (zU a _ _  c) (fun i b => V (ot rfl) (Wa (lH ?_)))))))))))
 refine kT ?_
 exact lC (rQ hm b)
theorem M9 (c : Value) (k : List kE) (a : LO) (g : Value) (t : (kE × kE) → Option Int) (r : List kE) (w : World) {y : lO} (u : ox y (a ++ []) w) (i : lA 52 kK 9 c k a) (j : TE Tryz.prog g y (fun (x : (kE × kE)) => [(.agg (kK x.1).toArray), (.agg (kK x.2).toArray)]) (fun (r : Int) => (.int .i64 r)) t) (hm : AF t k = some r) :
  mY true Tryz.prog 114 [c, g] w (a ++ []) (fun v z W' => ∃ S, v = (.tuple #[]) ∧ z = (S ++ []) ∧ lA 52 kK 9 c r S) := Lh (P := Tryz.prog) (ρ := NF) Rq 9 bW aO kK mE oP u.H u.S i j hm
theorem Fl (c : kE) (r : List Int) (w : World) (hm : xF c = some r) :
  nC true Tryz.prog 119 [(.agg (kK c).toArray)] w 5 (mK .u8) 1 r := by
 refine xg 53 func119 rfl (fun d => sg (VE (lJ d rfl (fun W2 b1 d => Wa (lS (VA d Mh (kK c) bW aO (bS hm fun r3 g3 hm => VE (Eg d call113 (zU c _ _  g3) (fun W5 d => V (ot rfl) (lH ?_))))))))))
 refine kT (CI hm rfl (fun g0 hm => ?_) (fun g0 hm => ?_))
 ·refine sg (Wa (ln ?_))
  replace d := d.kG (Db St)
  refine lC (lL ?_)
  obtain rfl := sj hm
  exact mI (v := (.slice none 0 0)) rfl rfl ⟨_, [], rfl, d.pn (fun p m => by cases m) (by simp), lA.nil _ _ _⟩
 refine kg (V (mH (v := (.agg #[(.slice none 0 0)])) ri (ml zeroValue239 iM (PU _ iM) kr)) (VE (lJ d rfl (fun W8 g d => Wa (lr (Wm (Wf rD (VB d (Mt Mh) rfl rfl cD (bS hm fun r9 e2 hm => ?_)))))))))
 refine VE (eM d (Cb Pz (C0 Cn)) call181 (fun l _ => (sJ g (.slice none 0 0) ([]) [] c.Kind _ _ l (lA.nil _ _ _) e2)) ?_)
 rintro _ k3 k5 j9 d g7 P h ⟨g4, f9, I, rfl, e4⟩
 obtain rfl := I.symm
 replace d := d.perm (Tb (Tr Tn))
 refine lr (Wm (Wf rE (VA d (Mt (Ma Mh)) (kQ c.Head) bG aR (bS hm fun N e3 hm => ?_))))
 refine VE (eM d (Cb Pz (Cr Qz Cn)) call182 (fun l _ => (vY g g4 r9.2 f9 c.Head _ _ l e4 e3)) ?_)
 rintro _ k4 d1 k0 d g8 R h ⟨G, D, J, rfl, i⟩
 obtain rfl := J.symm
 replace d := d.perm (Tb (Tr Tn))
 refine ln (kY (CJ hm (fun a3 E W => ∃ B H K Q, lm d1 K ∧ ST true lT w W K ((g, Ob #[B] 239) :: (H ++ Q)) ∧ E 3 = (.pointer (some ⟨g, 0, none⟩)) ∧ lA 5 (mK .u8) 1 B a3 H) (fun a3 a => ?_) ?_))
 ·refine sg (Wf rD (VB d (Mt (Ma Mh)) rfl rfl cD (ln (bg (Wi rfl (Wa (ln (CI a rfl (fun b0 a => ?_) (fun b0 a => ?_)))))))))
  ·refine kV (Wm (Wf xD (VB d (Mt (Ma Mh)) rfl rfl bV (bS a fun i3 b6 a => ?_))))
   refine VE (eM d (Cb Pz (Cr Qz Cn)) call183 (fun l _ => (zx g G N.2 D c.lZ _ _ l i b6)) ?_)
   rintro _ i8 f5 g9 d T q h ⟨e9, d3, k, rfl, c5⟩
   obtain rfl := k.symm
   replace d := d.perm (Tb (Tr Tn))
   refine lH (lK (kT ?_))
   obtain rfl := sj a
   exact ⟨e9, d3, f5, _, T, (d.kG (Kb (Kr (Db St)))), rfl, c5⟩
  refine sg (Wi rfl (Wa (ln (CI a rfl (fun b2 a => ?_) (fun b2 a => ?_)))))
  ·refine kV (Wm (Wf oN (VA d (Mt (Ma Mh)) (kQ c.B) bG aR (bS a fun i4 b9 a => ?_))))
   refine VE (eM d (Cb Pz (Cr Qz Cn)) call182 (fun l _ => (vY g G N.2 D c.B _ _ l i b9)) ?_)
   rintro _ i9 f6 h0 d U s h ⟨f0, d4, t, rfl, c6⟩
   obtain rfl := t.symm
   replace d := d.perm (Tb (Tr Tn))
   refine lH (lK (kT ?_))
   obtain rfl := sj a
   exact ⟨f0, d4, f6, _, U, (d.kG (Kb (Kr (Db St)))), rfl, c6⟩
  refine sg (Wi rfl (Wa (ln (CI a rfl (fun b3 a => ?_) (fun b3 a => ?_)))))
  ·refine sg (Wm (Wf oN (VA d (Mt (Ma Mh)) (kQ c.B) bG aR (bS a fun e6 c0 a => ?_))))
   refine VE (eM d (Cb Pz (Cr Qz Cn)) call182 (fun l _ => (vY g G N.2 D c.B _ _ l i c0)) ?_)
   rintro _ j0 j7 h1 d Y A h ⟨f1, d5, u, rfl, c7⟩
   obtain rfl := u.symm
   replace d := d.perm (Tb (Tr Tn))
   refine ln (kV (Wm (Wf vv (VB d (Mt (Ma Mh)) rfl rfl bV (bS a fun i5 c1 a => ?_)))))
   refine VE (eM d (Cb Pz (Cr Qz Cn)) call183 (fun l _ => (zx g f1 e6.2 d5 c.mc _ _ l c7 c1)) ?_)
   rintro _ j3 f7 h2 d Z F h ⟨f2, d6, x, rfl, c8⟩
   obtain rfl := x.symm
   replace d := d.perm (Tb (Tr Tn))
   refine lH (lK (kT ?_))
   obtain rfl := sj a
   exact ⟨f2, d6, f7, _, (Y.trans Z), (d.kG (Kb (Kr (Db St)))), rfl, c8⟩
  refine sg (Wi rfl (Wa (ln (CI a rfl (fun b4 a => ?_) (fun b4 a => ?_)))))
  ·refine sg (Wm (Wf oN (VA d (Mt (Ma Mh)) (kQ c.B) bG aR (bS a fun e7 c2 a => ?_))))
   refine VE (eM d (Cb Pz (Cr Qz Cn)) call182 (fun l _ => (vY g G N.2 D c.B _ _ l i c2)) ?_)
   rintro _ j4 j8 h3 d a1 L h ⟨f3, d7, y, rfl, c9⟩
   obtain rfl := y.symm
   replace d := d.perm (Tb (Tr Tn))
   refine ln (kV (Wm (Wf tq (VA d (Mt (Ma Mh)) (kQ c.C) bG aR (bS a fun i6 c3 a => ?_)))))
   refine VE (eM d (Cb Pz (Cr Qz Cn)) call182 (fun l _ => (vY g f3 e7.2 d7 c.C _ _ l c9 c3)) ?_)
   rintro _ j5 f8 h4 d a2 O h ⟨f4, d8, z, rfl, d0⟩
   obtain rfl := z.symm
   replace d := d.perm (Tb (Tr Tn))
   refine lH (lK (kT ?_))
   obtain rfl := sj a
   exact ⟨f4, d8, f8, _, (a1.trans a2), (d.kG (Kb (Kr (Db St)))), rfl, d0⟩
  refine mr (lK (kT ?_))
  obtain rfl := sj a
  exact ⟨G, D, d1, _, (lm.refl _), (d.kG (Kb (Kr (Db St)))), rfl, i⟩
 rintro e5 E W ⟨B, H, K, Q, g1, d, d9, c4⟩ j
 refine sg (Wh d9 (bS j fun i2 b5 j => VE (vK d call184 (BO g B e5 _ _ (c4.sl (fun _ => rfl) (fun b o m => d.at_ (Mt (Ml m)))) (At.of (d.at_ Mh) _ rfl) b5) (fun h5 e8 j6 d2 d g2 n M => Wa (ln ?_)))))
 replace d := d.kG (Kr (Db (Dr St)))
 refine lC ?_
 obtain rfl := sj j
 exact mI (v := e8) rfl rfl ⟨_, d2, rfl, d.pn (fun p m => (Ml m)) M.nd, M⟩
theorem HZ (g i : kE) (r : Int) (w : World) (hm : uC g i = some r) :
  lD true Tryz.prog 115 [(.agg (kK g).toArray), (.agg (kK i).toArray)] w (.int .i64 r) := by
 refine cG 10 func115 rfl (fun d => sg (VE (lJ d rfl (fun T Y d => VE (lJ d rfl (fun U Z d => Wa (ln (kY ?_))))))))
 replace d := d.drew
 have h := d.has.kG (Kb (Kb Sn))
 refine mj h lQ (XH 0 rfl h (fun _ l => kI rfl (kM l (Mt Mh) (kK g) rfl bW aO)) (XH 2 rfl h (fun _ l => kI rfl (kM l Mh (kK i) rfl bW aO)) (bS hm fun y t hm => XE 1 rfl (vK d call119 (Fl g _ _  t) (fun I B N G d a n j => ?_)))))
 have h := d.has.qI a (Dr (Kb (Kb Sn)))
 refine ⟨h, (bS hm fun z u hm => XE 3 rfl (vK d call119 (Fl i _ _  u) (fun J D Q H d c p k => ?_)))⟩
 have h := d.has.qI (a.trans c) (Dr (Dr (Kb (Kb Sn))))
 refine ⟨h, (bS hm fun M x hm => XE 4 rfl (Eg d call178 (Ck B y D z _ _ (j.sl (fun _ => rfl) (fun b o m => d.at_ (Ma (Ml m)))) (k.sl (fun _ => rfl) (fun b o m => d.at_ (Ml m))) x) (fun K d => ?_)))⟩
 have h := d.has.qI (a.trans c) (Dr (Dr (Kb (Kb Sn))))
 refine ⟨h, (X 5 rfl h (om rfl) (ms kr (kT ?_)))⟩
 exact lC (rQ hm d)
theorem Dx (j : Value) (a0 : List kE) (x : LO) (r : List kE) (w : World) {μ0 : lO} (h0 : ox μ0 (x ++ []) w) (B : lA 52 kK 9 j a0 x) (hm : tM a0 = some r) :
  mY true Tryz.prog 116 [j] w (x ++ []) (fun v L1 W' => ∃ y1 S2, v = y1 ∧ L1 = (S2 ++ []) ∧ lA 52 kK 9 y1 r S2) := by
 refine BL h0 61 func116 rfl (fun b => sg (Wa (lS (Wm (V (po aT rfl B) (Wi rfl (ln (CI hm rfl (fun g0 hm => ?_) (fun g0 hm => ?_)))))))))
 ·refine sg (Wm (Wa (lt (lL ?_))))
  obtain rfl := sj hm
  exact mI (v := j) rfl rfl ⟨_, _, rfl, (b.mW (Kr Sn)), j, x, rfl, rfl, B⟩
 refine kS (Wa (ln (mB (nS (fun m E W => ∃ t R, ST true (keys (x ++ [])) w W μ0 (x ++ R) ∧ E 0 = j ∧ E 3 = (.int .i64 t) ∧ pq a0 m t = some r) lB ⟨1, _, (b.kG St), rfl, rfl, hm⟩ ?_))))
 rintro m E W ⟨t, R, b, D, H, a⟩
 cases m with
 | zero => rw [pq] at a; cases a
 | succ f5 =>
  refine kY (sg (Wh H (Wh D (V (po aT rfl B) (Wi rfl (ln (CI a rfl (fun d0 a => ?_) (fun d0 a => ?_))))))))
  ·refine kn (kY (mB (kY ?_)))
   replace b := b.drew
   have d := b.has.kG (Kr Sn)
   refine mj d lQ (X 0 rfl d (kR D) (X 1 rfl d (kR H) (bS a fun c3 Z a => XQ 2 rfl d (pS (i := t) (x0 := c3) aT aO rfl rfl B (lN Z) (lM Z)) (fun g7 d6 => XH 3 rfl d (fun _ l => kI rfl (vC l (fun p h => (Ml h)) B mE d6 (lM Z) bW aO)) (X 4 rfl d (kR D) (X 5 rfl d (kR H) (X 6 rfl d (lR rfl rfl rfl) (bS a fun c4 n a => XQ 7 rfl d (pS (i := (IntKind.i64.wrap (t - 1))) (x0 := c4) aT aO rfl rfl B (lN n) (lM n)) (fun g8 d7 => XH 8 rfl d (fun _ l => kI rfl (vC l (fun p h => (Ml h)) B mE d7 (lM n) bW aO)) (X 9 rfl d (uU rfl rfl (ob fJ) (qW (vI _ c3 c4))) (ms kr (kT ?_))))))))))))
   refine CI a rfl (fun d1 a => ?_) (fun d1 a => ?_)
   ·refine sg (Wh D (Wh H (bS a fun _ F a => VQ (Az (i := t) aT aO rfl rfl B (vy F) (vq F)) (fun c1 M => Wa (lS (Wa (ln ?_)))))))
    refine CJ a (fun U E W => ∃ q b5, ST true (keys (x ++ [])) w W μ0 (q ++ b5) ∧ E 0 = j ∧ E 3 = (.int .i64 U.2) ∧ lA 52 kK 9 j U.1 q) (fun U d4 => ?_) ?_
    ·refine mB (nS (fun m E W => ∃ s K Y y b6, ST true (keys (x ++ [])) w W μ0 (K ++ b6) ∧ E 0 = j ∧ E 3 = (.int .i64 Y) ∧ E 4 = c1 ∧ E 5 = (.int .i64 y) ∧ lA 52 kK 9 j s K ∧ pj t m s Y y = some U) lB ⟨a0, x, t, 1, _, (b.kG St), D, H, rfl, rfl, B, d4⟩ ?_)
     rintro m E W ⟨s, K, Y, y, b6, b, Q, T, I, J, g, k⟩
     cases m with
     | zero => rw [pj] at k; cases k
     | succ f6 =>
      refine kY (sg (Wh J (Wh I (V (IG aT rfl M g) (Wi rfl (ln (CI k rfl (fun d2 k => ?_) (fun d2 k => ?_))))))))
      ·refine kn (kY (CJ k (fun A E W => ∃ N b7, ST true (keys (x ++ [])) w W μ0 (N ++ b7) ∧ E 0 = j ∧ E 3 = (.int .i64 A.2) ∧ E 4 = c1 ∧ E 5 = (.int .i64 y) ∧ lA 52 kK 9 j A.1 N) (fun A c => ?_) ?_))
       ·refine mB (kY ?_)
        replace b := b.drew
        have d := b.has.kG (Kr Sn)
        refine mj d lQ (X 0 rfl d (kR I) (X 1 rfl d (kR J) (bS c fun c6 a2 c => XQ 2 rfl d (AJ (i := y) (x0 := c6) aT aO rfl rfl g M (lN a2) (lM a2)) (fun g9 d8 => XH 3 rfl d (fun _ l => kI rfl (vC l (fun p h => (Ml h)) g mE d8 (B0 (lM a2)) bW aO)) (X 4 rfl d (kR I) (X 5 rfl d (kR J) (X 6 rfl d (lR rfl rfl rfl) (bS c fun c7 a3 c => XQ 7 rfl d (AJ (i := (IntKind.i64.wrap (y - 1))) (x0 := c7) aT aO rfl rfl g M (lN a3) (lM a3)) (fun h1 d9 => XH 8 rfl d (fun _ l => kI rfl (vC l (fun p h => (Ml h)) g mE d9 (B0 (lM a3)) bW aO)) (X 9 rfl d (FG rfl rfl (ob fJ) (Bx (vI _ c6 c7))) (ms kr (kT ?_))))))))))))
        refine CI c rfl (fun d3 c => ?_) (fun d3 c => ?_)
        ·refine sg (Wh Q (Wh T (Wh I (Wh J (bS c fun a9 a4 c => VQ (AJ (i := y) (x0 := a9) aT aO rfl rfl g M (lN a4) (lM a4)) (fun h2 e0 => V (kI rfl (vC b.has (fun p h => (Ml h)) g mE e0 (B0 (lM a4)) bW aO)) (bS c fun f8 a5 c => VQ (pS (i := Y) (x0 := f8) aT aO rfl rfl g (lN a5) (lM a5)) (fun h3 e1 => VO (DA (u := (.agg (kK a9).toArray)) (x1 := a9)  b g mE oP rfl rfl rfl e1 (lM a5) aO (fun g3 e8 b c9 => ln (kV ?_)))))))))))
         refine Wh T (Wi rfl (Wa (lH (lK (kT ?_)))))
         obtain rfl := sj c
         exact ⟨e8, _, (b.kG St), Q, rfl, I, J, c9⟩
        refine mr (lK (kT ?_))
        obtain rfl := sj c
        exact ⟨K, _, (b.kG St), Q, T, I, J, g⟩
       rintro ⟨f4, f7⟩ E W ⟨N, b7, b, f0, f1, f2, f3, e4⟩ d5
       exact kV (Wh f3 (Wi rfl (Wa (ln ⟨f6, bB _, f4, N, f7, (IntKind.i64.wrap (y + 1)), _, (b.kG St), f0, f1, f2, rfl, e4, d5⟩))))
      refine nM (nB (nB (qe (kT ?_))))
      obtain rfl := sj k
      exact ⟨K, _, (b.kG St), Q, T, g⟩
    rintro ⟨g4, c5⟩ E W ⟨q, b5, b, b9, c0, P⟩ G
    refine sg (Wh b9 (Wh c0 (bS G fun _ L G => VQ (Az (i := c5) aT aO rfl rfl P (vy L) (vq L)) (fun h4 e2 => VO (CZ (z := K9)  b P mE oP aT cW e2 rfl rfl (fun g2 e7 b c8 => lr (Wh b9 (Wh c0 (bS G fun _ O G => VQ (EL (i := c5) aT aO rfl rfl c8 mE (vy O) (vq O)) (fun c2 e3 => ?_))))))))))
    refine Wa (lt (nD (lL (lL (nD (lL ?_))))))
    obtain rfl := sj G
    exact mI (v := c2) rfl rfl ⟨_, _, rfl, (b.mW (Kr Sn)), c2, e7, rfl, rfl, e3⟩
   exact mr (lK (kT (kV (Wh H (Wi rfl (Wa (ln ⟨f5, bB _, (IntKind.i64.wrap (t + 1)), _, (b.kG St), D, rfl, a⟩)))))))
  refine nM (nB (nB (qe (kT (sg (Wh D (Wa (lt ?_))))))))
  obtain rfl := sj a
  exact mI (v := j) rfl rfl ⟨_, _, rfl, (b.mW (Kr Sn)), j, x, rfl, rfl, B⟩
theorem MH (i : Value) (t r : List kE) (w : World) (B : Sl (Pl kK) 9 (hp w) i t) (hm : zI t = some r) :
  nC false Tryz.prog 52 [i] w 52 kK 9 r := by
 refine xg 11 func52 rfl (fun b => sg (Wa (lr (Wm (bS hm fun y T hm => VE (vK b call61 (nC.mP (Er i t _ _ (B.mono (Pl.mono _) b.kN) T)) (fun W3 v7 z R8 b a5 q Q => bS hm fun U D hm => ?_)))))))
 refine VE (eM b (Cr Qz Cn) call111 (fun h _ => (B4 v7 y R8 (.func (.func 112) #[] #[]) (fun (x : kE) => yN x) _ _ h Q ⟨112, #[], #[], rfl, call112, fun W x r u hm => (I5 x r W  hm).mP⟩ D)) ?_)
 rintro _ O b9 E b A l d ⟨k, K, a, rfl, I⟩
 obtain rfl := a.symm
 replace b := b.perm (Tr Tn)
 refine Wa (lr (Wm (bS hm fun Y G hm => ?_)))
 refine VE (eM b (Cr Qz Cn) call114 (fun h _ => mY.mP (M9 k U K (.func (.func 115) #[] #[]) (fun (x : (kE × kE)) => uC x.1 x.2) _ _ h I ⟨115, #[], rfl, call115, fun W x r u hm => HZ x.1 x.2 r W  hm⟩ G)) ?_)
 rintro _ P c0 a9 b a2 m d ⟨M, c, rfl, J⟩
 obtain rfl := c.symm
 replace b := b.perm (Tr Tn)
 refine lr (Wm (bS hm fun L H hm => ?_))
 refine VE (eM b (Cr Qz Cn) call116 (fun h _ => mY.mP (Dx k Y M _ _ h J H)) ?_)
 rintro _ R c1 F b a3 n d ⟨Z, N, g, rfl, j⟩
 obtain rfl := g.symm
 replace b := b.perm (Tr Tn)
 refine Wa (lt ?_)
 obtain rfl := sj hm
 exact mI (v := Z) rfl rfl ⟨_, N, rfl, b.pn (fun p s => (Ml s)) j.nd, j⟩
theorem EK (k : lI) (H K c1 : Value) (L : List kE) (a2 : ByteArray) (r : List kE) (w : World) (g : Sl kW 15 (hp w) H k.kO) (J : Sl lF 8 (hp w) K k.lg) (h5 : Sl (Pl kK) 9 (hp w) c1 L) (hm : tD k L a2 = some r) :
  nC false Tryz.prog 13 [(.agg #[(.string k.Name), H, K]), c1, (.string a2)] w 52 kK 9 r := by
 refine xg 47 func13 rfl (fun d => sg ?_)
 obtain ⟨A1, c2, rfl⟩ := g.form
 let c8 : Value := (.slice A1 k.kO.length c2)
 obtain ⟨A3, c4, rfl⟩ := J.form
 let O := (C4 k.Name A1 k.kO.length c2 A3 k.lg.length c4)
 refine VE (lJ d rfl (fun W6 A d => Wa (lr (Wm (Wm (bS hm fun B i5 hm => ?_))))))
 refine VE (He d (aX _) call51 (fun _ _ _ _ => (Km c1 L a2 _ _ (h5.mono (Pl.mono _) d.kN) i5)) (fun W9 l1 g4 l0 d a5 af ae h4 => ?_) (L0 := []))
 obtain ⟨N, q, e0, f9, e1, g0, e2, g1, e3, g2, e4, g3, Q, c0, rfl, h6, h7, h8, h9, i0⟩ := h4
 replace c0 := c0.symm; subst c0
 replace d := d.perm (Tb (Tb (Tb (Tr (Tr (Tr (Tr (Tr Tn))))))))
 refine Wa (lr (Wa (lS (Wf oS (VB d (Mt (Mt (Mt (Ma (Ma (Ma (Ma (Ma Mh)))))))) rfl rfl eX (V (mi bL rfl g) (Wm ?_)))))))
 refine ln (mf (fun i E W => ∃ D I G s P, (E 19 = .int .i64 (i : Nat) ∧ E 18 = .int .i64 (k.kO.length : Nat)) ∧ lm g4 s ∧ ST false lT w W s ((N, Ob #[(.pointer (some ⟨q, 0, none⟩))] 132) :: ((q, Ob #[e0, e1, e2, e3, e4, (.int .i64 B.2.2.2.2.2.1)] 189) :: ((Q, Ob #[(.string B.2.2.2.2.2.2)] 9) :: ((A, Ol O 25) :: (G ++ (f9 ++ (g0 ++ (g1 ++ (g2 ++ (g3 ++ P)))))))))) ∧ E 3 = (.pointer (some ⟨A, 0, none⟩)) ∧ E 7 = (.func (.func 110) #[] #[(.pointer (some ⟨N, 0, none⟩)), (.pointer (some ⟨Q, 0, none⟩))]) ∧ E 8 = D ∧ E 17 = c8 ∧ lA 52 kK 9 D I G ∧ rZ k B (k.kO.drop i) I = some r) k.kO.length g.len ⟨(.slice none 0 0), ([]), [], g4, _, ⟨rfl, rfl⟩, (lm.refl _), (d.kG (Kb (Kb (Kb (Sb (Pr (Pr (Pr (Pr (Pr Pz))))) St))))), rfl, rfl, rfl, rfl, (lA.nil _ _ _), hm⟩ dc dc dc (fun _ _ _ h => by obtain ⟨_, _, _, _, _, aa, _⟩ := h; exact aa) ?_ ?_)
 ·let b6 : Value := (.func (.func 110) #[] #[(.pointer (some ⟨N, 0, none⟩)), (.pointer (some ⟨Q, 0, none⟩))])
  rintro d8 E W f0 ⟨D, I, G, s, P, ⟨F, eN⟩, u, d, Y, Z, a3, a4, M, j⟩
  obtain ⟨a, i6, f8, f7, c6⟩ := lX f0
  rw [f8] at j
  refine bg (VQ (mT (i := (d8 : Int)) (x0 := a) kW.out bL cR a4 F (g.mono kX.mono (a5.trans u)) (aH _) f7) (fun k1 ⟨_, ⟨k4, k5, rfl, f5, f6⟩, f1⟩ => V (kI rfl (lz d.has f1 iU cR)) (VE (lG d eE (fun i9 d0 d => ?_)))))
  obtain ⟨b2, b7, rfl⟩ := f5.form
  obtain ⟨b3, b9, rfl⟩ := f6.form
  let a0 := (C3 a.Signed.kE.Kind a.Signed.kE.Head.kD a.Signed.kE.Head.kJ a.Signed.kE.lZ a.Signed.kE.B.kD a.Signed.kE.B.kJ a.Signed.kE.C.kD a.Signed.kE.C.kJ a.Signed.kE.mc b2 a.Signed.Tag.length b7 a.kH.Op a.kH.K a.kH.kC.kD a.kH.kC.kJ b3 a.kH.Kids.length b9)
  refine VO (lf (.agg a0.toArray) (a0.toArray) d rfl rfl cR oc nb rfl (fun j0 d => lr (V (kI Y (kM d.has (Mt (Mt (Mt (Mt Mh)))) O rfl eJ dJ)) (Wf wJ (Wf yw (VA d Mh (kK a.Signed.kE) bW aO (bS j fun c f2 j => ?_)))))))
  let e5 : Value := (.string (((c.1).kC).kJ))
  let d1 : Value := (.string (((c.1).kC).kD))
  refine VE (eD d (aX _) call23 (fun hh => (M0 k c8 (.slice A3 k.lg.length c4) a.Signed.kE _ _ hh (g.mono kX.mono (a5.trans u)) (J.mono ma.mono (a5.trans u)) f2)) ?_ (L0 := []))
  rintro _ k6 c3 i8 d a9 ab ⟨k8, a6, rfl, c7⟩
  obtain rfl := a6.symm
  refine Wm (Wx rfl (Wx rfl (VE (lG d aP (fun j4 k0 d => ?_)))))
  obtain ⟨T, U, rfl⟩ := c7.form
  let b8 : Value := (.slice T ((c.1).Kids).length U)
  refine VO (lf (.agg #[(.int .i64 ((c.1).Op)), (.int .i64 ((c.1).K)), d1, e5, b8]) (#[(.int .i64 ((c.1).Op)), (.int .i64 ((c.1).K)), d1, e5, b8]) d rfl rfl aC oc nb rfl (fun j5 d => Wa (lr (Wm (Wi rfl (Wm (LJ j (fun d9 E W => ∃ c9, ST false lT w W c3 ((d0, Ol a0 60) :: ((N, Ob #[(.pointer (some ⟨q, 0, none⟩))] 132) :: ((q, Ob #[e0, e1, e2, e3, e4, (.int .i64 B.2.2.2.2.2.1)] 189) :: ((Q, Ob #[(.string B.2.2.2.2.2.2)] 9) :: ((A, Ol O 25) :: (G ++ (f9 ++ (g0 ++ (g1 ++ (g2 ++ (g3 ++ c9))))))))))) ∧ E 3 = (.pointer (some ⟨A, 0, none⟩)) ∧ E 7 = b6 ∧ E 8 = D ∧ E 10 = (.pointer (some ⟨d0, 0, none⟩)) ∧ E 17 = c8 ∧ E 18 = (.int .i64 (k.kO.length : Int)) ∧ E 19 = (.int .i64 (d8 : Int)) ∧ E 37 = (.bool d9)) 4 ?_ (fun d9 z b0 => ?_))))))))
  ·rintro k7 E W ⟨c9, d, d2, d3, d4, h2, d5, d6, d7, h3⟩ y
   refine ln (CI y h3 (fun e8 y => ?_) (fun e8 y => ?_))
   ·refine kV (Wh d4 (V (kP wJ h2) (Wf yw (VA d Mh (kK a.Signed.kE) bW aO (VE (lE (cs := (kK a.Signed.kE).toArray) d (np rfl) (nq aT aO cW) (fun j6 h1 d => ?_)))))))
    replace d := d.perm (Nr (Qb (Qb (Qb (Qb (Qb (Qb Qz)))))) Nz)
    refine bS y fun i1 e9 y => VE (oW (enc := kK) (v := D) (vs := (.slice (some ⟨h1, 0, none⟩) 1 1)) (R := G) d mE dc oP aT pb.1 pb.2.1 rfl pb.2.2.1 pb.2.2.2 rfl rfl M (Sl.lit (enc := kK) (l := [a.Signed.kE]) mE rfl nb rfl (d.at_ (Ma Mh))) e9 (fun j7 i2 g7 d e7 => Wa (lH (lK (kT ?_)))))
    replace d := d.kG (Kr (Db (Db St)))
    exact ⟨d7, i2, i1, g7, c3, _, ⟨rfl, d6⟩, (u.trans a9), (d.kG (Sb (Pr Pz) (Sb (Pr Pz) (Sb (Pr Pz) (Sb (Pr Pz) St))))), d2, d3, rfl, d5, e7, (by rw [c6]; exact y)⟩
   refine mr (lK (kT ?_))
   replace d := d.kG (Db St)
   exact ⟨d7, D, I, G, c3, _, ⟨rfl, d6⟩, (u.trans a9), (d.kG St), d2, d3, d4, d5, M, (by rw [c6]; exact y)⟩
  refine bC z (fun t z => ?_) (fun t z => ?_)
  ·refine ug t (kI rfl (kM d.has Mh [(.int .i64 ((c.1).Op)), (.int .i64 ((c.1).K)), d1, e5, b8] rfl aK aC)) (ug t (kR Z) (bS z fun k2 f3 z => sE t (Eg d call24 (Df c.1 b8 b6 (fun (x : kC) => qR x B.1 B.2.1 B.2.2.1 B.2.2.2.1 B.2.2.2.2.1 B.2.2.2.2.2.1 B.2.2.2.2.2.2) _ _ (c7.mono kL.mono d.kN) ⟨110, #[], #[(.pointer (some ⟨N, 0, none⟩)), (.pointer (some ⟨Q, 0, none⟩))], rfl, call110, fun W x r n hm => (Hp x N q e0 B.1 e1 B.2.1 e2 B.2.2.1 e3 B.2.2.2.1 e4 B.2.2.2.2.1 B.2.2.2.2.2.1 Q B.2.2.2.2.2.2 r W (h6.at (fun b o m => n _ _ ((fun b o m => d.at_ (Mt (Mt (Mt (Mt (Mt (Mt (Ma (Ml m))))))))) b o m))) (h7.sl mE (fun b o m => n _ _ ((fun b o m => d.at_ (Mt (Mt (Mt (Mt (Mt (Mt (Ma (Ma (Ml m)))))))))) b o m))) (h8.at (fun b o m => n _ _ ((fun b o m => d.at_ (Mt (Mt (Mt (Mt (Mt (Mt (Ma (Ma (Ma (Ml m))))))))))) b o m))) (h9.at (fun b o m => n _ _ ((fun b o m => d.at_ (Mt (Mt (Mt (Mt (Mt (Mt (Ma (Ma (Ma (Ma (Ml m)))))))))))) b o m))) ((i0.Eh qU).mono (Pl.mono _) (nl (fun b o m => n _ _ ((fun b o m => d.at_ (Mt (Mt (Mt (Mt (Mt (Mt (Ma (Ma (Ma (Ma (Ma (Ml m))))))))))))) b o m)))) (At.of (n _ _ (d.at_ (Mt (Mt (Mt Mh))))) _ rfl) (At.of (n _ _ (d.at_ (Mt (Mt Mh)))) _ rfl) (At.of (n _ _ (d.at_ (Mt (Mt (Mt (Mt Mh)))))) _ rfl) hm).mP⟩ f3) (fun j8 d => V (li (cB t) rfl) ?_))))
   obtain rfl := sj z
   exact b0 _ _ ⟨_, (d.kG (Db St)), Y, Z, a3, rfl, a4, eN, F, rfl⟩
  refine un t (un t (un t (V (lj (cB t) rfl) ?_)))
  obtain rfl := sj z
  exact b0 _ _ ⟨_, (d.kG (Db St)), Y, Z, a3, rfl, a4, eN, F, rfl⟩
 rintro E W ⟨D, I, G, s, P, ⟨F, eN⟩, u, d, Y, Z, a3, a4, M, j⟩
 rw [aI] at j
 refine kT ?_
 replace d := d.kG (Db (Db (Db (Db (Kr (Dr (Dr (Dr (Dr (Dr St))))))))))
 refine sg (Wh a3 (bS j fun k3 f4 j => VE (vK d call52 (MH D I _ _ (M.sl mE (fun b o m => d.at_ (Ml m))) f4) (fun j9 i3 k9 g8 d i4 ad c5 => Wa (ln ?_)))))
 replace d := d.kG (Kr (Dr St))
 refine lC ?_
 obtain rfl := sj j
 exact mI (v := i3) rfl rfl ⟨_, g8, rfl, d.pn (fun p m => (Ml m)) c5.nd, c5⟩
theorem F6 (g : lI) (D K : Value) (i : lI) (G M : Value) (r : ((List kE) × (List kE) × Int)) (w : World) (x : Sl kW 15 (hp w) D g.kO) (I : Sl lF 8 (hp w) K g.lg) (y : Sl kW 15 (hp w) G i.kO) (J : Sl lF 8 (hp w) M i.lg) (hm : wS g i = some r) :
  mY false Tryz.prog 11 [(.agg #[(.string g.Name), D, K]), (.agg #[(.string i.Name), G, M])] w [] (fun v L1 W' => ∃ y1 S2 y4 S5, v = (.tuple #[y1, y4, (.int .i64 (r.2.2))]) ∧ L1 = (S2 ++ (S5 ++ [])) ∧ lA 52 kK 9 y1 r.1 S2 ∧ lA 52 kK 9 y4 r.2.1 S5) := by
 refine xg 41 func11 rfl (fun d => sg ?_)
 obtain ⟨A1, c2, rfl⟩ := x.form
 obtain ⟨A3, c4, rfl⟩ := I.form
 let q := (C4 g.Name A1 g.kO.length c2 A3 g.lg.length c4)
 refine VE (lJ d rfl (fun W6 p d => ?_))
 obtain ⟨A7, c8, rfl⟩ := y.form
 obtain ⟨A9, L, rfl⟩ := J.form
 let a0 := (C4 i.Name A7 i.kO.length c8 A9 i.lg.length L)
 refine VE (lJ d rfl (fun f8 n d => Wa (Wa (Wa (lr (Wa (Wa (lr (Wa ?_)))))))))
 refine ln (qt (mB (nS (fun m E W => ∃ t a4 N u a5 Q H a9 b9, lm (hp w) a9 ∧ ST false lT w W a9 ((n, Ol a0 25) :: ((p, Ol q 25) :: (Q ++ (N ++ b9)))) ∧ E 2 = (.pointer (some ⟨p, 0, none⟩)) ∧ E 3 = (.pointer (some ⟨n, 0, none⟩)) ∧ E 7 = t ∧ E 8 = u ∧ E 9 = (.int .i64 H) ∧ lA 52 kK 9 t a4 N ∧ lA 52 kK 9 u a5 Q ∧ qp g i m a4 a5 H = some r) lB ⟨(.slice none 0 0), ([]), [], (.slice none 0 0), ([]), [], 0, (hp w), _, (lm.refl _), (d.kG St), rfl, rfl, rfl, rfl, rfl, (lA.nil _ _ _), (lA.nil _ _ _), hm⟩ ?_)))
 rintro m E W ⟨t, a4, N, u, a5, Q, H, a9, b9, j, d, T, U, Y, Z, c9, a2, a3, c⟩
 cases m with
 | zero => rw [qp] at c; cases c
 | succ e6 =>
  refine kY (mB (kY ?_))
  replace d := d.drew
  have h := d.has.kG (Kb (Kb Sn))
  refine mj h lQ (XH 0 rfl h (fun _ l => kI T (kM l (Mt Mh) q rfl eJ dJ)) (X 1 rfl h (kR Z) (X 2 rfl h (kP zJ U) (XH 3 rfl h (fun _ l => kI rfl (lh l Mh rfl bV)) (XH 5 rfl h (fun _ l => kI U (kM l Mh a0 rfl eJ dJ)) (X 6 rfl h (kR Y) (X 7 rfl h (kP zJ T) (XH 8 rfl h (fun _ l => kI rfl (lh l (Mt Mh) rfl bV)) (bS c fun e7 d7 c => XE 4 rfl (vK d call13 (EK g (.slice A1 g.kO.length c2) (.slice A3 g.lg.length c4) u a5 i.Name _ _ (x.mono kX.mono (j.trans d.kN)) (I.mono ma.mono (j.trans d.kN)) (a3.sl mE (fun b o F => d.at_ (Mt (Mt (Ml F))))) d7) (fun f4 d2 f7 c1 d k s R => ?_)))))))))))
  have h := d.has.qI k (Dr (Kb (Kb Sn)))
  refine ⟨h, (bS c fun e8 d8 c => XE 9 rfl (vK d call13 (EK i (.slice A7 i.kO.length c8) (.slice A9 i.lg.length L) t a4 g.Name _ _ (y.mono kX.mono ((j.trans k).trans d.kN)) (J.mono ma.mono ((j.trans k).trans d.kN)) (a2.sl mE (fun b o F => d.at_ (Ma (Mt (Mt (Ma (Ml F))))))) d8) (fun f5 d3 d4 c3 d O A b2 => ?_)))⟩
  have h := d.has.qI (k.trans O) (Dr (Dr (Kb (Kb Sn))))
  refine ⟨h, (X 10 rfl h (om rfl) (X 11 rfl h (om rfl) (ms kr (kT (kY (sg (Wm (V (po aT rfl R) (Wh Y (V (po aT rfl a2) (Wi rfl (Wm (LJ c (fun d1 E W => ∃ c0, ST false lT w W d4 ((n, Ol a0 25) :: ((p, Ol q 25) :: (c3 ++ (c1 ++ (Q ++ (N ++ c0)))))) ∧ E 2 = (.pointer (some ⟨p, 0, none⟩)) ∧ E 3 = (.pointer (some ⟨n, 0, none⟩)) ∧ E 7 = t ∧ E 8 = u ∧ E 9 = (.int .i64 H) ∧ E 10 = d2 ∧ E 11 = d3 ∧ E 35 = (.bool d1)) 6 ?_ (fun d1 B P => ?_))))))))))))))⟩
  ·rintro f6 E W ⟨c0, d, d9, e0, e1, e2, d0, e3, e4, e5⟩ z
   refine ln (CI z e5 (fun d6 z => ?_) (fun d6 z => ?_))
   ·refine sg (Wh e1 (Wh e2 (Wh d0 (Wa (Wa (Wa (ln ?_)))))))
    replace d := d.kG (Db (Db (Dr (Dr St))))
    refine lC (lL (nD (lL (lL (nD (lL ?_))))))
    obtain rfl := sj z
    exact KC (v0 := t) (v1 := u) (v2 := (.int .i64 H)) rfl rfl rfl rfl ⟨_, _, rfl, (d.LD (Sr (Qr Qz) (Kr Sn))), t, N, u, Q, rfl, rfl, a2, a3⟩
   refine kn ?_
   replace d := d.kG (Kb (Kb (Kr (Kr (Dr (Dr St))))))
   exact kV (Wh e3 (Wh e4 (Wa (Wa (lH (lK (kT (kV (Wh d0 (Wi rfl (Wa (ln ⟨e6, bB _, d2, e7, c1, d3, e8, c3, (IntKind.i64.wrap (H + 1)), d4, _, ((j.trans k).trans O), (d.kG St), d9, e0, rfl, rfl, rfl, R, b2, z⟩))))))))))))
  refine bC B (fun a B => ?_) (fun a B => ?_)
  ·refine ug a (kR rfl) (ug a (po aT rfl b2) (ug a (kR Z) (ug a (po aT rfl a3) (ug a (lR rfl rfl rfl) (V (li (cB a) rfl) ?_)))))
   obtain rfl := sj B
   exact P _ _ ⟨_, (d.kG (Sb (Pr (Pr Pz)) (Sb (Pr (Pr Pz)) St))), T, U, Y, Z, c9, rfl, rfl, rfl⟩
  refine un a (un a (un a (un a (un a (V (lj (cB a) rfl) ?_)))))
  obtain rfl := sj B
  exact P _ _ ⟨_, (d.kG (Sb (Pr (Pr Pz)) (Sb (Pr (Pr Pz)) St))), T, U, Y, Z, c9, rfl, rfl, rfl⟩
theorem Jk (k : lI) (j B : Value) (t : lI) (a c : Value) (r : ((List kE) × (List (kC × (List (ByteArray × Bool)))) × (List kE) × (List (kC × (List kE))) × (List (ByteArray × (List kE))) × (List kZ) × Int × ByteArray)) (w : World) (g : Sl kW 15 (hp w) j k.kO) (y : Sl lF 8 (hp w) B k.lg) (i : Sl kW 15 (hp w) a t.kO) (z : Sl lF 8 (hp w) c t.lg) (hm : A6 k t = some r) :
  mY false Tryz.prog 106 [(.agg #[(.string k.Name), j, B]), (.agg #[(.string t.Name), a, c])] w [] (fun v L1 W' => ∃ A S2 m l E S7 F M a2 N a3 Q a4 T Y, v = (.tuple #[A, (.func (.func 169) #[] #[(.pointer (some ⟨m, 0, none⟩)), (.pointer (some ⟨Y, 0, none⟩))])]) ∧ L1 = ((m, Ob #[(.pointer (some ⟨l, 0, none⟩))] 132) :: ((l, Ob #[E, F, a2, a3, a4, (.int .i64 (r.2.2.2.2.2.2.1))] 189) :: ((Y, Ob #[(.string (r.2.2.2.2.2.2.2)), a, c] 25) :: (S2 ++ (S7 ++ (M ++ (N ++ (Q ++ (T ++ []))))))))) ∧ lA 52 kK 9 A r.1 S2 ∧ ni (fun (x : kC) => (.agg (kQ x).toArray)) (nf Value.string (fun (x : Bool) => (Value.bool x))) E r.2.1 S7 ∧ lA 52 kK 9 F r.2.2.1 M ∧ ni (fun (x : kC) => (.agg (kQ x).toArray)) (lA 52 kK 9) a2 r.2.2.2.1 N ∧ ni Value.string (lA 52 kK 9) a3 r.2.2.2.2.1 Q ∧ rp 111 lV 3 a4 r.2.2.2.2.2.1 T) := by
 refine xg 21 func106 rfl (fun d => sg ?_)
 obtain ⟨A1, c2, rfl⟩ := g.form
 obtain ⟨A3, n, rfl⟩ := y.form
 refine VE (lJ d rfl (fun W6 l d => ?_))
 obtain ⟨A7, p, rfl⟩ := i.form
 obtain ⟨A9, I, rfl⟩ := z.form
 refine VE (lJ d rfl (fun f4 U d => Wa (Wa (lr (VA d (Mt Mh) (C4 k.Name A1 k.kO.length c2 A3 k.lg.length n) eJ dJ (VA d Mh (C4 t.Name A7 t.kO.length p A9 t.lg.length I) eJ dJ (bS hm fun d7 P hm => ?_)))))))
 refine VE (He d (aX _) call11 (fun _ _ _ _ => (F6 k (.slice A1 k.kO.length c2) (.slice A3 k.lg.length n) t (.slice A7 t.kO.length p) (.slice A9 t.lg.length I) _ _ (g.mono kX.mono d.kN) (y.mono ma.mono d.kN) (i.mono kX.mono d.kN) (z.mono ma.mono d.kN) P)) (fun f5 g0 g3 f1 d e6 q h L => ?_) (L0 := []))
 obtain ⟨g2, f3, K, c9, D, rfl, f0, J⟩ := L
 replace D := D.symm; subst D
 replace d := d.perm (Tr (Tr Tn))
 refine Wm (Wx rfl (Wx rfl (Wx rfl (Wa (Wa (Wa (ln ?_)))))))
 replace d := d.kG (Dr (Kr (Kb (Db St))))
 refine sg (Wm (bS hm fun f9 R hm => ?_))
 refine VE (He d (aX _) call62 (fun _ _ _ _ => (HC K d7.2.1 _ _ (J.sl mE (fun b o hq => d.at_ (Ml hq))) R)) (fun f6 g1 g4 f2 d e7 s h O => ?_) (L0 := []))
 obtain ⟨H, d9, d0, e0, d1, e1, d2, e2, d3, e3, d4, G, rfl, W, c1, c3, c5, c6⟩ := O
 replace G := G.symm; subst G
 replace d := d.perm (Tb (Tr (Tr (Tr (Tr (Tr Tn))))))
 refine VE (lG d zeroValue132 (fun f7 Z d => VO (lf (.pointer (some ⟨H, 0, none⟩)) (#[(.pointer (some ⟨H, 0, none⟩))]) d rfl rfl sizeOf132 oc nb rfl (fun f8 d => lr (Wm (V (wU (by exact yg rfl rfl) rfl) (Wa (Wa (lt ?_)))))))))
 obtain rfl := sj hm
 exact G0 (v := K) (u := (.func (.func 169) #[] #[(.pointer (some ⟨Z, 0, none⟩)), (.pointer (some ⟨U, 0, none⟩))])) rfl rfl rfl ⟨_, _, rfl, (d.LD (Kb (Kb (Sb (Pr (Pr (Pr (Pr (Pr (Pr Pz)))))) (Sr (Qr (Qr (Qr (Qr (Qr Qz))))) (Kr (Kr (Kr (Kr (Kr Sn)))))))))), K, c9, Z, H, d9, d0, e0, d1, e1, d2, e2, d3, e3, d4, U, rfl, rfl, J, W, c1, c3, c5, c6⟩
theorem Gl (Z : kC) (d I : Nat) (u : Value) (G : List (kC × (List (ByteArray × Bool)))) (a : Value) (k : List kE) (j : Value) (B : List (kC × (List kE))) (c : Value) (t : List (ByteArray × (List kE))) (i : Value) (z : List kZ) (Q : Int) (a2 : Nat) (g : ByteArray) (D : Value) (J : List ll) (H : Value) (N : List nE) (r : Bool) (w : World) (Y : sI (fun (x : kC) => (.agg (kQ x).toArray)) (nf Value.string (fun (x : Bool) => (Value.bool x))) (hp w) u G) (K : Sl (Pl kK) 9 (hp w) a k) (U : sI (fun (x : kC) => (.agg (kQ x).toArray)) (lA 52 kK 9) (hp w) j B) (M : sI Value.string (lA 52 kK 9) (hp w) c t) (T : Sl (Pl lV) 3 (hp w) i z) (a3 : At (hp w) (.pointer (some ⟨I, 0, none⟩)) [u, a, j, c, i, (.int .i64 Q)]) (a4 : At (hp w) (.pointer (some ⟨d, 0, none⟩)) [(.pointer (some ⟨I, 0, none⟩))]) (l : Sl kW 15 (hp w) D J) (m : Sl lF 8 (hp w) H N) (a5 : At (hp w) (.pointer (some ⟨a2, 0, none⟩)) [(.string g), D, H]) (hm : wu Z G k B t z Q g J N = some r) :
  lD true Tryz.prog 169 [(.agg (kQ Z).toArray), (.pointer (some ⟨d, 0, none⟩)), (.pointer (some ⟨a2, 0, none⟩))] w (.bool r) := by
 refine cG 10 func169 rfl (fun b => sg (VE (lJ b rfl (fun W2 n b => Wa (lr (V (kI rfl (tS b.has (y := (.pointer (some ⟨I, 0, none⟩))) a4 isAgg132)) (VA b Mh (kQ Z) bG aR (VQ (zn [(.string g)] zJ rfl a5 rfl) (fun p h => V (kI rfl (tS b.has (y := (.string g)) h bV)) (bS hm fun q a9 hm => VE (Eg b call64 (BV I u G a k j B c t i z Q Z g _ _ (Y.mono b.kN) (K.mono (Pl.mono _) b.kN) (U.mono b.kN) (M.mono b.kN) (T.mono (Pl.mono _) b.kN) (a3.mono b.kN) a9) (fun W8 b => ?_))))))))))))
 refine Wa (ln ?_)
 exact lC (rQ hm b)
theorem Hk (y : lI) (t D : Value) (c : lI) (u G : Value) (i : Formula) (H : Value) (r : Bool) (w : World) (k : Sl kW 15 (hp w) t y.kO) (z : Sl lF 8 (hp w) D y.lg) (g : Sl kW 15 (hp w) u c.kO) (j : Sl lF 8 (hp w) G c.lg) (B : Sl kF 5 (hp w) H i.Kids) (hm : vx y c i = some r) :
  lD false Tryz.prog 49 [(.agg #[(.string y.Name), t, D]), (.agg #[(.string c.Name), u, G]), (.agg #[(.int .i64 i.Op), (.int .i64 i.K), (.string i.kC.kD), (.string i.kC.kJ), H])] w (.bool r) := by
 refine cG 18 func49 rfl (fun d => sg ?_)
 obtain ⟨A1, c2, rfl⟩ := k.form
 obtain ⟨A3, n, rfl⟩ := z.form
 refine VE (lJ d rfl (fun W6 b5 d => ?_))
 obtain ⟨U, Z, rfl⟩ := g.form
 obtain ⟨Y, K, rfl⟩ := j.form
 refine VE (lJ d rfl (fun d4 d8 d => ?_))
 obtain ⟨M, T, rfl⟩ := B.form
 refine VE (lJ d rfl (fun d5 d9 d => Wa (lr (VA d (Mt (Mt Mh)) (C4 y.Name A1 y.kO.length c2 A3 y.lg.length n) eJ dJ (VA d (Mt Mh) (C4 c.Name U c.kO.length Z Y c.lg.length K) eJ dJ (bS hm fun a s hm => ?_))))))
 refine VE (He d (aX _) call106 (fun _ _ _ _ => (Jk y (.slice A1 y.kO.length c2) (.slice A3 y.lg.length n) c (.slice U c.kO.length Z) (.slice Y c.lg.length K) _ _ (k.mono kX.mono d.kN) (z.mono ma.mono d.kN) (g.mono kX.mono d.kN) (j.mono ma.mono d.kN) s)) (fun d6 e1 e3 c6 d I p m q => ?_) (L0 := []))
 obtain ⟨e2, c7, N, O, P, c9, R, d0, c0, d1, c1, d2, c3, d3, Q, J, rfl, c5, v, A, E, F, L⟩ := q
 replace J := J.symm; subst J
 replace d := d.perm (Tb (Tb (Tb (Tr (Tr (Tr (Tr (Tr (Tr Tn)))))))))
 refine Wm (Wx rfl (Wx rfl (Wa (Wa (ln ?_)))))
 replace d := d.kG (Kb (Kb (Kb (Dr (Kr (Kr (Kr (Kr (Kr (Kb (Db (Db St))))))))))))
 refine sg (VA d (Mt (Mt (Mt (Ma (Ma (Ma (Ma (Ma Mh)))))))) (C2 i.Op i.K i.kC.kD i.kC.kJ M i.Kids.length T) aK aC (Wm (bS hm fun e0 a9 hm => VE (Eg d call24 (Df i (.slice M i.Kids.length T) (.func (.func 169) #[] #[(.pointer (some ⟨N, 0, none⟩)), (.pointer (some ⟨Q, 0, none⟩))]) (fun (x : kC) => wu x a.2.1 a.2.2.1 a.2.2.2.1 a.2.2.2.2.1 a.2.2.2.2.2.1 a.2.2.2.2.2.2.1 a.2.2.2.2.2.2.2 c.kO c.lg) _ _ (B.mono kL.mono (I.trans d.kN)) ⟨169, #[], #[(.pointer (some ⟨N, 0, none⟩)), (.pointer (some ⟨Q, 0, none⟩))], rfl, call169, fun W x r l hm => (Gl x N O P a.2.1 R a.2.2.1 c0 a.2.2.2.1 c1 a.2.2.2.2.1 c3 a.2.2.2.2.2.1 a.2.2.2.2.2.2.1 Q a.2.2.2.2.2.2.2 (.slice U c.kO.length Z) c.kO (.slice Y c.lg.length K) c.lg r W (v.at (fun b o h => l _ _ ((fun b o h => d.at_ (Mt (Mt (Mt (Ml h))))) b o h))) (A.sl mE (fun b o h => l _ _ ((fun b o h => d.at_ (Mt (Mt (Mt (Ma (Ml h)))))) b o h))) (E.at (fun b o h => l _ _ ((fun b o h => d.at_ (Mt (Mt (Mt (Ma (Ma (Ml h))))))) b o h))) (F.at (fun b o h => l _ _ ((fun b o h => d.at_ (Mt (Mt (Mt (Ma (Ma (Ma (Ml h)))))))) b o h))) ((L.Eh qU).mono (Pl.mono _) (nl (fun b o h => l _ _ ((fun b o h => d.at_ (Mt (Mt (Mt (Ma (Ma (Ma (Ma (Ml h))))))))) b o h)))) (At.of (l _ _ (d.at_ (Mt Mh))) _ rfl) (At.of (l _ _ (d.at_ Mh)) _ rfl) (g.mono kX.mono ((I.trans d.kN).trans l)) (j.mono ma.mono ((I.trans d.kN).trans l)) (At.of (l _ _ (d.at_ (Mt (Mt Mh)))) _ rfl) hm).mP⟩ a9) (fun d7 d => Wa (ln ?_))))))
 exact lC (rQ hm d)
theorem uy (a : mw) (x z i u j B : Value) (r : Bool) (w : World) (t : Sl kW 15 (hp w) x a.kD.kO) (y : Sl lF 8 (hp w) z a.kD.lg) (c : Sl kW 15 (hp w) i a.Client.kO) (k : Sl lF 8 (hp w) u a.Client.lg) (g : Sl kF 5 (hp w) j a.Formula.Kids) (D : Sl nW 2 (hp w) B a.Keys) (hm : qu a = some r) :
  lD false Tryz.prog 98 [(.agg #[(.string a.kD.Name), x, z, (.string a.Client.Name), i, u, (.int .i64 a.Formula.Op), (.int .i64 a.Formula.K), (.string a.Formula.kC.kD), (.string a.Formula.kC.kJ), j, (.int .i64 a.nZ), (.int .i64 a.mh.oG), (.int .i64 a.mh.oI), (.int .i64 a.my), (.int .i64 a.nx), (.int .i64 a.mU), B])] w (.bool r) := by
 refine cG 10 func98 rfl (fun b => sg ?_)
 obtain ⟨H, N, rfl⟩ := t.form
 obtain ⟨I, Q, rfl⟩ := y.form
 obtain ⟨J, T, rfl⟩ := c.form
 obtain ⟨K, U, rfl⟩ := k.form
 obtain ⟨M, G, rfl⟩ := g.form
 obtain ⟨Z, d, rfl⟩ := D.form
 refine VE (lJ b rfl (fun a2 a4 b => Wa (lr (Wf yB (VA b Mh (C4 a.kD.Name H a.kD.kO.length N I a.kD.lg.length Q) eJ dJ (Wf wF (VA b Mh (C4 a.Client.Name J a.Client.kO.length T K a.Client.lg.length U) eJ dJ (Wf Kh (VA b Mh (C2 a.Formula.Op a.Formula.K a.Formula.kC.kD a.Formula.kC.kJ M a.Formula.Kids.length G) aK aC (bS hm fun a5 Y hm => VE (Eg b call49 (Hk a.kD (.slice H a.kD.kO.length N) (.slice I a.kD.lg.length Q) a.Client (.slice J a.Client.kO.length T) (.slice K a.Client.lg.length U) a.Formula (.slice M a.Formula.Kids.length G) _ _ (t.mono kX.mono b.kN) (y.mono ma.mono b.kN) (c.mono kX.mono b.kN) (k.mono ma.mono b.kN) (g.mono kL.mono b.kN) Y) (fun a3 b => Wa ?_))))))))))))
 refine ln ?_
 exact lC (rQ hm b)
theorem xj (u : Nat) (a : mw) (j k c i g t : Value) (I : Int) (r : Nat) (w : World) {x : lO} (M : ox x ((u, Ob #[(.string a.kD.Name), j, k, (.string a.Client.Name), c, i, (.int .i64 a.Formula.Op), (.int .i64 a.Formula.K), (.string a.Formula.kC.kD), (.string a.Formula.kC.kJ), g, (.int .i64 a.nZ), (.int .i64 a.mh.oG), (.int .i64 a.mh.oI), (.int .i64 a.my), (.int .i64 a.nx), (.int .i64 a.mU), t] 93) :: []) w) (D : Sl kW 15 x j a.kD.kO) (G : Sl lF 8 x k a.kD.lg) (y : Sl kW 15 x c a.Client.kO) (B : Sl lF 8 x i a.Client.lg) (z : Sl kF 5 x g a.Formula.Kids) (H : Sl nW 2 x t a.Keys) (hm : pu a I = some r) :
  mo true Tryz.prog 99 [(.pointer (some ⟨u, 0, none⟩)), (.int .i64 I)] w x ((u, Ob #[(.string a.kD.Name), j, k, (.string a.Client.Name), c, i, (.int .i64 a.Formula.Op), (.int .i64 a.Formula.K), (.string a.Formula.kC.kD), (.string a.Formula.kC.kJ), g, (.int .i64 a.nZ), (.int .i64 a.mh.oG), (.int .i64 a.mh.oI), (.int .i64 a.my), (.int .i64 a.nx), (.int .i64 a.mU), t] 93) :: []) (fun v K N => v = (.pointer (some ⟨u, r, none⟩)) ∧ K = ((u, Ob #[(.string a.kD.Name), j, k, (.string a.Client.Name), c, i, (.int .i64 a.Formula.Op), (.int .i64 a.Formula.K), (.string a.Formula.kC.kD), (.string a.Formula.kC.kJ), g, (.int .i64 a.nZ), (.int .i64 a.mh.oG), (.int .i64 a.mh.oI), (.int .i64 a.my), (.int .i64 a.nx), (.int .i64 a.mU), t] 93) :: []) ∧ (r = 0 ∨ r = 3)) := by
 refine sF M 13 func99 rfl (fun b => sg (Wa (lS (Wm (Wi rfl (ln (CI hm rfl (fun J hm => ?_) (fun J hm => ?_))))))))
 ·refine sg (Wm (Wn (Wf yB (Wa (lt (lL ?_))))))
  obtain rfl := sj hm
  exact mI (v := (.pointer (some ⟨u, 0, none⟩))) rfl rfl ⟨_, _, _, rfl, (b.mW (Kb Sn)), (lm.refl _), Lo.refl, (ST.lU b (nn.mem (Kb Sn))), rfl, rfl, (.inl rfl)⟩
 refine kg (Wm (Wn (Wf wF (Wa (lt ?_)))))
 obtain rfl := sj hm
 exact mI (v := (.pointer (some ⟨u, 3, none⟩))) rfl rfl ⟨_, _, _, rfl, (b.mW (Kb Sn)), (lm.refl _), Lo.refl, (ST.lU b (nn.mem (Kb Sn))), rfl, rfl, (.inr rfl)⟩
theorem yI (c : Value) (u r : List ll) (w : World) {j : lO} (I : ox j [] w) (a : Sl kW 15 j c u) (hm : pK u = some r) :
  mo true Tryz.prog 104 [c] w j [] (fun v G J => ∃ z t, v = z ∧ G = (t ++ []) ∧ lW 60 kW 15 J z r t) := by
 unfold pK at hm
 refine sF I 8 func104 rfl (fun b => sg (Wa (lS (Wm ?_))))
 obtain ⟨D, Q, rfl⟩ := a.form
 refine V (AM bL rfl rfl) (ln ?_)
 rcases D with _ | M
 ·have y := a.isNil
  replace hm : some [] = some r := by rw [y] at hm; simpa [nJ, maxLen] using hm
  refine vm (rfl) (sg (Wa (lt (lL ?_))))
  obtain rfl := sj hm
  refine mI (v := (.slice none 0 0)) rfl rfl ?_
  replace b := b.Pc
  exact ⟨_, _, _, rfl, (b.mW (Kr Sn)), (lm.refl _), Lo.refl, (ST.lU b (nn.mem (Kr Sn))), (.slice none 0 0), [], rfl, rfl, (lW.nil _ _ _ _)⟩
 ·refine rN (rfl) (kg (VE (lE (cs := #[]) b ri (Aq [] bL cR eE dc rfl (by simp) rfl rfl) (fun N H b => Wm (bS hm fun T x hm => VE (pQ (B := [(H, Ob #[] 60)]) kX b dc bL yD.1 yD.2.1 rfl yD.2.2.1 yD.2.2.2 rfl rfl (lW.lit kX (l := []) .nil rfl nb rfl) (xG.sl kX a b.kN) x (fun K g k b i => Wa (lt ?_))))))))
  obtain rfl := sj hm
  exact mI (v := g) rfl rfl ⟨_, _, _, rfl, (b.mW (Kr Sn)), (lm.refl _), Lo.refl, (ST.lU b (nn.mem (Kr Sn))), g, k, rfl, rfl, i⟩
theorem yl (k : Value) (B : List ll) (t : LO) (D G : Int) (r : List ll) (w : World) {μ0 : lO} (q : ox μ0 (t ++ []) w) (c : lW 60 kW 15 μ0 k B t) (hm : pz B D G = some r) :
  mo true Tryz.prog 103 [k, (.int .i64 D), (.int .i64 G)] w μ0 (t ++ []) (fun v L1 μ1 => ∃ p, v = p ∧ L1 = [] ∧ Sl kW 15 μ1 p (r)) := by
 refine sF q 33 func103 rfl (fun d => sg (Wa (lr (Wm (Wm (Wm (Wm (V (qT bL rfl c) (bS hm fun _ y hm => VQ (N5 (a := D) (b := G) (m := (B.length : Int)) bL cR c rfl rfl rfl rfl (BK y).1 (BK y).2.1 (BK y).2.2.1 (BK y).2.2.2) (fun v1 O => ?_))))))))))
 refine lS (Wm (Wm (Wi rfl (ln (CI hm rfl (fun a4 hm => ?_) (fun a4 hm => ?_))))))
 ·refine sg (Wm (Wa (lt (lL ?_))))
  obtain rfl := sj hm
  refine mI (v := k) rfl rfl ?_
  obtain ⟨s, d, Q, n, a5⟩ := ST.tE kX d c
  exact ⟨_, _, _, rfl, (d.mW Sn), Q, n, (ST.lU d (nn.mem Sn)), k, rfl, rfl, a5⟩
 refine kg (Wm (V (qT bL rfl c) (Wa (ln (kY ?_)))))
 replace d := d.drew
 have h := d.has.kG Sn
 refine mj h lQ (X 0 rfl h (kR rfl) (X 1 rfl h (kR rfl) (bS hm fun _ I hm => XQ 2 rfl h (Bo (i := D) bL cR rfl rfl c (vy I) (vq I)) (fun R T => X 3 rfl h (kR rfl) (X 4 rfl h (kR rfl) (bS hm fun _ J hm => XQ 5 rfl h (zG (i := G) bL cR rfl rfl c (vy J) (vq J)) (fun W U => bS hm fun P H hm => XE 6 rfl (I4 (i := (Int.toNat D)) (j := (Int.toNat G)) d c T dc bL yD.1 yD.2.2.1 (BK H).1 (BK H).2 U rfl rfl (fun F M A d u x => ?_)))))))))
 have h := d.has.kG Sn
 refine ⟨h, (X 7 rfl h (om rfl) (ms kr (kT (sg (Wm (Wm (V (qT bL rfl x) (Wm (bS hm fun _ g hm => VQ (MD (a := ((B.take (Int.toNat D) ++ B.drop (Int.toNat G)).length : Int)) (b := (B.length : Int)) bL cR dc u x rfl rfl rfl (BK g).1 (BK g).2.1 (BK g).2.2.1 (BK g).2.2.2) (fun b9 Y => VO (BH (z := (⟨(⟨K9, []⟩ : Signed), RK⟩ : ll)) (zs := C9) kX d u (kW.mk ⟨(.slice none 0 0), (.slice none 0 0), rfl, (Sl.nil _ _ _), (Sl.nil _ _ _)⟩) bL eE Y rfl rfl (fun L E d N => ln ?_))))))))))))⟩
 refine sg (Wm (Wa (lt ?_)))
 obtain rfl := sj hm
 refine mI (v := M) rfl rfl ?_
 obtain ⟨c0, d, K, l, Z⟩ := ST.tE kX d (lW.OQ dc u x N (by have := BK g; rw [vh _ _ _ (by omega)]; omega))
 exact ⟨_, _, _, rfl, (d.mW Sn), K, l, (ST.lU d (nn.mem Sn)), M, rfl, rfl, Z⟩
set_option maxHeartbeats 1000000 in
theorem xx (a : mw) (a4 a5 Y a3 Z c7 : Value) (a1 a2 : Int) (r : mw) (w : World) {μ0 : lO} (h0 : ox μ0 [] w) (i : Sl kW 15 μ0 a4 a.kD.kO) (t : Sl lF 8 μ0 a5 a.kD.lg) (c : Sl kW 15 μ0 Y a.Client.kO) (k : Sl lF 8 μ0 a3 a.Client.lg) (j : Sl kF 5 μ0 Z a.Formula.Kids) (I : Sl nW 2 μ0 c7 a.Keys) (hm : sd a a1 a2 = some r) :
  mo true Tryz.prog 44 [(.agg #[(.string a.kD.Name), a4, a5, (.string a.Client.Name), Y, a3, (.int .i64 a.Formula.Op), (.int .i64 a.Formula.K), (.string a.Formula.kC.kD), (.string a.Formula.kC.kJ), Z, (.int .i64 a.nZ), (.int .i64 a.mh.oG), (.int .i64 a.mh.oI), (.int .i64 a.my), (.int .i64 a.nx), (.int .i64 a.mU), c7]), (.int .i64 a1), (.int .i64 a2)] w μ0 [] (fun v L1 μ1 => ∃ y1 y3 y5 y7 y9 g9, v = (.agg #[(.string (((r).kD).Name)), y1, y3, (.string (((r).Client).Name)), y5, y7, (.int .i64 (((r).Formula).Op)), (.int .i64 (((r).Formula).K)), (.string ((((r).Formula).kC).kD)), (.string ((((r).Formula).kC).kJ)), y9, (.int .i64 ((r).nZ)), (.int .i64 (((r).mh).oG)), (.int .i64 (((r).mh).oI)), (.int .i64 ((r).my)), (.int .i64 ((r).nx)), (.int .i64 ((r).mU)), g9]) ∧ L1 = [] ∧ Sl kW 15 μ1 y1 (((r).kD).kO) ∧ Sl lF 8 μ1 y3 (((r).kD).lg) ∧ Sl kW 15 μ1 y5 (((r).Client).kO) ∧ Sl lF 8 μ1 y7 (((r).Client).lg) ∧ Sl kF 5 μ1 y9 (((r).Formula).Kids) ∧ Sl nW 2 μ1 g9 ((r).Keys)) := by
 refine sF h0 42 func44 rfl (fun b => sg ?_)
 obtain ⟨M, Q, rfl⟩ := i.form
 let c8 : Value := (.slice M a.kD.kO.length Q)
 obtain ⟨z, G, rfl⟩ := t.form
 let d6 : Value := (.slice z a.kD.lg.length G)
 obtain ⟨N, T, rfl⟩ := c.form
 let c4 : Value := (.slice N a.Client.kO.length T)
 obtain ⟨B, H, rfl⟩ := k.form
 let d3 : Value := (.slice B a.Client.lg.length H)
 obtain ⟨D, x, rfl⟩ := j.form
 let c6 : Value := (.slice D a.Formula.Kids.length x)
 obtain ⟨u, y, rfl⟩ := I.form
 let e6 : Value := (.slice u a.Keys.length y)
 let a0 := (C1 a.kD.Name M a.kD.kO.length Q z a.kD.lg.length G a.Client.Name N a.Client.kO.length T B a.Client.lg.length H a.Formula.Op a.Formula.K a.Formula.kC.kD a.Formula.kC.kJ D a.Formula.Kids.length x a.nZ a.mh.oG a.mh.oI a.my a.nx a.mU u a.Keys.length y)
 refine VE (lJ b rfl (fun l7 l b => VE (lG b eK (fun l8 d0 b => lS (Wm (Wi rfl (Wm (LJ hm (fun e9 E W => ∃ f6, ST true (keys []) w W μ0 ((d0, Ol C6 93) :: ((l, Ol a0 93) :: f6)) ∧ E 1 = (.int .i64 a1) ∧ E 2 = (.int .i64 a2) ∧ E 3 = (.pointer (some ⟨l, 0, none⟩)) ∧ E 6 = (.pointer (some ⟨d0, 0, none⟩)) ∧ E 13 = (.bool e9)) 3 ?_ (fun e9 b9 d8 => ?_)))))))))
 ·let f0 : Value := (.pointer (some ⟨l, 0, none⟩))
  rintro n0 E W ⟨f6, b, i7, n, d1, d2, i8⟩ U
  refine ln (CI U i8 (fun h6 U => ?_) (fun h6 U => ?_))
  ·refine sg (V (kI d1 (kM b.has (Mt Mh) a0 rfl cY bY)) (VO (lf (.agg a0.toArray) (a0.toArray) b d2 rfl bY oc nb rfl (fun l9 b => ln ?_))))
   replace b := b.kG (Kb (Db St))
   refine lC (lL ?_)
   obtain rfl := sj U
   exact ns (v := (.agg a0.toArray)) rfl d2 (kM b.has Mh a0 rfl cY bY) ⟨_, _, _, rfl, (b.mW Sn), (lm.refl _), Lo.refl, (ST.lU b (nn.mem Sn)), c8, d6, c4, d3, c6, e6, rfl, rfl, i, t, c, k, j, I⟩
  refine kg (Wh i7 (bS U fun g7 h9 U => ?_))
  refine VE (eD b (Cb (Pb Pz) Cn) call99 (fun m => (xj l a c8 d6 c4 d3 c6 e6 a1 _ _ m (i.mono kX.mono (lm.refl _)) (t.mono ma.mono (lm.refl _)) (c.mono kX.mono (lm.refl _)) (k.mono ma.mono (lm.refl _)) (j.mono kL.mono (lm.refl _)) (I.mono oO.mono (lm.refl _)) h9)) ?_ (ha := P5 d1 rfl))
  rintro _ m7 h1 l4 b g d ⟨d9, rfl, i2⟩
  obtain rfl := d9.symm
  replace b := b.perm (Tb Tn)
  rcases i2 with p | q
  ·replace U := MT (show (g7 == 0) = true by rw [p]; rfl) U
   refine V (om (bM (fun (o : Nat) => Value.pointer (some ⟨l, o, none⟩)) p)) (lS (Wh n (Wi rfl (Wm (LJ U (fun g8 E W => ∃ f7, ST true (keys []) w W h1 ((l, Ol a0 93) :: ((d0, Ol C6 93) :: f7)) ∧ E 2 = (.int .i64 a2) ∧ E 3 = f0 ∧ E 6 = (.pointer (some ⟨d0, 0, none⟩)) ∧ E 7 = f0 ∧ E 27 = (.bool g8)) 8 ?_ (fun g8 c9 e5 => ?_))))))
   ·rintro n1 E W ⟨f7, b, f9, g0, e2, g1, i9⟩ h
    refine ln (CI h i9 (fun h7 h => ?_) (fun h7 h => ?_))
    ·refine sg (V (kI g0 (kM b.has Mh a0 rfl cY bY)) ?_)
     replace b := b.perm (Nb (Pb Pz) Nz)
     refine VO (lf (.agg a0.toArray) (a0.toArray) b e2 rfl bY oc nb rfl (fun m1 b => ln ?_))
     replace b := b.kG (Kb (Db St))
     refine lC (lL ?_)
     obtain rfl := sj h
     exact ns (v := (.agg a0.toArray)) rfl e2 (kM b.has Mh a0 rfl cY bY) ⟨_, _, _, rfl, (b.mW Sn), g, d, (ST.lU b (nn.mem Sn)), c8, d6, c4, d3, c6, e6, rfl, rfl, (i.mono kX.mono g), (t.mono ma.mono g), (c.mono kX.mono g), (k.mono ma.mono g), (j.mono kL.mono g), (I.mono oO.mono g)⟩
    refine kg (Wh g1 (Wh g1 (Wn (Wf oS (VB b Mh rfl rfl eX (bS h fun j3 i0 h => ?_))))))
    refine VE (eD b (aX _) call104 (fun m => (yI c8 a.kD.kO _ _ m (i.mono kX.mono g) i0)) ?_ (L0 := []))
    rintro _ m8 n4 l5 b P aa ⟨j7, i6, e0, rfl, i3⟩
    obtain rfl := e0.symm
    replace b := b.perm (Tr Tn)
    refine Wh f9 (Wh f9 (Wi rfl (bS h fun c5 i1 h => ?_)))
    refine VE (eD b (Cr Qz Cn) call103 (fun m => (yl j7 j3 i6 a2 (IntKind.i64.wrap (a2 + 1)) _ _ m i3 i1)) ?_)
    rintro _ m9 n5 l6 b R ab ⟨n3, e1, rfl, e7⟩
    obtain rfl := e1.symm
    refine Wn (Wf oS ?_)
    obtain ⟨c0, c1, rfl⟩ := e7.form
    let b8 := (C1 a.kD.Name c0 c5.length c1 z a.kD.lg.length G a.Client.Name N a.Client.kO.length T B a.Client.lg.length H a.Formula.Op a.Formula.K a.Formula.kC.kD a.Formula.kC.kJ D a.Formula.Kids.length x a.nZ a.mh.oG a.mh.oI a.my a.nx a.mU u a.Keys.length y)
    refine VO (lf (.slice c0 c5.length c1) (b8.toArray) b rfl rfl sizeOf22 oc nb rfl (fun m4 b => lr (V (kI g0 (kM b.has Mh b8 rfl cY bY)) ?_)))
    replace b := b.perm (Nb (Pb Pz) Nz)
    refine VO (lf (.agg b8.toArray) (b8.toArray) b e2 rfl bY oc nb rfl (fun m5 b => ln ?_))
    replace b := b.kG (Kb (Db St))
    refine lC ?_
    obtain rfl := sj h
    exact ns (v := (.agg b8.toArray)) rfl e2 (kM b.has Mh b8 rfl cY bY) ⟨_, _, _, rfl, (b.mW Sn), ((g.trans P).trans R), ((d.trans aa).trans ab), (ST.lU b (nn.mem Sn)), (.slice c0 c5.length c1), d6, c4, d3, c6, e6, rfl, rfl, e7, (t.mono ma.mono ((g.trans P).trans R)), (c.mono kX.mono ((g.trans P).trans R)), (k.mono ma.mono ((g.trans P).trans R)), (j.mono kL.mono ((g.trans P).trans R)), (I.mono oO.mono ((g.trans P).trans R))⟩
   refine bC c9 (fun J c9 => ?_) (fun J c9 => ?_)
   ·refine un J (un J (un J (un J (un J (un J (un J (V (li (cB J) rfl) ?_)))))))
    obtain rfl := sj c9
    exact e5 _ _ ⟨_, (b.kG St), n, d1, d2, rfl, rfl⟩
   refine ug J (kR n) (ug J (kR rfl) (ug J (ny rfl) (ug J (kP oS rfl) (ug J (kI rfl (lh b.has Mh rfl eX)) (ug J (mi bL rfl i) (ug J (lR rfl rfl rfl) (V (lj (cB J) rfl) ?_)))))))
   obtain rfl := sj c9
   exact e5 _ _ ⟨_, (b.kG St), n, d1, d2, rfl, rfl⟩
  replace U := MW (show (g7 == 0) = false by rw [q]; rfl) U
  refine V (om (bM (fun (o : Nat) => Value.pointer (some ⟨l, o, none⟩)) q)) (lS (Wh n (Wi rfl (Wm (LJ U (fun e8 E W => ∃ f8, ST true (keys []) w W h1 ((l, Ol a0 93) :: ((d0, Ol C6 93) :: f8)) ∧ E 2 = (.int .i64 a2) ∧ E 3 = f0 ∧ E 6 = (.pointer (some ⟨d0, 0, none⟩)) ∧ E 7 = (.pointer (some ⟨l, 3, none⟩)) ∧ E 27 = (.bool e8)) 8 ?_ (fun e8 b7 d7 => ?_))))))
  ·rintro n2 E W ⟨f8, b, g2, g3, e3, g4, j0⟩ a9
   refine ln (CI a9 j0 (fun h8 a9 => ?_) (fun h8 a9 => ?_))
   ·refine sg (V (kI g3 (kM b.has Mh a0 rfl cY bY)) ?_)
    replace b := b.perm (Nb (Pb Pz) Nz)
    refine VO (lf (.agg a0.toArray) (a0.toArray) b e3 rfl bY oc nb rfl (fun m6 b => ln ?_))
    replace b := b.kG (Kb (Db St))
    refine lC (lL ?_)
    obtain rfl := sj a9
    exact ns (v := (.agg a0.toArray)) rfl e3 (kM b.has Mh a0 rfl cY bY) ⟨_, _, _, rfl, (b.mW Sn), g, d, (ST.lU b (nn.mem Sn)), c8, d6, c4, d3, c6, e6, rfl, rfl, (i.mono kX.mono g), (t.mono ma.mono g), (c.mono kX.mono g), (k.mono ma.mono g), (j.mono kL.mono g), (I.mono oO.mono g)⟩
   refine kg (Wh g4 (Wh g4 (Wn (Wf oS (VB b Mh rfl rfl eX (bS a9 fun i4 f3 a9 => ?_))))))
   refine VE (eD b (aX _) call104 (fun m => (yI c4 a.Client.kO _ _ m (c.mono kX.mono g) f3)) ?_ (L0 := []))
   rintro _ k9 l2 k2 b L A ⟨i5, h2, d4, rfl, f5⟩
   obtain rfl := d4.symm
   replace b := b.perm (Tr Tn)
   refine Wh g2 (Wh g2 (Wi rfl (bS a9 fun b3 f4 a9 => ?_)))
   refine VE (eD b (Cr Qz Cn) call103 (fun m => (yl i5 i4 h2 a2 (IntKind.i64.wrap (a2 + 1)) _ _ m f5 f4)) ?_)
   rintro _ l0 l3 k3 b O F ⟨l1, d5, rfl, e4⟩
   obtain rfl := d5.symm
   refine Wn (Wf oS ?_)
   obtain ⟨b0, b2, rfl⟩ := e4.form
   let c2 := (C1 a.kD.Name M a.kD.kO.length Q z a.kD.lg.length G a.Client.Name b0 b3.length b2 B a.Client.lg.length H a.Formula.Op a.Formula.K a.Formula.kC.kD a.Formula.kC.kJ D a.Formula.Kids.length x a.nZ a.mh.oG a.mh.oI a.my a.nx a.mU u a.Keys.length y)
   refine VO (lf (.slice b0 b3.length b2) (c2.toArray) b rfl rfl sizeOf22 oc nb rfl (fun k6 b => lr (V (kI g3 (kM b.has Mh c2 rfl cY bY)) ?_)))
   replace b := b.perm (Nb (Pb Pz) Nz)
   refine VO (lf (.agg c2.toArray) (c2.toArray) b e3 rfl bY oc nb rfl (fun k7 b => ln ?_))
   replace b := b.kG (Kb (Db St))
   refine lC ?_
   obtain rfl := sj a9
   exact ns (v := (.agg c2.toArray)) rfl e3 (kM b.has Mh c2 rfl cY bY) ⟨_, _, _, rfl, (b.mW Sn), ((g.trans L).trans O), ((d.trans A).trans F), (ST.lU b (nn.mem Sn)), c8, d6, (.slice b0 b3.length b2), d3, c6, e6, rfl, rfl, (i.mono kX.mono ((g.trans L).trans O)), (t.mono ma.mono ((g.trans L).trans O)), e4, (k.mono ma.mono ((g.trans L).trans O)), (j.mono kL.mono ((g.trans L).trans O)), (I.mono oO.mono ((g.trans L).trans O))⟩
  refine bC b7 (fun K b7 => ?_) (fun K b7 => ?_)
  ·refine un K (un K (un K (un K (un K (un K (un K (V (li (cB K) rfl) ?_)))))))
   obtain rfl := sj b7
   exact d7 _ _ ⟨_, (b.kG St), n, d1, d2, rfl, rfl⟩
  refine ug K (kR n) (ug K (kR rfl) (ug K (ny rfl) (ug K (kP oS rfl) (ug K (kI rfl (lh b.has Mh rfl eX)) (ug K (mi bL rfl c) (ug K (lR rfl rfl rfl) (V (lj (cB K) rfl) ?_)))))))
  obtain rfl := sj b7
  exact d7 _ _ ⟨_, (b.kG St), n, d1, d2, rfl, rfl⟩
 refine bC b9 (fun s b9 => ?_) (fun s b9 => ?_)
 ·refine un s (un s (V (li (cB s) rfl) ?_))
  obtain rfl := sj b9
  exact d8 _ _ ⟨_, (b.kG St), rfl, rfl, rfl, rfl, rfl⟩
 refine ug s (kR rfl) (ug s (lR rfl rfl rfl) (V (lj (cB s) rfl) ?_))
 obtain rfl := sj b9
 exact d8 _ _ ⟨_, (b.kG St), rfl, rfl, rfl, rfl, rfl⟩
set_option maxHeartbeats 1000000 in
theorem HV (a : mw) (N Q J M K d6 : Value) (r : List mN) (w : World) (k : Sl kW 15 (hp w) N a.kD.kO) (D : Sl lF 8 (hp w) Q a.kD.lg) (j : Sl kW 15 (hp w) J a.Client.kO) (z : Sl lF 8 (hp w) M a.Client.lg) (y : Sl kF 5 (hp w) K a.Formula.Kids) (I : Sl nW 2 (hp w) d6 a.Keys) (hm : vS a = some r) :
  nC false Tryz.prog 40 [(.agg #[(.string a.kD.Name), N, Q, (.string a.Client.Name), J, M, (.int .i64 a.Formula.Op), (.int .i64 a.Formula.K), (.string a.Formula.kC.kD), (.string a.Formula.kC.kJ), K, (.int .i64 a.nZ), (.int .i64 a.mh.oG), (.int .i64 a.mh.oI), (.int .i64 a.my), (.int .i64 a.nx), (.int .i64 a.mU), d6])] w 91 nY 2 r := by
 refine xg 36 func40 rfl (fun b => sg ?_)
 obtain ⟨A1, c2, rfl⟩ := k.form
 let c7 : Value := (.slice A1 a.kD.kO.length c2)
 obtain ⟨A3, c4, rfl⟩ := D.form
 let d1 : Value := (.slice A3 a.kD.lg.length c4)
 obtain ⟨A5, c6, rfl⟩ := j.form
 let c5 : Value := (.slice A5 a.Client.kO.length c6)
 obtain ⟨A7, c8, rfl⟩ := z.form
 let c9 : Value := (.slice A7 a.Client.lg.length c8)
 obtain ⟨A9, Y, rfl⟩ := y.form
 let d0 : Value := (.slice A9 a.Formula.Kids.length Y)
 obtain ⟨T, Z, rfl⟩ := I.form
 let d2 : Value := (.slice T a.Keys.length Z)
 let a0 := (C1 a.kD.Name A1 a.kD.kO.length c2 A3 a.kD.lg.length c4 a.Client.Name A5 a.Client.kO.length c6 A7 a.Client.lg.length c8 a.Formula.Op a.Formula.K a.Formula.kC.kD a.Formula.kC.kJ A9 a.Formula.Kids.length Y a.nZ a.mh.oG a.mh.oI a.my a.nx a.mU T a.Keys.length Z)
 refine VE (lJ b rfl (fun q9 U b => Wa (lS (VA b Mh a0 cY bY (bS hm fun r1 o4 hm => VE (Eg b call98 (uy a c7 d1 c5 c9 d0 d2 _ _ (k.mono kX.mono b.kN) (D.mono ma.mono b.kN) (j.mono kX.mono b.kN) (z.mono ma.mono b.kN) (y.mono kL.mono b.kN) (I.mono oO.mono b.kN) o4) (fun r0 b => V (ot rfl) (ln (CI hm rfl (fun o3 hm => ?_) (fun o3 hm => ?_))))))))))
 ·refine sg (Wa (ln ?_))
  replace b := b.kG (Db St)
  refine lC (lL ?_)
  obtain rfl := sj hm
  exact mI (v := (.slice none 0 0)) rfl rfl ⟨_, [], rfl, b.pn (fun p hq => by cases hq) (by simp), lA.nil _ _ _⟩
 let b8 : Value := (.pointer (some ⟨U, 0, none⟩))
 refine kg (Wa (lS (Wm (ln (mB (nS (fun m E W => ∃ P b7 O g f9 g2, lm (hp w) f9 ∧ ST false lT w W f9 ((U, Ol a0 93) :: (O ++ g2)) ∧ E 1 = b8 ∧ E 3 = P ∧ E 9 = (.int .i64 g) ∧ lA 91 nY 2 P b7 O ∧ pP a m b7 g = some r) lB ⟨(.slice none 0 0), ([]), [], 0, (hp w), _, (lm.refl _), (b.kG St), rfl, rfl, rfl, (lA.nil _ _ _), hm⟩ ?_))))))
 rintro m E W ⟨P, b7, O, g, f9, g2, c, b, f5, f6, d9, b4, B⟩
 cases m with
 | zero => rw [pP] at B; cases B
 | succ g7 =>
  refine sg (V (lR d9 rfl rfl) (ln (kY (CI B rfl (fun h8 B => ?_) (fun h8 B => ?_)))))
  ·refine kn (kY (bg (Wh d9 (Wa (lr (Wm (bS B fun g8 i9 B => ?_)))))))
   refine VE (eD b (Cb Pz Cn) call99 (fun hh => mo.mP (xj U a c7 d1 c5 c9 d0 d2 g _ _ hh (k.mono kX.mono c) (D.mono ma.mono c) (j.mono kX.mono c) (z.mono ma.mono c) (y.mono kL.mono c) (I.mono oO.mono c) i9)) ?_ (ha := P5 f5 rfl))
   rintro _ q3 a9 o9 b x aa ⟨e8, rfl, k0⟩
   obtain rfl := e8.symm
   replace b := b.perm (Tb Tn)
   rcases k0 with d | n
   ·replace B := MT (show (g8 == 0) = true by rw [d]; rfl) B
    refine V (ny (bM (fun (o : Nat) => Value.pointer (some ⟨U, o, none⟩)) d)) (Wf oS (VB b Mh rfl rfl eX (V (mi bL rfl k) (Wm (ln (qt (CJ B (fun f7 E W => ∃ e4 d7 e6 g3, lm a9 e6 ∧ ST false lT w W e6 ((U, Ol a0 93) :: (d7 ++ g3)) ∧ E 1 = b8 ∧ E 3 = e4 ∧ E 9 = (.int .i64 g) ∧ lA 91 nY 2 e4 f7 d7) (fun f7 i6 => ?_) ?_)))))))
    ·refine mf (fun i E W => ∃ a5 b9 s c1 f3, (E 18 = .int .i64 (i : Nat) ∧ E 17 = .int .i64 (a.kD.kO.length : Nat)) ∧ lm a9 c1 ∧ ST false lT w W c1 ((U, Ol a0 93) :: (s ++ f3)) ∧ E 1 = b8 ∧ E 3 = a5 ∧ E 4 = (.int .i64 g) ∧ E 9 = (.int .i64 g) ∧ lA 91 nY 2 a5 b9 s ∧ qH a g (a.kD.kO.drop i) i b9 = some f7) a.kD.kO.length k.len ⟨P, b7, O, a9, _, ⟨rfl, rfl⟩, (lm.refl _), (b.kG St), f5, f6, rfl, d9, b4, i6⟩ dc dc dc (fun _ _ _ h => by obtain ⟨_, _, _, _, _, F, _⟩ := h; exact F) ?_ ?_
     ·rintro a3 E W i3 ⟨a5, b9, s, c1, f3, ⟨q, L⟩, G, b, b0, e0, b1, e1, b5, t⟩
      obtain ⟨q6, o7, j8, o5, g0⟩ := lX i3
      rw [j8] at t
      refine bg (Wh q (Wa (lr (V (kI b0 (kM b.has Mh a0 rfl cY bY)) (Wh b1 (Wm (bS t fun m7 j0 t => ?_)))))))
      refine VE (eD b (aX _) call44 (fun hh => mo.mP (xx a c7 d1 c5 c9 d0 d2 g (a3 : Int) _ _ hh (k.mono kX.mono ((c.trans x).trans G)) (D.mono ma.mono ((c.trans x).trans G)) (j.mono kX.mono ((c.trans x).trans G)) (z.mono ma.mono ((c.trans x).trans G)) (y.mono kL.mono ((c.trans x).trans G)) (I.mono oO.mono ((c.trans x).trans G)) j0)) ?_ (L0 := []))
      let d4 := (⟨g, (a3 : Int)⟩ : mN)
      rintro _ q4 g9 p0 b f1 ab ⟨n1, n2, n3, n4, n5, n6, e9, rfl, k1, k2, k3, k4, k5, k6⟩
      obtain rfl := e9.symm
      refine bS t fun q1 j3 t => VE (Eg b call98 (uy m7 n1 n2 n3 n4 n5 n6 _ _ (k1.mono kX.mono b.kN) (k2.mono ma.mono b.kN) (k3.mono kX.mono b.kN) (k4.mono ma.mono b.kN) (k5.mono kL.mono b.kN) (k6.mono oO.mono b.kN) j3) (fun p4 b => V (ot rfl) (ln (CI t rfl (fun h9 t => ?_) (fun h9 t => ?_)))))
      ·refine kV (Wh e0 (Wh b1 (Wm (V (mH (v := (.agg (nY (d4)).toArray)) (oU rfl rfl) (DL jS ki iH kr)) (VE (lE (cs := (nY (d4)).toArray) b (np rfl) (nq iO sizeOf91 jS) (fun p5 l5 b => ?_)))))))
       replace b := b.perm (Nr (Qb (Qb Qz)) Nz)
       refine bS t fun m4 i0 t => VE (oW (enc := nY) (v := a5) (vs := (.slice (some ⟨l5, 0, none⟩) 1 1)) (R := s) b zN dc Ha iO AO.1 AO.2.1 rfl AO.2.2.1 AO.2.2.2 rfl rfl b5 (Sl.lit (enc := nY) (l := [d4]) zN rfl nb rfl (b.at_ (Ma Mh))) i0 (fun p6 m9 l3 b h6 => Wa (lH (lK (kT ?_)))))
       replace b := b.kG (Kr (Db St))
       exact ⟨q, m9, m4, l3, g9, _, ⟨rfl, L⟩, (G.trans f1), (b.kG (Sb (Pr Pz) St)), b0, rfl, b1, e1, h6, (by rw [g0]; exact t)⟩
      exact mr (lK (kT ⟨q, a5, b9, s, g9, _, ⟨rfl, L⟩, (G.trans f1), (b.kG St), b0, e0, b1, e1, b5, (by rw [g0]; exact t)⟩))
     rintro E W ⟨a5, b9, s, c1, f3, ⟨q, L⟩, G, b, b0, e0, b1, e1, b5, t⟩
     rw [aI] at t
     refine kT ?_
     obtain rfl := sj t
     exact ⟨a5, s, c1, _, G, (b.kG St), b0, e0, e1, b5⟩
    rintro m3 E W ⟨e4, d7, e6, g3, h1, b, l7, l8, l9, j6⟩ i5
    exact lK (kT (kV (V (lR l9 rfl rfl) (Wm (ln ⟨g7, bB _, e4, m3, d7, (IntKind.i64.wrap (g + 1)), e6, _, ((c.trans x).trans h1), (b.kG St), l7, l8, rfl, j6, i5⟩)))))
   replace B := MW (show (g8 == 0) = false by rw [n]; rfl) B
   refine V (ny (bM (fun (o : Nat) => Value.pointer (some ⟨U, o, none⟩)) n)) (Wf oS (VB b Mh rfl rfl eX (V (mi bL rfl j) (Wm (ln (qt (CJ B (fun f8 E W => ∃ e5 d8 e7 g4, lm a9 e7 ∧ ST false lT w W e7 ((U, Ol a0 93) :: (d8 ++ g4)) ∧ E 1 = b8 ∧ E 3 = e5 ∧ E 9 = (.int .i64 g) ∧ lA 91 nY 2 e5 f8 d8) (fun f8 i8 => ?_) ?_)))))))
   ·refine mf (fun i E W => ∃ A c0 a2 c3 f4, (E 18 = .int .i64 (i : Nat) ∧ E 17 = .int .i64 (a.Client.kO.length : Nat)) ∧ lm a9 c3 ∧ ST false lT w W c3 ((U, Ol a0 93) :: (a2 ++ f4)) ∧ E 1 = b8 ∧ E 3 = A ∧ E 4 = (.int .i64 g) ∧ E 9 = (.int .i64 g) ∧ lA 91 nY 2 A c0 a2 ∧ qD a g (a.Client.kO.drop i) i c0 = some f8) a.Client.kO.length j.len ⟨P, b7, O, a9, _, ⟨rfl, rfl⟩, (lm.refl _), (b.kG St), f5, f6, rfl, d9, b4, i8⟩ dc dc dc (fun _ _ _ h => by obtain ⟨_, _, _, _, _, F, _⟩ := h; exact F) ?_ ?_
    ·rintro a4 E W i4 ⟨A, c0, a2, c3, f4, ⟨q, L⟩, H, b, b2, e2, b3, e3, b6, u⟩
     let d3 := (⟨g, (a4 : Int)⟩ : mN)
     obtain ⟨q7, o8, j9, o6, g1⟩ := lX i4
     rw [j9] at u
     refine bg (Wh q (Wa (lr (V (kI b2 (kM b.has Mh a0 rfl cY bY)) (Wh b3 (Wm (bS u fun m8 j4 u => ?_)))))))
     refine VE (eD b (aX _) call44 (fun hh => mo.mP (xx a c7 d1 c5 c9 d0 d2 g (a4 : Int) _ _ hh (k.mono kX.mono ((c.trans x).trans H)) (D.mono ma.mono ((c.trans x).trans H)) (j.mono kX.mono ((c.trans x).trans H)) (z.mono ma.mono ((c.trans x).trans H)) (y.mono kL.mono ((c.trans x).trans H)) (I.mono oO.mono ((c.trans x).trans H)) j4)) ?_ (L0 := []))
     rintro _ q5 h0 p1 b f2 ad ⟨n7, n8, n9, o0, o1, o2, f0, rfl, k7, k8, k9, l0, l1, l2⟩
     obtain rfl := f0.symm
     refine bS u fun q2 j5 u => VE (Eg b call98 (uy m8 n7 n8 n9 o0 o1 o2 _ _ (k7.mono kX.mono b.kN) (k8.mono ma.mono b.kN) (k9.mono kX.mono b.kN) (l0.mono ma.mono b.kN) (l1.mono kL.mono b.kN) (l2.mono oO.mono b.kN) j5) (fun p8 b => V (ot rfl) (ln (CI u rfl (fun i1 u => ?_) (fun i1 u => ?_)))))
     ·refine kV (Wh e2 (Wh b3 (Wm (V (mH (v := (.agg (nY (d3)).toArray)) (oU rfl rfl) (DL jS ki iH kr)) (VE (lE (cs := (nY (d3)).toArray) b (np rfl) (nq iO sizeOf91 jS) (fun p9 l6 b => ?_)))))))
      replace b := b.perm (Nr (Qb (Qb Qz)) Nz)
      refine bS u fun m6 i2 u => VE (oW (enc := nY) (v := A) (vs := (.slice (some ⟨l6, 0, none⟩) 1 1)) (R := a2) b zN dc Ha iO AO.1 AO.2.1 rfl AO.2.2.1 AO.2.2.2 rfl rfl b6 (Sl.lit (enc := nY) (l := [d3]) zN rfl nb rfl (b.at_ (Ma Mh))) i2 (fun q0 n0 l4 b h7 => Wa (lH (lK (kT ?_)))))
      replace b := b.kG (Kr (Db St))
      exact ⟨q, n0, m6, l4, h0, _, ⟨rfl, L⟩, (H.trans f2), (b.kG (Sb (Pr Pz) St)), b2, rfl, b3, e3, h7, (by rw [g1]; exact u)⟩
     exact mr (lK (kT ⟨q, A, c0, a2, h0, _, ⟨rfl, L⟩, (H.trans f2), (b.kG St), b2, e2, b3, e3, b6, (by rw [g1]; exact u)⟩))
    rintro E W ⟨A, c0, a2, c3, f4, ⟨q, L⟩, H, b, b2, e2, b3, e3, b6, u⟩
    rw [aI] at u
    refine kT ?_
    obtain rfl := sj u
    exact ⟨A, a2, c3, _, H, (b.kG St), b2, e2, e3, b6⟩
   rintro m5 E W ⟨e5, d8, e7, g4, h2, b, m0, m1, m2, j7⟩ i7
   exact lK (kT (kV (V (lR m2 rfl rfl) (Wm (ln ⟨g7, bB _, e5, m5, d8, (IntKind.i64.wrap (g + 1)), e7, _, ((c.trans x).trans h2), (b.kG St), m0, m1, rfl, j7, i7⟩)))))
  refine nM (nB (nB (qe (kT ?_))))
  replace b := b.kG (Db St)
  refine sg (Wh f6 (Wa (lt ?_)))
  obtain rfl := sj B
  exact mI (v := P) rfl rfl ⟨_, O, rfl, b.pn (fun p hq => (Ml hq)) b4.nd, b4⟩
set_option maxHeartbeats 1000000 in
theorem Dd (g : mw) (a9 e6 a4 a8 a5 m4 : Value) (r : (mw × Bool)) (w : World) {μ0 : lO} (h0 : ox μ0 [] w) (z : Sl kW 15 μ0 a9 g.kD.kO) (B : Sl lF 8 μ0 e6 g.kD.lg) (j : Sl kW 15 μ0 a4 g.Client.kO) (y : Sl lF 8 μ0 a8 g.Client.lg) (t : Sl kF 5 μ0 a5 g.Formula.Kids) (a2 : Sl nW 2 μ0 m4 g.Keys) (hm : uE g = some r) :
  mo false Tryz.prog 36 [(.agg #[(.string g.kD.Name), a9, e6, (.string g.Client.Name), a4, a8, (.int .i64 g.Formula.Op), (.int .i64 g.Formula.K), (.string g.Formula.kC.kD), (.string g.Formula.kC.kJ), a5, (.int .i64 g.nZ), (.int .i64 g.mh.oG), (.int .i64 g.mh.oI), (.int .i64 g.my), (.int .i64 g.nx), (.int .i64 g.mU), m4])] w μ0 [] (fun v L1 μ1 => ∃ y1 y3 y5 y7 y9 bx, v = (.tuple #[(.agg #[(.string (((r.1).kD).Name)), y1, y3, (.string (((r.1).Client).Name)), y5, y7, (.int .i64 (((r.1).Formula).Op)), (.int .i64 (((r.1).Formula).K)), (.string ((((r.1).Formula).kC).kD)), (.string ((((r.1).Formula).kC).kJ)), y9, (.int .i64 ((r.1).nZ)), (.int .i64 (((r.1).mh).oG)), (.int .i64 (((r.1).mh).oI)), (.int .i64 ((r.1).my)), (.int .i64 ((r.1).nx)), (.int .i64 ((r.1).mU)), bx]), (.bool (r.2))]) ∧ L1 = [] ∧ Sl kW 15 μ1 y1 (((r.1).kD).kO) ∧ Sl lF 8 μ1 y3 (((r.1).kD).lg) ∧ Sl kW 15 μ1 y5 (((r.1).Client).kO) ∧ Sl lF 8 μ1 y7 (((r.1).Client).lg) ∧ Sl kF 5 μ1 y9 (((r.1).Formula).Kids) ∧ Sl nW 2 μ1 bx ((r.1).Keys)) := by
 refine sF h0 38 func36 rfl (fun b => sg ?_)
 obtain ⟨A1, c2, rfl⟩ := z.form
 let cg : Value := (.slice A1 g.kD.kO.length c2)
 obtain ⟨A3, c4, rfl⟩ := B.form
 let ct : Value := (.slice A3 g.kD.lg.length c4)
 obtain ⟨A5, c6, rfl⟩ := j.form
 let ce : Value := (.slice A5 g.Client.kO.length c6)
 obtain ⟨A7, c8, rfl⟩ := y.form
 let ch : Value := (.slice A7 g.Client.lg.length c8)
 obtain ⟨A9, g7, rfl⟩ := t.form
 let cf : Value := (.slice A9 g.Formula.Kids.length g7)
 obtain ⟨g4, g8, rfl⟩ := a2.form
 let cv : Value := (.slice g4 g.Keys.length g8)
 let a0 := (C1 g.kD.Name A1 g.kD.kO.length c2 A3 g.kD.lg.length c4 g.Client.Name A5 g.Client.kO.length c6 A7 g.Client.lg.length c8 g.Formula.Op g.Formula.K g.Formula.kC.kD g.Formula.kC.kJ A9 g.Formula.Kids.length g7 g.nZ g.mh.oG g.mh.oI g.my g.nx g.mU g4 g.Keys.length g8)
 refine VE (lJ b rfl (fun ef p b => VE (lG b eK (fun eg h9 b => Wa (lS (VA b (Mt Mh) a0 cY bY (bS hm fun ek ca hm => VE (Eg b call98 (uy g cg ct ce ch cf cv _ _ (z.mono kX.mono b.kN) (B.mono ma.mono b.kN) (j.mono kX.mono b.kN) (y.mono ma.mono b.kN) (t.mono kL.mono b.kN) (a2.mono oO.mono b.kN) ca) (fun eh b => V (ot rfl) (ln (CI hm rfl (fun bz hm => ?_) (fun bz hm => ?_))))))))))))
 ·refine sg (VA b (Mt Mh) a0 cY bY (VO (lf (.agg a0.toArray) (a0.toArray) b rfl rfl bY oc nb rfl (fun ei b => Wa (ln ?_)))))
  replace b := b.kG (Kb (Db St))
  refine lC (lL ?_)
  obtain rfl := sj hm
  exact qV (v0 := (.agg a0.toArray)) (v1 := (.bool false)) rfl rfl (kM b.has Mh a0 rfl cY bY) rfl ⟨_, _, _, rfl, (b.mW Sn), (lm.refl _), Lo.refl, (ST.lU b (nn.mem Sn)), cg, ct, ce, ch, cf, cv, rfl, rfl, z, B, j, y, t, a2⟩
 refine kS (VE (lE (cs := #[(.int .i64 1), (.int .i64 0)]) b (oU rfl rfl) (nq gT iH zeroValue3) (fun ej i0 b => V (BD gT rfl) (Wm (ln (mB (NQ 3 (Ic (sg (Wi rfl ?_))))))))))
 refine ln (kY (vm rfl (kn (kY (bg (V (G2 (i := 0) gT iH rfl rfl dc dc rfl) (VB b Mh rfl rfl cD (Wa (ln ?_)))))))))
 refine sg (Wm (bS hm fun df t5 hm => ?_))
 refine VE (eD b (Cb (Pb (Pb Pz)) Cn) call99 (fun hh => mo.mP (xj p g cg ct ce ch cf cv 1 _ _ hh (z.mono kX.mono (lm.refl _)) (B.mono ma.mono (lm.refl _)) (j.mono kX.mono (lm.refl _)) (y.mono ma.mono (lm.refl _)) (t.mono kL.mono (lm.refl _)) (a2.mono oO.mono (lm.refl _)) t5)) ?_)
 rintro _ dj t4 ci b T s ⟨q8, rfl, cb⟩
 obtain rfl := q8.symm
 replace b := b.perm (Tb Tn)
 refine V (ny (bM (fun (o : Nat) => Value.pointer (some ⟨p, o, none⟩)) (jy (t5.symm.trans rfl)))) (Wf oS (VB b Mh rfl rfl eX (V (mi bL rfl j) (Wi rfl (Wa (ln (qt (mB (nS (fun m E W => ∃ h7 f4 e0 e7 e1 h2 f5 e2 h3 e3 h4 f6 f7 P e4 h5 f8 R f9 g0 g1 e5 h6 H u4, lm t4 H ∧ Lo (keys []) w t4 H ∧ ST false (keys []) w W H ((p, Ob #[(.string f4), e0, e1, (.string f5), e2, e3, (.int .i64 f6), (.int .i64 f7), (.string P.kD), (.string P.kJ), e4, (.int .i64 f8), (.int .i64 R.oG), (.int .i64 R.oI), (.int .i64 f9), (.int .i64 g0), (.int .i64 g1), e5] 93) :: ((i0, Ob #[(.int .i64 1), (.int .i64 0)] 3) :: ((h9, Ol C6 93) :: u4))) ∧ E 1 = (.pointer (some ⟨p, 0, none⟩)) ∧ E 2 = (.pointer (some ⟨h9, 0, none⟩)) ∧ E 5 = (.int .i64 1) ∧ E 6 = (.int .i64 h7) ∧ E 12 = (.slice (some ⟨i0, 0, none⟩) 2 2) ∧ E 13 = (.int .i64 2) ∧ E 14 = (.int .i64 0) ∧ Sl kW 15 H e0 e7 ∧ Sl lF 8 H e1 h2 ∧ Sl kW 15 H e2 h3 ∧ Sl lF 8 H e3 h4 ∧ Sl kF 5 H e4 h5 ∧ Sl nW 2 H e5 h6 ∧ qz m h7 f4 e7 h2 f5 h3 h4 f6 f7 P h5 f8 R f9 g0 g1 h6 = some r) lB ⟨(IntKind.i64.wrap ((g.Client.kO.length : Int) - 1)), g.kD.Name, cg, g.kD.kO, ct, g.kD.lg, g.Client.Name, ce, g.Client.kO, ch, g.Client.lg, g.Formula.Op, g.Formula.K, g.Formula.kC, cf, g.Formula.Kids, g.nZ, g.mh, g.my, g.nx, g.mU, cv, g.Keys, t4, _, (lm.refl _), Lo.refl, (b.kG St), rfl, rfl, rfl, rfl, rfl, rfl, rfl, (z.mono kX.mono T), (B.mono ma.mono T), (j.mono kX.mono T), (y.mono ma.mono T), (t.mono kL.mono T), (a2.mono oO.mono T), hm⟩ ?_)))))))))
 let cn : Value := (.pointer (some ⟨h9, 0, none⟩))
 let cm : Value := (.pointer (some ⟨p, 0, none⟩))
 let cd : Value := (.slice (some ⟨i0, 0, none⟩) 2 2)
 let v9 := (#[(.int .i64 1), (.int .i64 0)] : Array Value)
 rintro m E W ⟨h7, f4, e0, e7, e1, h2, f5, e2, h3, e3, h4, f6, f7, P, e4, h5, f8, R, f9, g0, g1, e5, h6, H, u4, s4, d, b, h1, s6, s7, m5, m6, m7, s8, g9, j6, j7, j8, j9, k0, G⟩
 let w0 := (⟨(⟨f4, e7, h2⟩ : lI), (⟨f5, h3, h4⟩ : lI), (⟨f6, f7, P, h5⟩ : Formula), f8, R, f9, g0, g1, h6⟩ : mw)
 cases m with
 | zero => rw [qz] at G; cases G
 | succ aw =>
  refine kY (sg (Wh m5 (Wi rfl (ln (CI G rfl (fun w2 G => ?_) (fun w2 G => ?_))))))
  ·refine kn (kY (CJ G (fun u E W => ∃ n5 n6 n7 n8 n9 o0 N u5, lm H N ∧ Lo (keys []) w H N ∧ ST false (keys []) w W N ((p, Ob #[(.string u.1), n5, n6, (.string u.2.2.2.1), n7, n8, (.int .i64 u.2.2.2.2.2.2.1), (.int .i64 u.2.2.2.2.2.2.2.1), (.string u.2.2.2.2.2.2.2.2.1.kD), (.string u.2.2.2.2.2.2.2.2.1.kJ), n9, (.int .i64 u.2.2.2.2.2.2.2.2.2.2.1), (.int .i64 u.2.2.2.2.2.2.2.2.2.2.2.1.oG), (.int .i64 u.2.2.2.2.2.2.2.2.2.2.2.1.oI), (.int .i64 u.2.2.2.2.2.2.2.2.2.2.2.2.1), (.int .i64 u.2.2.2.2.2.2.2.2.2.2.2.2.2.1), (.int .i64 u.2.2.2.2.2.2.2.2.2.2.2.2.2.2.1), o0] 93) :: ((i0, Obj.cells v9 3 (0, 0)) :: ((h9, Ol C6 93) :: u5))) ∧ E 1 = cm ∧ E 2 = cn ∧ E 5 = (.int .i64 1) ∧ E 6 = (.int .i64 h7) ∧ E 12 = cd ∧ E 13 = (.int .i64 2) ∧ E 14 = (.int .i64 0) ∧ Sl kW 15 N n5 u.2.1 ∧ Sl lF 8 N n6 u.2.2.1 ∧ Sl kW 15 N n7 u.2.2.2.2.1 ∧ Sl lF 8 N n8 u.2.2.2.2.2.1 ∧ Sl kF 5 N n9 u.2.2.2.2.2.2.2.2.2.1 ∧ Sl nW 2 N o0 u.2.2.2.2.2.2.2.2.2.2.2.2.2.2.2) (fun u K => ?_) ?_))
   ·refine bg (V (kI h1 (kM b.has Mh [(.string f4), e0, e1, (.string f5), e2, e3, (.int .i64 f6), (.int .i64 f7), (.string P.kD), (.string P.kJ), e4, (.int .i64 f8), (.int .i64 R.oG), (.int .i64 R.oI), (.int .i64 f9), (.int .i64 g0), (.int .i64 g1), e5] rfl cY bY)) (Wh s7 (Wh m5 (bS K fun a x0 K => ?_))))
    let ew : Value := (.int .i64 ((a).nZ))
    let eu : Value := (.int .i64 ((a).nx))
    let es : Value := (.int .i64 ((a).mU))
    let er : Value := (.int .i64 ((a).my))
    let el : Value := (.string (((a).kD).Name))
    let ed : Value := (.int .i64 (((a).mh).oI))
    let ec : Value := (.int .i64 (((a).mh).oG))
    let eb : Value := (.int .i64 (((a).Formula).K))
    let ea : Value := (.string (((a).Client).Name))
    let dd : Value := (.int .i64 (((a).Formula).Op))
    let w1 := (((a).Formula).kC)
    let fb : Value := (.string (w1.kJ))
    let fa : Value := (.string (w1.kD))
    refine VE (eD b (aX _) call44 (fun hh => mo.mP (xx w0 e0 e1 e2 e3 e4 e5 1 h7 _ _ hh (g9.mono kX.mono (lm.refl _)) (j6.mono ma.mono (lm.refl _)) (j7.mono kX.mono (lm.refl _)) (j8.mono ma.mono (lm.refl _)) (j9.mono kL.mono (lm.refl _)) (k0.mono oO.mono (lm.refl _)) x0)) ?_ (L0 := []))
    rintro _ dk v2 cj b I h ⟨dn, dp, dq, dr, ds, dt, q9, rfl, r2, r3, r4, r5, r6, r7⟩
    obtain rfl := q9.symm
    refine VE (lG b eK (fun co da b => ?_))
    obtain ⟨b0, c7, rfl⟩ := r2.form
    let p7 : Value := (.slice b0 (((a).kD).kO).length c7)
    obtain ⟨b1, c9, rfl⟩ := r3.form
    let q1 : Value := (.slice b1 (((a).kD).lg).length c9)
    obtain ⟨b2, d0, rfl⟩ := r4.form
    let p3 : Value := (.slice b2 (((a).Client).kO).length d0)
    obtain ⟨b3, d1, rfl⟩ := r5.form
    let p8 : Value := (.slice b3 (((a).Client).lg).length d1)
    obtain ⟨b4, d2, rfl⟩ := r6.form
    let p4 : Value := (.slice b4 (((a).Formula).Kids).length d2)
    obtain ⟨b5, d3, rfl⟩ := r7.form
    let v7 : Value := (.slice b5 ((a).Keys).length d3)
    let g6 := (#[el, p7, q1, ea, p3, p8, dd, eb, fa, fb, p4, ew, ec, ed, er, eu, es, v7])
    let b8 : Value := (.agg #[el, p7, q1, ea, p3, p8, dd, eb, fa, fb, p4, ew, ec, ed, er, eu, es, v7])
    refine VO (lf b8 g6 b rfl rfl bY oc nb rfl (fun cp b => lr (VA b Mh [el, p7, q1, ea, p3, p8, dd, eb, fa, fb, p4, ew, ec, ed, er, eu, es, v7] cY bY (bS K fun dg x1 K => VE (Eg b call98 (uy a p7 q1 p3 p8 p4 v7 _ _ (r2.mono kX.mono b.kN) (r3.mono ma.mono b.kN) (r4.mono kX.mono b.kN) (r5.mono ma.mono b.kN) (r6.mono kL.mono b.kN) (r7.mono oO.mono b.kN) x1) (fun cq b => ln (CI K rfl (fun w3 K => ?_) (fun w3 K => ?_))))))))
    ·refine kV (VA b Mh [el, p7, q1, ea, p3, p8, dd, eb, fa, fb, p4, ew, ec, ed, er, eu, es, v7] cY bY ?_)
     replace b := b.perm (Nb (Pb Pz) Nz)
     refine VO (lf b8 g6 b h1 rfl bY oc nb rfl (fun cr b => lH (lK (kT ?_))))
     obtain rfl := sj K
     exact ⟨p7, q1, p3, p8, p4, v7, v2, _, I, h, (b.kG (Kb (Db St))), h1, s6, s7, m5, m6, m7, s8, r2, r3, r4, r5, r6, r7⟩
    refine mr (lK (kT ?_))
    obtain rfl := sj K
    exact ⟨e0, e1, e2, e3, e4, e5, v2, _, I, h, (b.kG (Db St)), h1, s6, s7, m5, m6, m7, s8, (g9.mono kX.mono I), (j6.mono ma.mono I), (j7.mono kX.mono I), (j8.mono ma.mono I), (j9.mono kL.mono I), (k0.mono oO.mono I)⟩
   rintro ⟨az, ai, aj, ba, ak, al, bc, bd, be, am, bf, bh, bi, bj, bk, an⟩ E W ⟨n5, n6, n7, n8, n9, o0, N, u5, v4, A, b, z1, z2, z3, z4, z5, z6, z7, x4, x5, x6, x7, x8, x9⟩ w6
   exact kV (Wh z4 (Wi rfl (Wa (ln ⟨aw, bB _, (IntKind.i64.wrap (h7 - 1)), az, n5, ai, n6, aj, ba, n7, ak, n8, al, bc, bd, be, n9, am, bf, bh, bi, bj, bk, o0, an, N, _, (s4.trans v4), (d.trans A), (b.kG St), z1, z2, z3, rfl, z5, z6, z7, x4, x5, x6, x7, x8, x9, w6⟩))))
  refine nM (nB (nB (qe (kT (lK (kT (kV (V (lR s8 rfl rfl) (Wm (ln (Ic (sg (V (lR rfl m7 rfl) (lH ?_))))))))))))))
  refine kT (kY (vm rfl (kn (kY (bg (V (G2 (i := 1) gT iH m6 rfl dc dc rfl) (VB b (Mt Mh) rfl rfl cD (Wa (ln (kY ?_))))))))))
  refine kV (Wm (bS G fun dh t6 G => ?_))
  refine VE (eD b (Cb Pz Cn) call99 (fun hh => mo.mP (xj p w0 e0 e1 e2 e3 e4 e5 0 _ _ hh (g9.mono kX.mono (lm.refl _)) (j6.mono ma.mono (lm.refl _)) (j7.mono kX.mono (lm.refl _)) (j8.mono ma.mono (lm.refl _)) (j9.mono kL.mono (lm.refl _)) (k0.mono oO.mono (lm.refl _)) t6)) ?_ (ha := P5 h1 rfl))
  rintro _ dl m3 ck b U F ⟨r0, rfl, cc⟩
  obtain rfl := r0.symm
  replace b := b.perm (Tb Tn)
  refine V (ny (bM (fun (o : Nat) => Value.pointer (some ⟨p, o, none⟩)) (jy (t6.symm.trans rfl)))) (Wf oS (VB b Mh rfl rfl eX (V (mi bL rfl g9) (Wi rfl (Wa (ln (qt (CJ G (fun k E W => ∃ o1 o2 o3 o4 o5 o6 q u6, lm m3 q ∧ Lo (keys []) w m3 q ∧ ST false (keys []) w W q ((p, Ob #[(.string k.1), o1, o2, (.string k.2.2.2.1), o3, o4, (.int .i64 k.2.2.2.2.2.2.1), (.int .i64 k.2.2.2.2.2.2.2.1), (.string k.2.2.2.2.2.2.2.2.1.kD), (.string k.2.2.2.2.2.2.2.2.1.kJ), o5, (.int .i64 k.2.2.2.2.2.2.2.2.2.2.1), (.int .i64 k.2.2.2.2.2.2.2.2.2.2.2.1.oG), (.int .i64 k.2.2.2.2.2.2.2.2.2.2.2.1.oI), (.int .i64 k.2.2.2.2.2.2.2.2.2.2.2.2.1), (.int .i64 k.2.2.2.2.2.2.2.2.2.2.2.2.2.1), (.int .i64 k.2.2.2.2.2.2.2.2.2.2.2.2.2.2.1), o6] 93) :: ((i0, Obj.cells v9 3 (0, 0)) :: ((h9, Ol C6 93) :: u6))) ∧ E 1 = cm ∧ E 2 = cn ∧ E 12 = cd ∧ E 13 = (.int .i64 2) ∧ E 14 = (.int .i64 1) ∧ Sl kW 15 q o1 k.2.1 ∧ Sl lF 8 q o2 k.2.2.1 ∧ Sl kW 15 q o3 k.2.2.2.2.1 ∧ Sl lF 8 q o4 k.2.2.2.2.2.1 ∧ Sl kF 5 q o5 k.2.2.2.2.2.2.2.2.2.1 ∧ Sl nW 2 q o6 k.2.2.2.2.2.2.2.2.2.2.2.2.2.2.2) (fun k w8 => ?_) ?_))))))))
  ·refine mB (nS (fun m E W => ∃ h8 l5 e8 m9 e9 n0 l6 f0 n1 f1 n2 l7 l8 g2 f2 n3 l9 g3 m0 m1 m2 f3 n4 D u7, lm m3 D ∧ Lo (keys []) w m3 D ∧ ST false (keys []) w W D ((p, Ob #[(.string l5), e8, e9, (.string l6), f0, f1, (.int .i64 l7), (.int .i64 l8), (.string g2.kD), (.string g2.kJ), f2, (.int .i64 l9), (.int .i64 g3.oG), (.int .i64 g3.oI), (.int .i64 m0), (.int .i64 m1), (.int .i64 m2), f3] 93) :: ((i0, Obj.cells v9 3 (0, 0)) :: ((h9, Ol C6 93) :: u7))) ∧ E 1 = cm ∧ E 2 = cn ∧ E 5 = (.int .i64 0) ∧ E 6 = (.int .i64 h8) ∧ E 12 = cd ∧ E 13 = (.int .i64 2) ∧ E 14 = (.int .i64 1) ∧ Sl kW 15 D e8 m9 ∧ Sl lF 8 D e9 n0 ∧ Sl kW 15 D f0 n1 ∧ Sl lF 8 D f1 n2 ∧ Sl kF 5 D f2 n3 ∧ Sl nW 2 D f3 n4 ∧ qF m h8 l5 m9 n0 l6 n1 n2 l7 l8 g2 n3 l9 g3 m0 m1 m2 n4 = some k) lB ⟨(IntKind.i64.wrap ((e7.length : Int) - 1)), f4, e0, e7, e1, h2, f5, e2, h3, e3, h4, f6, f7, P, e4, h5, f8, R, f9, g0, g1, e5, h6, m3, _, (lm.refl _), Lo.refl, (b.kG St), h1, s6, rfl, rfl, m6, m7, rfl, (g9.mono kX.mono U), (j6.mono ma.mono U), (j7.mono kX.mono U), (j8.mono ma.mono U), (j9.mono kL.mono U), (k0.mono oO.mono U), w8⟩ ?_)
   rintro m E W ⟨h8, l5, e8, m9, e9, n0, l6, f0, n1, f1, n2, l7, l8, g2, f2, n3, l9, g3, m0, m1, m2, f3, n4, D, u7, s5, l, b, j5, s9, t0, m8, t1, t2, t3, q2, q3, q4, q5, q6, q7, a3⟩
   cases m with
   | zero => rw [qF] at a3; cases a3
   | succ ay =>
    refine kY (sg (Wh m8 (Wi rfl (ln (CI a3 rfl (fun w4 a3 => ?_) (fun w4 a3 => ?_))))))
    ·refine kn (kY (CJ a3 (fun x E W => ∃ o7 o8 o9 p0 p1 p2 Q u8, lm D Q ∧ Lo (keys []) w D Q ∧ ST false (keys []) w W Q ((p, Ob #[(.string x.1), o7, o8, (.string x.2.2.2.1), o9, p0, (.int .i64 x.2.2.2.2.2.2.1), (.int .i64 x.2.2.2.2.2.2.2.1), (.string x.2.2.2.2.2.2.2.2.1.kD), (.string x.2.2.2.2.2.2.2.2.1.kJ), p1, (.int .i64 x.2.2.2.2.2.2.2.2.2.2.1), (.int .i64 x.2.2.2.2.2.2.2.2.2.2.2.1.oG), (.int .i64 x.2.2.2.2.2.2.2.2.2.2.2.1.oI), (.int .i64 x.2.2.2.2.2.2.2.2.2.2.2.2.1), (.int .i64 x.2.2.2.2.2.2.2.2.2.2.2.2.2.1), (.int .i64 x.2.2.2.2.2.2.2.2.2.2.2.2.2.2.1), p2] 93) :: ((i0, Obj.cells v9 3 (0, 0)) :: ((h9, Ol C6 93) :: u8))) ∧ E 1 = cm ∧ E 2 = cn ∧ E 5 = (.int .i64 0) ∧ E 6 = (.int .i64 h8) ∧ E 12 = cd ∧ E 13 = (.int .i64 2) ∧ E 14 = (.int .i64 1) ∧ Sl kW 15 Q o7 x.2.1 ∧ Sl lF 8 Q o8 x.2.2.1 ∧ Sl kW 15 Q o9 x.2.2.2.2.1 ∧ Sl lF 8 Q p0 x.2.2.2.2.2.1 ∧ Sl kF 5 Q p1 x.2.2.2.2.2.2.2.2.2.1 ∧ Sl nW 2 Q p2 x.2.2.2.2.2.2.2.2.2.2.2.2.2.2.2) (fun x M => ?_) ?_))
     ·refine bg (V (kI j5 (kM b.has Mh [(.string l5), e8, e9, (.string l6), f0, f1, (.int .i64 l7), (.int .i64 l8), (.string g2.kD), (.string g2.kJ), f2, (.int .i64 l9), (.int .i64 g3.oG), (.int .i64 g3.oI), (.int .i64 m0), (.int .i64 m1), (.int .i64 m2), f3] rfl cY bY)) (Wh t0 (Wh m8 (bS M fun c x2 M => ?_))))
      let ez : Value := (.int .i64 ((c).nZ))
      let ey : Value := (.int .i64 ((c).nx))
      let ev : Value := (.int .i64 ((c).mU))
      let et : Value := (.int .i64 ((c).my))
      let eq : Value := (.string (((c).kD).Name))
      let ep : Value := (.int .i64 (((c).mh).oI))
      let eo : Value := (.int .i64 (((c).mh).oG))
      let en : Value := (.int .i64 (((c).Formula).K))
      let em : Value := (.string (((c).Client).Name))
      let ee : Value := (.int .i64 (((c).Formula).Op))
      let bb := (((c).Formula).kC)
      let fd : Value := (.string (bb.kJ))
      let fc : Value := (.string (bb.kD))
      refine VE (eD b (aX _) call44 (fun hh => mo.mP (xx (⟨(⟨l5, m9, n0⟩ : lI), (⟨l6, n1, n2⟩ : lI), (⟨l7, l8, g2, n3⟩ : Formula), l9, g3, m0, m1, m2, n4⟩ : mw) e8 e9 f0 f1 f2 f3 0 h8 _ _ hh (q2.mono kX.mono (lm.refl _)) (q3.mono ma.mono (lm.refl _)) (q4.mono kX.mono (lm.refl _)) (q5.mono ma.mono (lm.refl _)) (q6.mono kL.mono (lm.refl _)) (q7.mono oO.mono (lm.refl _)) x2)) ?_ (L0 := []))
      rintro _ dm v3 cl b J n ⟨du, dv, dw, dx, dy, dz, r1, rfl, r8, r9, s0, s1, s2, s3⟩
      obtain rfl := r1.symm
      refine VE (lG b eK (fun cw db b => ?_))
      obtain ⟨b6, d4, rfl⟩ := r8.form
      let p9 : Value := (.slice b6 (((c).kD).kO).length d4)
      obtain ⟨b7, d5, rfl⟩ := r9.form
      let u3 : Value := (.slice b7 (((c).kD).lg).length d5)
      obtain ⟨b9, d6, rfl⟩ := s0.form
      let p5 : Value := (.slice b9 (((c).Client).kO).length d6)
      obtain ⟨c0, d7, rfl⟩ := s1.form
      let q0 : Value := (.slice c0 (((c).Client).lg).length d7)
      obtain ⟨c1, d8, rfl⟩ := s2.form
      let p6 : Value := (.slice c1 (((c).Formula).Kids).length d8)
      obtain ⟨c3, d9, rfl⟩ := s3.form
      let v8 : Value := (.slice c3 ((c).Keys).length d9)
      let j1 := (#[eq, p9, u3, em, p5, q0, ee, en, fc, fd, p6, ez, eo, ep, et, ey, ev, v8])
      let g5 : Value := (.agg #[eq, p9, u3, em, p5, q0, ee, en, fc, fd, p6, ez, eo, ep, et, ey, ev, v8])
      refine VO (lf g5 j1 b rfl rfl bY oc nb rfl (fun cx b => lr (VA b Mh [eq, p9, u3, em, p5, q0, ee, en, fc, fd, p6, ez, eo, ep, et, ey, ev, v8] cY bY (bS M fun di x3 M => VE (Eg b call98 (uy c p9 u3 p5 q0 p6 v8 _ _ (r8.mono kX.mono b.kN) (r9.mono ma.mono b.kN) (s0.mono kX.mono b.kN) (s1.mono ma.mono b.kN) (s2.mono kL.mono b.kN) (s3.mono oO.mono b.kN) x3) (fun cy b => ln (CI M rfl (fun w5 M => ?_) (fun w5 M => ?_))))))))
      ·refine kV (VA b Mh [eq, p9, u3, em, p5, q0, ee, en, fc, fd, p6, ez, eo, ep, et, ey, ev, v8] cY bY ?_)
       replace b := b.perm (Nb (Pb Pz) Nz)
       refine VO (lf g5 j1 b j5 rfl bY oc nb rfl (fun cz b => lH (lK (kT ?_))))
       obtain rfl := sj M
       exact ⟨p9, u3, p5, q0, p6, v8, v3, _, J, n, (b.kG (Kb (Db St))), j5, s9, t0, m8, t1, t2, t3, r8, r9, s0, s1, s2, s3⟩
      refine mr (lK (kT ?_))
      obtain rfl := sj M
      exact ⟨e8, e9, f0, f1, f2, f3, v3, _, J, n, (b.kG (Db St)), j5, s9, t0, m8, t1, t2, t3, (q2.mono kX.mono J), (q3.mono ma.mono J), (q4.mono kX.mono J), (q5.mono ma.mono J), (q6.mono kL.mono J), (q7.mono oO.mono J)⟩
     rintro ⟨bl, ao, ap, bn, aq, ar, bo, bp, bq, au, bs, bt, bu, bv, bw, av⟩ E W ⟨o7, o8, o9, p0, p1, p2, Q, u8, v6, O, b, ab, ac, ad, ae, af, ag, ah, y0, y2, y4, y6, y8, z0⟩ w9
     exact kV (Wh ae (Wi rfl (Wa (ln ⟨ay, bB _, (IntKind.i64.wrap (h8 - 1)), bl, o7, ao, o8, ap, bn, o9, aq, p0, ar, bo, bp, bq, p1, au, bs, bt, bu, bv, bw, p2, av, Q, _, (s5.trans v6), (l.trans O), (b.kG St), ab, ac, ad, rfl, af, ag, ah, y0, y2, y4, y6, y8, z0, w9⟩))))
    refine nM (nB (nB (qe (kT ?_))))
    obtain rfl := sj a3
    exact ⟨e8, e9, f0, f1, f2, f3, D, _, s5, l, (b.kG St), j5, s9, t1, t2, t3, q2, q3, q4, q5, q6, q7⟩
  rintro ⟨k7, k1, k2, k8, k3, k4, k9, l0, Y, k5, l1, Z, l2, l3, l4, k6⟩ E W ⟨o1, o2, o3, o4, o5, o6, q, u6, v5, L, b, z8, u9, de, z9, aa, t7, t8, t9, u0, u1, u2⟩ w7
  refine lK (kT (kV (V (lR aa rfl rfl) (Wm (ln (Ic (sg (V (lR rfl z9 rfl) (ln (kY (rN rfl ?_)))))))))))
  refine nM (nB (nB (qe (kT ?_))))
  replace b := b.kG (Kb (Db St))
  refine sg (V (kI z8 (kM b.has Mh [(.string k7), o1, o2, (.string k8), o3, o4, (.int .i64 k9), (.int .i64 l0), (.string Y.kD), (.string Y.kJ), o5, (.int .i64 l1), (.int .i64 Z.oG), (.int .i64 Z.oI), (.int .i64 l2), (.int .i64 l3), (.int .i64 l4), o6] rfl cY bY)) ?_)
  obtain ⟨i1, i7, rfl⟩ := t7.form
  obtain ⟨i2, i8, rfl⟩ := t8.form
  obtain ⟨i3, i9, rfl⟩ := t9.form
  obtain ⟨i4, j0, rfl⟩ := u0.form
  obtain ⟨i5, j3, rfl⟩ := u1.form
  obtain ⟨i6, j4, rfl⟩ := u2.form
  let j2 := (C1 k7 i1 k1.length i7 i2 k2.length i8 k8 i3 k3.length i9 i4 k4.length j0 k9 l0 Y.kD Y.kJ i5 k5.length j3 l1 Z.oG Z.oI l2 l3 l4 i6 k6.length j4)
  replace b := b.perm (Nb (Pb Pz) Nz)
  refine VO (lf (.agg j2.toArray) (j2.toArray) b u9 rfl bY oc nb rfl (fun cu b => Wa (ln ?_)))
  replace b := b.kG (Kb (Db St))
  refine lC ?_
  obtain rfl := sj w7
  exact qV (v0 := (.agg j2.toArray)) (v1 := (.bool true)) rfl u9 (kM b.has Mh j2 rfl cY bY) rfl ⟨_, _, _, rfl, (b.mW Sn), (((T.trans s4).trans U).trans v5), (((s.trans d).trans F).trans L), (ST.lU b (nn.mem Sn)), (.slice i1 k1.length i7), (.slice i2 k2.length i8), (.slice i3 k3.length i9), (.slice i4 k4.length j0), (.slice i5 k5.length j3), (.slice i6 k6.length j4), rfl, rfl, t7, t8, t9, u0, u1, u2⟩
theorem Em (a : mw) (u y g t i B : Value) (r : Int) (w : World) (k : Sl kW 15 (hp w) u a.kD.kO) (x : Sl lF 8 (hp w) y a.kD.lg) (c : Sl kW 15 (hp w) g a.Client.kO) (j : Sl lF 8 (hp w) t a.Client.lg) (z : Sl kF 5 (hp w) i a.Formula.Kids) (D : Sl nW 2 (hp w) B a.Keys) (hm : tX a = some r) :
  lD false Tryz.prog 42 [(.agg #[(.string a.kD.Name), u, y, (.string a.Client.Name), g, t, (.int .i64 a.Formula.Op), (.int .i64 a.Formula.K), (.string a.Formula.kC.kD), (.string a.Formula.kC.kJ), i, (.int .i64 a.nZ), (.int .i64 a.mh.oG), (.int .i64 a.mh.oI), (.int .i64 a.my), (.int .i64 a.nx), (.int .i64 a.mU), B])] w (.int .i64 r) := by
 refine cG 20 func42 rfl (fun b => sg ?_)
 obtain ⟨H, M, rfl⟩ := k.form
 obtain ⟨I, N, rfl⟩ := x.form
 obtain ⟨J, Q, rfl⟩ := c.form
 obtain ⟨K, T, rfl⟩ := j.form
 obtain ⟨A9, a3, rfl⟩ := z.form
 obtain ⟨a2, a4, rfl⟩ := D.form
 refine VE (lJ b rfl (fun p s b => Wa (lr (Wf yB (VA b Mh (C4 a.kD.Name H a.kD.kO.length M I a.kD.lg.length N) eJ dJ (Wf wF (VA b Mh (C4 a.Client.Name J a.Client.kO.length Q K a.Client.lg.length T) eJ dJ (bS hm fun v Y hm => ?_))))))))
 refine VE (He b (aX _) call11 (fun _ _ _ _ => (F6 a.kD (.slice H a.kD.kO.length M) (.slice I a.kD.lg.length N) a.Client (.slice J a.Client.kO.length Q) (.slice K a.Client.lg.length T) _ _ (k.mono kX.mono b.kN) (x.mono ma.mono b.kN) (c.mono kX.mono b.kN) (j.mono ma.mono b.kN) Y)) (fun q A L m b a5 h d U => ?_) (L0 := []))
 obtain ⟨E, n, F, a9, G, rfl, Z, l⟩ := U
 replace G := G.symm; subst G
 replace b := b.perm (Tr (Tr Tn))
 refine Wm (Wx rfl (Wx rfl (Wx rfl (Wa (Wa (Wa (ln ?_)))))))
 replace b := b.kG (Kr (Kr (Db St)))
 refine sg (Wm (V (po aT rfl Z) (Wm (V (po aT rfl l) (Wi rfl (Wa (ln ?_)))))))
 exact lC (rQ hm b)
set_option maxHeartbeats 1000000 in
theorem Jf (r : Bool) (w : World) (hm : wK  = some r) :
  lD false Tryz.prog 34 [] w (.bool r) := by
 let gx : Value := (.agg (kK Dk).toArray)
 let bb := (⟨1, (⟨K7.kD, K5⟩ : kC), K3, K0, K0, zS⟩ : kE)
 refine cG 82 func34 rfl (fun d => sg (Wa (lr (V (mH (v := (.agg (kQ K7).toArray)) (oU rfl rfl) (ml fE dQ (JX _ dQ) kr)) (V (mH (v := gx) (AZ rfl rfl rfl) (ml cW eQ (Sz _ eQ) kr)) (VE (lG d cW (fun W2 b1 d => VO (lf gx ((kK Dk).toArray) d rfl rfl aO (oP Dk) nb rfl (fun W3 d => ln (kY ?_)))))))))))
 refine kV (VA d Mh (kK Dk) bW aO (VE (lG d cW (fun W5 b4 d => VO (lf gx ((kK Dk).toArray) d rfl rfl aO (oP Dk) nb rfl (fun W6 d => lr (Wf rE (Wf uI (VO (lf (.string K5) ((kK bb).toArray) d rfl rfl gG (Ki K5) nb rfl (fun W7 d => lr ?_)))))))))))
 refine Wa (ln (kY ?_))
 replace d := d.drew
 have m := d.has.kG (Kb (Kb Sn))
 refine mj m lQ (X 0 rfl m (mH (v := (.agg Uw.toArray)) (np rfl) (ml jT eG (Kv _ eG) kr)) (X 1 rfl m (kR rfl) (XH 2 rfl m (fun _ q => kI rfl (kM q (Mt Mh) (kK Dk) rfl bW aO)) (X 4 rfl m (kR rfl) (XH 5 rfl m (fun _ q => kI rfl (kM q Mh (kK bb) rfl bW aO)) (X 9 rfl m (kP rE rfl) (XH 10 rfl m (fun _ q => kI rfl (kM q (Mt Mh) (kQ K7) rfl bG aR)) (X 11 rfl m (mH (v := (.agg Ui.toArray)) (oU rfl rfl) (ml aP bF (uH _ bF) kr)) (PJ hm (fun x E W => ∃ R n2 n3 p4 p3 n4 n5 n6 n7 n8 n9 o0 o1 o2 s s5, lm (hp w) s ∧ ST false lT w W s ((R, Ob #[(.string x.2.2.2.2.2.2.2.2.2.2.2.2.2.2.2.2.1), n7, n8, (.string x.2.2.2.2.2.2.2.2.2.2.2.2.2.2.2.2.2.2.2.1), n9, o0, (.int .i64 x.2.2.2.2.2.2.2.2.2.2.2.2.2.2.2.2.2.2.2.2.2.2.1), (.int .i64 x.2.2.2.2.2.2.2.2.2.2.2.2.2.2.2.2.2.2.2.2.2.2.2.1), (.string x.2.2.2.2.2.2.2.2.2.2.2.2.2.2.2.2.2.2.2.2.2.2.2.2.1.kD), (.string x.2.2.2.2.2.2.2.2.2.2.2.2.2.2.2.2.2.2.2.2.2.2.2.2.1.kJ), o1, (.int .i64 x.2.2.2.2.2.2.2.2.2.2.2.2.2.2.2.2.2.2.2.2.2.2.2.2.2.2.1), (.int .i64 x.2.2.2.2.2.2.2.2.2.2.2.2.2.2.2.2.2.2.2.2.2.2.2.2.2.2.2.1.oG), (.int .i64 x.2.2.2.2.2.2.2.2.2.2.2.2.2.2.2.2.2.2.2.2.2.2.2.2.2.2.2.1.oI), (.int .i64 x.2.2.2.2.2.2.2.2.2.2.2.2.2.2.2.2.2.2.2.2.2.2.2.2.2.2.2.2.1), (.int .i64 x.2.2.2.2.2.2.2.2.2.2.2.2.2.2.2.2.2.2.2.2.2.2.2.2.2.2.2.2.2.1), (.int .i64 x.2.2.2.2.2.2.2.2.2.2.2.2.2.2.2.2.2.2.2.2.2.2.2.2.2.2.2.2.2.2.1), o2] 93) :: ((b4, Ol (kK bb) 52) :: ((b1, Ol (kK Dk) 52) :: (p3 ++ s5)))) ∧ E 1 = (.pointer (some ⟨b1, 0, none⟩)) ∧ E 4 = (.pointer (some ⟨R, 0, none⟩)) ∧ E 25 = (.agg #[(.string x.1), n2, n3, (.string x.2.2.2.1), p4, n4, (.int .i64 x.2.2.2.2.2.2.1), (.int .i64 x.2.2.2.2.2.2.2.1), (.string x.2.2.2.2.2.2.2.2.1.kD), (.string x.2.2.2.2.2.2.2.2.1.kJ), n5, (.int .i64 x.2.2.2.2.2.2.2.2.2.2.1), (.int .i64 x.2.2.2.2.2.2.2.2.2.2.2.1.oG), (.int .i64 x.2.2.2.2.2.2.2.2.2.2.2.1.oI), (.int .i64 x.2.2.2.2.2.2.2.2.2.2.2.2.1), (.int .i64 x.2.2.2.2.2.2.2.2.2.2.2.2.2.1), (.int .i64 x.2.2.2.2.2.2.2.2.2.2.2.2.2.2.1), n6]) ∧ Sl kW 15 s n2 x.2.1 ∧ Fr w.heap.size n2 ∧ Sl lF 8 s n3 x.2.2.1 ∧ Fr w.heap.size n3 ∧ lW 60 kW 15 s p4 x.2.2.2.2.1 p3 ∧ Sl lF 8 s n4 x.2.2.2.2.2.1 ∧ Fr w.heap.size n4 ∧ Sl kF 5 s n5 x.2.2.2.2.2.2.2.2.2.1 ∧ Fr w.heap.size n5 ∧ Sl nW 2 s n6 x.2.2.2.2.2.2.2.2.2.2.2.2.2.2.2.1 ∧ Fr w.heap.size n6 ∧ Sl kW 15 s n7 x.2.2.2.2.2.2.2.2.2.2.2.2.2.2.2.2.2.1 ∧ Fr w.heap.size n7 ∧ Sl lF 8 s n8 x.2.2.2.2.2.2.2.2.2.2.2.2.2.2.2.2.2.2.1 ∧ Fr w.heap.size n8 ∧ Sl kW 15 s n9 x.2.2.2.2.2.2.2.2.2.2.2.2.2.2.2.2.2.2.2.2.1 ∧ Fr w.heap.size n9 ∧ Sl lF 8 s o0 x.2.2.2.2.2.2.2.2.2.2.2.2.2.2.2.2.2.2.2.2.2.1 ∧ Fr w.heap.size o0 ∧ Sl kF 5 s o1 x.2.2.2.2.2.2.2.2.2.2.2.2.2.2.2.2.2.2.2.2.2.2.2.2.2.1 ∧ Fr w.heap.size o1 ∧ Sl nW 2 s o2 x.2.2.2.2.2.2.2.2.2.2.2.2.2.2.2.2.2.2.2.2.2.2.2.2.2.2.2.2.2.2.2 ∧ Fr w.heap.size o2) (bm 15 16383) 1 ?_ (fun x J j7 => ?_))))))))))
 ·let hc : Value := (.pointer (some ⟨b1, 0, none⟩))
  let et := ((kK Dk).toArray : Array Value)
  rintro ⟨b6, K, M, b7, N, Q, b9, c0, z, T, c1, B, c2, c3, c4, U, ea, dq, dr, eb, ds, dt, ec, ed, ee, du, ef, eg, eh, ei, ej, dv⟩ E W ⟨R, n2, n3, p4, p3, n4, n5, n6, n7, n8, n9, o0, o1, o2, s, s5, o4, d, s6, l0, y4, k0, av, k1, aw, k8, k2, ay, k3, az, k4, ba, bk, bc, bl, bd, bn, be, bo, bf, bp, bh, bq, bi⟩ j9
  let fg : Value := (.pointer (some ⟨R, 0, none⟩))
  let dd := (⟨(⟨b6, K, M⟩ : lI), (⟨b7, N, Q⟩ : lI), (⟨b9, c0, z, T⟩ : Formula), c1, B, c2, c3, c4, U⟩ : mw)
  obtain ⟨a2, a8, rfl⟩ := k0.form
  let hg : Value := (.slice a2 K.length a8)
  obtain ⟨a3, a9, rfl⟩ := k1.form
  let hh : Value := (.slice a3 M.length a9)
  obtain ⟨a4, b0, rfl⟩ := k8.form
  let hi : Value := (.slice a4 N.length b0)
  obtain ⟨a5, b2, rfl⟩ := k2.form
  let hj : Value := (.slice a5 Q.length b2)
  obtain ⟨a6, b3, rfl⟩ := k3.form
  let hk : Value := (.slice a6 T.length b3)
  obtain ⟨a7, b5, rfl⟩ := k4.form
  let hl : Value := (.slice a7 U.length b5)
  let g5 := (C1 b6 a2 K.length a8 a3 M.length a9 b7 a4 N.length b0 a5 Q.length b2 b9 c0 z.kD z.kJ a6 T.length b3 c1 B.oG B.oI c2 c3 c4 a7 U.length b5)
  refine XO 14 rfl (lf (.agg g5.toArray) (g5.toArray) d l0 y4 bY oc nb rfl (fun dj d => ?_))
  have m := d.has.qI o4 (Db (Kb (Kb Sn)))
  refine ⟨m, (ms kr (kT ?_))⟩
  replace d := d.kG (Kb (Db St))
  refine sg (V (kI l0 (kM d.has Mh g5 rfl cY bY)) (bS j9 fun dw x7 j9 => VE (vK d call40 (HV dd hg hh hi hj hk hl _ _ (k0.mono kX.mono d.kN) (k1.mono ma.mono d.kN) (k8.sl kX d.kN (fun b o hq => d.at_ (Mt (Mt (Ml hq))))) (k2.mono ma.mono d.kN) (k3.mono kL.mono d.kN) (k4.mono oO.mono d.kN) x7) (fun dk dx er j8 d D hA m9 => Wa (lr (V (kI l0 (kM d.has (Ma Mh) g5 rfl cY bY)) ?_))))))
  replace d := d.perm (Nr (Qr (Qb (Qb Qz))) Nz)
  have bj := (k8.mono kX D).RF d (fun p hq => (Ml hq))
  obtain ⟨es, d, H, hB, n0⟩ := ST.tE kX d (k8.mono kX D)
  refine bS j9 fun g x8 j9 => ?_
  let hd : Value := (.int .i64 ((g.1).nZ))
  let hb : Value := (.int .i64 ((g.1).nx))
  let ha : Value := (.int .i64 ((g.1).mU))
  let gz : Value := (.int .i64 ((g.1).my))
  let gv : Value := (.string (((g.1).kD).Name))
  let gu : Value := (.int .i64 (((g.1).mh).oI))
  let gt : Value := (.int .i64 (((g.1).mh).oG))
  let gs : Value := (.int .i64 (((g.1).Formula).K))
  let gr : Value := (.string (((g.1).Client).Name))
  let gl : Value := (.int .i64 (((g.1).Formula).Op))
  let fn := (((g.1).Formula).kC)
  let ic : Value := (.string (fn.kJ))
  let hx : Value := (.string (fn.kD))
  refine VE (LU d (aX _) call36 (fun hH F n L => (Dd dd hg hh hi hj hk hl _ _ ⟨hH, F, n⟩ (k0.mono kX.mono (D.trans H)) (k1.mono ma.mono (D.trans H)) (n0.mono kX.mono (lm.refl _)) (k2.mono ma.mono (D.trans H)) (k3.mono kL.mono (D.trans H)) (k4.mono oO.mono (D.trans H)) x8)) (fun dl dy f5 di d O hC x6 => ?_) (L0 := []))
  obtain ⟨ek, el, em, en, eo, ep, n1, rfl, r0, r1, k9, r2, r3, r4⟩ := x6
  replace n1 := n1.symm; subst n1
  replace d := d.perm Tn
  refine Wm (Wx rfl (Wx rfl (VE (lG d eK (fun dm d0 d => ?_)))))
  let fs : Value := (.pointer (some ⟨d0, 0, none⟩))
  obtain ⟨d1, d7, rfl⟩ := r0.form
  let fh : Value := (.slice d1 (((g.1).kD).kO).length d7)
  obtain ⟨d2, d8, rfl⟩ := r1.form
  let fj : Value := (.slice d2 (((g.1).kD).lg).length d8)
  obtain ⟨d3, d9, rfl⟩ := k9.form
  let fc : Value := (.slice d3 (((g.1).Client).kO).length d9)
  obtain ⟨d4, e0, rfl⟩ := r2.form
  let fi : Value := (.slice d4 (((g.1).Client).lg).length e0)
  obtain ⟨d5, e1, rfl⟩ := r3.form
  let fd : Value := (.slice d5 (((g.1).Formula).Kids).length e1)
  obtain ⟨d6, e2, rfl⟩ := r4.form
  let ft : Value := (.slice d6 ((g.1).Keys).length e2)
  let b8 := (#[gv, fh, fj, gr, fc, fi, gl, gs, hx, ic, fd, hd, gt, gu, gz, hb, ha, ft] : Array Value)
  refine VO (lf (.agg #[gv, fh, fj, gr, fc, fi, gl, gs, hx, ic, fd, hd, gt, gu, gz, hb, ha, ft]) (#[gv, fh, fj, gr, fc, fi, gl, gs, hx, ic, fd, hd, gt, gu, gz, hb, ha, ft]) d rfl rfl bY oc nb rfl (fun dn d => Wa (ln (kY ?_))))
  replace d := d.drew
  have m := d.has.kG (Kb (Kr (Kb (Kb Sn))))
  refine mj m lQ (X 0 rfl m (kR rfl) (X 1 rfl m (po iO rfl m9) (X 2 rfl m (lR rfl rfl rfl) (X 3 rfl m (kR rfl) (PJ j9 (fun s1 E W => ∃ p5, ST false lT w W f5 ((d0, Obj.cells b8 93 (0, 0)) :: ((R, Ol g5 93) :: ((b1, Obj.cells et 52 (0, 0)) :: (j8 ++ p5)))) ∧ E 1 = hc ∧ E 4 = fg ∧ E 6 = fs ∧ E 7 = (.bool g.2) ∧ E 42 = (.bool s1)) (bm 50 1023) 40 ?_ (fun s1 e7 m5 => ?_))))))
  ·rintro cg E W ⟨p5, d, q2, q3, q4, w4, w5⟩ t3
   have m := d.has.kG (Kb (Sr (Qb (Qb Qz)) (Kb (Kb Sn))))
   refine X 10 rfl m (kR w5) (PJ t3 (fun s0 E W => ∃ p6, ST false lT w W f5 ((d0, Obj.cells b8 93 (0, 0)) :: ((R, Ol g5 93) :: ((b1, Obj.cells et 52 (0, 0)) :: (j8 ++ p6)))) ∧ E 1 = hc ∧ E 4 = fg ∧ E 6 = fs ∧ E 45 = (.bool s0)) (bm 50 8191) 37 ?_ (fun s0 f4 m4 => ?_))
   ·rintro ch E W ⟨p6, d, q5, q6, m6, w6⟩ t4
    have m := d.has.kG (Kb (Sr (Qb (Qb Qz)) (Kb (Kb Sn))))
    refine X 13 rfl m (kR w6) (PJ t4 (fun r9 E W => ∃ p7, ST false lT w W f5 ((d0, Obj.cells b8 93 (0, 0)) :: ((R, Ol g5 93) :: ((b1, Obj.cells et 52 (0, 0)) :: (j8 ++ p7)))) ∧ E 1 = hc ∧ E 4 = fg ∧ E 6 = fs ∧ E 52 = (.bool r9)) (bm 50 1048575) 30 ?_ (fun r9 f3 m3 => ?_))
    ·rintro ci E W ⟨p7, d, w7, q7, m7, w8⟩ t5
     have m := d.has.kG (Kb (Sr (Qb (Qb Qz)) (Kb (Kb Sn))))
     refine X 20 rfl m (kR w8) (PJ t5 (fun r8 E W => ∃ p8, ST false lT w W f5 ((d0, Obj.cells b8 93 (0, 0)) :: ((R, Ol g5 93) :: ((b1, Obj.cells et 52 (0, 0)) :: (j8 ++ p8)))) ∧ E 4 = fg ∧ E 6 = fs ∧ E 63 = (.bool r8)) (bm 50 2147483647) 19 ?_ (fun r8 e6 m2 => ?_))
     ·rintro cj E W ⟨p8, d, m8, q8, w9⟩ t6
      have m := d.has.kG (Kb (Sr (Qb (Qb Qz)) (Kb (Kb Sn))))
      refine X 31 rfl m (kR w9) (PJ t6 (fun r7 E W => ∃ p9, ST false lT w W f5 ((d0, Obj.cells b8 93 (0, 0)) :: ((R, Ol g5 93) :: ((b1, Obj.cells et 52 (0, 0)) :: (j8 ++ p9)))) ∧ E 4 = fg ∧ E 6 = fs ∧ E 68 = (.bool r7)) (bm 50 68719476735) 14 ?_ (fun r7 e5 m1 => ?_))
      ·rintro ck E W ⟨p9, d, q9, x1, x2⟩ t7
       have m := d.has.kG (Kb (Sr (Qb (Qb Qz)) (Kb (Kb Sn))))
       refine X 36 rfl m (kR x2) (PJ t7 (fun r6 E W => ∃ q0, ST false lT w W f5 ((d0, Obj.cells b8 93 (0, 0)) :: ((R, Ol g5 93) :: ((b1, Obj.cells et 52 (0, 0)) :: (j8 ++ q0)))) ∧ E 4 = fg ∧ E 73 = (.bool r6)) (bm 50 2199023255551) 9 ?_ (fun r6 e4 m0 => ?_))
       ·rintro cl E W ⟨q0, d, x3, x4⟩ t8
        have m := d.has.kG (Kb (Sr (Qb (Qb Qz)) (Kb (Kb Sn))))
        refine X 41 rfl m (kR x4) (PJ t8 (fun r5 E W => ∃ o3 q1, lm f5 o3 ∧ ST false lT w W o3 ((d0, Obj.cells b8 93 (0, 0)) :: ((R, Ol g5 93) :: ((b1, Obj.cells et 52 (0, 0)) :: (j8 ++ q1)))) ∧ E 81 = (.bool r5)) (bm 50 562949953421311) 1 ?_ (fun r5 e3 l9 => ?_))
        ·rintro cm E W ⟨o3, q1, s4, d, x5⟩ t9
         have m := d.has.qI s4 (Kb (Sr (Qb (Qb Qz)) (Kb (Kb Sn))))
         refine X 49 rfl m (om x5) (ms kr (kT ?_))
         exact lC (rQ t9 d)
        refine bC e3 (fun G e3 => ?_) (fun G e3 => ?_)
        ·refine rM 42 rfl rfl (cB G) m (fun _ q => kI x3 (kM q (Mt (Ma Mh)) g5 rfl cY bY)) (bS e3 fun x9 u4 e3 => ?_)
         refine AV 43 rfl rfl (cB G) (LU d (aX _) call44 (fun hH F n L => mo.mP (xx dd hg hh hi hj hk hl 1 0 _ _ ⟨hH, F, n⟩ (k0.mono kX.mono ((D.trans H).trans O)) (k1.mono ma.mono ((D.trans H).trans O)) (n0.mono kX.mono O) (k2.mono ma.mono ((D.trans H).trans O)) (k3.mono kL.mono ((D.trans H).trans O)) (k4.mono oO.mono ((D.trans H).trans O)) u4)) (fun z8 bz y1 z2 d l8 aE s7 => ?_) (L0 := []))
         obtain ⟨cn, co, cp, cq, cr, ct, l1, rfl, v2, v3, o6, v4, v5, v6⟩ := s7
         replace l1 := l1.symm; subst l1
         replace d := d.perm Tn
         have m := d.has.qI l8 (Kb (Sr (Qb (Qb Qz)) (Kb (Kb Sn))))
         refine ⟨m, ?_⟩
         obtain ⟨y7, ao, rfl⟩ := v2.form
         obtain ⟨y8, ap, rfl⟩ := v3.form
         obtain ⟨v7, w3, rfl⟩ := o6.form
         obtain ⟨y9, aq, rfl⟩ := v4.form
         obtain ⟨z0, ar, rfl⟩ := v5.form
         obtain ⟨z1, au, rfl⟩ := v6.form
         refine Xg 44 rfl rfl (cB G) m (Ov (k := 3) eS rfl eJ dJ rfl rfl) (Xg 45 rfl rfl (cB G) m (Of (v := (.slice v7 (((x9).Client).kO).length w3)) eG rfl eX rfl rfl) (Xg 46 rfl rfl (cB G) m (mi bL rfl o6) (Xg 47 rfl rfl (cB G) m (lR rfl rfl rfl) (X 48 rfl m (li (cB G) rfl) ?_))))
         obtain rfl := sj e3
         refine nu kr (l9 _ _ ⟨y1, _, l8, (d.kG St), rfl⟩)
        refine Xn 42 rfl rfl (cB G) m (Xn 43 rfl rfl (cB G) m (Xn 44 rfl rfl (cB G) m (Xn 45 rfl rfl (cB G) m (Xn 46 rfl rfl (cB G) m (Xn 47 rfl rfl (cB G) m (X 48 rfl m (lj (cB G) rfl) ?_))))))
        obtain rfl := sj e3
        refine nu kr (l9 _ _ ⟨f5, _, (lm.refl _), (d.kG St), rfl⟩)
       refine bC e4 (fun c9 e4 => ?_) (fun c9 e4 => ?_)
       ·refine rM 37 rfl rfl (cB c9) m (fun _ q => kI x1 (kM q Mh [gv, fh, fj, gr, fc, fi, gl, gs, hx, ic, fd, hd, gt, gu, gz, hb, ha, ft] rfl cY bY)) (bS e4 fun bw u5 e4 => AV 38 rfl rfl (cB c9) (Eg d call42 (Em g.1 fh fj fc fi fd ft _ _ (r0.mono kX.mono d.kN) (r1.mono ma.mono d.kN) (k9.mono kX.mono d.kN) (r2.mono ma.mono d.kN) (r3.mono kL.mono d.kN) (r4.mono oO.mono d.kN) u5) (fun z9 d => ?_)))
        have m := d.has.kG (Kb (Sr (Qb (Qb Qz)) (Kb (Kb Sn))))
        refine ⟨m, (Xg 39 rfl rfl (cB c9) m (lR rfl rfl rfl) (X 40 rfl m (li (cB c9) rfl) ?_))⟩
        obtain rfl := sj e4
        refine nu kr (m0 _ _ ⟨_, (d.kG St), q9, rfl⟩)
       refine Xn 37 rfl rfl (cB c9) m (Xn 38 rfl rfl (cB c9) m (Xn 39 rfl rfl (cB c9) m (X 40 rfl m (lj (cB c9) rfl) ?_)))
       obtain rfl := sj e4
       refine nu kr (m0 _ _ ⟨_, (d.kG St), q9, rfl⟩)
      refine bC e5 (fun c8 e5 => ?_) (fun c8 e5 => ?_)
      ·refine rM 32 rfl rfl (cB c8) m (fun _ q => kI m8 (kM q (Mt (Ma Mh)) g5 rfl cY bY)) (bS e5 fun bx u6 e5 => AV 33 rfl rfl (cB c8) (Eg d call42 (Em dd hg hh hi hj hk hl _ _ (k0.mono kX.mono (((D.trans H).trans O).trans d.kN)) (k1.mono ma.mono (((D.trans H).trans O).trans d.kN)) (n0.mono kX.mono (O.trans d.kN)) (k2.mono ma.mono (((D.trans H).trans O).trans d.kN)) (k3.mono kL.mono (((D.trans H).trans O).trans d.kN)) (k4.mono oO.mono (((D.trans H).trans O).trans d.kN)) u6) (fun aa d => ?_)))
       have m := d.has.kG (Kb (Sr (Qb (Qb Qz)) (Kb (Kb Sn))))
       refine ⟨m, (Xg 34 rfl rfl (cB c8) m (lR rfl rfl rfl) (X 35 rfl m (li (cB c8) rfl) ?_))⟩
       obtain rfl := sj e5
       refine nu kr (m1 _ _ ⟨_, (d.kG St), m8, q8, rfl⟩)
      refine Xn 32 rfl rfl (cB c8) m (Xn 33 rfl rfl (cB c8) m (Xn 34 rfl rfl (cB c8) m (X 35 rfl m (lj (cB c8) rfl) ?_)))
      obtain rfl := sj e5
      refine nu kr (m1 _ _ ⟨_, (d.kG St), m8, q8, rfl⟩)
     refine bC e6 (fun y e6 => ?_) (fun y e6 => ?_)
     ·refine Xg 21 rfl rfl (cB y) m (kP wF m7) (Xg 22 rfl rfl (cB y) m (kP oS rfl) (rM 23 rfl rfl (cB y) m (fun _ q => kI rfl (lh q Mh rfl eX)) (bS e6 fun P o5 e6 => rT 24 rfl kr (.inr ⟨20, true, 53, rfl, rfl, by decide, (cB y)⟩) rfl dc (fun _ _ h => h) m (mT (i := 0) (x0 := P) kW.out bL cR rfl rfl k9 (lN o5) (lM o5)) (fun bs ⟨_, ⟨y0, ca, rfl, y5, y6⟩, u0⟩ => rT 25 rfl kr (.inr ⟨20, true, 53, rfl, rfl, by decide, (cB y)⟩) rfl dc (fun _ _ h => h) m (zn [(.int .i64 P.Signed.kE.Kind), (.string P.Signed.kE.Head.kD), (.string P.Signed.kE.Head.kJ), (.string P.Signed.kE.lZ), (.string P.Signed.kE.B.kD), (.string P.Signed.kE.B.kJ), (.string P.Signed.kE.C.kD), (.string P.Signed.kE.C.kJ), (.string P.Signed.kE.mc), y0] wJ rfl u0 rfl) (fun bt u1 => rT 26 rfl kr (.inr ⟨20, true, 53, rfl, rfl, by decide, (cB y)⟩) rfl dc (fun _ _ h => h) m (zn (kK P.Signed.kE) yw rfl u1 rfl) (fun bu u2 => rM 27 rfl rfl (cB y) m (fun _ q => kI rfl (lz q u2 bW aO)) (rM 28 rfl rfl (cB y) m (fun _ q => kI w7 (kM q (Mt (Ma (Mt Mh))) (kK Dk) rfl bW aO)) (Xg 29 rfl rfl (cB y) m (uU rfl rfl (ob fJ) (qW (vI _ P.Signed.kE Dk))) (X 30 rfl m (li (cB y) rfl) ?_)))))))))
      obtain rfl := sj e6
      refine nu kr (m2 _ _ ⟨_, (d.kG St), q7, m7, rfl⟩)
     refine Xn 21 rfl rfl (cB y) m (Xn 22 rfl rfl (cB y) m (Xn 23 rfl rfl (cB y) m (Xn 24 rfl rfl (cB y) m (Xn 25 rfl rfl (cB y) m (Xn 26 rfl rfl (cB y) m (Xn 27 rfl rfl (cB y) m (Xn 28 rfl rfl (cB y) m (Xn 29 rfl rfl (cB y) m (X 30 rfl m (lj (cB y) rfl) ?_)))))))))
     obtain rfl := sj e6
     refine nu kr (m2 _ _ ⟨_, (d.kG St), q7, m7, rfl⟩)
    refine bC f3 (fun Z f3 => ?_) (fun Z f3 => ?_)
    ·refine Xg 14 rfl rfl (cB Z) m (kP wF m6) (Xg 15 rfl rfl (cB Z) m (kP oS rfl) (rM 16 rfl rfl (cB Z) m (fun _ q => kI rfl (lh q Mh rfl eX)) (Xg 17 rfl rfl (cB Z) m (mi bL rfl k9) (Xg 18 rfl rfl (cB Z) m (lR rfl rfl rfl) (X 19 rfl m (li (cB Z) rfl) ?_)))))
     obtain rfl := sj f3
     refine nu kr (m3 _ _ ⟨_, (d.kG St), q5, q6, m6, rfl⟩)
    refine Xn 14 rfl rfl (cB Z) m (Xn 15 rfl rfl (cB Z) m (Xn 16 rfl rfl (cB Z) m (Xn 17 rfl rfl (cB Z) m (Xn 18 rfl rfl (cB Z) m (X 19 rfl m (lj (cB Z) rfl) ?_)))))
    obtain rfl := sj f3
    refine nu kr (m3 _ _ ⟨_, (d.kG St), q5, q6, m6, rfl⟩)
   refine bC f4 (fun f2 f4 => ?_) (fun f2 f4 => ?_)
   ·refine Xg 11 rfl rfl (cB f2) m (kR w4) (X 12 rfl m (li (cB f2) rfl) ?_)
    obtain rfl := sj f4
    refine nu kr (m4 _ _ ⟨_, (d.kG St), q2, q3, q4, rfl⟩)
   refine Xn 11 rfl rfl (cB f2) m (X 12 rfl m (lj (cB f2) rfl) ?_)
   obtain rfl := sj f4
   refine nu kr (m4 _ _ ⟨_, (d.kG St), q2, q3, q4, rfl⟩)
  refine bC e7 (fun Y e7 => ?_) (fun Y e7 => ?_)
  ·refine Xg 4 rfl rfl (cB Y) m (kR rfl) (bS e7 fun s2 l7 e7 => rT 5 rfl kr (.inr ⟨3, true, 36, rfl, rfl, by decide, (cB Y)⟩) rfl dc (fun _ _ h => h) m (pS (i := 0) (x0 := s2) iO sizeOf91 rfl rfl m9 (lN l7) (lM l7)) (fun bv u3 => rM 6 rfl rfl (cB Y) m (fun _ q => kI rfl (vC q (fun p hq => (Mt (Ml hq))) m9 zN u3 (lM l7) isAgg91 sizeOf91)) (Xg 7 rfl rfl (cB Y) m (mH (v := (.agg (nY (⟨1, 0⟩ : mN)).toArray)) (oU rfl rfl) (DL jS ki iH kr)) (Xg 8 rfl rfl (cB Y) m (uU rfl rfl (ob eqGuardType91) (qW (Lg _ s2 (⟨1, 0⟩ : mN)))) (X 9 rfl m (li (cB Y) rfl) ?_)))))
   obtain rfl := sj e7
   refine nu kr (m5 _ _ ⟨_, (d.kG (Kb (Sb (Pr Pz) (Sb (Pr Pz) St)))), s6, l0, rfl, rfl, rfl⟩)
  refine Xn 4 rfl rfl (cB Y) m (Xn 5 rfl rfl (cB Y) m (Xn 6 rfl rfl (cB Y) m (Xn 7 rfl rfl (cB Y) m (Xn 8 rfl rfl (cB Y) m (X 9 rfl m (lj (cB Y) rfl) ?_)))))
  obtain rfl := sj e7
  refine nu kr (m5 _ _ ⟨_, (d.kG (Kb (Sb (Pr Pz) (Sb (Pr Pz) St)))), s6, l0, rfl, rfl, rfl⟩)
 refine AR 3 13 rfl rfl kr (.inl rfl) (.inl rfl) rfl rfl dc dc ?_ ?_
 ·refine bS J fun a u7 J => ?_
  let fb := (((a).Signed).Tag)
  let ev := (((a).kH).Kids)
  let eq : Value := (.int .i64 (((a).kH).K))
  let dz : Value := (.int .i64 (((a).kH).Op))
  let dp := (((a).kH).kC)
  let fp : Value := (.string (dp.kJ))
  let fm : Value := (.string (dp.kD))
  let g6 := (((a).Signed).kE)
  let fu : Value := (.string (g6.lZ))
  let fl : Value := (.string (g6.mc))
  let fk : Value := (.int .i64 (g6.Kind))
  let ff : Value := (.string ((g6.C).kJ))
  let fe : Value := (.string ((g6.B).kJ))
  let fa : Value := (.string ((g6.C).kD))
  let ez : Value := (.string ((g6.B).kD))
  let ey : Value := (.string ((g6.Head).kJ))
  let eu : Value := (.string ((g6.Head).kD))
  refine GH (args := [gx]) (caps := #[]) [] _ d (aX _) rfl call97 (by exact wy rfl) (fun hH F n L => mo.mP (uT Dk _ _ ⟨hH, F, n⟩  u7)) (fun ab cb dg z3 d I cS s8 => ?_)
  obtain ⟨cu, cv, l2, rfl, f0, f1⟩ := s8
  replace l2 := l2.symm; subst l2
  replace d := d.perm Tn
  have m := d.has.qI I (Kb (Kb Sn))
  refine ⟨m, (AR 6 13 rfl rfl kr (.inl rfl) (.inl rfl) rfl rfl dc dc ?_ ?_)⟩
  ·refine bS J fun c u8 J => ?_
   let fv := (((c).kH).Kids)
   let fq : Value := (.int .i64 (((c).kH).K))
   let fo : Value := (.int .i64 (((c).kH).Op))
   let ew := (((c).kH).kC)
   let gw : Value := (.string (ew.kJ))
   let gp : Value := (.string (ew.kD))
   let j1 := (((c).Signed).kE)
   let gy : Value := (.string (j1.lZ))
   let go : Value := (.string (j1.mc))
   let gk : Value := (.int .i64 (j1.Kind))
   let gj : Value := (.string ((j1.C).kJ))
   let gi : Value := (.string ((j1.B).kJ))
   let gh : Value := (.string ((j1.C).kD))
   let gg : Value := (.string ((j1.B).kD))
   let fz : Value := (.string ((j1.Head).kJ))
   let fw : Value := (.string ((j1.Head).kD))
   refine GH (args := [(.agg (kK bb).toArray)]) (caps := #[]) [] _ d (aX _) rfl call97 (by exact wy rfl) (fun hH F n L => mo.mP (uT bb _ _ ⟨hH, F, n⟩  u8)) (fun ac cc s3 z4 d a0 eI s9 => ?_)
   obtain ⟨cw, cx, l3, rfl, k5, k6⟩ := s9
   replace l3 := l3.symm; subst l3
   replace d := d.perm Tn
   have m := d.has.qI (I.trans a0) (Kb (Kb Sn))
   refine ⟨m, (AR 7 13 rfl rfl kr (.inl rfl) (.inl rfl) rfl rfl dc dc ?_ ?_)⟩
   ·obtain ⟨f6, h8, rfl⟩ := f0.form
    let hn : Value := (.slice f6 fb.length h8)
    obtain ⟨f7, h9, rfl⟩ := f1.form
    let ho : Value := (.slice f7 ev.length h9)
    obtain ⟨f8, i0, rfl⟩ := k5.form
    let ge : Value := (.slice f8 (((c).Signed).Tag).length i0)
    obtain ⟨f9, i1, rfl⟩ := k6.form
    let hr : Value := (.slice f9 fv.length i1)
    refine lE (cs := #[fk, eu, ey, fu, ez, fe, fa, ff, fl, hn, dz, eq, fm, fp, ho, gk, fw, fz, gy, gg, gi, gh, gj, go, ge, fo, fq, gp, gw, hr]) d (oU rfl rfl) (nq bL cR eE) (fun ad h4 d => ?_)
    have m := d.has.qI (I.trans a0) (Db (Kb (Kb Sn)))
    refine ⟨m, (X 8 rfl m (mH (v := (.agg (PT h4).toArray)) (oU rfl rfl) (ml jT eG (Kv _ eG) kr)) (X 12 rfl m (mH (v := (.agg (Qh h4).toArray)) (AZ rfl rfl rfl) (ml eK eS (MO _ eS) kr)) (XE 13 rfl (lG d eK (fun ae v9 d => ?_)))))⟩
    have m := d.has.qI (I.trans a0) (Db (Db (Kb (Kb Sn))))
    refine ⟨m, ?_⟩
    obtain rfl := sj J
    replace d := d.perm (Nb (Pb Pz) Nz)
    replace d := d.Bg
    refine nu kr (j7 _ _ ⟨v9, (.slice none 0 0), (.slice none 0 0), (.slice (some ⟨h4, 0, none⟩) 2 2), [(h4, Ob #[fk, eu, ey, fu, ez, fe, fa, ff, fl, hn, dz, eq, fm, fp, ho, gk, fw, fz, gy, gg, gi, gh, gj, go, ge, fo, fq, gp, gw, hr] 60)], (.slice none 0 0), (.slice none 0 0), (.slice none 0 0), (.slice none 0 0), (.slice none 0 0), (.slice none 0 0), (.slice none 0 0), (.slice none 0 0), (.slice none 0 0), s3, _, (I.trans a0), (d.kG (Sb (Pr Pz) (Sb (Pr Pz) (Sb (Pr Pz) St)))), rfl, rfl, rfl, (Sl.nil _ _ _), (Fr.nil _), (Sl.nil _ _ _), (Fr.nil _), (lW.lit kX (l := [a, c]) (.cons (ys := [fk, eu, ey, fu, ez, fe, fa, ff, fl, hn, dz, eq, fm, fp, ho]) (kW.mk ⟨hn, ho, rfl, (f0.mono (Pl.mono _) a0), (f1.mono kL.mono a0)⟩) (.cons (ys := [gk, fw, fz, gy, gg, gi, gh, gj, go, ge, fo, fq, gp, gw, hr]) (kW.mk ⟨ge, hr, rfl, k5, k6⟩) .nil)) rfl nb rfl), (Sl.nil _ _ _), (Fr.nil _), (Sl.nil _ _ _), (Fr.nil _), (Sl.nil _ _ _), (Fr.nil _), (Sl.nil _ _ _), (Fr.nil _), (Sl.nil _ _ _), (Fr.nil _), (Sl.nil _ _ _), (Fr.nil _), (Sl.nil _ _ _), (Fr.nil _), (Sl.nil _ _ _), (Fr.nil _), (Sl.nil _ _ _), (Fr.nil _)⟩)
   ·refine lG d eK (fun af w0 d => ?_)
    have m := d.has.qI (I.trans a0) (Db (Kb (Kb Sn)))
    refine ⟨m, ?_⟩
    obtain ⟨g0, i2, rfl⟩ := f0.form
    let hs : Value := (.slice g0 fb.length i2)
    obtain ⟨g1, i3, rfl⟩ := f1.form
    let ht : Value := (.slice g1 ev.length i3)
    obtain ⟨g2, i4, rfl⟩ := k5.form
    let gf : Value := (.slice g2 (((c).Signed).Tag).length i4)
    obtain ⟨g3, i5, rfl⟩ := k6.form
    let hu : Value := (.slice g3 fv.length i5)
    refine XE 7 rfl (lE (cs := #[fk, eu, ey, fu, ez, fe, fa, ff, fl, hs, dz, eq, fm, fp, ht, gk, fw, fz, gy, gg, gi, gh, gj, go, gf, fo, fq, gp, gw, hu]) d (oU rfl rfl) (nq bL cR eE) (fun ag h5 d => ?_))
    have m := d.has.qI (I.trans a0) (Db (Db (Kb (Kb Sn))))
    refine ⟨m, (X 8 rfl m (mH (v := (.agg (PT h5).toArray)) (oU rfl rfl) (ml jT eG (Kv _ eG) kr)) (X 12 rfl m (mH (v := (.agg (Qh h5).toArray)) (AZ rfl rfl rfl) (ml eK eS (MO _ eS) kr)) ?_))⟩
    obtain rfl := sj J
    replace d := d.Bg
    refine nu kr (j7 _ _ ⟨w0, (.slice none 0 0), (.slice none 0 0), (.slice (some ⟨h5, 0, none⟩) 2 2), [(h5, Ob #[fk, eu, ey, fu, ez, fe, fa, ff, fl, hs, dz, eq, fm, fp, ht, gk, fw, fz, gy, gg, gi, gh, gj, go, gf, fo, fq, gp, gw, hu] 60)], (.slice none 0 0), (.slice none 0 0), (.slice none 0 0), (.slice none 0 0), (.slice none 0 0), (.slice none 0 0), (.slice none 0 0), (.slice none 0 0), (.slice none 0 0), s3, _, (I.trans a0), (d.kG (Sb (Pr Pz) (Sb (Pr Pz) (Sb (Pr Pz) St)))), rfl, rfl, rfl, (Sl.nil _ _ _), (Fr.nil _), (Sl.nil _ _ _), (Fr.nil _), (lW.lit kX (l := [a, c]) (.cons (ys := [fk, eu, ey, fu, ez, fe, fa, ff, fl, hs, dz, eq, fm, fp, ht]) (kW.mk ⟨hs, ht, rfl, (f0.mono (Pl.mono _) a0), (f1.mono kL.mono a0)⟩) (.cons (ys := [gk, fw, fz, gy, gg, gi, gh, gj, go, gf, fo, fq, gp, gw, hu]) (kW.mk ⟨gf, hu, rfl, k5, k6⟩) .nil)) rfl nb rfl), (Sl.nil _ _ _), (Fr.nil _), (Sl.nil _ _ _), (Fr.nil _), (Sl.nil _ _ _), (Fr.nil _), (Sl.nil _ _ _), (Fr.nil _), (Sl.nil _ _ _), (Fr.nil _), (Sl.nil _ _ _), (Fr.nil _), (Sl.nil _ _ _), (Fr.nil _), (Sl.nil _ _ _), (Fr.nil _), (Sl.nil _ _ _), (Fr.nil _)⟩)
  ·refine lG d eK (fun ah w1 d => ?_)
   have m := d.has.qI I (Db (Kb (Kb Sn)))
   refine ⟨m, (bS J fun j u9 J => ?_)⟩
   let ib : Value := (.int .i64 (((j).kH).K))
   let hy : Value := (.int .i64 (((j).kH).Op))
   let gq := (((j).kH).kC)
   let v8 := (((j).Signed).kE)
   let iq : Value := (.string ((v8.C).kD))
   let ip : Value := (.string ((v8.B).kD))
   let ij : Value := (.string ((v8.Head).kJ))
   let ig : Value := (.string ((v8.Head).kD))
   refine XE 6 rfl (LU d (aX _) call97 (fun hH F n L => mo.mP (uT bb _ _ ⟨hH, F, n⟩  u9)) (fun ai cd y2 z5 d e8 eN t0 => ?_) (L0 := []))
   obtain ⟨cy, cz, l4, rfl, o7, o8⟩ := t0
   replace l4 := l4.symm; subst l4
   replace d := d.perm Tn
   have m := d.has.qI (I.trans e8) (Db (Kb (Kb Sn)))
   refine ⟨m, ?_⟩
   obtain ⟨g4, i6, rfl⟩ := f0.form
   let he : Value := (.slice g4 fb.length i6)
   obtain ⟨g7, i7, rfl⟩ := f1.form
   let hf : Value := (.slice g7 ev.length i7)
   obtain ⟨g8, i8, rfl⟩ := o7.form
   let gd : Value := (.slice g8 (((j).Signed).Tag).length i8)
   obtain ⟨g9, i9, rfl⟩ := o8.form
   let ga : Value := (.slice g9 (((j).kH).Kids).length i9)
   refine XE 7 rfl (lE (cs := #[fk, eu, ey, fu, ez, fe, fa, ff, fl, he, dz, eq, fm, fp, hf, (.int .i64 (v8.Kind)), ig, ij, (.string (v8.lZ)), ip, (.string ((v8.B).kJ)), iq, (.string ((v8.C).kJ)), (.string (v8.mc)), gd, hy, ib, (.string (gq.kD)), (.string (gq.kJ)), ga]) d (oU rfl rfl) (nq bL cR eE) (fun aj h6 d => ?_))
   have m := d.has.qI (I.trans e8) (Db (Db (Kb (Kb Sn))))
   refine ⟨m, (X 8 rfl m (mH (v := (.agg (PT h6).toArray)) (oU rfl rfl) (ml jT eG (Kv _ eG) kr)) (X 12 rfl m (mH (v := (.agg (Qh h6).toArray)) (AZ rfl rfl rfl) (ml eK eS (MO _ eS) kr)) ?_))⟩
   obtain rfl := sj J
   replace d := d.Bg
   refine nu kr (j7 _ _ ⟨w1, (.slice none 0 0), (.slice none 0 0), (.slice (some ⟨h6, 0, none⟩) 2 2), [(h6, Ob #[fk, eu, ey, fu, ez, fe, fa, ff, fl, he, dz, eq, fm, fp, hf, (.int .i64 (v8.Kind)), ig, ij, (.string (v8.lZ)), ip, (.string ((v8.B).kJ)), iq, (.string ((v8.C).kJ)), (.string (v8.mc)), gd, hy, ib, (.string (gq.kD)), (.string (gq.kJ)), ga] 60)], (.slice none 0 0), (.slice none 0 0), (.slice none 0 0), (.slice none 0 0), (.slice none 0 0), (.slice none 0 0), (.slice none 0 0), (.slice none 0 0), (.slice none 0 0), y2, _, (I.trans e8), (d.kG (Sb (Pr Pz) (Sb (Pr Pz) (Sb (Pr Pz) St)))), rfl, rfl, rfl, (Sl.nil _ _ _), (Fr.nil _), (Sl.nil _ _ _), (Fr.nil _), (lW.lit kX (l := [a, j]) (.cons (ys := [fk, eu, ey, fu, ez, fe, fa, ff, fl, he, dz, eq, fm, fp, hf]) (kW.mk ⟨he, hf, rfl, (f0.mono (Pl.mono _) e8), (f1.mono kL.mono e8)⟩) (.cons (ys := [(.int .i64 (v8.Kind)), ig, ij, (.string (v8.lZ)), ip, (.string ((v8.B).kJ)), iq, (.string ((v8.C).kJ)), (.string (v8.mc)), gd, hy, ib, (.string (gq.kD)), (.string (gq.kJ)), ga]) (kW.mk ⟨gd, ga, rfl, o7, o8⟩) .nil)) rfl nb rfl), (Sl.nil _ _ _), (Fr.nil _), (Sl.nil _ _ _), (Fr.nil _), (Sl.nil _ _ _), (Fr.nil _), (Sl.nil _ _ _), (Fr.nil _), (Sl.nil _ _ _), (Fr.nil _), (Sl.nil _ _ _), (Fr.nil _), (Sl.nil _ _ _), (Fr.nil _), (Sl.nil _ _ _), (Fr.nil _), (Sl.nil _ _ _), (Fr.nil _)⟩)
 ·refine lG d eK (fun ak w2 d => ?_)
  have m := d.has.kG (Db (Kb (Kb Sn)))
  refine ⟨m, (bS J fun t v0 J => ?_)⟩
  let hz : Value := (.int .i64 (((t).kH).K))
  let hv : Value := (.int .i64 (((t).kH).Op))
  let gm := (((t).kH).kC)
  let j2 := (((t).Signed).kE)
  let it : Value := (.string ((j2.C).kJ))
  let ir : Value := (.string ((j2.B).kJ))
  let il : Value := (.string ((j2.C).kD))
  let ik : Value := (.string ((j2.B).kD))
  let ih : Value := (.string ((j2.Head).kJ))
  let id : Value := (.string ((j2.Head).kD))
  refine XE 3 rfl (LU d (aX _) call97 (fun hH F n L => mo.mP (uT Dk _ _ ⟨hH, F, n⟩  v0)) (fun al ce dh z6 d j6 eR t1 => ?_) (L0 := []))
  obtain ⟨da, db, l5, rfl, o9, p0⟩ := t1
  replace l5 := l5.symm; subst l5
  replace d := d.perm Tn
  have m := d.has.qI j6 (Db (Kb (Kb Sn)))
  refine ⟨m, (bS J fun u v1 J => ?_)⟩
  let ia : Value := (.int .i64 (((u).kH).K))
  let hw : Value := (.int .i64 (((u).kH).Op))
  let gn := (((u).kH).kC)
  let A := (((u).Signed).kE)
  let iv : Value := (.string ((A.C).kJ))
  let iu : Value := (.string ((A.B).kJ))
  let io : Value := (.string ((A.C).kD))
  let im : Value := (.string ((A.B).kD))
  let ii : Value := (.string ((A.Head).kJ))
  let ie : Value := (.string ((A.Head).kD))
  refine XE 6 rfl (LU d (aX _) call97 (fun hH F n L => mo.mP (uT bb _ _ ⟨hH, F, n⟩  v1)) (fun am cf y3 z7 d e9 gR t2 => ?_) (L0 := []))
  obtain ⟨de, df, l6, rfl, p1, p2⟩ := t2
  replace l6 := l6.symm; subst l6
  replace d := d.perm Tn
  have m := d.has.qI (j6.trans e9) (Db (Kb (Kb Sn)))
  refine ⟨m, ?_⟩
  obtain ⟨h0, j0, rfl⟩ := o9.form
  let gb : Value := (.slice h0 (((t).Signed).Tag).length j0)
  obtain ⟨h1, j3, rfl⟩ := p0.form
  let fx : Value := (.slice h1 (((t).kH).Kids).length j3)
  obtain ⟨h2, j4, rfl⟩ := p1.form
  let gc : Value := (.slice h2 (((u).Signed).Tag).length j4)
  obtain ⟨h3, j5, rfl⟩ := p2.form
  let fy : Value := (.slice h3 (((u).kH).Kids).length j5)
  refine XE 7 rfl (lE (cs := #[(.int .i64 (j2.Kind)), id, ih, (.string (j2.lZ)), ik, ir, il, it, (.string (j2.mc)), gb, hv, hz, (.string (gm.kD)), (.string (gm.kJ)), fx, (.int .i64 (A.Kind)), ie, ii, (.string (A.lZ)), im, iu, io, iv, (.string (A.mc)), gc, hw, ia, (.string (gn.kD)), (.string (gn.kJ)), fy]) d (oU rfl rfl) (nq bL cR eE) (fun an h7 d => ?_))
  have m := d.has.qI (j6.trans e9) (Db (Db (Kb (Kb Sn))))
  refine ⟨m, (X 8 rfl m (mH (v := (.agg (PT h7).toArray)) (oU rfl rfl) (ml jT eG (Kv _ eG) kr)) (X 12 rfl m (mH (v := (.agg (Qh h7).toArray)) (AZ rfl rfl rfl) (ml eK eS (MO _ eS) kr)) ?_))⟩
  obtain rfl := sj J
  replace d := d.Bg
  refine nu kr (j7 _ _ ⟨w2, (.slice none 0 0), (.slice none 0 0), (.slice (some ⟨h7, 0, none⟩) 2 2), [(h7, Ob #[(.int .i64 (j2.Kind)), id, ih, (.string (j2.lZ)), ik, ir, il, it, (.string (j2.mc)), gb, hv, hz, (.string (gm.kD)), (.string (gm.kJ)), fx, (.int .i64 (A.Kind)), ie, ii, (.string (A.lZ)), im, iu, io, iv, (.string (A.mc)), gc, hw, ia, (.string (gn.kD)), (.string (gn.kJ)), fy] 60)], (.slice none 0 0), (.slice none 0 0), (.slice none 0 0), (.slice none 0 0), (.slice none 0 0), (.slice none 0 0), (.slice none 0 0), (.slice none 0 0), (.slice none 0 0), y3, _, (j6.trans e9), (d.kG (Sb (Pr Pz) (Sb (Pr Pz) (Sb (Pr Pz) St)))), rfl, rfl, rfl, (Sl.nil _ _ _), (Fr.nil _), (Sl.nil _ _ _), (Fr.nil _), (lW.lit kX (l := [t, u]) (.cons (ys := [(.int .i64 (j2.Kind)), id, ih, (.string (j2.lZ)), ik, ir, il, it, (.string (j2.mc)), gb, hv, hz, (.string (gm.kD)), (.string (gm.kJ)), fx]) (kW.mk ⟨gb, fx, rfl, (o9.mono (Pl.mono _) e9), (p0.mono kL.mono e9)⟩) (.cons (ys := [(.int .i64 (A.Kind)), ie, ii, (.string (A.lZ)), im, iu, io, iv, (.string (A.mc)), gc, hw, ia, (.string (gn.kD)), (.string (gn.kJ)), fy]) (kW.mk ⟨gc, fy, rfl, p1, p2⟩) .nil)) rfl nb rfl), (Sl.nil _ _ _), (Fr.nil _), (Sl.nil _ _ _), (Fr.nil _), (Sl.nil _ _ _), (Fr.nil _), (Sl.nil _ _ _), (Fr.nil _), (Sl.nil _ _ _), (Fr.nil _), (Sl.nil _ _ _), (Fr.nil _), (Sl.nil _ _ _), (Fr.nil _), (Sl.nil _ _ _), (Fr.nil _), (Sl.nil _ _ _), (Fr.nil _)⟩)
theorem Ei (k : Value) (u : List kE) (r : Int) (w : World) (j : Sl (Pl kK) 9 (hp w) k u) (hm : wE u = some r) :
  lD true Tryz.prog 18 [k] w (.int .i64 r) := by
 refine cG 54 func18 rfl (fun b => sg (Wa (lr (Wa (lS (Wm ?_))))))
 refine V (mi aT rfl j) (Wm (ln (mf (fun i E W => ∃ g t, (E 8 = .int .i64 (i : Nat) ∧ E 7 = .int .i64 (u.length : Nat)) ∧ ST true lT w W (hp w) t ∧ E 3 = (.int .i64 g) ∧ E 6 = k ∧ sN (u.drop i) g = some r) u.length j.len ⟨0, _, ⟨rfl, rfl⟩, (b.kG St), rfl, rfl, hm⟩ dc dc dc (fun _ _ _ h => by obtain ⟨_, _, l, _⟩ := h; exact l) ?_ ?_)))
 ·rintro I E W z ⟨g, t, ⟨d, m⟩, b, x, y, c⟩
  obtain ⟨a, J, G, D, H⟩ := lX z
  rw [G] at c
  refine bg (VQ (oF (enc := kK) (i := (I : Int)) (x0 := a) aT aO y d j (aH _) D) (fun Q B => V (kI rfl (lz b.has B bW aO)) (VE (lG b cW (fun K N b => VO (lf (.agg (kK a).toArray) ((kK a).toArray) b rfl rfl aO (oP a) nb rfl (fun M b => ln (kV (Wh x (Wf rE (Wf qg (VB b Mh rfl rfl bV (V (pA cE rfl) ?_)))))))))))))
  refine Wi rfl (Wf rE (Wf uI (VB b Mh rfl rfl bV (V (pA cE rfl) (Wi rfl (Wf xD (VB b Mh rfl rfl bV (V (pA cE rfl) (Wi rfl (Wf oN (Wf qg (VB b Mh rfl rfl bV (V (pA cE rfl) (Wi rfl ?_))))))))))))))
  refine Wf oN (Wf uI (VB b Mh rfl rfl bV (V (pA cE rfl) (Wi rfl (Wf tq (Wf qg (VB b Mh rfl rfl bV (V (pA cE rfl) (Wi rfl (Wf tq (Wf uI (VB b Mh rfl rfl bV (V (pA cE rfl) (Wi rfl ?_))))))))))))))
  refine Wf vv (VB b Mh rfl rfl bV (V (pA cE rfl) (Wi rfl (Wi rfl (Wa (lH (lK (kT ?_))))))))
  replace b := b.kG (Db St)
  exact ⟨d, (IntKind.i64.wrap (g + (IntKind.i64.wrap ((IntKind.i64.wrap ((IntKind.i64.wrap ((IntKind.i64.wrap ((IntKind.i64.wrap ((IntKind.i64.wrap ((IntKind.i64.wrap ((IntKind.i64.wrap (20 + (a.Head.kD.size : Int))) + (a.Head.kJ.size : Int))) + (a.lZ.size : Int))) + (a.B.kD.size : Int))) + (a.B.kJ.size : Int))) + (a.C.kD.size : Int))) + (a.C.kJ.size : Int))) + (a.mc.size : Int))))), _, ⟨rfl, m⟩, (b.kG St), rfl, y, (by rw [H]; exact c)⟩
 rintro E W ⟨g, t, ⟨d, m⟩, b, x, y, c⟩
 rw [aI] at c
 exact kT (sg (Wh x (Wa (lt (rQ c b)))))
theorem yL (H : Value) (Q : List Key) (u : Value) (J : List Signed) (r : Int) (w : World) (B : Sl nW 2 (hp w) H Q) (D : Sl uu 10 (hp w) u J) (hm : vj Q J = some r) :
  lD true Tryz.prog 17 [H, u] w (.int .i64 r) := by
 refine cG 45 func17 rfl (fun b => sg (Wa (lr (Wa (lS (Wm ?_))))))
 refine V (mi underlying37 rfl B) (Wm (ln (mf (fun i E W => ∃ t N, (E 12 = .int .i64 (i : Nat) ∧ E 11 = .int .i64 (Q.length : Nat)) ∧ ST true lT w W (hp w) N ∧ E 1 = u ∧ E 5 = (.int .i64 t) ∧ E 10 = H ∧ rz J (Q.drop i) t = some r) Q.length B.len ⟨0, _, ⟨rfl, rfl⟩, (b.kG St), rfl, rfl, rfl, hm⟩ dc dc dc (fun _ _ _ h => by obtain ⟨_, _, n, _⟩ := h; exact n) ?_ ?_)))
 ·rintro c3 E W b5 ⟨t, N, ⟨m, p⟩, b, U, Y, Z, g⟩
  obtain ⟨k, d4, b9, b7, c0⟩ := lX b5
  rw [b9] at g
  refine bg (VQ (mT (i := (c3 : Int)) (x0 := k) nW.out underlying37 sizeOf118 Z m B (aH _) b7) (fun d8 ⟨_, ⟨d9, rfl, a2⟩, b6⟩ => V (kI rfl (lz b.has b6 isAgg118 sizeOf118)) (VE (lG b zeroValue118 (fun d5 d7 b => ?_)))))
  obtain ⟨s, v, rfl⟩ := a2.form
  refine VO (lf (.agg #[(.string k.lZ), (.slice s k.Key.length v)]) (#[(.string k.lZ), (.slice s k.Key.length v)]) b rfl rfl sizeOf118 oc nb rfl (fun d6 b => ln (kV (Wh Y (Wf QK (VB b Mh rfl rfl bV (V (pA cE rfl) (Wi rfl (Wf QR (VB b Mh rfl rfl kl (V (mi cV rfl a2) (Wi rfl (Wi rfl (Wa ?_))))))))))))))
  refine lH (lK (kT ?_))
  replace b := b.kG (Db St)
  exact ⟨m, (IntKind.i64.wrap (t + (IntKind.i64.wrap ((IntKind.i64.wrap (10 + (k.lZ.size : Int))) + (k.Key.length : Int))))), _, ⟨rfl, p⟩, (b.kG St), U, rfl, Z, (by rw [c0]; exact g)⟩
 rintro E W ⟨t, N, ⟨m, p⟩, b, U, Y, Z, g⟩
 rw [aI] at g
 refine kT (kY (sg (Wh U (V (mi ko rfl D) (Wm (ln (CJ g (fun G E W => ∃ M, ST true lT w W (hp w) M ∧ E 5 = (.int .i64 G)) (fun G a5 => ?_) ?_)))))))
 ·refine mf (fun i E W => ∃ j x, (E 29 = .int .i64 (i : Nat) ∧ E 28 = .int .i64 (J.length : Nat)) ∧ ST true lT w W (hp w) x ∧ E 5 = (.int .i64 j) ∧ E 27 = u ∧ sS (J.drop i) j = some G) J.length D.len ⟨t, _, ⟨rfl, rfl⟩, (b.kG St), Y, rfl, a5⟩ dc dc dc (fun _ _ _ h => by obtain ⟨_, _, n, _⟩ := h; exact n) ?_ ?_
  ·rintro c1 E W a3 ⟨j, x, ⟨m, p⟩, b, y, z, c⟩
   obtain ⟨a, c4, a9, L, O⟩ := lX a3
   rw [a9] at c
   refine bg (VQ (mT (i := (c1 : Int)) (x0 := a) uu.out ko ke z m D (aH _) L) (fun d0 ⟨_, ⟨d1, rfl, I⟩, A⟩ => V (kI rfl (lz b.has A isAgg55 ke)) (VE (lG b kx (fun c5 c9 b => ?_)))))
   obtain ⟨K, T, rfl⟩ := I.form
   let a0 := (C8 a.kE.Kind a.kE.Head.kD a.kE.Head.kJ a.kE.lZ a.kE.B.kD a.kE.B.kJ a.kE.C.kD a.kE.C.kJ a.kE.mc K a.Tag.length T)
   refine VO (lf (.agg a0.toArray) (a0.toArray) b rfl rfl ke oc nb rfl (fun c6 b => ln ?_))
   replace b := b.drew
   have d := b.has.kG (Kb Sn)
   refine mj d lQ (X 0 rfl d (kR y) (X 1 rfl d (kP yw rfl) (XH 2 rfl d (fun _ q => kI rfl (kM q Mh (kK a.kE) rfl bW aO)) (X 5 rfl d (kP J0 rfl) (XH 6 rfl d (fun _ q => kI rfl (lh q Mh rfl kl)) (X 7 rfl d (mi cV rfl I) (XE 3 rfl (lE (cs := (kK a.kE).toArray) b (np rfl) (nq aT aO cW) (fun c7 P b => ?_)))))))))
   have d := b.has.kG (Db (Kb Sn))
   refine ⟨d, (bS c fun c2 F c => XE 4 rfl (Eg b call18 (Ei (.slice (some ⟨P, 0, none⟩) 1 1) ([a.kE]) _ _ (Sl.lit (enc := kK) (l := [a.kE]) mE rfl nb rfl (b.at_ Mh)) F) (fun c8 b => ?_)))⟩
   have d := b.has.kG (Db (Kb Sn))
   refine ⟨d, (X 8 rfl d (lR rfl rfl rfl) (X 9 rfl d (lR rfl rfl rfl) (X 10 rfl d (om rfl) (ms kr (lK (kT ?_))))))⟩
   replace b := b.kG (Db (Db St))
   exact ⟨m, (IntKind.i64.wrap (j + (IntKind.i64.wrap (c2 + (a.Tag.length : Int))))), _, ⟨rfl, p⟩, (b.kG St), rfl, z, (by rw [O]; exact c)⟩
  rintro E W ⟨j, x, ⟨m, p⟩, b, y, z, c⟩
  rw [aI] at c
  refine kT ?_
  obtain rfl := sj c
  exact ⟨_, (b.kG St), y⟩
 rintro d3 E W ⟨M, b, R⟩ a4
 exact sg (Wh R (Wa (lt (rQ a4 b))))
theorem Fj (I : (List Formula) → Option Int) (N : ∀ (j : Value) (u : List Formula) (r : Int) (w : World) (t : Sl kF 5 (hp w) j u), I u = some r → lD false Tryz.prog 50 [j] w (.int .i64 r)) (j : Value) (u : List Formula) (r : Int) (w : World) (t : Sl kF 5 (hp w) j u) (hm : xw I u = some r) :
  lD false Tryz.prog 50 [j] w (.int .i64 r) := by
 refine cG 31 func50 rfl (fun l => sg (Wa (lr (Wa (lS (Wm ?_))))))
 refine V (mi aD rfl t) (Wm (ln (mf (fun i E W => ∃ x z, (E 8 = .int .i64 (i : Nat) ∧ E 7 = .int .i64 (u.length : Nat)) ∧ ST false lT w W (hp w) z ∧ E 3 = (.int .i64 x) ∧ E 6 = j ∧ sR I (u.drop i) x = some r) u.length t.len ⟨0, _, ⟨rfl, rfl⟩, (l.kG St), rfl, rfl, hm⟩ dc dc dc (fun _ _ _ h => by obtain ⟨_, _, p, _⟩ := h; exact p) ?_ ?_)))
 ·rintro Z E W M ⟨x, z, ⟨n, s⟩, l, D, G, g⟩
  obtain ⟨c, L, T, Q, U⟩ := lX M
  let a0 := ((c.kC.kD.size : Int) + (c.kC.kJ.size : Int))
  rw [T] at g
  refine bg (VQ (mT (i := (Z : Int)) (x0 := c) kF.out aD aC G n t (aH _) Q) (fun a5 ⟨_, ⟨F, rfl, H⟩, J⟩ => V (kI rfl (lz l.has J aK aC)) (VE (lG l aP (fun A a4 l => ?_)))))
  obtain ⟨y, B, rfl⟩ := H.form
  let q := (C2 c.Op c.K c.kC.kD c.kC.kJ y c.Kids.length B)
  refine VO (lf (.agg q.toArray) (q.toArray) l rfl rfl aC oc nb rfl (fun a2 l => ln ?_))
  replace l := l.drew
  have d := l.has.kG (Kb Sn)
  refine mj d lQ (X 0 rfl d (kR D) (X 1 rfl d (kP uP rfl) (X 2 rfl d (kP qg rfl) (XH 3 rfl d (fun _ m => kI rfl (lh m Mh rfl bV)) (X 4 rfl d (pA cE rfl) (X 5 rfl d (kP uP rfl) (X 6 rfl d (kP uI rfl) (XH 7 rfl d (fun _ m => kI rfl (lh m Mh rfl bV)) (X 8 rfl d (pA cE rfl) (X 9 rfl d (lR rfl rfl rfl) (X 10 rfl d (Jt (k := .i64) (a := (IntKind.i64.wrap a0)) (b := 16) (v := (.int .i64 (IntKind.i64.wrap (Int.tdiv (IntKind.i64.wrap a0) 16)))) rfl rfl dc rfl) (X 11 rfl d (lR rfl rfl rfl) (X 12 rfl d (kP oA rfl) (XH 13 rfl d (fun _ m => kI rfl (lh m Mh rfl dZ)) ?_))))))))))))))
  refine bS g fun Y K g => XE 14 rfl (Eg l call50 (N (.slice y c.Kids.length B) c.Kids _ _ (H.mono kL.mono l.kN) K) (fun a3 l => ?_))
  have d := l.has.kG (Kb Sn)
  refine ⟨d, (X 15 rfl d (lR rfl rfl rfl) (X 16 rfl d (lR rfl rfl rfl) (X 17 rfl d (om rfl) (ms kr (lK (kT ?_))))))⟩
  replace l := l.kG (Db St)
  exact ⟨n, (IntKind.i64.wrap (x + (IntKind.i64.wrap ((IntKind.i64.wrap (1 + (IntKind.i64.wrap (Int.tdiv (IntKind.i64.wrap a0) 16)))) + Y)))), _, ⟨rfl, s⟩, (l.kG St), rfl, G, (by rw [U]; exact g)⟩
 rintro E W ⟨x, z, ⟨n, s⟩, l, D, G, g⟩
 rw [aI] at g
 exact kT (sg (Wh D (Wa (lt (rQ g l)))))
theorem yT : ∀ (n : Nat) (a : Value) (c : List Formula) (r : Int) (w : World) (g : Sl kF 5 (hp w) a c) (_ : pH n c = some r),
  lD false Tryz.prog 50 [a] w (.int .i64 r)
 | 0 => by intros; rename_i h; simp only [pH] at h; cases h
 | n + 1 => Fj (pH n) (yT n)
set_option maxHeartbeats 1000000 in
theorem wH (x : lI) (J N : Value) (r : Int) (w : World) (y : Sl kW 15 (hp w) J x.kO) (G : Sl lF 8 (hp w) N x.lg) (hm : wP x = some r) :
  lD false Tryz.prog 10 [(.agg #[(.string x.Name), J, N])] w (.int .i64 r) := by
 refine cG 61 func10 rfl (fun d => sg ?_)
 obtain ⟨A1, c2, rfl⟩ := y.form
 obtain ⟨A3, c4, rfl⟩ := G.form
 let g6 := (C4 x.Name A1 x.kO.length c2 A3 x.lg.length c4)
 refine VE (lJ d rfl (fun W6 L d => Wa (lr (Wf zJ (VB d Mh rfl rfl bV (V (pA cE rfl) (Wa (lS ?_))))))))
 refine Wf oS (VB d Mh rfl rfl eX (V (mi bL rfl y) (Wm (ln (mf (fun i E W => ∃ I R, (E 14 = .int .i64 (i : Nat) ∧ E 13 = .int .i64 (x.kO.length : Nat)) ∧ ST false lT w W (hp w) ((L, Ol g6 25) :: R) ∧ E 1 = (.pointer (some ⟨L, 0, none⟩)) ∧ E 3 = (.int .i64 I) ∧ E 12 = (.slice A1 x.kO.length c2) ∧ sO x (x.kO.drop i) I = some r) x.kO.length y.len ⟨(x.Name.size : Int), _, ⟨rfl, rfl⟩, (d.kG St), rfl, rfl, rfl, hm⟩ dc dc dc (fun _ _ _ h => by obtain ⟨_, _, v, _⟩ := h; exact v) ?_ ?_)))))
 ·rintro d5 E W e1 ⟨I, R, ⟨q, A⟩, d, U, M, Y, H⟩
  obtain ⟨a, h9, e9, e8, f0⟩ := lX e1
  rw [e9] at H
  refine bg (VQ (mT (i := (d5 : Int)) (x0 := a) kW.out bL cR Y q y (aH _) e8) (fun j4 ⟨_, ⟨j8, j9, rfl, Q, T⟩, e2⟩ => V (kI rfl (lz d.has e2 iU cR)) (VE (lG d eE (fun i0 f4 d => ?_)))))
  obtain ⟨t, u, rfl⟩ := Q.form
  let g5 : Value := (.slice t a.Signed.Tag.length u)
  let b8 := (C8 a.Signed.kE.Kind a.Signed.kE.Head.kD a.Signed.kE.Head.kJ a.Signed.kE.lZ a.Signed.kE.B.kD a.Signed.kE.B.kJ a.Signed.kE.C.kD a.Signed.kE.C.kJ a.Signed.kE.mc t a.Signed.Tag.length u)
  obtain ⟨g, j, rfl⟩ := T.form
  let d9 : Value := (.slice g a.kH.Kids.length j)
  let s := (C2 a.kH.Op a.kH.K a.kH.kC.kD a.kH.kC.kJ g a.kH.Kids.length j)
  let a0 := (C3 a.Signed.kE.Kind a.Signed.kE.Head.kD a.Signed.kE.Head.kJ a.Signed.kE.lZ a.Signed.kE.B.kD a.Signed.kE.B.kJ a.Signed.kE.C.kD a.Signed.kE.C.kJ a.Signed.kE.mc t a.Signed.Tag.length u a.kH.Op a.kH.K a.kH.kC.kD a.kH.kC.kJ g a.kH.Kids.length j)
  refine VO (lf (.agg a0.toArray) (a0.toArray) d rfl rfl cR oc nb rfl (fun i1 d => ln ?_))
  replace d := d.drew
  have m := d.has.kG (Kb Sn)
  refine mj m lQ (X 0 rfl m (kR M) (X 1 rfl m (kP wJ rfl) (XH 2 rfl m (fun _ p => kI rfl (kM p Mh b8 rfl isAgg55 ke)) (X 5 rfl m (kP E7 rfl) (XH 6 rfl m (fun _ p => kI rfl (kM p Mh s rfl aK aC)) (PJ H (fun b4 E W => ∃ F b2 b9, ST false lT w W (hp w) ((f4, Ol a0 60) :: ((L, Ol g6 25) :: (b2 ++ b9))) ∧ E 1 = (.pointer (some ⟨L, 0, none⟩)) ∧ E 3 = (.int .i64 I) ∧ E 12 = (.slice A1 x.kO.length c2) ∧ E 13 = (.int .i64 (x.kO.length : Int)) ∧ E 14 = (.int .i64 (d5 : Int)) ∧ E 18 = (.int .i64 I) ∧ E 22 = (.int .i64 b4.1) ∧ E 25 = F ∧ lW 58 kF 5 (hp w) F b4.2 b2) (bm 13 255) 5 ?_ (fun b4 z Z => ?_)))))))
  ·rintro ⟨g7, g3⟩ E W ⟨F, b2, b9, d, f6, j3, f7, f8, f9, g0, g1, g2, e7⟩ O
   refine bS O fun g4 e3 O => XE 8 rfl (Eg d call50 ((yT lB) F g3 _ _ (e7.sl kL d.kN (fun b o n => d.at_ (Mt (Mt (Ml n))))) e3) (fun i2 d => ?_) (ha := TL g2))
   have m := d.has.kG (Kb Sn)
   refine ⟨m, (X 9 rfl m (lR rfl rfl rfl) (X 10 rfl m (lR g1 rfl rfl) (X 11 rfl m (lR g0 rfl rfl) (X 12 rfl m (om rfl) (ms kr (lK (kT ?_)))))))⟩
   replace d := d.kG (Db (Kb (Dr St)))
   exact ⟨f9, (IntKind.i64.wrap (I + (IntKind.i64.wrap (g7 + (IntKind.i64.wrap (20 * g4)))))), _, ⟨rfl, f8⟩, (d.kG St), f6, rfl, f7, (by rw [f0]; exact O)⟩
  refine AR 3 7 rfl rfl kr (.inl rfl) (.inl rfl) rfl rfl dc dc ?_ ?_
  ·refine lE (cs := b8.toArray) d (np rfl) (nq ko ke kx) (fun i3 b3 d => ?_)
   let d8 : Value := (.slice (some ⟨b3, 0, none⟩) 1 1)
   have m := d.has.kG (Db (Kb Sn))
   refine ⟨m, (AR 4 7 rfl rfl kr (.inl rfl) (.inl rfl) rfl rfl dc dc ?_ ?_)⟩
   ·refine bS z fun j5 e4 z => FA (args := [(.slice none 0 0), d8]) d rfl call17 (by exact yg rfl rfl) (lD.mP (yL (.slice none 0 0) ([]) d8 ([a.Signed]) _ _ (Sl.nil _ _ _) ((lW.lit Bw (l := [a.Signed]) (.cons (ys := C8 a.Signed.kE.Kind a.Signed.kE.Head.kD a.Signed.kE.Head.kJ a.Signed.kE.lZ a.Signed.kE.B.kD a.Signed.kE.B.kJ a.Signed.kE.C.kD a.Signed.kE.C.kJ a.Signed.kE.mc t a.Signed.Tag.length u) (uu.mk ⟨g5, rfl, Q⟩) .nil) rfl nb rfl).sl Bw d.kN (fun b o n => (by rw [cM] at n; cases n; exact d.at_ Mh))) e4)) (fun i4 d => ?_)
    have m := d.has.kG (Db (Kb Sn))
    refine ⟨m, (XE 7 rfl (lE (cs := s.toArray) d (np rfl) (nq aD aC aP) (fun i5 c0 d => ?_)))⟩
    have m := d.has.kG (Db (Db (Kb Sn)))
    refine ⟨m, ?_⟩
    obtain rfl := sj z
    replace d := d.Bg
    refine nu kr (Z _ _ ⟨(.slice (some ⟨c0, 0, none⟩) 1 1), [(c0, Ol s 58)], _, (d.kG (Sb (Pr (Pb Pz)) (Sb (Pr (Pb Pz)) (Kr (Db St))))), U, M, Y, A, q, rfl, rfl, rfl, (lW.lit kL (l := [a.kH]) (.cons (ys := C2 a.kH.Op a.kH.K a.kH.kC.kD a.kH.kC.kJ g a.kH.Kids.length j) (kF.mk ⟨d9, rfl, T⟩) .nil) rfl nb rfl)⟩)
   ·refine lE (cs := s.toArray) d (np rfl) (nq aD aC aP) (fun i6 c1 d => ?_)
    have m := d.has.kG (Db (Db (Kb Sn)))
    refine ⟨m, (bS z fun j6 e5 z => XE 4 rfl (Eg d call17 (lD.mP (yL (.slice none 0 0) ([]) d8 ([a.Signed]) _ _ (Sl.nil _ _ _) ((lW.lit Bw (l := [a.Signed]) (.cons (ys := C8 a.Signed.kE.Kind a.Signed.kE.Head.kD a.Signed.kE.Head.kJ a.Signed.kE.lZ a.Signed.kE.B.kD a.Signed.kE.B.kJ a.Signed.kE.C.kD a.Signed.kE.C.kJ a.Signed.kE.mc t a.Signed.Tag.length u) (uu.mk ⟨g5, rfl, Q⟩) .nil) rfl nb rfl).sl Bw d.kN (fun b o n => (by rw [cM] at n; cases n; exact d.at_ (Mt Mh)))) e5)) (fun i7 d => ?_)))⟩
    have m := d.has.kG (Db (Db (Kb Sn)))
    refine ⟨m, ?_⟩
    obtain rfl := sj z
    replace d := d.Bg
    refine nu kr (Z _ _ ⟨(.slice (some ⟨c1, 0, none⟩) 1 1), [(c1, Ol s 58)], _, (d.kG (Sb (Pr (Pb Pz)) (Sb (Pr (Pb Pz)) (Kr (Db St))))), U, M, Y, A, q, rfl, rfl, rfl, (lW.lit kL (l := [a.kH]) (.cons (ys := C2 a.kH.Op a.kH.K a.kH.kC.kD a.kH.kC.kJ g a.kH.Kids.length j) (kF.mk ⟨d9, rfl, T⟩) .nil) rfl nb rfl)⟩)
  ·refine lE (cs := s.toArray) d (np rfl) (nq aD aC aP) (fun i8 c3 d => ?_)
   have m := d.has.kG (Db (Kb Sn))
   refine ⟨m, (XE 3 rfl (lE (cs := b8.toArray) d (np rfl) (nq ko ke kx) (fun i9 f5 d => ?_)))⟩
   have m := d.has.kG (Db (Db (Kb Sn)))
   refine ⟨m, (bS z fun j7 e6 z => XE 4 rfl (Eg d call17 (lD.mP (yL (.slice none 0 0) ([]) (.slice (some ⟨f5, 0, none⟩) 1 1) ([a.Signed]) _ _ (Sl.nil _ _ _) ((lW.lit Bw (l := [a.Signed]) (.cons (ys := C8 a.Signed.kE.Kind a.Signed.kE.Head.kD a.Signed.kE.Head.kJ a.Signed.kE.lZ a.Signed.kE.B.kD a.Signed.kE.B.kJ a.Signed.kE.C.kD a.Signed.kE.C.kJ a.Signed.kE.mc t a.Signed.Tag.length u) (uu.mk ⟨g5, rfl, Q⟩) .nil) rfl nb rfl).sl Bw d.kN (fun b o n => (by rw [cM] at n; cases n; exact d.at_ Mh))) e6)) (fun j0 d => ?_)))⟩
   have m := d.has.kG (Db (Db (Kb Sn)))
   refine ⟨m, ?_⟩
   obtain rfl := sj z
   replace d := d.perm (Nb (Pb Pz) Nz)
   replace d := d.Bg
   refine nu kr (Z _ _ ⟨(.slice (some ⟨c3, 0, none⟩) 1 1), [(c3, Ol s 58)], _, (d.kG (Sb (Pr (Pb Pz)) (Sb (Pr (Pb Pz)) (Kr (Db St))))), U, M, Y, A, q, rfl, rfl, rfl, (lW.lit kL (l := [a.kH]) (.cons (ys := C2 a.kH.Op a.kH.K a.kH.kC.kD a.kH.kC.kJ g a.kH.Kids.length j) (kF.mk ⟨d9, rfl, T⟩) .nil) rfl nb rfl)⟩)
 rintro E W ⟨I, R, ⟨q, A⟩, d, U, M, Y, H⟩
 rw [aI] at H
 refine kT (kY (sg (V (kP AS U) (VB d Mh rfl rfl kk (V (mi cX rfl G) (Wm (ln ?_)))))))
 replace d := d.kG (Db St)
 refine CJ H (fun P E W => ∃ b6, ST false lT w W (hp w) b6 ∧ E 3 = (.int .i64 P)) (fun P c8 => ?_) ?_
 ·refine mf (fun i E W => ∃ K a2, (E 34 = .int .i64 (i : Nat) ∧ E 33 = .int .i64 (x.lg.length : Nat)) ∧ ST false lT w W (hp w) a2 ∧ E 3 = (.int .i64 K) ∧ E 32 = (.slice A3 x.lg.length c4) ∧ sV (x.lg.drop i) K = some P) x.lg.length G.len ⟨I, _, ⟨rfl, rfl⟩, (d.kG St), M, rfl, c8⟩ dc dc dc (fun _ _ _ h => by obtain ⟨_, _, v, _⟩ := h; exact v) ?_ ?_
  ·rintro f1 E W c6 ⟨K, a2, ⟨q, A⟩, d, a4, a5, k⟩
   obtain ⟨c, g8, d3, d2, d4⟩ := lX c6
   rw [d3] at k
   refine bg (VQ (mT (i := (f1 : Int)) (x0 := c) lF.out cX dW a5 q G (aH _) d2) (fun h5 ⟨_, ⟨h6, h7, rfl, a9, b0⟩, c9⟩ => V (kI rfl (lz d.has c9 jR dW)) (VE (lG d iD (fun g9 h4 d => ?_)))))
   obtain ⟨B, D, rfl⟩ := a9.form
   let d6 := (C2 c.kH.Op c.kH.K c.kH.kC.kD c.kH.kC.kJ B c.kH.Kids.length D)
   obtain ⟨a1, a3, rfl⟩ := b0.form
   let c5 := (C7 c.kC.kD c.kC.kJ c.kH.Op c.kH.K c.kH.kC.kD c.kH.kC.kJ B c.kH.Kids.length D a1 c.na.length a3)
   refine VO (lf (.agg c5.toArray) (c5.toArray) d rfl rfl dW oc nb rfl (fun h0 d => ln ?_))
   replace d := d.drew
   have m := d.has.kG (Kb Sn)
   refine mj m lQ (X 0 rfl m (kR a4) (X 1 rfl m (kP GX rfl) (X 2 rfl m (kP qg rfl) (XH 3 rfl m (fun _ p => kI rfl (lh p Mh rfl bV)) (X 4 rfl m (pA cE rfl) (X 5 rfl m (kP GX rfl) (X 6 rfl m (kP uI rfl) (XH 7 rfl m (fun _ p => kI rfl (lh p Mh rfl bV)) (X 8 rfl m (pA cE rfl) (X 9 rfl m (lR rfl rfl rfl) (X 10 rfl m (kP Fk rfl) (XH 11 rfl m (fun _ p => kI rfl (kM p Mh d6 rfl aK aC)) (X 16 rfl m (kP Fm rfl) (XH 17 rfl m (fun _ p => kI rfl (lh p Mh rfl kB)) ?_))))))))))))))
   refine XE 12 rfl (lE (cs := d6.toArray) d (np rfl) (nq aD aC aP) (fun h1 d7 d => ?_))
   have m := d.has.kG (Db (Kb Sn))
   refine ⟨m, (bS k fun f2 d0 k => XE 13 rfl (Eg d call50 ((yT lB) (.slice (some ⟨d7, 0, none⟩) 1 1) ([c.kH]) _ _ ((lW.lit kL (l := [c.kH]) (.cons (ys := C2 c.kH.Op c.kH.K c.kH.kC.kD c.kH.kC.kJ B c.kH.Kids.length D) (kF.mk ⟨(.slice B c.kH.Kids.length D), rfl, a9⟩) .nil) rfl nb rfl).sl kL d.kN (fun b o n => (by rw [cM] at n; cases n; exact d.at_ Mh))) d0) (fun h2 d => ?_)))⟩
   have m := d.has.kG (Db (Kb Sn))
   refine ⟨m, (X 14 rfl m (lR rfl rfl rfl) (X 15 rfl m (lR rfl rfl rfl) (bS k fun f3 d1 k => XE 18 rfl (Eg d call18 (lD.mP (Ei (.slice a1 c.na.length a3) c.na _ _ (b0.mono (Pl.mono _) d.kN) d1)) (fun h3 d => ?_)))))⟩
   have m := d.has.kG (Db (Kb Sn))
   refine ⟨m, (X 19 rfl m (lR rfl rfl rfl) (X 20 rfl m (lR rfl rfl rfl) (X 21 rfl m (om rfl) (ms kr (lK (kT ?_))))))⟩
   replace d := d.kG (Db (Db St))
   exact ⟨q, (IntKind.i64.wrap (K + (IntKind.i64.wrap ((IntKind.i64.wrap ((IntKind.i64.wrap ((c.kC.kD.size : Int) + (c.kC.kJ.size : Int))) + (IntKind.i64.wrap (20 * f2)))) + f3)))), _, ⟨rfl, A⟩, (d.kG St), rfl, a5, (by rw [d4]; exact k)⟩
  rintro E W ⟨K, a2, ⟨q, A⟩, d, a4, a5, k⟩
  rw [aI] at k
  refine kT ?_
  obtain rfl := sj k
  exact ⟨_, (d.kG St), a4⟩
 rintro h8 E W ⟨b6, d, e0⟩ c7
 exact sg (Wh e0 (Wa (lt (rQ c7 d))))
theorem Jj (a : mw) (B D x z y J : Value) (r : Int) (w : World) (t : Sl kW 15 (hp w) B a.kD.kO) (u : Sl lF 8 (hp w) D a.kD.lg) (c : Sl kW 15 (hp w) x a.Client.kO) (i : Sl lF 8 (hp w) z a.Client.lg) (g : Sl kF 5 (hp w) y a.Formula.Kids) (I : Sl nW 2 (hp w) J a.Keys) (hm : yS a = some r) :
  lD false Tryz.prog 35 [(.agg #[(.string a.kD.Name), B, D, (.string a.Client.Name), x, z, (.int .i64 a.Formula.Op), (.int .i64 a.Formula.K), (.string a.Formula.kC.kD), (.string a.Formula.kC.kJ), y, (.int .i64 a.nZ), (.int .i64 a.mh.oG), (.int .i64 a.mh.oI), (.int .i64 a.my), (.int .i64 a.nx), (.int .i64 a.mU), J])] w (.int .i64 r) := by
 refine cG 20 func35 rfl (fun d => sg ?_)
 obtain ⟨A1, c2, rfl⟩ := t.form
 obtain ⟨A3, n, rfl⟩ := u.form
 let a3 := (C4 a.kD.Name A1 a.kD.kO.length c2 A3 a.kD.lg.length n)
 obtain ⟨N, U, rfl⟩ := c.form
 let a5 : Value := (.slice N a.Client.kO.length U)
 obtain ⟨Q, Y, rfl⟩ := i.form
 let b8 : Value := (.slice Q a.Client.lg.length Y)
 let a4 := (C4 a.Client.Name N a.Client.kO.length U Q a.Client.lg.length Y)
 obtain ⟨G, k, rfl⟩ := g.form
 let q : Value := (.slice G a.Formula.Kids.length k)
 let a0 := (C2 a.Formula.Op a.Formula.K a.Formula.kC.kD a.Formula.kC.kJ G a.Formula.Kids.length k)
 obtain ⟨p, a2, rfl⟩ := I.form
 refine VE (lJ d rfl (fun e8 c7 d => Wa (ln (kY ?_))))
 replace d := d.drew
 have h := d.has.kG (Kb Sn)
 refine mj h lQ (X 0 rfl h (kP yB rfl) (XH 1 rfl h (fun _ m => kI rfl (kM m Mh a3 rfl eJ dJ)) (X 3 rfl h (kP wF rfl) (XH 4 rfl h (fun _ m => kI rfl (kM m Mh a4 rfl eJ dJ)) (X 7 rfl h (kP Kh rfl) (XH 8 rfl h (fun _ m => kI rfl (kM m Mh a0 rfl aK aC)) (X 13 rfl h (kP Rw rfl) (XH 14 rfl h (fun _ m => kI rfl (lh m Mh rfl isAgg37)) (PJ hm (fun Z E W => ∃ M T s, ST false lT w W (hp w) ((c7, Ol (C1 a.kD.Name A1 a.kD.kO.length c2 A3 a.kD.lg.length n a.Client.Name N a.Client.kO.length U Q a.Client.lg.length Y a.Formula.Op a.Formula.K a.Formula.kC.kD a.Formula.kC.kJ G a.Formula.Kids.length k a.nZ a.mh.oG a.mh.oI a.my a.nx a.mU p a.Keys.length a2) 93) :: (T ++ s)) ∧ E 2 = (.int .i64 0) ∧ E 9 = (.int .i64 Z.1) ∧ E 12 = M ∧ E 17 = (.slice p a.Keys.length a2) ∧ lW 58 kF 5 (hp w) M Z.2 T) (bm 18 25599) 6 ?_ (fun Z j K => ?_))))))))))
 ·rintro ⟨e7, c5⟩ E W ⟨M, T, s, d, d9, c0, c1, c3, b9⟩ H
  refine bS H fun e0 F H => XE 10 rfl (Eg d call50 ((yT lB) M c5 _ _ (b9.sl kL d.kN (fun b o hq => d.at_ (Mt (Ml hq)))) F) (fun c9 d => ?_) (ha := TL c1))
  have h := d.has.kG (Kb Sn)
  refine ⟨h, (X 11 rfl h (lR rfl rfl rfl) (X 12 rfl h (lR c0 rfl rfl) (bS H fun e1 L H => XE 15 rfl (Eg d call17 (lD.mP (yL (.slice p a.Keys.length a2) a.Keys (.slice none 0 0) ([]) _ _ (I.mono oO.mono d.kN) (Sl.nil _ _ _) L)) (fun d0 d => ?_) (ha := P5 c3 rfl)))))⟩
  have h := d.has.kG (Kb Sn)
  refine ⟨h, (X 16 rfl h (lR rfl rfl rfl) (X 17 rfl h (om rfl) (ms kr (kT ?_))))⟩
  exact lC (rQ H d)
 refine AR 2 9 rfl rfl kr (.inl rfl) (.inl rfl) rfl rfl dc dc ?_ ?_
 ·refine bS j fun e2 O j => FA (args := [(.agg a3.toArray)]) d rfl call10 (by exact wy rfl) (wH a.kD (.slice A1 a.kD.kO.length c2) (.slice A3 a.kD.lg.length n) _ _ (t.mono kX.mono d.kN) (u.mono ma.mono d.kN) O) (fun d1 d => ?_)
  have h := d.has.kG (Kb Sn)
  refine ⟨h, (AR 5 9 rfl rfl kr (.inl rfl) (.inl rfl) rfl rfl dc dc ?_ ?_)⟩
  ·refine bS j fun e3 P j => FA (args := [(.agg a4.toArray)]) d rfl call10 (by exact wy rfl) (wH a.Client a5 b8 _ _ (c.mono kX.mono d.kN) (i.mono ma.mono d.kN) P) (fun d2 d => ?_)
   have h := d.has.kG (Kb Sn)
   refine ⟨h, (X 6 rfl h (lR rfl rfl rfl) (XE 9 rfl (lE (cs := a0.toArray) d (np rfl) (nq aD aC aP) (fun d3 v d => ?_))))⟩
   have h := d.has.kG (Db (Kb Sn))
   refine ⟨h, ?_⟩
   obtain rfl := sj j
   replace d := d.Bg
   refine nu kr (K _ _ ⟨(.slice (some ⟨v, 0, none⟩) 1 1), [(v, Ol a0 58)], _, (d.kG (Sb (Pr Pz) St)), rfl, rfl, rfl, rfl, (lW.lit kL (l := [a.Formula]) (.cons (ys := C2 a.Formula.Op a.Formula.K a.Formula.kC.kD a.Formula.kC.kJ G a.Formula.Kids.length k) (kF.mk ⟨q, rfl, g⟩) .nil) rfl nb rfl)⟩)
  ·refine lE (cs := a0.toArray) d (np rfl) (nq aD aC aP) (fun d4 a9 d => ?_)
   have h := d.has.kG (Db (Kb Sn))
   refine ⟨h, (bS j fun e4 R j => XE 5 rfl (Eg d call10 (wH a.Client a5 b8 _ _ (c.mono kX.mono d.kN) (i.mono ma.mono d.kN) R) (fun d5 d => ?_)))⟩
   have h := d.has.kG (Db (Kb Sn))
   refine ⟨h, (X 6 rfl h (lR rfl rfl rfl) ?_)⟩
   obtain rfl := sj j
   replace d := d.Bg
   refine nu kr (K _ _ ⟨(.slice (some ⟨a9, 0, none⟩) 1 1), [(a9, Ol a0 58)], _, (d.kG (Sb (Pr Pz) St)), rfl, rfl, rfl, rfl, (lW.lit kL (l := [a.Formula]) (.cons (ys := C2 a.Formula.Op a.Formula.K a.Formula.kC.kD a.Formula.kC.kJ G a.Formula.Kids.length k) (kF.mk ⟨q, rfl, g⟩) .nil) rfl nb rfl)⟩)
 ·refine lE (cs := a0.toArray) d (np rfl) (nq aD aC aP) (fun d6 A d => ?_)
  have h := d.has.kG (Db (Kb Sn))
  refine ⟨h, (bS j fun e5 b6 j => XE 2 rfl (Eg d call10 (wH a.kD (.slice A1 a.kD.kO.length c2) (.slice A3 a.kD.lg.length n) _ _ (t.mono kX.mono d.kN) (u.mono ma.mono d.kN) b6) (fun d7 d => ?_)))⟩
  have h := d.has.kG (Db (Kb Sn))
  refine ⟨h, (bS j fun e6 b7 j => XE 5 rfl (Eg d call10 (wH a.Client a5 b8 _ _ (c.mono kX.mono d.kN) (i.mono ma.mono d.kN) b7) (fun d8 d => ?_)))⟩
  have h := d.has.kG (Db (Kb Sn))
  refine ⟨h, (X 6 rfl h (lR rfl rfl rfl) ?_)⟩
  obtain rfl := sj j
  replace d := d.Bg
  refine nu kr (K _ _ ⟨(.slice (some ⟨A, 0, none⟩) 1 1), [(A, Ol a0 58)], _, (d.kG (Sb (Pr Pz) St)), rfl, rfl, rfl, rfl, (lW.lit kL (l := [a.Formula]) (.cons (ys := C2 a.Formula.Op a.Formula.K a.Formula.kC.kD a.Formula.kC.kJ G a.Formula.Kids.length k) (kF.mk ⟨q, rfl, g⟩) .nil) rfl nb rfl)⟩)
theorem EZ (G : Formula → Option Int) (K : ∀ (j : Formula) (g : Value) (r : Int) (w : World) (c : Sl kF 5 (hp w) g j.Kids), G j = some r → lD false Tryz.prog 160 [(.agg #[(.int .i64 j.Op), (.int .i64 j.K), (.string j.kC.kD), (.string j.kC.kJ), g])] w (.int .i64 r)) (j : Formula) (g : Value) (r : Int) (w : World) (c : Sl kF 5 (hp w) g j.Kids) (hm : xE G j = some r) :
  lD false Tryz.prog 160 [(.agg #[(.int .i64 j.Op), (.int .i64 j.K), (.string j.kC.kD), (.string j.kC.kJ), g])] w (.int .i64 r) := by
 refine cG 19 func160 rfl (fun b => sg ?_)
 obtain ⟨U, Y, rfl⟩ := c.form
 refine VE (lJ b rfl (fun W4 s b => Wa (lr (Wa (lS (Wf oA (VB b Mh rfl rfl dZ (V (mi aD rfl c) ?_))))))))
 refine Wm (ln ?_)
 replace b := b.kG (Db St)
 refine mf (fun i E W => ∃ x z, (E 9 = .int .i64 (i : Nat) ∧ E 8 = .int .i64 (j.Kids.length : Nat)) ∧ ST false lT w W (hp w) z ∧ E 3 = (.int .i64 x) ∧ E 7 = (.slice U j.Kids.length Y) ∧ sT G (j.Kids.drop i) x = some r) j.Kids.length c.len ⟨1, _, ⟨rfl, rfl⟩, (b.kG St), rfl, rfl, hm⟩ dc dc dc (fun _ _ _ h => by obtain ⟨_, _, l, _⟩ := h; exact l) ?_ ?_
 ·rintro Z E W J ⟨x, z, ⟨d, m⟩, b, B, D, k⟩
  obtain ⟨a, q, N, M, Q⟩ := lX J
  rw [N] at k
  refine bg (VQ (mT (i := (Z : Int)) (x0 := a) kF.out aD aC D d c (aH _) M) (fun a5 ⟨_, ⟨p, rfl, y⟩, H⟩ => V (kI rfl (lz b.has H aK aC)) (VE (lG b aP (fun n a4 b => ?_)))))
  obtain ⟨t, u, rfl⟩ := y.form
  let a0 := (C2 a.Op a.K a.kC.kD a.kC.kJ t a.Kids.length u)
  refine VO (lf (.agg a0.toArray) (a0.toArray) b rfl rfl aC oc nb rfl (fun a2 b => ln (kV (Wh B (VA b Mh a0 aK aC (bS k fun T I k => VE (Eg b call160 (K a (.slice t a.Kids.length u) _ _ (y.mono kL.mono b.kN) I) (fun a3 b => Wi rfl (Wa (lH (lK (kT ?_))))))))))))
  replace b := b.kG (Db St)
  exact ⟨d, (IntKind.i64.wrap (x + T)), _, ⟨rfl, m⟩, (b.kG St), rfl, D, (by rw [Q]; exact k)⟩
 rintro E W ⟨x, z, ⟨d, m⟩, b, B, D, k⟩
 rw [aI] at k
 exact kT (sg (Wh B (Wa (lt (rQ k b)))))
theorem Ed : ∀ (n : Nat) (c : Formula) (a : Value) (r : Int) (w : World) (g : Sl kF 5 (hp w) a c.Kids) (_ : sk n c = some r),
  lD false Tryz.prog 160 [(.agg #[(.int .i64 c.Op), (.int .i64 c.K), (.string c.kC.kD), (.string c.kC.kJ), a])] w (.int .i64 r)
 | 0 => by intros; rename_i h; simp only [sk] at h; cases h
 | n + 1 => EZ (sk n) (Ed n)
theorem FO (I : Formula → Option Int) (N : ∀ (j : Formula) (g : Value) (r : Int) (w : World) (c : Sl kF 5 (hp w) g j.Kids), I j = some r → lD false Tryz.prog 161 [(.agg #[(.int .i64 j.Op), (.int .i64 j.K), (.string j.kC.kD), (.string j.kC.kJ), g])] w (.int .i64 r)) (j : Formula) (g : Value) (r : Int) (w : World) (c : Sl kF 5 (hp w) g j.Kids) (hm : yr I j = some r) :
  lD false Tryz.prog 161 [(.agg #[(.int .i64 j.Op), (.int .i64 j.K), (.string j.kC.kD), (.string j.kC.kJ), g])] w (.int .i64 r) := by
 refine cG 20 func161 rfl (fun b => sg ?_)
 obtain ⟨Y, Z, rfl⟩ := c.form
 refine VE (lJ b rfl (fun W4 v b => Wa (lr (Wa (lS (Wf oA (VB b Mh rfl rfl dZ (V (mi aD rfl c) ?_))))))))
 refine Wm (ln ?_)
 replace b := b.kG (Db St)
 refine mf (fun i E W => ∃ u B, (E 9 = .int .i64 (i : Nat) ∧ E 8 = .int .i64 (j.Kids.length : Nat)) ∧ ST false lT w W (hp w) B ∧ E 3 = (.int .i64 u) ∧ E 7 = (.slice Y j.Kids.length Z) ∧ tH I (j.Kids.drop i) u = some r) j.Kids.length c.len ⟨0, _, ⟨rfl, rfl⟩, (b.kG St), rfl, rfl, hm⟩ dc dc dc (fun _ _ _ h => by obtain ⟨_, _, l, _⟩ := h; exact l) ?_ ?_
 ·rintro n E W M ⟨u, B, ⟨d, m⟩, b, D, G, t⟩
  obtain ⟨a, s, T, Q, U⟩ := lX M
  rw [T] at t
  refine bg (VQ (mT (i := (n : Int)) (x0 := a) kF.out aD aC G d c (aH _) Q) (fun p ⟨_, ⟨q, rfl, z⟩, J⟩ => V (kI rfl (lz b.has J aK aC)) (VE (lG b aP (fun a2 a5 b => ?_)))))
  obtain ⟨x, y, rfl⟩ := z.form
  let a0 := (C2 a.Op a.K a.kC.kD a.kC.kJ x a.Kids.length y)
  refine VO (lf (.agg a0.toArray) (a0.toArray) b rfl rfl aC oc nb rfl (fun a3 b => ln (kV (Wh D (VA b Mh a0 aK aC (bS t fun H K t => VE (Eg b call161 (N a (.slice x a.Kids.length y) _ _ (z.mono kL.mono b.kN) K) (fun a4 b => V (Oj (k := .i64) rfl rfl) (Wa (lH (lK (kT ?_))))))))))))
  replace b := b.kG (Db St)
  exact ⟨d, (if H > u then H else u), _, ⟨rfl, m⟩, (b.kG St), rfl, G, (by rw [U]; exact t)⟩
 rintro E W ⟨u, B, ⟨d, m⟩, b, D, G, t⟩
 rw [aI] at t
 exact kT (sg (Wh D (Wi rfl (Wa (lt (rQ t b))))))
theorem EP : ∀ (n : Nat) (c : Formula) (a : Value) (r : Int) (w : World) (g : Sl kF 5 (hp w) a c.Kids) (_ : tu n c = some r),
  lD false Tryz.prog 161 [(.agg #[(.int .i64 c.Op), (.int .i64 c.K), (.string c.kC.kD), (.string c.kC.kJ), a])] w (.int .i64 r)
 | 0 => by intros; rename_i h; simp only [tu] at h; cases h
 | n + 1 => FO (tu n) (EP n)
theorem wI (M : ByteArray) (r : Bool) (w : World) (hm : sn M = some r) :
  lD true Tryz.prog 265 [(.string M)] w (.bool r) := by
 refine cG 49 func265 rfl (fun b => sg (Wa (lS (Wm (V (rK rfl rfl rfl) (Wm (LJ hm (fun c7 E W => ∃ L3, ST true lT w W (hp w) L3 ∧ E 0 = (.string M) ∧ E 11 = (.bool c7)) 4 ?_ (fun c7 K a5 => ?_))))))))
 ·rintro x2 E W ⟨L3, b, p, e6⟩ f7
  refine Wh e6 (LJ f7 (fun c6 E W => ∃ d3, ST true lT w W (hp w) d3 ∧ E 0 = (.string M) ∧ E 16 = (.bool c6)) 4 ?_ (fun c6 x a4 => ?_))
  ·rintro g4 E W ⟨d3, b, n, f4⟩ f0
   refine Wh f4 (LJ f0 (fun c5 E W => ∃ d4, ST true lT w W (hp w) d4 ∧ E 0 = (.string M) ∧ E 21 = (.bool c5)) 4 ?_ (fun c5 u a3 => ?_))
   ·rintro g7 E W ⟨d4, b, f5, f6⟩ Q
    refine ln (CI Q f6 (fun e9 Q => ?_) (fun e9 Q => ?_))
    ·refine sg (Wa (lt (lL ?_)))
     obtain rfl := sj Q
     exact rP b
    refine kS (Wa (ln (mB (nS (fun m E W => ∃ y A, ST true lT w W (hp w) A ∧ E 0 = (.string M) ∧ E 3 = (.int .i64 y) ∧ rr M m y = some r) lB ⟨0, _, (b.kG St), f5, rfl, Q⟩ ?_))))
    rintro m E W ⟨y, A, b, T, U, c⟩
    cases m with
    | zero => rw [rr] at c; cases c
    | succ f1 =>
     refine kY (sg (Wh U (Wh T (V (pA cE rfl) (Wi rfl (ln (CI c rfl (fun c8 c => ?_) (fun c8 c => ?_))))))))
     ·refine kn (kY (bg (Wh T (Wh U (bS c fun d a9 c => V (Bu (i := y) cE rfl rfl (AA a9) (DT a9)) (Wa (lr ?_)))))))
      refine Wm (Wi rfl (Wm (LJ c (fun c4 E W => ∃ F, ST true lT w W (hp w) F ∧ E 0 = (.string M) ∧ E 3 = (.int .i64 y) ∧ E 4 = (.int .u8 (d.toNat : Int)) ∧ E 36 = (.bool c4)) 3 ?_ (fun c4 J a2 => ?_))))
      ·rintro f2 E W ⟨F, b, h, l, N, d5⟩ d0
       refine Wh d5 (LJ d0 (fun c2 E W => ∃ L, ST true lT w W (hp w) L ∧ E 0 = (.string M) ∧ E 3 = (.int .i64 y) ∧ E 4 = (.int .u8 (d.toNat : Int)) ∧ E 44 = (.bool c2)) 7 ?_ (fun c2 H Z => ?_))
       ·rintro g1 E W ⟨L, b, R, c0, d6, d7⟩ d1
        refine Wh d7 (LJ d1 (fun c1 E W => ∃ O, ST true lT w W (hp w) O ∧ E 0 = (.string M) ∧ E 3 = (.int .i64 y) ∧ E 48 = (.bool c1)) 3 ?_ (fun c1 G Y => ?_))
        ·rintro g2 E W ⟨O, b, d8, d9, e0⟩ D
         refine ln (CI D e0 (fun c9 D => ?_) (fun c9 D => ?_))
         ·refine sg (Wa (lt (nD (lL (lL (nD (lL ?_)))))))
          obtain rfl := sj D
          exact rP b
         exact mr (lK (kT (kV (Wh d9 (Wi rfl (Wa (ln ⟨f1, bB _, (IntKind.i64.wrap (y + 1)), _, (b.kG St), d8, rfl, D⟩)))))))
        refine bC G (fun k G => ?_) (fun k G => ?_)
        ·refine ug k (kR d6) (ug k (lR rfl rfl rfl) (V (li (cB k) rfl) ?_))
         obtain rfl := sj G
         exact Y _ _ ⟨_, (b.kG St), R, c0, rfl⟩
        refine un k (un k (V (lj (cB k) rfl) ?_))
        obtain rfl := sj G
        exact Y _ _ ⟨_, (b.kG St), R, c0, rfl⟩
       refine bC H (fun a H => ?_) (fun a H => ?_)
       ·refine ug a (kR N) (ug a (lR rfl rfl rfl) (ug a (kR rfl) (LJ H (fun c3 E W => ∃ P, ST true lT w W (hp w) P ∧ E 0 = (.string M) ∧ E 3 = (.int .i64 y) ∧ E 4 = (.int .u8 (d.toNat : Int)) ∧ E 37 = (.bool f2) ∧ E 43 = (.bool c3)) 3 ?_ (fun c3 I q => ?_))))
        ·rintro g3 E W ⟨P, b, e1, e2, e3, e4, e7⟩ d2
         refine V (li (e4.trans (cB a)) e7) ?_
         obtain rfl := sj d2
         exact Z _ _ ⟨_, (b.kG St), e1, e2, e3, rfl⟩
        refine bC I (fun t I => ?_) (fun t I => ?_)
        ·refine un t (un t (ug a (li (cB t) rfl) ?_))
         obtain rfl := sj I
         exact q _ _ ⟨_, (b.kG St), h, l, N, rfl, rfl⟩
        refine ug t (kR N) (ug t (lR rfl rfl rfl) (ug a (lj (cB t) rfl) ?_))
        obtain rfl := sj I
        exact q _ _ ⟨_, (b.kG St), h, l, N, rfl, rfl⟩
       refine un a (un a (un a (Vu rfl rfl (Vu rfl rfl (un a (V (lj (cB a) rfl) ?_))))))
       obtain rfl := sj H
       exact Z _ _ ⟨_, (b.kG St), h, l, N, rfl⟩
      refine bC J (fun j J => ?_) (fun j J => ?_)
      ·refine un j (un j (V (li (cB j) rfl) ?_))
       obtain rfl := sj J
       exact a2 _ _ ⟨_, (b.kG St), T, U, rfl, rfl⟩
      refine ug j (kR rfl) (ug j (lR rfl rfl rfl) (V (lj (cB j) rfl) ?_))
      obtain rfl := sj J
      exact a2 _ _ ⟨_, (b.kG St), T, U, rfl, rfl⟩
     exact nM (nB (nB (qe (kT (sg (Wa (lt (rQ c b))))))))
   refine bC u (fun g u => ?_) (fun g u => ?_)
   ·refine un g (un g (un g (V (li (cB g) rfl) ?_)))
    obtain rfl := sj u
    exact a3 _ _ ⟨_, (b.kG St), n, rfl⟩
   refine ug g (kR n) (bS u fun f8 s u => ug g (Bu (i := 0) cE rfl rfl (AA s) (DT s)) (ug g (lR rfl rfl rfl) (V (lj (cB g) rfl) ?_)))
   obtain rfl := sj u
   exact a3 _ _ ⟨_, (b.kG St), n, rfl⟩
  refine bC x (fun B x => ?_) (fun B x => ?_)
  ·refine un B (un B (un B (V (li (cB B) rfl) ?_)))
   obtain rfl := sj x
   exact a4 _ _ ⟨_, (b.kG St), p, rfl⟩
  refine ug B (kR p) (bS x fun f9 v x => ug B (Bu (i := 0) cE rfl rfl (AA v) (DT v)) (ug B (lR rfl rfl rfl) (V (lj (cB B) rfl) ?_)))
  obtain rfl := sj x
  exact a4 _ _ ⟨_, (b.kG St), p, rfl⟩
 refine bC K (fun z K => ?_) (fun z K => ?_)
 ·refine un z (un z (un z (V (li (cB z) rfl) ?_)))
  obtain rfl := sj K
  exact a5 _ _ ⟨_, (b.kG St), rfl, rfl⟩
 refine ug z (kR rfl) (ug z (pA cE rfl) (ug z (lR rfl rfl rfl) (V (lj (cB z) rfl) ?_)))
 obtain rfl := sj K
 exact a5 _ _ ⟨_, (b.kG St), rfl, rfl⟩
theorem yM (i : kC) (r : Bool) (w : World) (hm : tW i = some r) :
  lD true Tryz.prog 216 [(.agg (kQ i).toArray)] w (.bool r) := by
 refine cG 11 func216 rfl (fun b => sg (VE (lJ b rfl (fun H J b => Wa (lr (Wf qg (VB b Mh rfl rfl bV (bS hm fun K y hm => VE (Eg b call265 (wI i.kD _ _  y) (fun I b => Wm (LJ hm (fun k E W => ∃ j, ST true lT w W (hp w) j ∧ E 2 = (.bool false) ∧ E 10 = (.bool k)) 4 ?_ (fun k a g => ?_))))))))))))
 ·rintro G E W ⟨j, b, B, x⟩ t
  exact Wg x (lt (rQ t b))
 refine bC a (fun c a => ?_) (fun c a => ?_)
 ·refine ug c (kP uI rfl) (ug c (kI rfl (lh b.has Mh rfl bV)) (bS a fun D u a => sE c (Eg b call265 (wI i.kJ _ _  u) (fun z b => V (li (cB c) rfl) ?_))))
  obtain rfl := sj a
  exact g _ _ ⟨_, (b.kG (Db St)), rfl, rfl⟩
 refine un c (un c (un c (V (lj (cB c) rfl) ?_)))
 obtain rfl := sj a
 exact g _ _ ⟨_, (b.kG (Db St)), rfl, rfl⟩
set_option maxHeartbeats 1000000 in
theorem FN (d8 : Formula → Option Bool) (i9 : ∀ (a : Formula) (x : Value) (r : Bool) (w : World) (k : Sl kF 5 (hp w) x a.Kids), d8 a = some r → lD false Tryz.prog 162 [(.agg #[(.int .i64 a.Op), (.int .i64 a.K), (.string a.kC.kD), (.string a.kC.kJ), x])] w (.bool r)) (a : Formula) (x : Value) (r : Bool) (w : World) (k : Sl kF 5 (hp w) x a.Kids) (hm : yn d8 a = some r) :
  lD false Tryz.prog 162 [(.agg #[(.int .i64 a.Op), (.int .i64 a.K), (.string a.kC.kD), (.string a.kC.kJ), x])] w (.bool r) := by
 refine cG 81 func162 rfl (fun b => sg ?_)
 obtain ⟨A1, c2, rfl⟩ := k.form
 let b8 := (C2 a.Op a.K a.kC.kD a.kC.kJ A1 a.Kids.length c2)
 refine VE (lJ b rfl (fun W4 H b => Wa (lr (Wf oA (VB b Mh rfl rfl dZ (V (mi aD rfl k) (Wa (lS ?_))))))))
 refine Wf oB (VB b Mh rfl rfl cD (Wi rfl (ln (CI hm rfl (fun k0 hm => ?_) (fun k0 hm => ?_)))))
 ·refine sg (Wf uP (VA b Mh (kQ a.kC) bG aR (bS hm fun r6 k1 hm => VE (Eg b call216 (lD.mP (yM a.kC _ _  k1)) (fun W8 b => Wm (LJ hm (fun h2 E W => ∃ f9, ST false lT w W (hp w) ((H, Ol b8 58) :: f9) ∧ E 1 = (.pointer (some ⟨H, 0, none⟩)) ∧ E 2 = (.bool false) ∧ E 18 = (.bool h2)) 3 ?_ (fun h2 m c8 => ?_)))))))
  ·rintro l5 E W ⟨f9, b, j3, g7, j4⟩ i4
   refine Wh j4 (LJ i4 (fun h1 E W => ∃ g0, ST false lT w W (hp w) g0 ∧ E 2 = (.bool false) ∧ E 23 = (.bool h1)) 4 ?_ (fun h1 a5 c7 => ?_))
   ·rintro l6 E W ⟨g0, b, l4, j5⟩ i5
    refine Wg j5 (lt (lL ?_))
    obtain rfl := sj i5
    exact rP b
   refine bC a5 (fun B a5 => ?_) (fun B a5 => ?_)
   ·refine ug B (kP sH j3) (ug B (kI rfl (lh b.has Mh rfl cD)) (ug B (lR rfl rfl rfl) (V (li (cB B) rfl) ?_)))
    obtain rfl := sj a5
    exact c7 _ _ ⟨_, (b.kG (Db St)), g7, rfl⟩
   refine un B (un B (un B (V (lj (cB B) rfl) ?_)))
   obtain rfl := sj a5
   exact c7 _ _ ⟨_, (b.kG (Db St)), g7, rfl⟩
  refine bC m (fun a4 m => ?_) (fun a4 m => ?_)
  ·refine ug a4 (kR rfl) (ug a4 (lR rfl rfl rfl) (V (li (cB a4) rfl) ?_))
   obtain rfl := sj m
   exact c8 _ _ ⟨_, (b.kG St), rfl, rfl, rfl⟩
  refine un a4 (un a4 (V (lj (cB a4) rfl) ?_))
  obtain rfl := sj m
  exact c8 _ _ ⟨_, (b.kG St), rfl, rfl, rfl⟩
 let a0 := (b8.toArray : Array Value)
 let d : Value := (.pointer (some ⟨H, 0, none⟩))
 refine kS (Wf oB (VB b Mh rfl rfl cD (Wi rfl (Wm (LJ hm (fun e6 E W => ∃ g1, ST false lT w W (hp w) ((H, Obj.cells a0 58 (0, 0)) :: g1) ∧ E 1 = d ∧ E 3 = (.int .i64 (a.Kids.length : Int)) ∧ E 31 = (.bool e6)) 4 ?_ (fun e6 Z c0 => ?_))))))
 ·let p : Value := (.int .i64 (a.Kids.length : Int))
  rintro l7 E W ⟨g1, b, d5, g8, j6⟩ i6
  refine Wh j6 (LJ i6 (fun e5 E W => ∃ g2, ST false lT w W (hp w) ((H, Obj.cells a0 58 (0, 0)) :: g2) ∧ E 1 = d ∧ E 3 = p ∧ E 37 = (.bool e5)) 5 ?_ (fun e5 Y b9 => ?_))
  ·rintro l8 E W ⟨g2, b, g9, d6, j7⟩ i7
   refine Wh j7 (LJ i7 (fun e4 E W => ∃ g3, ST false lT w W (hp w) ((H, Obj.cells a0 58 (0, 0)) :: g3) ∧ E 1 = d ∧ E 3 = p ∧ E 41 = (.bool e4)) 3 ?_ (fun e4 U b7 => ?_))
   ·rintro l9 E W ⟨g3, b, q, h0, j8⟩ n
    refine ln (CI n j8 (fun i3 n => ?_) (fun i3 n => ?_))
    ·refine sg (Wa (ln ?_))
     replace b := b.kG (Db St)
     refine lC (lL ?_)
     obtain rfl := sj n
     exact rP b
    refine kS (V (kP oB q) (VB b Mh rfl rfl cD (Wi rfl (Wm (LJ n (fun e3 E W => ∃ g4, ST false lT w W (hp w) ((H, Obj.cells a0 58 (0, 0)) :: g4) ∧ E 1 = d ∧ E 3 = p ∧ E 49 = (.bool e3)) 4 ?_ (fun e3 T b6 => ?_))))))
    ·rintro F E W ⟨g4, b, l, d7, j9⟩ i8
     refine Wh j9 (LJ i8 (fun d9 E W => ∃ c9, ST false lT w W (hp w) ((H, Obj.cells a0 58 (0, 0)) :: c9) ∧ E 1 = d ∧ E 69 = (.bool d9)) 19 ?_ (fun d9 K R => ?_))
     ·rintro l0 E W ⟨c9, b, h3, h4⟩ J
      refine ln (CI J h4 (fun e8 J => ?_) (fun e8 J => ?_))
      ·refine sg (Wa (ln ?_))
       replace b := b.kG (Db St)
       refine lC (lL ?_)
       obtain rfl := sj J
       exact rP b
      refine kS (V (kP oA h3) (VB b Mh rfl rfl dZ (V (mi aD rfl k) (Wm (ln ?_)))))
      replace b := b.kG (Db St)
      refine mf (fun i E W => ∃ c1, (E 73 = .int .i64 (i : Nat) ∧ E 72 = .int .i64 (a.Kids.length : Nat)) ∧ ST false lT w W (hp w) c1 ∧ E 71 = (.slice A1 a.Kids.length c2) ∧ tP d8 (a.Kids.drop i) = some r) a.Kids.length k.len ⟨_, ⟨rfl, rfl⟩, (b.kG St), rfl, J⟩ dc dc dc (fun _ _ _ h => by obtain ⟨_, O, _⟩ := h; exact O) ?_ ?_
      ·rintro j0 E W f0 ⟨c1, ⟨L, eN⟩, b, s, j⟩
       obtain ⟨g, k2, f7, f6, f8⟩ := lX f0
       rw [f7] at j
       refine bg (VQ (mT (i := (j0 : Int)) (x0 := g) kF.out aD aC s L k (aH _) f6) (fun k7 ⟨_, ⟨k9, rfl, c6⟩, f4⟩ => V (kI rfl (lz b.has f4 aK aC)) (VE (lG b aP (fun k3 k6 b => ?_)))))
       obtain ⟨a9, P, rfl⟩ := c6.form
       let a2 := (C2 g.Op g.K g.kC.kD g.kC.kJ a9 g.Kids.length P)
       refine VO (lf (.agg a2.toArray) (a2.toArray) b rfl rfl aC oc nb rfl (fun k4 b => lr (VA b Mh a2 aK aC (bS j fun k8 f5 j => VE (Eg b call162 (i9 g (.slice a9 g.Kids.length P) _ _ (c6.mono kL.mono b.kN) f5) (fun k5 b => V (ot rfl) (ln ?_)))))))
       replace b := b.kG (Db St)
       refine CI j rfl (fun e9 j => ?_) (fun e9 j => ?_)
       ·refine sg (Wa (lt (nD (lL (nD (lL ?_))))))
        obtain rfl := sj j
        exact rP b
       exact mr (lK (kT ⟨L, _, ⟨rfl, eN⟩, (b.kG St), s, (by rw [f8]; exact j)⟩))
      rintro E W ⟨c1, ⟨L, eN⟩, b, s, j⟩
      rw [aI] at j
      exact kT (sg (Wa (lt (rQ j b))))
     refine bC K (fun u K => ?_) (fun u K => ?_)
     ·refine un u (un u (un u (un u (Vu rfl rfl (Vu rfl rfl (Vu rfl rfl (Vu rfl rfl (Vu rfl rfl (Vu rfl rfl (Vu rfl rfl (Vu rfl rfl (Vu rfl rfl (Vu rfl rfl (Vu rfl rfl ?_))))))))))))))
      refine Vu rfl rfl (Vu rfl rfl (un u (V (li (cB u) rfl) ?_)))
      obtain rfl := sj K
      exact R _ _ ⟨_, (b.kG St), l, rfl⟩
     refine ug u (kP oB l) (ug u (kI rfl (lh b.has Mh rfl cD)) (ug u (lR rfl rfl rfl) (ug u (kR rfl) (LJ K (fun e0 E W => ∃ d0, ST false lT w W (hp w) ((H, Obj.cells a0 58 (0, 0)) :: d0) ∧ E 1 = d ∧ E 50 = (.bool F) ∧ E 68 = (.bool e0)) 14 ?_ (fun e0 M b2 => ?_)))))
     ·rintro l1 E W ⟨d0, b, h5, h6, h7⟩ f1
      refine V (lj (h6.trans (cB u)) h7) ?_
      obtain rfl := sj f1
      exact R _ _ ⟨_, (b.kG St), h5, rfl⟩
     refine bC M (fun c M => ?_) (fun c M => ?_)
     ·refine ug c (kR d7) (ug c (lR rfl rfl rfl) (ug c (kR rfl) (LJ M (fun e2 E W => ∃ d1, ST false lT w W (hp w) ((H, Obj.cells a0 58 (0, 0)) :: d1) ∧ E 1 = d ∧ E 3 = p ∧ E 50 = (.bool F) ∧ E 54 = (.bool (a.Op == 4)) ∧ E 61 = (.bool e2)) 4 ?_ (fun e2 Q b5 => ?_))))
      ·rintro l2 E W ⟨d1, b, A, h8, d3, a3, h9⟩ f2
       refine Vg rfl (a3.trans (cB c)) (kR h9) (LJ f2 (fun e1 E W => ∃ d2, ST false lT w W (hp w) ((H, Obj.cells a0 58 (0, 0)) :: d2) ∧ E 1 = d ∧ E 50 = (.bool F) ∧ E 54 = (.bool (a.Op == 4)) ∧ E 67 = (.bool e1)) 5 ?_ (fun e1 N b4 => ?_))
       ·rintro l3 E W ⟨d2, b, i0, d4, i1, i2⟩ f3
        refine Vg rfl (d4.trans (cB u)) (li (i1.trans (cB c)) i2) ?_
        obtain rfl := sj f3
        exact b2 _ _ ⟨_, (b.kG St), i0, d4, rfl⟩
       refine bC N (fun t N => ?_) (fun t N => ?_)
       ·refine un t (un t (un t (un t (Vg rfl (a3.trans (cB c)) (li (cB t) rfl) ?_))))
        obtain rfl := sj N
        exact b4 _ _ ⟨_, (b.kG St), A, d3, a3, rfl⟩
       refine ug t (kP sH A) (ug t (kI rfl (lh b.has Mh rfl cD)) (ug t (kR h8) (ug t (lR rfl rfl rfl) (Vg rfl (a3.trans (cB c)) (lj (cB t) rfl) ?_))))
       obtain rfl := sj N
       exact b4 _ _ ⟨_, (b.kG St), A, d3, a3, rfl⟩
      refine bC Q (fun y Q => ?_) (fun y Q => ?_)
      ·refine un y (un y (un y (ug c (li (cB y) rfl) ?_)))
       obtain rfl := sj Q
       exact b5 _ _ ⟨_, (b.kG St), l, d7, rfl, rfl, rfl⟩
      refine ug y (kP sH l) (ug y (kI rfl (lh b.has Mh rfl cD)) (ug y (lR rfl rfl rfl) (ug c (lj (cB y) rfl) ?_)))
      obtain rfl := sj Q
      exact b5 _ _ ⟨_, (b.kG St), l, d7, rfl, rfl, rfl⟩
     refine un c (un c (un c (Vu rfl rfl (Vu rfl rfl (Vu rfl rfl (un c (un c (Vu rfl rfl (Vu rfl rfl (Vu rfl rfl (Vu rfl rfl (un c (ug u (lj (cB c) rfl) ?_)))))))))))))
     obtain rfl := sj M
     exact b2 _ _ ⟨_, (b.kG St), l, rfl, rfl⟩
    refine bC T (fun G T => ?_) (fun G T => ?_)
    ·refine ug G (kP sH q) (ug G (kI rfl (lh b.has Mh rfl cD)) (ug G (lR rfl rfl rfl) (V (li (cB G) rfl) ?_)))
     obtain rfl := sj T
     exact b6 _ _ ⟨_, (b.kG St), q, h0, rfl⟩
    refine un G (un G (un G (V (lj (cB G) rfl) ?_)))
    obtain rfl := sj T
    exact b6 _ _ ⟨_, (b.kG St), q, h0, rfl⟩
   refine bC U (fun I U => ?_) (fun I U => ?_)
   ·refine un I (un I (V (li (cB I) rfl) ?_))
    obtain rfl := sj U
    exact b7 _ _ ⟨_, (b.kG St), g9, d6, rfl⟩
   refine ug I (kR d6) (ug I (lR rfl rfl rfl) (V (lj (cB I) rfl) ?_))
   obtain rfl := sj U
   exact b7 _ _ ⟨_, (b.kG St), g9, d6, rfl⟩
  refine bC Y (fun z Y => ?_) (fun z Y => ?_)
  ·refine un z (un z (un z (un z (V (li (cB z) rfl) ?_))))
   obtain rfl := sj Y
   exact b9 _ _ ⟨_, (b.kG St), d5, g8, rfl⟩
  refine ug z (kP uP d5) (ug z (kI rfl (kM b.has Mh (kQ a.kC) rfl bG aR)) (ug z (mH (v := (.agg (kQ K0).toArray)) ri (ml fE dQ (JX _ dQ) kr)) (ug z (FG rfl rfl (ob eL) (Bx (qb _ a.kC K0))) (V (lj (cB z) rfl) ?_))))
  obtain rfl := sj Y
  exact b9 _ _ ⟨_, (b.kG St), d5, g8, rfl⟩
 refine bC Z (fun D Z => ?_) (fun D Z => ?_)
 ·refine un D (un D (un D (V (li (cB D) rfl) ?_)))
  obtain rfl := sj Z
  exact c0 _ _ ⟨_, (b.kG St), rfl, rfl, rfl⟩
 refine ug D (kP oB rfl) (ug D (kI rfl (lh b.has Mh rfl cD)) (ug D (lR rfl rfl rfl) (V (lj (cB D) rfl) ?_)))
 obtain rfl := sj Z
 exact c0 _ _ ⟨_, (b.kG St), rfl, rfl, rfl⟩
theorem E6 : ∀ (n : Nat) (c : Formula) (a : Value) (r : Bool) (w : World) (g : Sl kF 5 (hp w) a c.Kids) (_ : tG n c = some r),
  lD false Tryz.prog 162 [(.agg #[(.int .i64 c.Op), (.int .i64 c.K), (.string c.kC.kD), (.string c.kC.kJ), a])] w (.bool r)
 | 0 => by intros; rename_i h; simp only [tG] at h; cases h
 | n + 1 => FN (tG n) (E6 n)
theorem wQ (a : Formula) (t : Value) (r : Bool) (w : World) (c : Sl kF 5 (hp w) t a.Kids) (hm : rl a = some r) :
  lD false Tryz.prog 92 [(.agg #[(.int .i64 a.Op), (.int .i64 a.K), (.string a.kC.kD), (.string a.kC.kJ), t])] w (.bool r) := by
 refine cG 15 func92 rfl (fun b => sg ?_)
 obtain ⟨u, x, rfl⟩ := c.form
 let d : Value := (.slice u a.Kids.length x)
 let a0 := (C2 a.Op a.K a.kC.kD a.kC.kJ u a.Kids.length x)
 refine VE (lJ b rfl (fun W4 Q b => Wa (lr (VA b Mh a0 aK aC (bS hm fun n Z hm => VE (Eg b call160 ((Ed lB) a d _ _ (c.mono kL.mono b.kN) Z) (fun W7 b => Wi rfl (Wm (LJ hm (fun I E W => ∃ B, ST false lT w W (hp w) ((Q, Ol a0 58) :: B) ∧ E 1 = (.pointer (some ⟨Q, 0, none⟩)) ∧ E 2 = (.bool false) ∧ E 10 = (.bool I)) 4 ?_ (fun I j z => ?_))))))))))
 ·rintro l E W ⟨B, b, T, G, U⟩ J
  refine Wh U (LJ J (fun H E W => ∃ D, ST false lT w W (hp w) D ∧ E 2 = (.bool false) ∧ E 14 = (.bool H)) 3 ?_ (fun H i y => ?_))
  ·rintro m E W ⟨D, b, a3, Y⟩ K
   exact Wg Y (lt (rQ K b))
  refine bC i (fun g i => ?_) (fun g i => ?_)
  ·refine ug g (kI T (kM b.has Mh a0 rfl aK aC)) (bS i fun a4 M i => sE g (Eg b call162 ((E6 lB) a d _ _ (c.mono kL.mono b.kN) M) (fun h b => V (li (cB g) rfl) ?_)))
   obtain rfl := sj i
   exact y _ _ ⟨_, (b.kG (Db St)), G, rfl⟩
  refine un g (un g (V (lj (cB g) rfl) ?_))
  obtain rfl := sj i
  exact y _ _ ⟨_, (b.kG (Db St)), G, rfl⟩
 refine bC j (fun k j => ?_) (fun k j => ?_)
 ·refine ug k (kI rfl (kM b.has Mh a0 rfl aK aC)) (bS j fun a5 N j => sE k (Eg b call161 ((EP lB) a d _ _ (c.mono kL.mono b.kN) N) (fun a2 b => ug k (lR rfl rfl rfl) (V (li (cB k) rfl) ?_))))
  obtain rfl := sj j
  exact z _ _ ⟨_, (b.kG St), rfl, rfl, rfl⟩
 refine un k (un k (un k (V (lj (cB k) rfl) ?_)))
 obtain rfl := sj j
 exact z _ _ ⟨_, (b.kG St), rfl, rfl, rfl⟩
theorem EU (t u : kC) (r : Bool) (w : World) (hm : xB t u = some r) :
  lD true Tryz.prog 297 [(.agg (kQ t).toArray), (.agg (kQ u).toArray)] w (.bool r) := by
 refine cG 24 func297 rfl (fun b => sg (VE (lJ b rfl (fun T Y b => VE (lJ b rfl (fun U Z b => Wa (lr (Wf qg (VB b (Mt Mh) rfl rfl bV (Wf qg (VB b Mh rfl rfl bV (V (rK rfl rfl rfl) ?_))))))))))))
 refine Wm (LJ hm (fun z E W => ∃ x, ST true lT w W (hp w) x ∧ E 4 = (.bool false) ∧ E 23 = (.bool z)) 13 ?_ (fun z g j => ?_))
 ·rintro N E W ⟨x, b, M, H⟩ D
  exact Wg H (lt (rQ D b))
 refine bC g (fun a g => ?_) (fun a g => ?_)
 ·refine un a (un a (un a (un a (un a (un a (Vu rfl rfl (Vu rfl rfl (Vu rfl rfl (Vu rfl rfl (Vu rfl rfl (un a (V (li (cB a) rfl) ?_))))))))))))
  obtain rfl := sj g
  exact j _ _ ⟨_, (b.kG (Db (Db St))), rfl, rfl⟩
 refine ug a (kP qg rfl) (ug a (kI rfl (lh b.has (Mt Mh) rfl bV)) (ug a (kP qg rfl) (ug a (kI rfl (lh b.has Mh rfl bV)) (ug a (rK rfl rfl rfl) (ug a (kR rfl) (LJ g (fun B E W => ∃ y, ST true lT w W (hp w) y ∧ E 4 = (.bool false) ∧ E 10 = (.bool (rj t.kD u.kD)) ∧ E 22 = (.bool B)) 6 ?_ (fun B i k => ?_)))))))
 ·rintro Q E W ⟨y, b, I, J, K⟩ G
  refine V (lj (J.trans (cB a)) K) ?_
  obtain rfl := sj G
  exact j _ _ ⟨_, (b.kG St), I, rfl⟩
 refine bC i (fun c i => ?_) (fun c i => ?_)
 ·refine ug c (kP uI rfl) (ug c (kI rfl (lh b.has (Mt Mh) rfl bV)) (ug c (kP uI rfl) (ug c (kI rfl (lh b.has Mh rfl bV)) (ug c (rK rfl rfl rfl) (ug a (li (cB c) rfl) ?_)))))
  obtain rfl := sj i
  exact k _ _ ⟨_, (b.kG (Db (Db St))), rfl, rfl, rfl⟩
 refine un c (un c (un c (un c (un c (ug a (lj (cB c) rfl) ?_)))))
 obtain rfl := sj i
 exact k _ _ ⟨_, (b.kG (Db (Db St))), rfl, rfl, rfl⟩
theorem El (g : kE) (r : Bool) (w : World) (hm : wM g = some r) :
  lD true Tryz.prog 261 [(.agg (kK g).toArray)] w (.bool r) := by
 refine cG 93 func261 rfl (fun b => sg (VE (lJ b rfl (fun W2 M b => Wa (lr (VE (lG b fE (fun W4 h b => lS ?_))))))))
 refine Wf rE (VA b (Mt Mh) (kQ g.Head) bG aR (bS hm fun r5 h4 hm => VE (Eg b call216 (yM g.Head _ _  h4) (fun W7 b => V (ot rfl) (ln (CI hm rfl (fun h2 hm => ?_) (fun h2 hm => ?_)))))))
 ·refine sg (Wa (ln ?_))
  replace b := b.kG (Db (Db St))
  refine lC (lL ?_)
  obtain rfl := sj hm
  exact rP b
 refine kS (Wf rD (VB b (Mt Mh) rfl rfl cD (Wi rfl (ln (CI hm rfl (fun h3 hm => ?_) (fun h3 hm => ?_))))))
 ·refine sg (Wf xD (VB b (Mt Mh) rfl rfl bV (bS hm fun i6 f7 hm => VE (Eg b call265 (wI g.lZ _ _  f7) (fun i3 b => Wm (LJ hm (fun e1 E W => ∃ R, ST true lT w W (hp w) ((h, Ol (kQ K0) 50) :: ((M, Ol (kK g) 52) :: R)) ∧ E 1 = (.pointer (some ⟨M, 0, none⟩)) ∧ E 2 = (.bool false) ∧ E 3 = (.pointer (some ⟨h, 0, none⟩)) ∧ E 19 = (.bool e1)) 5 ?_ (fun e1 T p => ?_)))))))
  ·rintro i8 E W ⟨R, b, l, d6, f9, g0⟩ f0
   refine Wh g0 (LJ f0 (fun e0 E W => ∃ c9, ST true lT w W (hp w) ((M, Ol (kK g) 52) :: c9) ∧ E 1 = (.pointer (some ⟨M, 0, none⟩)) ∧ E 2 = (.bool false) ∧ E 25 = (.bool e0)) 5 ?_ (fun e0 Q a5 => ?_))
   ·rintro i9 E W ⟨c9, b, g1, d7, g2⟩ f1
    refine Wh g2 (LJ f1 (fun d9 E W => ∃ d0, ST true lT w W (hp w) d0 ∧ E 2 = (.bool false) ∧ E 30 = (.bool d9)) 4 ?_ (fun d9 N a4 => ?_))
    ·rintro j0 E W ⟨d0, b, i5, g3⟩ f2
     refine Wg g3 (lt (lL ?_))
     obtain rfl := sj f2
     exact rP b
    refine bC N (fun x N => ?_) (fun x N => ?_)
    ·refine ug x (kP vv g1) (ug x (kI rfl (lh b.has Mh rfl bV)) (ug x (rK rfl rfl rfl) (V (li (cB x) rfl) ?_)))
     obtain rfl := sj N
     exact a4 _ _ ⟨_, (b.kG (Db St)), d7, rfl⟩
    refine un x (un x (un x (V (lj (cB x) rfl) ?_)))
    obtain rfl := sj N
    exact a4 _ _ ⟨_, (b.kG (Db St)), d7, rfl⟩
   refine bC Q (fun k Q => ?_) (fun k Q => ?_)
   ·refine ug k (kP tq l) (ug k (kI rfl (kM b.has (Mt Mh) (kQ g.C) rfl bG aR)) (ug k (kI f9 (kM b.has Mh (kQ K0) rfl bG aR)) (ug k (uU rfl rfl (ob eL) (qW (qb _ g.C K0))) (V (li (cB k) rfl) ?_))))
    obtain rfl := sj Q
    exact a5 _ _ ⟨_, (b.kG (Db St)), l, d6, rfl⟩
   refine un k (un k (un k (un k (V (lj (cB k) rfl) ?_))))
   obtain rfl := sj Q
   exact a5 _ _ ⟨_, (b.kG (Db St)), l, d6, rfl⟩
  refine bC T (fun j T => ?_) (fun j T => ?_)
  ·refine ug j (kP oN rfl) (ug j (kI rfl (kM b.has (Mt Mh) (kQ g.B) rfl bG aR)) (ug j (kI rfl (kM b.has Mh (kQ K0) rfl bG aR)) (ug j (uU rfl rfl (ob eL) (qW (qb _ g.B K0))) (V (li (cB j) rfl) ?_))))
   obtain rfl := sj T
   exact p _ _ ⟨_, (b.kG St), rfl, rfl, rfl, rfl⟩
  refine un j (un j (un j (un j (V (lj (cB j) rfl) ?_))))
  obtain rfl := sj T
  exact p _ _ ⟨_, (b.kG St), rfl, rfl, rfl, rfl⟩
 let a0 := ((kK g).toArray : Array Value)
 let d : Value := (.pointer (some ⟨M, 0, none⟩))
 refine kS (Wf xD (VB b (Mt Mh) rfl rfl bV (V (rK rfl rfl rfl) (Wm (LJ hm (fun c1 E W => ∃ d1, ST true lT w W (hp w) ((h, Ol (kQ K0) 50) :: ((M, Obj.cells a0 52 (0, 0)) :: d1)) ∧ E 1 = d ∧ E 3 = (.pointer (some ⟨h, 0, none⟩)) ∧ E 39 = (.bool c1)) 5 ?_ (fun c1 I a3 => ?_))))))
 ·rintro j3 E W ⟨d1, b, u, d8, g4⟩ i
  refine ln (CI i g4 (fun e7 i => ?_) (fun e7 i => ?_))
  ·refine sg (Wa (ln ?_))
   replace b := b.kG (Db (Db St))
   refine lC (lL ?_)
   obtain rfl := sj i
   exact rP b
  refine kS (V (kP rD u) (VB b (Mt Mh) rfl rfl cD (Wi rfl (ln (CI i rfl (fun e8 i => ?_) (fun e8 i => ?_))))))
  ·refine sg (V (kP tq u) (VA b (Mt Mh) (kQ g.C) bG aR (V (kI d8 (kM b.has Mh (kQ K0) rfl bG aR)) (V (uU rfl rfl (ob eL) (qW (qb _ g.C K0))) (Wm (LJ i (fun e2 E W => ∃ d2, ST true lT w W (hp w) d2 ∧ E 51 = (.bool e2)) 4 ?_ (fun e2 U q => ?_)))))))
   ·rintro j4 E W ⟨d2, b, g7⟩ f3
    refine Wg g7 (lt (lL ?_))
    obtain rfl := sj f3
    exact rP b
   refine bC U (fun y U => ?_) (fun y U => ?_)
   ·refine ug y (kP vv u) (ug y (kI rfl (lh b.has (Mt Mh) rfl bV)) (ug y (rK rfl rfl rfl) (V (li (cB y) rfl) ?_)))
    obtain rfl := sj U
    exact q _ _ ⟨_, (b.kG (Db (Db St))), rfl⟩
   refine un y (un y (un y (V (lj (cB y) rfl) ?_)))
   obtain rfl := sj U
   exact q _ _ ⟨_, (b.kG (Db (Db St))), rfl⟩
  refine kS (V (kP rD u) (VB b (Mt Mh) rfl rfl cD (Wi rfl (ln (CI i rfl (fun e9 i => ?_) (fun e9 i => ?_))))))
  ·refine sg (V (kP tq u) (VA b (Mt Mh) (kQ g.C) bG aR (V (kI d8 (kM b.has Mh (kQ K0) rfl bG aR)) (V (uU rfl rfl (ob eL) (qW (qb _ g.C K0))) (Wm (LJ i (fun e4 E W => ∃ d3, ST true lT w W (hp w) ((M, Obj.cells a0 52 (0, 0)) :: d3) ∧ E 1 = d ∧ E 67 = (.bool e4)) 8 ?_ (fun e4 Y a9 => ?_)))))))
   ·rintro j5 E W ⟨d3, b, g8, g9⟩ f4
    refine Wh g9 (LJ f4 (fun e3 E W => ∃ d4, ST true lT w W (hp w) d4 ∧ E 72 = (.bool e3)) 4 ?_ (fun e3 J s => ?_))
    ·rintro j6 E W ⟨d4, b, h0⟩ f5
     refine Wg h0 (lt (lL ?_))
     obtain rfl := sj f5
     exact rP b
    refine bC J (fun z J => ?_) (fun z J => ?_)
    ·refine ug z (kP vv g8) (ug z (kI rfl (lh b.has Mh rfl bV)) (bS J fun i7 f8 J => sE z (Eg b call265 (wI g.mc _ _  f8) (fun i4 b => V (li (cB z) rfl) ?_))))
     obtain rfl := sj J
     exact s _ _ ⟨_, (b.kG (Db St)), rfl⟩
    refine un z (un z (un z (V (lj (cB z) rfl) ?_)))
    obtain rfl := sj J
    exact s _ _ ⟨_, (b.kG (Db St)), rfl⟩
   refine bC Y (fun a Y => ?_) (fun a Y => ?_)
   ·refine ug a (kP oN u) (ug a (kP qg rfl) (ug a (kI rfl (lh b.has (Mt Mh) rfl bV)) (ug a (kP rE u) (ug a (kP qg rfl) (ug a (kI rfl (lh b.has (Mt Mh) rfl bV)) (ug a (rK rfl rfl rfl) (V (li (cB a) rfl) ?_)))))))
    obtain rfl := sj Y
    exact a9 _ _ ⟨_, (b.kG (Db St)), u, rfl⟩
   refine un a (un a (un a (un a (un a (un a (un a (V (lj (cB a) rfl) ?_)))))))
   obtain rfl := sj Y
   exact a9 _ _ ⟨_, (b.kG (Db St)), u, rfl⟩
  refine kn ?_
  replace b := b.kG (Db St)
  refine sg (V (kP rD u) (VB b Mh rfl rfl cD (Wi rfl (Wm (LJ i (fun P E W => ∃ d5, ST true lT w W (hp w) ((M, Obj.cells a0 52 (0, 0)) :: d5) ∧ E 1 = d ∧ E 80 = (.bool P)) 4 ?_ (fun P K a2 => ?_))))))
  ·rintro j7 E W ⟨d5, b, m, h1⟩ f6
   refine Wh h1 (LJ f6 (fun O E W => ∃ v, ST true lT w W (hp w) ((M, Obj.cells a0 52 (0, 0)) :: v) ∧ E 1 = d ∧ E 85 = (.bool O)) 4 ?_ (fun O H n => ?_))
   ·rintro i1 E W ⟨v, b, F, e5⟩ c3
    refine Wh e5 (LJ c3 (fun L E W => ∃ A, ST true lT w W (hp w) A ∧ E 92 = (.bool L)) 6 ?_ (fun L G Z => ?_))
    ·rintro i2 E W ⟨A, b, e6⟩ c4
     exact Wg e6 (lt (rQ c4 b))
    refine bC G (fun c G => ?_) (fun c G => ?_)
    ·refine ug c (kP oN F) (ug c (kI rfl (kM b.has Mh (kQ g.B) rfl bG aR)) (ug c (kP tq F) (ug c (kI rfl (kM b.has Mh (kQ g.C) rfl bG aR)) (bS G fun h8 c5 G => sE c (Eg b call297 (EU g.B g.C _ _  c5) (fun h5 b => V (li (cB c) rfl) ?_))))))
     obtain rfl := sj G
     exact Z _ _ ⟨_, (b.kG (Db St)), rfl⟩
    refine un c (un c (un c (un c (un c (V (lj (cB c) rfl) ?_)))))
    obtain rfl := sj G
    exact Z _ _ ⟨_, (b.kG (Db St)), rfl⟩
   refine bC H (fun D H => ?_) (fun D H => ?_)
   ·refine ug D (kP tq m) (ug D (kI rfl (kM b.has Mh (kQ g.C) rfl bG aR)) (bS H fun h9 c6 H => sE D (Eg b call216 (yM g.C _ _  c6) (fun h6 b => V (li (cB D) rfl) ?_))))
    obtain rfl := sj H
    exact n _ _ ⟨_, (b.kG St), m, rfl⟩
   refine un D (un D (un D (V (lj (cB D) rfl) ?_)))
   obtain rfl := sj H
   exact n _ _ ⟨_, (b.kG St), m, rfl⟩
  refine bC K (fun B K => ?_) (fun B K => ?_)
  ·refine ug B (kP vv u) (ug B (kI rfl (lh b.has Mh rfl bV)) (ug B (rK rfl rfl rfl) (V (li (cB B) rfl) ?_)))
   obtain rfl := sj K
   exact a2 _ _ ⟨_, (b.kG St), u, rfl⟩
  refine un B (un B (un B (V (lj (cB B) rfl) ?_)))
  obtain rfl := sj K
  exact a2 _ _ ⟨_, (b.kG St), u, rfl⟩
 refine bC I (fun t I => ?_) (fun t I => ?_)
 ·refine un t (un t (un t (un t (V (li (cB t) rfl) ?_))))
  obtain rfl := sj I
  exact a3 _ _ ⟨_, (b.kG St), rfl, rfl, rfl⟩
 refine ug t (kP oN rfl) (ug t (kI rfl (kM b.has (Mt Mh) (kQ g.B) rfl bG aR)) (bS I fun i0 c7 I => sE t (Eg b call216 (yM g.B _ _  c7) (fun h7 b => ug t (ot rfl) (V (lj (cB t) rfl) ?_)))))
 obtain rfl := sj I
 exact a3 _ _ ⟨_, (b.kG St), rfl, rfl, rfl⟩
theorem vP (x : Int) (r : ByteArray) (w : World) (hm : rG x = some r) :
  lD true Tryz.prog 340 [(.int .i64 x)] w (.string r) := by
 refine cG 22 func340 rfl (fun d => sg (Wa (lr (Wa (ln (kY (mB (nS (fun m E W => ∃ c j t, ST true lT w W (hp w) t ∧ E 0 = (.int .i64 c) ∧ E 3 = (.string j) ∧ ui m c j = some r) lB ⟨x, zS, _, (d.kG St), rfl, rfl, hm⟩ ?_))))))))
 rintro m E W ⟨c, j, t, d, i, u, g⟩
 let N := (Int.tmod c 128)
 cases m with
 | zero => rw [ui] at g; cases g
 | succ D =>
  refine kY (sg (Wh i (Wi rfl (ln (CI g rfl (fun y g => ?_) (fun y g => ?_))))))
  ·refine kn (bg (Wh u (Wh i (V (Jt (k := .i64) (a := c) (b := 128) (v := (.int .i64 N)) rfl rfl dc rfl) (Wi rfl (V (sr (k' := .i64) (a := (IntKind.i64.wrap (128 + N))) eT gH rfl) (VE (lE (cs := [(.int .u8 (IntKind.u8.wrap (IntKind.i64.wrap (128 + N))))].toArray) d (np rfl) (nq cV sizeOf5 km) (fun H J d => V (FB cV gH cE rfl (Sl.lit (enc := (mK .u8)) (l := [(IntKind.u8.wrap (IntKind.i64.wrap (128 + N)))]) (fun _ => rfl) rfl nb rfl (d.at_ Mh))) (bS g fun G z g => V (xN rfl rfl z) (Wa ?_)))))))))))
   refine ln ?_
   replace d := d.kG (Db St)
   exact kV (Wh i (V (Jt (k := .i64) (a := c) (b := 128) (v := (.int .i64 (IntKind.i64.wrap (Int.tdiv c 128)))) rfl rfl dc rfl) (Wa (lH (lK (kT ⟨D, bB _, (IntKind.i64.wrap (Int.tdiv c 128)), G, _, (d.kG St), rfl, rfl, g⟩))))))
  refine nM (nB (nB (qe (kT (sg (Wh u (Wh i (V (sr (k' := .i64) (a := c) eT gH rfl) (VE (lE (cs := [(.int .u8 (IntKind.u8.wrap c))].toArray) d (np rfl) (nq cV sizeOf5 km) (fun I K d => V (FB cV gH cE rfl (Sl.lit (enc := (mK .u8)) (l := [(IntKind.u8.wrap c)]) (fun _ => rfl) rfl nb rfl (d.at_ Mh))) (bS g fun M B g => V (xN rfl rfl B) (Wa (ln ?_))))))))))))))
  exact lC (rQ g d)
theorem zX (a r : ByteArray) (w : World) (hm : uR a = some r) :
  lD true Tryz.prog 342 [(.string a)] w (.string r) := by
 refine cG 8 func342 rfl (fun b => sg (Wa (lr (Wm (V (pA cE rfl) (bS hm fun j c hm => VE (Eg b call340 (vP (a.size : Int) _ _  c) (fun i b => Wm (bS hm fun k g hm => V (xN rfl rfl g) ?_)))))))))
 exact Wa (lt (rQ hm b))
theorem yK (a : kC) (r : ByteArray) (w : World) (hm : tY a = some r) :
  lD true Tryz.prog 341 [(.agg (kQ a).toArray)] w (.string r) := by
 refine cG 10 func341 rfl (fun b => sg (VE (lJ b rfl (fun y z b => Wa (ln (kY ?_))))))
 replace b := b.drew
 have d := b.has.kG (Kb Sn)
 refine mj d lQ (X 0 rfl d (kP qg rfl) (XH 1 rfl d (fun _ h => kI rfl (lh h Mh rfl bV)) (X 3 rfl d (kP uI rfl) (XH 4 rfl d (fun _ h => kI rfl (lh h Mh rfl bV)) (bS hm fun t c hm => XE 2 rfl (Eg b call342 (zX a.kD _ _  c) (fun j b => ?_)))))))
 have d := b.has.kG (Kb Sn)
 refine ⟨d, (bS hm fun u g hm => XE 5 rfl (Eg b call342 (zX a.kJ _ _  g) (fun k b => ?_)))⟩
 have d := b.has.kG (Kb Sn)
 refine ⟨d, (bS hm fun x i hm => X 6 rfl d (xN rfl rfl i) (X 7 rfl d (om rfl) (ms kr (kT ?_))))⟩
 exact lC (rQ hm b)
theorem Jb (g : kE) (r : ByteArray) (w : World) (hm : Bb g = some r) :
  lD true Tryz.prog 325 [(.agg (kK g).toArray)] w (.string r) := by
 refine cG 41 func325 rfl (fun b => sg (VE (lJ b rfl (fun W2 l b => Wa (ln (kY ?_))))))
 replace b := b.drew
 have d := b.has.kG (Kb Sn)
 refine mj d lQ (X 0 rfl d (kP rD rfl) (XH 1 rfl d (fun _ h => kI rfl (lh h Mh rfl cD)) (X 3 rfl d (kP rE rfl) (XH 4 rfl d (fun _ h => kI rfl (kM h Mh (kQ g.Head) rfl bG aR)) (bS hm fun a9 H hm => XE 2 rfl (Eg b call340 (vP g.Kind _ _  H) (fun a3 b => ?_)))))))
 have d := b.has.kG (Kb Sn)
 refine ⟨d, (bS hm fun q I hm => XE 5 rfl (Eg b call341 (yK g.Head _ _  I) (fun a4 b => ?_)))⟩
 have d := b.has.kG (Kb Sn)
 refine ⟨d, (bS hm fun L Q hm => X 6 rfl d (xN rfl rfl Q) (X 7 rfl d (om rfl) (ms kr (kT (kY (sg (Wf rD (VB b Mh rfl rfl cD (Wi rfl (ln (CI hm rfl (fun y hm => ?_) (fun y hm => ?_))))))))))))⟩
 ·refine sg (Wm (Wf xD (VB b Mh rfl rfl bV (bS hm fun s J hm => VE (Eg b call342 (zX g.lZ _ _  J) (fun a5 b => bS hm fun O T hm => V (xN rfl rfl T) (Wa (ln ?_))))))))
  replace b := b.kG (Db St)
  refine lC (lL ?_)
  obtain rfl := sj hm
  exact rP b
 refine kg (Wm (Wf oN (VA b Mh (kQ g.B) bG aR (bS hm fun v K hm => VE (Eg b call341 (yK g.B _ _  K) (fun m b => bS hm fun P U hm => V (xN rfl rfl U) (Wa (ln (kY ?_)))))))))
 refine CJ hm (fun x E W => ∃ i, ST true lT w W (hp w) ((l, Ol (kK g) 52) :: i) ∧ E 1 = (.pointer (some ⟨l, 0, none⟩)) ∧ E 3 = (.string x)) (fun x c => ?_) ?_
 ·refine sg (Wf rD (VB b Mh rfl rfl cD (Wi rfl (ln (CI c rfl (fun B c => ?_) (fun B c => ?_))))))
  ·refine kV (Wm (Wf vv (VB b Mh rfl rfl bV (bS c fun F N c => VE (Eg b call342 (zX g.mc _ _  N) (fun p b => bS c fun c1 Z c => V (xN rfl rfl Z) (Wa (ln ?_))))))))
   obtain rfl := sj c
   exact ⟨_, (b.kG St), rfl, rfl⟩
  refine kn ?_
  obtain rfl := sj c
  exact ⟨_, (b.kG St), rfl, rfl⟩
 rintro c2 E W ⟨i, b, k, t⟩ D
 refine kY (CJ D (fun u E W => ∃ j, ST true lT w W (hp w) j ∧ E 3 = (.string u)) (fun u a => ?_) ?_)
 ·refine sg (V (kP rD k) (VB b Mh rfl rfl cD (Wi rfl (ln (CI a rfl (fun z a => ?_) (fun z a => ?_))))))
  ·refine kV (Wh t (V (kP tq k) (VA b Mh (kQ g.C) bG aR (bS a fun A M a => VE (Eg b call341 (yK g.C _ _  M) (fun n b => bS a fun R Y a => V (xN rfl rfl Y) (Wa (ln ?_))))))))
   obtain rfl := sj a
   exact ⟨_, (b.kG (Db St)), rfl⟩
  refine kn ?_
  obtain rfl := sj a
  exact ⟨_, (b.kG (Db St)), t⟩
 rintro c3 E W ⟨j, b, a2⟩ G
 exact sg (Wh a2 (Wa (lt (rQ G b))))
theorem Ef (a : kE) (r : ByteArray) (w : World) (hm : wD a = some r) :
  lD true Tryz.prog 298 [(.agg (kK a).toArray)] w (.string r) := by
 refine cG 8 func298 rfl (fun b => sg (VE (lJ b rfl (fun j u b => Wa (lS (VA b Mh (kK a) bW aO (bS hm fun x g hm => VE (Eg b call261 (El a _ _  g) (fun k b => V (ot rfl) (lH ?_))))))))))
 refine kT (CI hm rfl (fun c hm => ?_) (fun c hm => ?_))
 ·refine sg (Wa (ln ?_))
  replace b := b.kG (Db St)
  refine lC (lL ?_)
  obtain rfl := sj hm
  exact rP b
 refine kg (VA b Mh (kK a) bW aO (bS hm fun y i hm => VE (Eg b call325 (Jb a _ _  i) (fun t b => Wa (ln ?_)))))
 exact lC (rQ hm b)
theorem Cm (a c : kE) (r : Int) (w : World) (hm : tO a c = some r) :
  lD true Tryz.prog 262 [(.agg (kK a).toArray), (.agg (kK c).toArray)] w (.int .i64 r) := by
 refine cG 17 func262 rfl (fun b => sg (VE (lJ b rfl (fun u z b => VE (lJ b rfl (fun x B b => Wa (lr (VA b (Mt Mh) (kK a) bW aO (bS hm fun D j hm => VE (Eg b call298 (Ef a _ _  j) (fun y b => Wa (lH ?_))))))))))))
 refine kT ?_
 replace b := b.kG (Kb (Db St))
 refine sg (VA b Mh (kK c) bW aO (bS hm fun G k hm => VE (Eg b call298 (Ef c _ _  k) (fun t b => Wa (ln ?_)))))
 replace b := b.kG (Db St)
 refine kY (sg (Wm (Wm (V (rK rfl rfl rfl) (ln (CI hm rfl (fun g hm => ?_) (fun g hm => ?_)))))))
 ·refine sg (Wa (lt (lL ?_)))
  obtain rfl := sj hm
  exact rP b
 refine kS (Wm (Wm (V (rK rfl rfl rfl) (ln (CI hm rfl (fun i hm => ?_) (fun i hm => ?_))))))
 ·refine sg (Wa (lt (lL ?_)))
  obtain rfl := sj hm
  exact rP b
 exact kg (Wa (lt (rQ hm b)))
end Go.Proofs.YtklbhegeiijbjaaGreat
