/- a part of a proof of LeastNeeds -/
import Derived.Test.YtklbhegeiijbjaaGreatN3W1m
set_option linter.all false
namespace Go.Proofs.YtklbhegeiijbjaaGreat
open Go.RowKit
set_option maxRecDepth 10000
open Tryz
theorem uP (j : Nat) (a0 : mh) (c : Int) (K : Value) (a2 : List Formula) (r : (Formula × mh)) (w : World) {μ0 : lQ} (h0 : oC μ0 ((j, Ol (mT a0) 249) :: []) w) (b5 : Sl kG 5 μ0 K a2) (hm : pp a0 c a2 = some r) :
  ms false Tryz.prog 248 [(.pointer (some ⟨j, 0, none⟩)), (.int .i64 c), K] w μ0 ((j, Ol (mT a0) 249) :: []) (fun v L1 μ1 => ∃ y1, v = (.agg #[(.int .i64 ((r.1).Op)), (.int .i64 ((r.1).K)), (.string (((r.1).kD).kE)), (.string (((r.1).kD).kL)), y1]) ∧ L1 = ((j, Ol (mT (r.2)) 249) :: []) ∧ Sl kG 5 μ1 y1 ((r.1).Kids)) := by
 refine tp h0 37 func248 rfl (fun b => sg (VE (lG b aP (fun W2 P b => lr (Wm (Wi rfl (VE (lG b zeroValue3 (fun W4 q b => VO (lh (.int .i64 (IntKind.i64.wrap (5 - c))) (#[(.int .i64 (IntKind.i64.wrap (5 - c)))]) b rfl rfl fP (GV _ (IntKind.i64.wrap (5 - c))) nb rfl (fun W5 b => ln (kZ ?_))))))))))))
 let a4 := (IntKind.i64.wrap (5 - c))
 let a9 : Value := (.agg (Hm a4).toArray)
 refine kW (Wm (Wm (bS hm fun r6 d1 hm => ?_)))
 refine VE (eD b (aY _) call289 (fun n => ms.mR (Jm c K a2 _ _ n (b5.mono kN.mono (lu.refl _)) d1)) ?_ (L0 := []))
 rintro _ f4 aa e2 b B d ⟨O, H, rfl, a3⟩
 obtain rfl := H.symm
 refine Wa (lS (Wm (V (xa (by exact wE rfl) rfl) (bS hm fun f3 c1 hm => VE (Eg b call194 (vO O r6 (.func (.func 290) #[] #[(.pointer (some ⟨q, 0, none⟩))]) (fun (x : Formula) => rN x a4) _ _ (a3.mono kN.mono b.kM) ⟨290, #[], #[(.pointer (some ⟨q, 0, none⟩))], rfl, call290, fun W x vs r R s hm => by obtain ⟨_, rfl, U⟩ := s; obtain ⟨F, rfl, A⟩ := U.out; exact (By x F q a4 r W A (At.of (R _ _ (b.at_ Mh)) _ rfl) hm).mR⟩ c1) (fun e5 b => ln (CI hm rfl (fun b6 hm => ?_) (fun b6 hm => ?_))))))))
 ·refine sg (VB b Mh rfl rfl cA (V (mB (v := a9) (ni rfl) (mn aP bH (uM _ bH) kr)) ?_))
  replace b := b.perm (Nb (Pb Pz) Nz)
  refine VO (lh a9 ((Hm a4).toArray) b rfl rfl aC oc nb rfl (fun e6 b => ln ?_))
  replace b := b.kH (Kb (Db St))
  refine lC (lJ ?_)
  obtain rfl := sj hm
  exact nw (v := a9) rfl rfl (kO b.has Mh (Hm a4) rfl aK aC) ⟨_, _, _, rfl, (b.mX (Db (Kb Sn))), B, d, (ST.lX b (nq.mem (Db (Kb Sn)))), (.slice none 0 0), rfl, rfl, (Sl.nil _ _ _)⟩
 refine kn ?_
 replace b := b.kH (Db St)
 refine sg (Wm (bS hm fun d2 c2 hm => ?_))
 refine VE (eD b (aY _) call288 (fun n => (Ds O r6 _ _ n (a3.mono kN.mono (lu.refl _)) c2)) ?_ (L0 := []))
 rintro _ f5 f9 e3 b N h ⟨d5, c7, I, rfl, c4⟩
 obtain rfl := I.symm
 replace b := b.perm (Tr Tn)
 refine bS hm fun z c3 hm => ?_
 refine VE (eD b (Cr Qz Cn) call291 (fun n => (Av d5 d2 c7 (.func (.func 292) #[] #[]) (fun (x : (Formula × Formula)) => pj lF x.1 x.2) _ _ n c4 ⟨292, #[], #[], rfl, call292, fun W x vs r R s hm => by obtain ⟨_, _, rfl, U, d0⟩ := s; obtain ⟨F, rfl, A⟩ := U.out; obtain ⟨t0, rfl, j0⟩ := d0.out; exact (Dy lF) x.1 F x.2 t0 r W A j0 hm⟩ c3)) ?_)
 rintro _ f6 d7 e4 b Q l ⟨d6, J, rfl, y⟩
 obtain rfl := J.symm
 refine Wa (ln (kZ (CJ hm (fun L E W => ∃ a5, ST false (keys ((j, Ol (mT a0) 249) :: [])) w W d7 ((P, Ol C5 58) :: ((j, Ol (mT L) 249) :: a5)) ∧ E 1 = (.int .i64 c) ∧ E 6 = (.pointer (some ⟨P, 0, none⟩)) ∧ E 8 = d6) (fun L u => ?_) ?_)))
 ·refine sg (Wm (V (ml aD rfl y) (Wi rfl (ln (CI u rfl (fun b9 u => ?_) (fun b9 u => ?_))))))
  ·refine kW (Wm (Wn (Wf LD ?_)))
   replace b := b.perm (Nb (Pb Pz) Nz)
   refine VO (lh (.int .i64 12) ((mT (⟨12⟩ : mh)).toArray) b rfl rfl sizeOf40 (GV _ 12) nb rfl (fun f1 b => ln ?_))
   obtain rfl := sj u
   exact ⟨_, (b.kH (Sb (Pb Pz) St)), rfl, rfl, rfl⟩
  refine kn ?_
  obtain rfl := sj u
  exact ⟨_, (b.kH St), rfl, rfl, rfl⟩
 rintro f8 E W ⟨a5, b, c9, M, T⟩ g
 refine kZ (sg (Wh T (V (ml aD rfl y) (Wi rfl (ln (CI g rfl (fun b7 g => ?_) (fun b7 g => ?_)))))))
 ·refine sg (Wh T (bS g fun a Z g => VQ (mU (i := 0) (x0 := a) kG.out aD aC rfl rfl y (lM Z) (lK Z)) (fun f2 ⟨_, ⟨f7, rfl, Y⟩, c0⟩ => V (kI rfl (lB b.has c0 aK aC)) ?_)))
  obtain ⟨D, G, rfl⟩ := Y.form
  let p := (C2 a.Op a.K a.kD.kE a.kD.kL D a.Kids.length G)
  refine VO (lh (.agg p.toArray) (p.toArray) b M rfl aC oc nb rfl (fun e9 b => lt (lJ ?_)))
  obtain rfl := sj g
  exact nw (v := (.agg p.toArray)) rfl M (kO b.has Mh p rfl aK aC) ⟨_, _, _, rfl, (b.mX (Db (Kb Sn))), ((B.trans N).trans Q), ((d.trans h).trans l), (ST.lX b (nq.mem (Db (Kb Sn)))), (.slice D a.Kids.length G), rfl, rfl, Y⟩
 refine kg (Wh c9 (Wh T ?_))
 obtain ⟨k, t, rfl⟩ := y.form
 let m := (TE c k z.length t)
 refine V (mB (v := (.agg m.toArray)) (oJ rfl rfl) (mn aP bH (uM _ bH) kr)) (VO (lh (.agg m.toArray) (m.toArray) b M rfl aC oc nb rfl (fun f0 b => lt ?_)))
 obtain rfl := sj g
 exact nw (v := (.agg m.toArray)) rfl M (kO b.has Mh m rfl aK aC) ⟨_, _, _, rfl, (b.mX (Db (Kb Sn))), ((B.trans N).trans Q), ((d.trans h).trans l), (ST.lX b (nq.mem (Db (Kb Sn)))), (.slice k z.length t), rfl, rfl, y⟩
theorem Bt (G : Nat) (a0 : mh) (a1 : Int) (c2 : Value) (a2 : List Formula) (r : (Formula × mh)) (w : World) {μ0 : lQ} (h0 : oC μ0 ((G, Ol (mT a0) 249) :: []) w) (c1 : Sl kG 5 μ0 c2 a2) (hm : rO a0 a1 a2 = some r) :
  ms false Tryz.prog 247 [(.pointer (some ⟨G, 0, none⟩)), (.int .i64 a1), c2] w μ0 ((G, Ol (mT a0) 249) :: []) (fun v L1 μ1 => ∃ y1, v = (.agg #[(.int .i64 ((r.1).Op)), (.int .i64 ((r.1).K)), (.string (((r.1).kD).kE)), (.string (((r.1).kD).kL)), y1]) ∧ L1 = ((G, Ol (mT (r.2)) 249) :: []) ∧ Sl kG 5 μ1 y1 ((r.1).Kids)) := by
 let j6 := ((mT a0).toArray : Array Value)
 refine tp h0 58 func247 rfl (fun b => sg (VE (lG b aP (fun W2 b1 b => lr (Wa (lS (Wm ?_)))))))
 refine V (ml aD rfl c1) (Wm (ln (mf (fun i E W => ∃ x K J N c0, (E 12 = .int .i64 (i : Nat) ∧ E 11 = .int .i64 (a2.length : Nat)) ∧ ST false (keys ((G, Obj.cells j6 249 (0, 0)) :: [])) w W μ0 ((b1, Ol C5 58) :: ((G, Obj.cells j6 249 (0, 0)) :: (N ++ c0))) ∧ E 0 = (.pointer (some ⟨G, 0, none⟩)) ∧ E 1 = (.int .i64 x) ∧ E 6 = (.pointer (some ⟨b1, 0, none⟩)) ∧ E 7 = K ∧ E 10 = c2 ∧ lY 58 kG 5 μ0 K J N ∧ nM a0 (a2.drop i) x J = some r) a2.length c1.len ⟨a1, (.slice none 0 0), ([]), [], _, ⟨rfl, rfl⟩, (b.kH St), rfl, rfl, rfl, rfl, rfl, (lY.nil _ _ _ _), hm⟩ dc dc dc (fun _ _ _ h => by obtain ⟨_, _, _, _, _, aa, _⟩ := h; exact aa) ?_ ?_)))
 ·rintro h2 E W f2 ⟨x, K, J, N, c0, ⟨R, eN⟩, b, U, H, u, I, P, D, a⟩
  obtain ⟨c, h8, g8, g7, b7⟩ := lT f2
  rw [g8] at a
  refine bg (VQ (mU (i := (h2 : Int)) (x0 := c) kG.out aD aC P R c1 (aH _) g7) (fun k7 ⟨_, ⟨l0, rfl, Y⟩, f3⟩ => V (kI rfl (lB b.has f3 aK aC)) (VE (lG b aP (fun i6 k4 b => ?_)))))
  obtain ⟨y, z, rfl⟩ := Y.form
  let j4 : Value := (.slice y c.Kids.length z)
  let b8 := (C2 c.Op c.K c.kD.kE c.kD.kL y c.Kids.length z)
  refine VO (lh (.agg b8.toArray) (b8.toArray) b rfl rfl aC oc nb rfl (fun i7 b => ln (bg (VA b Mh b8 aK aC (bS a fun k8 f4 a => VE (Eg b call285 (lE.mR (Aw c j4 2 _ _ (Y.mono kN.mono b.kM) f4)) (fun i8 b => Wa (ln (CI a rfl (fun e5 a => ?_) (fun e5 a => ?_))))))))))
  ·refine kW (Wh H (Wi rfl (Wa (lH (lL (lL (kU ?_)))))))
   replace b := b.kH (Db St)
   exact ⟨R, (IntKind.i64.wrap (x - 1)), K, J, N, _, ⟨rfl, eN⟩, (b.kH St), U, rfl, u, I, P, D, (by rw [b7]; exact a)⟩
  refine sg (VA b Mh b8 aK aC (bS a fun k9 f5 a => VE (Eg b call285 (lE.mR (Aw c j4 3 _ _ (Y.mono kN.mono b.kM) f5)) (fun i9 b => V (ol rfl) (Wa (ln (CI a rfl (fun e6 a => ?_) (fun e6 a => ?_))))))))
  ·refine kW (Wh I (VA b Mh b8 aK aC (VE (lD (cs := b8.toArray) b (ni rfl) (nj aD aC aP) (fun j0 k5 b => ?_)))))
   replace b := b.perm (Nr (Qb (Qb (Qb (Qb Qz)))) Nz)
   refine bS a fun h3 e7 a => VE (pS (B := N) kN b dc aD na.1 na.2.1 rfl na.2.2.1 na.2.2.2 rfl rfl D (xL.lit kN (l := [c]) (.cons (ys := C2 c.Op c.K c.kD.kE c.kD.kL y c.Kids.length z) (kG.mk ⟨j4, rfl, Y⟩) .nil) rfl nb (b.at_ (Ma Mh))) e7 (fun j3 h4 g9 b e4 => Wa (lH (lL (lL (kU ?_))))))
   replace b := b.kH (Kr (Db (Db St)))
   exact ⟨R, x, h4, h3, g9, _, ⟨rfl, eN⟩, (b.kH (Sb (Pr Pz) (Sb (Pr Pz) St))), U, H, u, rfl, P, e4, (by rw [b7]; exact a)⟩
  refine mr (lL (lL (kU ?_)))
  replace b := b.kH (Db St)
  exact ⟨R, x, K, J, N, _, ⟨rfl, eN⟩, (b.kH St), U, H, u, I, P, D, (by rw [b7]; exact a)⟩
 rintro E W ⟨x, K, J, N, c0, ⟨R, eN⟩, b, U, H, u, I, P, D, a⟩
 rw [aI] at a
 refine kU (kZ (bg (Wh H (Wi rfl (Wa (ln (CI a rfl (fun e8 a => ?_) (fun e8 a => ?_))))))))
 ·refine sg (bS a fun g f6 a => ?_)
  let j1 : Value := (.string (((g).kD).kL))
  let h7 : Value := (.string (((g).kD).kE))
  refine VE (eD b (aY _) call286 (fun d => ms.mR (G1  _ _ d  f6)) ?_ (L0 := []))
  rintro _ l1 m2 i0 b c9 m ⟨l6, b2, rfl, c3⟩
  obtain rfl := b2.symm
  obtain ⟨Z, a6, rfl⟩ := c3.form
  let e3 : Value := (.slice Z ((g).Kids).length a6)
  let d9 : Value := (.agg #[(.int .i64 ((g).Op)), (.int .i64 ((g).K)), h7, j1, e3])
  refine VO (lh d9 (#[(.int .i64 ((g).Op)), (.int .i64 ((g).K)), h7, j1, e3]) b u rfl aC oc nb rfl (fun j5 b => ln ?_))
  replace b := b.kH (Kb (Kb (Dr St)))
  refine lC (nC (lJ ?_))
  obtain rfl := sj a
  exact nw (v := d9) rfl u (kO b.has Mh [(.int .i64 ((g).Op)), (.int .i64 ((g).K)), h7, j1, e3] rfl aK aC) ⟨_, _, _, rfl, (b.mX (Db (Kb Sn))), c9, m, (ST.lX b (nq.mem (Db (Kb Sn)))), e3, rfl, rfl, c3⟩
 refine sg (Wh H (Wh I (V (qX aD rfl D) (Wi rfl (Wa (ln (CI a rfl (fun e9 a => ?_) (fun e9 a => ?_))))))))
 ·refine sg (bS a fun j f7 a => ?_)
  let j2 : Value := (.string (((j).kD).kL))
  let h9 : Value := (.string (((j).kD).kE))
  refine VE (eD b (aY _) call287 (fun d => ms.mR (H2  _ _ d  f7)) ?_ (L0 := []))
  rintro _ l2 m3 i1 b d0 n ⟨l7, b3, rfl, c4⟩
  obtain rfl := b3.symm
  obtain ⟨a3, a7, rfl⟩ := c4.form
  let e2 : Value := (.slice a3 ((j).Kids).length a7)
  let d8 : Value := (.agg #[(.int .i64 ((j).Op)), (.int .i64 ((j).K)), h9, j2, e2])
  refine VO (lh d8 (#[(.int .i64 ((j).Op)), (.int .i64 ((j).K)), h9, j2, e2]) b u rfl aC oc nb rfl (fun j7 b => ln ?_))
  replace b := b.kH (Kb (Kb (Dr St)))
  refine lC (nC (lJ ?_))
  obtain rfl := sj a
  exact nw (v := d8) rfl u (kO b.has Mh [(.int .i64 ((j).Op)), (.int .i64 ((j).K)), h9, j2, e2] rfl aK aC) ⟨_, _, _, rfl, (b.mX (Db (Kb Sn))), d0, n, (ST.lX b (nq.mem (Db (Kb Sn)))), e2, rfl, rfl, c4⟩
 refine sg (Wh H (Wh I (V (qX aD rfl D) (Wi rfl (Wa (ln (CI a rfl (fun f0 a => ?_) (fun f0 a => ?_))))))))
 ·refine sg (Wh U (Wh I ?_))
  replace b := b.perm (Nr (Qb (Qb Qz)) Nz)
  obtain ⟨m4, b, d1, p, g1⟩ := ST.tJ kN b D
  refine bS a fun k f8 a => ?_
  let h5 : Value := (.string (((k.1).kD).kL))
  let g6 : Value := (.string (((k.1).kD).kE))
  refine VE (eD b (Cb (Pb Pz) Cn) call248 (fun d => (uP G a0 2 K J _ _ d (g1.mono kN.mono (lu.refl _)) f8)) ?_)
  rintro _ l3 m5 i2 b d2 q ⟨l8, b4, rfl, c5⟩
  obtain rfl := b4.symm
  replace b := b.perm (Tb Tn)
  obtain ⟨a4, a8, rfl⟩ := c5.form
  let e0 : Value := (.slice a4 ((k.1).Kids).length a8)
  let b9 : Value := (.agg #[(.int .i64 ((k.1).Op)), (.int .i64 ((k.1).K)), g6, h5, e0])
  replace b := b.perm (Nb (Pb Pz) Nz)
  refine VO (lh b9 (#[(.int .i64 ((k.1).Op)), (.int .i64 ((k.1).K)), g6, h5, e0]) b u rfl aC oc nb rfl (fun j9 b => lt (nC (lJ ?_))))
  obtain rfl := sj a
  exact nw (v := b9) rfl u (kO b.has Mh [(.int .i64 ((k.1).Op)), (.int .i64 ((k.1).K)), g6, h5, e0] rfl aK aC) ⟨_, _, _, rfl, (b.mX (Db (Kb Sn))), (d1.trans d2), (p.trans q), (ST.lX b (nq.mem (Db (Kb Sn)))), e0, rfl, rfl, c5⟩
 refine sg (Wh H (Wi rfl (Wa (ln (CI a rfl (fun f1 a => ?_) (fun f1 a => ?_))))))
 ·refine sg (Wh U (Wh I ?_))
  replace b := b.perm (Nr (Qb (Qb Qz)) Nz)
  obtain ⟨m6, b, d3, s, g2⟩ := ST.tJ kN b D
  refine bS a fun t f9 a => ?_
  let h6 : Value := (.string (((t.1).kD).kL))
  let h1 : Value := (.string (((t.1).kD).kE))
  refine VE (eD b (Cb (Pb Pz) Cn) call248 (fun d => (uP G a0 3 K J _ _ d (g2.mono kN.mono (lu.refl _)) f9)) ?_)
  rintro _ l4 m7 i3 b d4 A ⟨l9, b5, rfl, c6⟩
  obtain rfl := b5.symm
  replace b := b.perm (Tb Tn)
  obtain ⟨a5, a9, rfl⟩ := c6.form
  let e1 : Value := (.slice a5 ((t.1).Kids).length a9)
  let c8 : Value := (.agg #[(.int .i64 ((t.1).Op)), (.int .i64 ((t.1).K)), h1, h6, e1])
  replace b := b.perm (Nb (Pb Pz) Nz)
  refine VO (lh c8 (#[(.int .i64 ((t.1).Op)), (.int .i64 ((t.1).K)), h1, h6, e1]) b u rfl aC oc nb rfl (fun k1 b => lt (nC (lJ ?_))))
  obtain rfl := sj a
  exact nw (v := c8) rfl u (kO b.has Mh [(.int .i64 ((t.1).Op)), (.int .i64 ((t.1).K)), h1, h6, e1] rfl aK aC) ⟨_, _, _, rfl, (b.mX (Db (Kb Sn))), (d3.trans d4), (s.trans A), (ST.lX b (nq.mem (Db (Kb Sn)))), e1, rfl, rfl, c6⟩
 refine mr (lL (kU (sg (Wh H (Wh I ?_)))))
 replace b := b.perm (Nr (Qb (Qb Qz)) Nz)
 obtain ⟨m8, b, d5, F, g3⟩ := ST.tJ kN b D
 refine bS a fun T g0 a => ?_
 refine VE (eD b (aY _) call288 (fun d => (Ds K J _ _ d (g3.mono kN.mono (lu.refl _)) g0)) ?_ (L0 := []))
 rintro _ l5 m9 i4 b d6 L ⟨m0, i5, b6, rfl, c7⟩
 obtain rfl := b6.symm
 replace b := b.perm (Tr Tn)
 obtain ⟨M, Q, rfl⟩ := c7.form
 let g5 := (TF x M T.length Q)
 refine V (mB (v := (.agg g5.toArray)) (A8 rfl rfl rfl) (mn aP bH (uM _ bH) kr)) ?_
 replace b := b.perm (Nb (Pr Pz) Nz)
 refine VO (lh (.agg g5.toArray) (g5.toArray) b u rfl aC oc nb rfl (fun k3 b => lt ?_))
 obtain rfl := sj a
 refine nw (v := (.agg g5.toArray)) rfl u (kO b.has Mh g5 rfl aK aC) ?_
 replace b := b.perm (Nr (Qb Qz) Nz)
 obtain ⟨n0, b, d7, O, g4⟩ := ST.tJ kN b c7
 exact ⟨_, _, _, rfl, (b.mX (Db (Kb Sn))), ((d5.trans d6).trans d7), ((F.trans L).trans O), (ST.lX b (nq.mem (Db (Kb Sn)))), (.slice M T.length Q), rfl, rfl, g4⟩
theorem Az (c9 : mh → Formula → Option (Formula × mh)) (e9 : ∀ (u : Nat) (a0 : mh) (a : Formula) (y : Value) (r : (Formula × mh)) (w : World) {μ0 : lQ} (h0 : oC μ0 ((u, Ol (mT a0) 249) :: []) w) (x : Sl kG 5 μ0 y a.Kids), c9 a0 a = some r → ms false Tryz.prog 191 [(.pointer (some ⟨u, 0, none⟩)), (.agg #[(.int .i64 a.Op), (.int .i64 a.K), (.string a.kD.kE), (.string a.kD.kL), y])] w μ0 ((u, Ol (mT a0) 249) :: []) (fun v L1 μ1 => ∃ L, v = (.agg #[(.int .i64 ((r.1).Op)), (.int .i64 ((r.1).K)), (.string (((r.1).kD).kE)), (.string (((r.1).kD).kL)), L]) ∧ L1 = ((u, Ol (mT (r.2)) 249) :: []) ∧ Sl kG 5 μ1 L ((r.1).Kids))) (u : Nat) (a0 : mh) (a : Formula) (y : Value) (r : (Formula × mh)) (w : World) {μ0 : lQ} (h0 : oC μ0 ((u, Ol (mT a0) 249) :: []) w) (x : Sl kG 5 μ0 y a.Kids) (hm : tg c9 a0 a = some r) :
  ms false Tryz.prog 191 [(.pointer (some ⟨u, 0, none⟩)), (.agg #[(.int .i64 a.Op), (.int .i64 a.K), (.string a.kD.kE), (.string a.kD.kL), y])] w μ0 ((u, Ol (mT a0) 249) :: []) (fun v L1 μ1 => ∃ L, v = (.agg #[(.int .i64 ((r.1).Op)), (.int .i64 ((r.1).K)), (.string (((r.1).kD).kE)), (.string (((r.1).kD).kL)), L]) ∧ L1 = ((u, Ol (mT (r.2)) 249) :: []) ∧ Sl kG 5 μ1 L ((r.1).Kids)) := by
 let d0 := ((u, Ol (mT a0) 249) :: [])
 refine tp h0 39 func191 rfl (fun b => sg ?_)
 obtain ⟨A1, c2, rfl⟩ := x.form
 let A := (C2 a.Op a.K a.kD.kE a.kD.kL A1 a.Kids.length c2)
 refine VE (lI b rfl (fun W4 b3 b => VE (lG b aP (fun W6 b5 b => lS (Wf oB (VB b (Mt Mh) rfl rfl cA (Wi rfl (ln (CI hm rfl (fun f8 hm => ?_) (fun f8 hm => ?_))))))))))
 ·refine sg (VA b (Mt Mh) A aK aC (VO (lh (.agg A.toArray) (A.toArray) b rfl rfl aC oc nb rfl (fun W8 b => ln ?_))))
  replace b := b.kH (Kb (Db St))
  refine lC (lJ ?_)
  obtain rfl := sj hm
  exact nw (v := (.agg A.toArray)) rfl rfl (kO b.has Mh A rfl aK aC) ⟨_, _, _, rfl, (b.mX (Db (Kb Sn))), (lu.refl _), Lo.refl, (ST.lX b (nq.mem (Db (Kb Sn)))), (.slice A1 a.Kids.length c2), rfl, rfl, x⟩
 refine kg (Wa (lS (Wf oA (VB b (Mt Mh) rfl rfl eA (V (ml aD rfl x) (Wm (lH ?_)))))))
 refine kU (mf (fun i E W => ∃ I H T D J b7, (E 15 = .int .i64 (i : Nat) ∧ E 14 = .int .i64 (a.Kids.length : Nat)) ∧ lu μ0 J ∧ Lo (keys d0) w μ0 J ∧ ST false (keys d0) w W J ((u, Ol (mT D) 249) :: ((b5, Ol C5 58) :: ((b3, Ol A 58) :: (T ++ b7)))) ∧ E 0 = (.pointer (some ⟨u, 0, none⟩)) ∧ E 3 = (.pointer (some ⟨b3, 0, none⟩)) ∧ E 4 = (.pointer (some ⟨b5, 0, none⟩)) ∧ E 5 = I ∧ E 13 = (.slice A1 a.Kids.length c2) ∧ lY 58 kG 5 J I H T ∧ oT c9 a (a.Kids.drop i) H D = some r) a.Kids.length x.len ⟨(.slice none 0 0), ([]), [], a0, μ0, _, ⟨rfl, rfl⟩, (lu.refl _), Lo.refl, (b.kH (Sb (Pb (Pb Pz)) St)), rfl, rfl, rfl, rfl, rfl, (lY.nil _ _ _ _), hm⟩ dc dc dc (fun _ _ _ h => by obtain ⟨_, _, _, _, _, _, aa, _⟩ := h; exact aa) ?_ ?_)
 ·rintro f0 E W d7 ⟨I, H, T, D, J, b7, ⟨eI, eN⟩, z, d, b, a2, a3, G, P, b9, K, c⟩
  obtain ⟨t, f9, e5, e4, e6⟩ := lT d7
  rw [e5] at c
  refine bg (VQ (mU (i := (f0 : Int)) (x0 := t) kG.out aD aC b9 eI (x.mono kN.mono z) (aH _) e4) (fun h7 ⟨_, ⟨h8, rfl, c0⟩, d8⟩ => V (kI rfl (lB b.has d8 aK aC)) (VE (lG b aP (fun g3 h5 b => ?_)))))
  obtain ⟨a7, a9, rfl⟩ := c0.form
  let R := (C2 t.Op t.K t.kD.kE t.kD.kL a7 t.Kids.length a9)
  refine VO (lh (.agg R.toArray) (R.toArray) b rfl rfl aC oc nb rfl (fun g4 b => ln (kW (Wh P (Wh a2 (VA b Mh R aK aC (bS c fun g d9 c => ?_)))))))
  refine VE (eD b (Cb (Pb Pz) Cn) call191 (fun F => (e9 u D t (.slice a7 t.Kids.length a9) _ _ F (c0.mono kN.mono (lu.refl _)) d9)) ?_)
  rintro _ h9 f4 g0 b b6 m ⟨i2, b1, rfl, c1⟩
  obtain rfl := b1.symm
  replace b := b.perm (Tb Tn)
  obtain ⟨M, U, rfl⟩ := c1.form
  let d1 : Value := (.slice M ((g.1).Kids).length U)
  refine VE (lD (cs := #[(.int .i64 ((g.1).Op)), (.int .i64 ((g.1).K)), (.string (((g.1).kD).kE)), (.string (((g.1).kD).kL)), d1]) b (ni rfl) (nj aD aC aP) (fun g8 h6 b => ?_))
  replace b := b.perm (Nr (Qb (Qb (Qb (Qb (Qb Qz))))) Nz)
  refine bS c fun f1 d5 c => VE (pS (B := T) kN b dc aD na.1 na.2.1 rfl na.2.2.1 na.2.2.2 rfl rfl (K.mono kN b6) (xL.lit kN (l := [g.1]) (.cons (ys := [(.int .i64 ((g.1).Op)), (.int .i64 ((g.1).K)), (.string (((g.1).kD).kE)), (.string (((g.1).kD).kL)), d1]) (kG.mk ⟨d1, rfl, c1⟩) .nil) rfl nb (b.at_ (Ma Mh))) d5 (fun g9 f2 e8 b d4 => Wa (lH (lL (kU ?_)))))
  replace b := b.kH (Kr (Db (Kb (Db St))))
  exact ⟨eI, f2, f1, e8, g.2, f4, _, ⟨rfl, eN⟩, (z.trans b6), (d.trans m), (b.kH (Sb (Pr Pz) (Sb (Pr Pz) (Sb (Pr Pz) St)))), a2, a3, G, rfl, b9, d4, (by rw [e6]; exact c)⟩
 rintro E W ⟨I, H, T, D, J, b7, ⟨eI, eN⟩, z, d, b, a2, a3, G, P, b9, K, c⟩
 rw [aI] at c
 refine kU (kZ (sg (V (kP oB a3) (VB b (Mt (Mt Mh)) rfl rfl cA (Wi rfl (ln (CI c rfl (fun d6 c => ?_) (fun d6 c => ?_))))))))
 ·refine sg (Wh a2 (V (kP sK a3) (VB b (Mt (Mt Mh)) rfl rfl cA (Wh P ?_))))
  replace b := b.perm (Nr (Qb (Qb (Qb Qz))) Nz)
  obtain ⟨i5, b, c5, n, e2⟩ := ST.tJ kN b K
  refine bS c fun j e0 c => ?_
  let f3 : Value := (.string (((j.1).kD).kL))
  let d3 : Value := (.string (((j.1).kD).kE))
  refine VE (eD b (Cb Pz Cn) call247 (fun F => (Bt u D a.K I H _ _ F (e2.mono kN.mono (lu.refl _)) e0)) ?_)
  rintro _ i0 i6 g1 b c6 p ⟨i3, b2, rfl, c3⟩
  obtain rfl := b2.symm
  replace b := b.perm (Tb Tn)
  obtain ⟨N, Y, rfl⟩ := c3.form
  let b8 : Value := (.slice N ((j.1).Kids).length Y)
  let a5 : Value := (.agg #[(.int .i64 ((j.1).Op)), (.int .i64 ((j.1).K)), d3, f3, b8])
  replace b := b.perm (Nb (Pb Pz) Nz)
  refine VO (lh a5 (#[(.int .i64 ((j.1).Op)), (.int .i64 ((j.1).K)), d3, f3, b8]) b G rfl aC oc nb rfl (fun h2 b => ln ?_))
  replace b := b.kH (Kb (Kb (Db St)))
  refine lC (lJ ?_)
  obtain rfl := sj c
  exact nw (v := a5) rfl G (kO b.has Mh [(.int .i64 ((j.1).Op)), (.int .i64 ((j.1).K)), d3, f3, b8] rfl aK aC) ⟨_, _, _, rfl, (b.mX (Db (Kb Sn))), ((z.trans c5).trans c6), ((d.trans n).trans p), (ST.lX b (nq.mem (Db (Kb Sn)))), b8, rfl, rfl, c3⟩
 refine kg (Wh a2 (V (kP oB a3) (VB b (Mt (Mt Mh)) rfl rfl cA (Wh P ?_))))
 replace b := b.perm (Nr (Qb (Qb (Qb Qz))) Nz)
 obtain ⟨i7, b, c7, q, e3⟩ := ST.tJ kN b K
 refine bS c fun k e1 c => ?_
 let f5 : Value := (.int .i64 ((k.1).Op))
 let e7 : Value := (.string (((k.1).kD).kL))
 let d2 : Value := (.string (((k.1).kD).kE))
 refine VE (eD b (Cb Pz Cn) call248 (fun F => (uP u D a.Op I H _ _ F (e3.mono kN.mono (lu.refl _)) e1)) ?_)
 rintro _ i1 i8 g2 b c8 s ⟨i4, b4, rfl, c4⟩
 obtain rfl := b4.symm
 replace b := b.perm (Tb Tn)
 obtain ⟨Q, Z, rfl⟩ := c4.form
 let O : Value := (.slice Q ((k.1).Kids).length Z)
 let a4 : Value := (.agg #[f5, (.int .i64 ((k.1).K)), d2, e7, O])
 replace b := b.perm (Nb (Pb Pz) Nz)
 refine VO (lh a4 (#[f5, (.int .i64 ((k.1).K)), d2, e7, O]) b G rfl aC oc nb rfl (fun h4 b => ln ?_))
 replace b := b.kH (Kb (Kb (Db St)))
 refine lC ?_
 obtain rfl := sj c
 exact nw (v := a4) rfl G (kO b.has Mh [f5, (.int .i64 ((k.1).K)), d2, e7, O] rfl aK aC) ⟨_, _, _, rfl, (b.mX (Db (Kb Sn))), ((z.trans c7).trans c8), ((d.trans q).trans s), (ST.lX b (nq.mem (Db (Kb Sn)))), O, rfl, rfl, c4⟩
theorem yo : ∀ (n : Nat) (c : Nat) (j : mh) (g : Formula) (a : Value) (r : (Formula × mh)) (w : World) {k : lQ} (y : oC k ((c, Ol (mT j) 249) :: []) w) (i : Sl kG 5 k a g.Kids) (_ : ot n j g = some r),
  ms false Tryz.prog 191 [(.pointer (some ⟨c, 0, none⟩)), (.agg #[(.int .i64 g.Op), (.int .i64 g.K), (.string g.kD.kE), (.string g.kD.kL), a])] w k ((c, Ol (mT j) 249) :: []) (fun v u x => ∃ t, v = (.agg #[(.int .i64 ((r.1).Op)), (.int .i64 ((r.1).K)), (.string (((r.1).kD).kE)), (.string (((r.1).kD).kL)), t]) ∧ u = ((c, Ol (mT (r.2)) 249) :: []) ∧ Sl kG 5 x t ((r.1).Kids))
 | 0 => by intros; rename_i h; simp only [ot] at h; cases h
 | n + 1 => Az (ot n) (yo n)
theorem F9 (c : Formula) (u : Value) (r : (Formula × Int)) (w : World) {Z : lQ} (A : oC Z [] w) (k : Sl kG 5 Z u c.Kids) (hm : yJ c = some r) :
  ms false Tryz.prog 132 [(.agg #[(.int .i64 c.Op), (.int .i64 c.K), (.string c.kD.kE), (.string c.kD.kL), u])] w Z [] (fun v L1 μ1 => ∃ q, v = (.tuple #[(.agg #[(.int .i64 ((r.1).Op)), (.int .i64 ((r.1).K)), (.string (((r.1).kD).kE)), (.string (((r.1).kD).kL)), q]), (.int .i64 (r.2))]) ∧ L1 = [] ∧ Sl kG 5 μ1 q ((r.1).Kids)) := by
 refine tp A 27 func132 rfl (fun b => sg ?_)
 obtain ⟨H, I, rfl⟩ := k.form
 let n := (C2 c.Op c.K c.kD.kE c.kD.kL H c.Kids.length I)
 refine VE (lI b rfl (fun W4 L b => VE (lG b aP (fun W6 p b => Wa (lS (VA b (Mt Mh) n aK aC (bS hm fun r7 a5 hm => VE (Eg b call72 (xj c (.slice H c.Kids.length I) _ _ (k.mono kN.mono b.kM) a5) (fun W9 b => V (ol rfl) (ln (CI hm rfl (fun Q hm => ?_) (fun Q hm => ?_))))))))))))
 ·refine sg (V (mB (v := (.agg C5.toArray)) rp (mn aP bH (uM _ bH) kr)) (VO (lh (.agg C5.toArray) (C5.toArray) b rfl rfl aC oc nb rfl (fun P b => Wa (ln ?_)))))
  replace b := b.kH (Kb (Db St))
  refine lC (lJ ?_)
  obtain rfl := sj hm
  exact qZ (v0 := (.agg C5.toArray)) (v1 := (.int .i64 11)) rfl rfl (kO b.has Mh C5 rfl aK aC) rfl ⟨_, _, _, rfl, (b.mX Sn), (lu.refl _), Lo.refl, (ST.lX b (nq.mem Sn)), (.slice none 0 0), rfl, rfl, (Sl.nil _ _ _)⟩
 refine kg (V (mB (v := (.agg (mT K6).toArray)) rp (mn zeroValue249 jZ (SS _ jZ) kr)) (VE (lI b rfl (fun R s b => Wa (lr (Wm (VA b (Mt (Mt Mh)) n aK aC (bS hm fun a U hm => ?_))))))))
 let m : Value := (.int .i64 ((a.1).K))
 let l : Value := (.int .i64 ((a.1).Op))
 let h : Value := (.string (((a.1).kD).kL))
 let a2 : Value := (.string (((a.1).kD).kE))
 refine VE (eD b (Cb Pz Cn) call191 (fun F => ((yo lF) s K6 c (.slice H c.Kids.length I) _ _ F (k.mono kN.mono (lu.refl _)) U)) ?_)
 rintro _ c7 a9 O b D d ⟨c9, y, rfl, z⟩
 obtain rfl := y.symm
 replace b := b.perm (Tb Tn)
 refine VE (lG b aP (fun c0 K b => ?_))
 obtain ⟨i, j, rfl⟩ := z.form
 let a0 : Value := (.slice i ((a.1).Kids).length j)
 let N : Value := (.agg #[l, m, a2, h, a0])
 refine VO (lh N (#[l, m, a2, h, a0]) b rfl rfl aC oc nb rfl (fun c1 b => ln ?_))
 replace b := b.kH (Kb (Kb (Kb (Db St))))
 refine kZ (sg (Wm (Wn (Wf LD (VB b (Mt Mh) rfl rfl isAgg40 (Wi rfl (Wm (LJ hm (fun M E W => ∃ J, ST false (keys []) w W a9 ((K, Ob #[l, m, a2, h, a0] 58) :: ((p, Ol C5 58) :: J)) ∧ E 2 = (.pointer (some ⟨p, 0, none⟩)) ∧ E 5 = (.pointer (some ⟨K, 0, none⟩)) ∧ E 24 = (.bool M)) 4 ?_ (fun M t G => ?_)))))))))
 ·rintro c8 E W ⟨J, b, B, a3, a4⟩ x
  refine ln (CI x a4 (fun T x => ?_) (fun T x => ?_))
  ·refine sg (V (mB (v := (.agg C5.toArray)) rp (mn aP bH (uM _ bH) kr)) ?_)
   replace b := b.perm (Nb (Pb Pz) Nz)
   refine VO (lh (.agg C5.toArray) (C5.toArray) b B rfl aC oc nb rfl (fun c3 b => Wa (ln ?_)))
   replace b := b.kH (Kb (Db St))
   refine lC (lJ ?_)
   obtain rfl := sj x
   exact qZ (v0 := (.agg C5.toArray)) (v1 := (.int .i64 12)) rfl B (kO b.has Mh C5 rfl aK aC) rfl ⟨_, _, _, rfl, (b.mX Sn), D, d, (ST.lX b (nq.mem Sn)), (.slice none 0 0), rfl, rfl, (Sl.nil _ _ _)⟩
  refine kg (V (kI a3 (kO b.has Mh [l, m, a2, h, a0] rfl aK aC)) ?_)
  replace b := b.perm (Nb (Pb Pz) Nz)
  refine VO (lh N (#[l, m, a2, h, a0]) b B rfl aC oc nb rfl (fun c4 b => Wa (ln ?_)))
  replace b := b.kH (Kb (Db St))
  refine lC ?_
  obtain rfl := sj x
  exact qZ (v0 := N) (v1 := (.int .i64 0)) rfl B (kO b.has Mh [l, m, a2, h, a0] rfl aK aC) rfl ⟨_, _, _, rfl, (b.mX Sn), D, d, (ST.lX b (nq.mem Sn)), a0, rfl, rfl, z⟩
 refine bC t (fun g t => ?_) (fun g t => ?_)
 ·refine un g (un g (un g (V (lj (cB g) rfl) ?_)))
  obtain rfl := sj t
  exact G _ _ ⟨_, (b.kH (Kb (Db St))), rfl, rfl, rfl⟩
 refine ug g (kI rfl (kO b.has Mh [l, m, a2, h, a0] rfl aK aC)) (bS t fun c6 Y t => tm g (Eg b call72 (xj a.1 a0 _ _ (z.mono kN.mono b.kM) Y) (fun c5 b => ug g (ol rfl) (V (ll (cB g) rfl) ?_))))
 obtain rfl := sj t
 exact G _ _ ⟨_, (b.kH (Kb (Db St))), rfl, rfl, rfl⟩
theorem Je (a : Formula) (k : Value) (c : Formula) (t : Value) (r : (Formula × Int)) (w : World) {N : lQ} (q : oC N [] w) (i : Sl kG 5 N k a.Kids) (j : Sl kG 5 N t c.Kids) (hm : yT a c = some r) :
  ms false Tryz.prog 133 [(.agg #[(.int .i64 a.Op), (.int .i64 a.K), (.string a.kD.kE), (.string a.kD.kL), k]), (.agg #[(.int .i64 c.Op), (.int .i64 c.K), (.string c.kD.kE), (.string c.kD.kL), t])] w N [] (fun v Z μ1 => ∃ Y, v = (.tuple #[(.agg #[(.int .i64 ((r.1).Op)), (.int .i64 ((r.1).K)), (.string (((r.1).kD).kE)), (.string (((r.1).kD).kL)), Y]), (.int .i64 (r.2))]) ∧ Z = [] ∧ Sl kG 5 μ1 Y ((r.1).Kids)) := by
 refine tp q 13 func133 rfl (fun b => sg ?_)
 obtain ⟨u, z, rfl⟩ := i.form
 let a3 : Value := (.slice u a.Kids.length z)
 refine VE (lI b rfl (fun W4 P b => ?_))
 obtain ⟨y, G, rfl⟩ := j.form
 let n : Value := (.slice y c.Kids.length G)
 refine VE (lI b rfl (fun W8 R b => VE (lG b aP (fun a5 W b => Wa (lr (VA b (Mt (Mt Mh)) (C2 a.Op a.K a.kD.kE a.kD.kL u a.Kids.length z) aK aC (VA b (Mt Mh) (C2 c.Op c.K c.kD.kE c.kD.kL y c.Kids.length G) aK aC (VE (lD (cs := #[(.int .i64 a.Op), (.int .i64 a.K), (.string a.kD.kE), (.string a.kD.kL), a3, (.int .i64 c.Op), (.int .i64 c.K), (.string c.kD.kE), (.string c.kD.kL), n]) b (oJ rfl rfl) (nj aD aC aP) (fun A I b => V (mB (v := (.agg #[(.int .i64 2), (.int .i64 0), (.string zS), (.string zS), (.slice (some ⟨I, 0, none⟩) 2 2)])) (oJ rfl rfl) (mn aP bH (uM _ bH) kr)) ?_))))))))))
 obtain ⟨L, b, K, d, U⟩ := ST.tJ (B := [(I, Ob #[(.int .i64 a.Op), (.int .i64 a.K), (.string a.kD.kE), (.string a.kD.kL), a3, (.int .i64 c.Op), (.int .i64 c.K), (.string c.kD.kE), (.string c.kD.kL), n] 58)]) kN b (lY.lit kN (l := [a, c]) (.cons (ys := C2 a.Op a.K a.kD.kE a.kD.kL u a.Kids.length z) (kG.mk ⟨a3, rfl, i⟩) (.cons (ys := C2 c.Op c.K c.kD.kE c.kD.kL y c.Kids.length G) (kG.mk ⟨n, rfl, j⟩) .nil)) rfl nb rfl)
 refine bS hm fun g T hm => ?_
 let p : Value := (.int .i64 ((g.1).Op))
 let a2 : Value := (.string (((g.1).kD).kL))
 let m : Value := (.string (((g.1).kD).kE))
 refine VE (eD b (aY _) call132 (fun s => (F9 (⟨2, 0, K0, [a, c]⟩ : Formula) (.slice (some ⟨I, 0, none⟩) 2 2) _ _ s (U.mono kN.mono (lu.refl _)) T)) ?_ (L0 := []))
 rintro _ a9 O a4 b M h ⟨F, H, rfl, J⟩
 obtain rfl := H.symm
 refine Wx rfl (Wx rfl ?_)
 obtain ⟨x, D, rfl⟩ := J.form
 let a0 : Value := (.slice x ((g.1).Kids).length D)
 let Q : Value := (.agg #[p, (.int .i64 ((g.1).K)), m, a2, a0])
 refine VO (lh Q (#[p, (.int .i64 ((g.1).K)), m, a2, a0]) b rfl rfl aC oc nb rfl (fun E b => Wa (ln ?_)))
 replace b := b.kH (Kb (Db (Db St)))
 refine lC ?_
 obtain rfl := sj hm
 exact qZ (v0 := Q) (v1 := (.int .i64 g.2)) rfl rfl (kO b.has Mh [p, (.int .i64 ((g.1).K)), m, a2, a0] rfl aK aC) rfl ⟨_, _, _, rfl, (b.mX Sn), (K.trans M), (d.trans h), (ST.lX b (nq.mem Sn)), a0, rfl, rfl, J⟩
theorem Lh (d1 : Value) (a0 : List Formula) (r : (Formula × Int)) (w : World) {μ0 : lQ} (h0 : oC μ0 [] w) (c7 : Sl kG 5 μ0 d1 a0) (hm : wZ a0 = some r) :
  ms false Tryz.prog 71 [d1] w μ0 [] (fun v L1 μ1 => ∃ y1, v = (.tuple #[(.agg #[(.int .i64 ((r.1).Op)), (.int .i64 ((r.1).K)), (.string (((r.1).kD).kE)), (.string (((r.1).kD).kL)), y1]), (.int .i64 (r.2))]) ∧ L1 = [] ∧ Sl kG 5 μ1 y1 ((r.1).Kids)) := by
 let e5 := (a0.drop (Int.toNat 1))
 refine tp h0 36 func71 rfl (fun b => sg (VE (lG b aP (fun W2 A b => Wa (lr (Wm (bS hm fun x6 e3 hm => VQ (mU (i := 0) (x0 := x6) kG.out aD aC rfl rfl c7 (lM e3) (lK e3)) (fun p3 ⟨_, ⟨v8, rfl, f2⟩, f1⟩ => V (kI rfl (lB b.has f1 aK aC)) (bS hm fun j e6 hm => ?_)))))))))
 refine VE (eD b (aY _) call132 (fun hh => (F9 x6 v8 _ _ hh (f2.mono kN.mono (lu.refl _)) e6)) ?_ (L0 := []))
 rintro _ i4 a9 i0 b a4 m ⟨i5, b6, rfl, d0⟩
 obtain rfl := b6.symm
 refine Wm (Wx rfl (Wx rfl (VE (lG b aP (fun i2 F b => ?_)))))
 obtain ⟨c2, c5, rfl⟩ := d0.form
 let d2 : Value := (.slice c2 ((j.1).Kids).length c5)
 refine VO (lh (.agg #[(.int .i64 ((j.1).Op)), (.int .i64 ((j.1).K)), (.string (((j.1).kD).kE)), (.string (((j.1).kD).kL)), d2]) (#[(.int .i64 ((j.1).Op)), (.int .i64 ((j.1).K)), (.string (((j.1).kD).kE)), (.string (((j.1).kD).kL)), d2]) b rfl rfl aC oc nb rfl (fun i3 b => Wa (lS (Wm (bS hm fun _ c8 hm => VQ (Dc (i := 1) aD aC rfl rfl (c7.mono kN.mono a4) (vG c8) (vw c8)) (fun f3 R => V (ml aD rfl R.1) (Wm (ln (CJ hm (fun u E W => ∃ q U c3, lu a9 U ∧ Lo (keys []) w a9 U ∧ ST false (keys []) w W U ((F, Ob #[(.int .i64 u.2.1), (.int .i64 u.2.2.1), (.string u.2.2.2.1.kE), (.string u.2.2.2.1.kL), q] 58) :: ((A, Ol C5 58) :: c3)) ∧ E 2 = (.pointer (some ⟨A, 0, none⟩)) ∧ E 4 = (.pointer (some ⟨F, 0, none⟩)) ∧ E 5 = (.int .i64 u.1) ∧ Sl kG 5 U q u.2.2.2.2) (fun u d7 => ?_) ?_)))))))))
 ·refine mf (fun i E W => ∃ s G H y x N z O, (E 18 = .int .i64 (i : Nat) ∧ E 17 = .int .i64 (e5.length : Nat)) ∧ lu a9 z ∧ Lo (keys []) w a9 z ∧ ST false (keys []) w W z ((F, Ob #[(.int .i64 G), (.int .i64 H), (.string y.kE), (.string y.kL), x] 58) :: ((A, Ol C5 58) :: O)) ∧ E 2 = (.pointer (some ⟨A, 0, none⟩)) ∧ E 4 = (.pointer (some ⟨F, 0, none⟩)) ∧ E 5 = (.int .i64 s) ∧ E 16 = f3 ∧ Sl kG 5 z x N ∧ uC (e5.drop i) s G H y N = some u) e5.length R.1.len ⟨j.2, ((j.1).Op), ((j.1).K), ((j.1).kD), d2, ((j.1).Kids), a9, _, ⟨rfl, rfl⟩, (lu.refl _), Lo.refl, (b.kH St), rfl, rfl, rfl, rfl, d0, d7⟩ dc dc dc (fun _ _ _ h => by obtain ⟨_, _, _, _, _, _, _, _, aa, _⟩ := h; exact aa) ?_ ?_
  ·rintro e7 E W d6 ⟨s, G, H, y, x, N, z, O, ⟨eI, eN⟩, t, d, b, a2, D, a3, P, I, c⟩
   obtain ⟨a, f6, e1, e0, e2⟩ := lT d6
   rw [e1] at c
   refine bg (VQ (mU (i := (e7 : Int)) (x0 := a) kG.out aD aC P eI (R.1.mono kN.mono t) (aH _) e0) (fun h1 ⟨_, ⟨h4, rfl, c0⟩, d8⟩ => V (kI rfl (lB b.has d8 aK aC)) (VE (lG b aP (fun g2 g8 b => ?_)))))
   obtain ⟨Y, Z, rfl⟩ := c0.form
   let b8 := (C2 a.Op a.K a.kD.kE a.kD.kL Y a.Kids.length Z)
   refine VO (lh (.agg b8.toArray) (b8.toArray) b rfl rfl aC oc nb rfl (fun g3 b => lS (Wh a3 (Wi rfl (ln (CI c rfl (fun d5 c => ?_) (fun d5 c => ?_)))))))
   ·refine nT (nJ (SC (by simp) (nJ (qE (kU ?_)))))
    obtain rfl := sj c
    exact ⟨x, z, _, t, d, (b.kH (Db St)), a2, D, a3, I⟩
   refine kn (kW (V (kI D (kO b.has (Mt Mh) [(.int .i64 G), (.int .i64 H), (.string y.kE), (.string y.kL), x] rfl aK aC)) (VA b Mh b8 aK aC (bS c fun g d9 c => ?_))))
   refine VE (eD b (aY _) call133 (fun hh => (Je (⟨G, H, y, N⟩ : Formula) x a (.slice Y a.Kids.length Z) _ _ hh (I.mono kN.mono (lu.refl _)) (c0.mono kN.mono (lu.refl _)) d9)) ?_ (L0 := []))
   rintro _ h5 f0 f9 b c9 n ⟨h8, a5, rfl, c1⟩
   obtain rfl := a5.symm
   refine Wm (Wx rfl (Wx rfl ?_))
   obtain ⟨b0, b3, rfl⟩ := c1.form
   let d3 : Value := (.slice b0 ((g.1).Kids).length b3)
   replace b := b.perm (Nb (Pb Pz) Nz)
   refine VO (lh (.agg #[(.int .i64 ((g.1).Op)), (.int .i64 ((g.1).K)), (.string (((g.1).kD).kE)), (.string (((g.1).kD).kL)), d3]) (#[(.int .i64 ((g.1).Op)), (.int .i64 ((g.1).K)), (.string (((g.1).kD).kE)), (.string (((g.1).kD).kL)), d3]) b D rfl aC oc nb rfl (fun g7 b => Wa (lH (lL (kU ?_)))))
   replace b := b.kH (Kb (Db St))
   exact ⟨eI, g.2, ((g.1).Op), ((g.1).K), ((g.1).kD), d3, ((g.1).Kids), f0, _, ⟨rfl, eN⟩, (t.trans c9), (d.trans n), (b.kH St), a2, D, rfl, P, c1, (by rw [e2]; exact c)⟩
  rintro E W ⟨s, G, H, y, x, N, z, O, ⟨eI, eN⟩, t, d, b, a2, D, a3, P, I, c⟩
  rw [aI] at c
  refine kU ?_
  obtain rfl := sj c
  exact ⟨x, z, _, t, d, (b.kH St), a2, D, a3, I⟩
 rintro ⟨e8, Q, T, k, M⟩ E W ⟨q, U, c3, a8, l, b, p, e4, c6, b9⟩ B
 refine kZ (sg (Wh c6 (Wi rfl (ln (CI B rfl (fun d4 B => ?_) (fun d4 B => ?_))))))
 ·refine sg (V (mB (v := (.agg C5.toArray)) rp (mn aP bH (uM _ bH) kr)) (Wh c6 ?_))
  replace b := b.perm (Nb (Pb Pz) Nz)
  refine VO (lh (.agg C5.toArray) (C5.toArray) b p rfl aC oc nb rfl (fun g0 b => Wa (ln ?_)))
  replace b := b.kH (Kb (Db St))
  refine lC (lJ ?_)
  obtain rfl := sj B
  exact qZ (v0 := (.agg C5.toArray)) (v1 := (.int .i64 e8)) rfl p (kO b.has Mh C5 rfl aK aC) rfl ⟨_, _, _, rfl, (b.mX Sn), (a4.trans a8), (m.trans l), (ST.lX b (nq.mem Sn)), (.slice none 0 0), rfl, rfl, (Sl.nil _ _ _)⟩
 refine kg (V (kI e4 (kO b.has Mh [(.int .i64 Q), (.int .i64 T), (.string k.kE), (.string k.kL), q] rfl aK aC)) ?_)
 obtain ⟨J, K, rfl⟩ := b9.form
 let L := (C2 Q T k.kE k.kL J M.length K)
 replace b := b.perm (Nb (Pb Pz) Nz)
 refine VO (lh (.agg L.toArray) (L.toArray) b p rfl aC oc nb rfl (fun g1 b => Wa (ln ?_)))
 replace b := b.kH (Kb (Db St))
 refine lC ?_
 obtain rfl := sj B
 exact qZ (v0 := (.agg L.toArray)) (v1 := (.int .i64 0)) rfl p (kO b.has Mh L rfl aK aC) rfl ⟨_, _, _, rfl, (b.mX Sn), (a4.trans a8), (m.trans l), (ST.lX b (nq.mem Sn)), (.slice J M.length K), rfl, rfl, b9⟩
theorem M7 (k : lW) (G H : Value) (p : kF) (r : (Formula × Int)) (w : World) {μ0 : lQ} (h0 : oC μ0 [] w) (t : Sl kY 15 μ0 G k.kQ) (y : Sl lO 8 μ0 H k.li) (hm : BA k p = some r) :
  ms false Tryz.prog 23 [(.agg #[(.string k.Name), G, H]), (.agg (kK p).toArray)] w μ0 [] (fun v L1 μ1 => ∃ y1, v = (.tuple #[(.agg #[(.int .i64 ((r.1).Op)), (.int .i64 ((r.1).K)), (.string (((r.1).kD).kE)), (.string (((r.1).kD).kL)), y1]), (.int .i64 (r.2))]) ∧ L1 = [] ∧ Sl kG 5 μ1 y1 ((r.1).Kids)) := by
 refine tp h0 41 func23 rfl (fun b => sg ?_)
 obtain ⟨A1, c2, rfl⟩ := t.form
 obtain ⟨A3, P, rfl⟩ := y.form
 let f5 := (C4 k.Name A1 k.kQ.length c2 A3 k.li.length P)
 refine VE (lI b rfl (fun W6 b5 b => VE (lI b rfl (fun W8 b7 b => VE (lG b aP (fun i4 b9 b => Wa (lr (VA b (Mt (Mt Mh)) f5 eC dC (VA b (Mt Mh) (kK p) bX aO (bS hm fun a e7 hm => ?_))))))))))
 let b8 : Value := (.int .i64 (((a.1).kJ).K))
 let q : Value := (.int .i64 (((a.1).kJ).Op))
 let b1 := (((a.1).kJ).kD)
 let s : Value := (.string (b1.kL))
 let d8 : Value := (.string (b1.kE))
 let a0 := (((a.1).Signed).kF)
 refine VE (eD b (aY _) call69 (fun A => (KP k (.slice A1 k.kQ.length c2) (.slice A3 k.li.length P) p _ _ A (t.mono kX.mono (lu.refl _)) (y.mono me.mono (lu.refl _)) e7)) ?_ (L0 := []))
 rintro _ j4 j8 i2 b I d ⟨j6, j7, a5, rfl, e9, c5⟩
 obtain rfl := a5.symm
 refine Wm (Wx rfl (Wx rfl (VE (lG b eG (fun i6 j3 b => ?_)))))
 obtain ⟨d9, e1, rfl⟩ := e9.form
 let f8 : Value := (.slice d9 (((a.1).Signed).Tag).length e1)
 obtain ⟨z, D, rfl⟩ := c5.form
 let a2 : Value := (.slice z (((a.1).kJ).Kids).length D)
 refine VO (lh (.agg #[(.int .i64 (a0.Kind)), (.string ((a0.Head).kE)), (.string ((a0.Head).kL)), (.string (a0.ma)), (.string ((a0.B).kE)), (.string ((a0.B).kL)), (.string ((a0.C).kE)), (.string ((a0.C).kL)), (.string (a0.mc)), f8, q, b8, d8, s, a2]) (#[(.int .i64 (a0.Kind)), (.string ((a0.Head).kE)), (.string ((a0.Head).kL)), (.string (a0.ma)), (.string ((a0.B).kE)), (.string ((a0.B).kL)), (.string ((a0.C).kE)), (.string ((a0.C).kL)), (.string (a0.mc)), f8, q, b8, d8, s, a2]) b rfl rfl cR oc nb rfl (fun i7 b => Wa (lS (Wm (V (ol rfl) (ln (CI hm rfl (fun e6 hm => ?_) (fun e6 hm => ?_))))))))
 ·refine sg (V (mB (v := (.agg C5.toArray)) rp (mn aP bH (uM _ bH) kr)) ?_)
  replace b := b.perm (Nb (Pb Pz) Nz)
  refine VO (lh (.agg C5.toArray) (C5.toArray) b rfl rfl aC oc nb rfl (fun i8 b => Wa (ln ?_)))
  replace b := b.kH (Kb (Db (Db (Db St))))
  refine lC (lJ ?_)
  obtain rfl := sj hm
  exact qZ (v0 := (.agg C5.toArray)) (v1 := (.int .i64 42)) rfl rfl (kO b.has Mh C5 rfl aK aC) rfl ⟨_, _, _, rfl, (b.mX Sn), I, d, (ST.lX b (nq.mem Sn)), (.slice none 0 0), rfl, rfl, (Sl.nil _ _ _)⟩
 refine kg (Wf Fc (VA b Mh [q, b8, d8, s, a2] aK aC (VE (lD (cs := #[q, b8, d8, s, a2]) b (ni rfl) (nj aD aC aP) (fun i9 e0 b => Wa (ln ?_))))))
 replace b := b.kH (Kb (Db St))
 refine kZ (sg (VA b (Mt (Mt (Mt Mh))) f5 eC dC (VA b (Mt (Mt Mh)) (kK p) bX aO (bS hm fun R e8 hm => ?_))))
 refine VE (eD b (aY _) call70 (fun A => (Jn k (.slice A1 k.kQ.length c2) (.slice A3 k.li.length P) p _ _ A (t.mono kX.mono I) (y.mono me.mono I) e8)) ?_ (L0 := []))
 rintro _ j5 e2 i3 b a8 F ⟨f6, a6, rfl, O⟩
 obtain rfl := a6.symm
 refine V (ml cX rfl O) (Wm (ln ?_))
 replace b := b.kH (Kb (Kb (Db (Db St))))
 replace b := b.Bk
 refine mf (fun i E W => ∃ Q N K Z, (E 27 = .int .i64 (i : Nat) ∧ E 26 = .int .i64 (R.length : Nat)) ∧ ST false (keys []) w W e2 ((b9, Ol C5 58) :: (K ++ Z)) ∧ E 4 = (.pointer (some ⟨b9, 0, none⟩)) ∧ E 8 = Q ∧ E 25 = f6 ∧ lY 58 kG 5 e2 Q N K ∧ vk (R.drop i) N = some r) R.length O.len ⟨(.slice (some ⟨e0, 0, none⟩) 1 1), ([(a.1).kJ]), [(e0, Ob #[q, b8, d8, s, a2] 58)], _, ⟨rfl, rfl⟩, (b.kH (Sb (Pr Pz) St)), rfl, rfl, rfl, (lY.lit kN (l := [(a.1).kJ]) (.cons (ys := [q, b8, d8, s, a2]) (kG.mk ⟨a2, rfl, (c5.mono kN.mono a8)⟩) .nil) rfl nb rfl), hm⟩ dc dc dc (fun _ _ _ h => by obtain ⟨_, _, _, _, aa, _⟩ := h; exact aa) ?_ ?_
 ·rintro f0 E W d0 ⟨Q, N, K, Z, ⟨eI, eN⟩, b, T, a3, a4, U, j⟩
  obtain ⟨c, f7, d6, d5, d7⟩ := lT d0
  rw [d6] at j
  refine bg (VQ (mU (i := (f0 : Int)) (x0 := c) lO.out cX dX a4 eI O (aH _) d5) (fun h2 ⟨_, ⟨h5, h6, rfl, a9, d3⟩, d1⟩ => V (kI rfl (lB b.has d1 jU dX)) (VE (lG b iI (fun g0 g8 b => ?_)))))
  obtain ⟨u, x, rfl⟩ := a9.form
  let c7 := (C2 c.kJ.Op c.kJ.K c.kJ.kD.kE c.kJ.kD.kL u c.kJ.Kids.length x)
  obtain ⟨b2, b6, rfl⟩ := d3.form
  let c0 := (C7 c.kD.kE c.kD.kL c.kJ.Op c.kJ.K c.kJ.kD.kE c.kJ.kD.kL u c.kJ.Kids.length x b2 c.nf.length b6)
  refine VO (lh (.agg c0.toArray) (c0.toArray) b rfl rfl dX oc nb rfl (fun g1 b => ln (kW (Wh a3 (Wf Ft (VA b Mh c7 aK aC (VE (lD (cs := c7.toArray) b (ni rfl) (nj aD aC aP) (fun g2 g9 b => ?_)))))))))
  replace b := b.perm (Nr (Qb (Qb (Qb Qz))) Nz)
  refine bS j fun f1 c9 j => VE (pS (B := K) kN b dc aD na.1 na.2.1 rfl na.2.2.1 na.2.2.2 rfl rfl U (xL.lit kN (l := [c.kJ]) (.cons (ys := C2 c.kJ.Op c.kJ.K c.kJ.kD.kE c.kJ.kD.kL u c.kJ.Kids.length x) (kG.mk ⟨(.slice u c.kJ.Kids.length x), rfl, a9⟩) .nil) rfl nb (b.at_ (Ma Mh))) c9 (fun g3 f2 e3 b c8 => Wa (lH (lL (kU ?_)))))
  replace b := b.kH (Kr (Db (Db St)))
  exact ⟨eI, f2, f1, e3, _, ⟨rfl, eN⟩, (b.kH (Sb (Pr Pz) St)), T, rfl, a4, c8, (by rw [d7]; exact j)⟩
 rintro E W ⟨Q, N, K, Z, ⟨eI, eN⟩, b, T, a3, a4, U, j⟩
 rw [aI] at j
 refine kU (sg (Wh a3 ?_))
 replace b := b.perm (Nr (Qb Qz) Nz)
 obtain ⟨i0, b, c1, m, d4⟩ := ST.tJ kN b U
 refine bS j fun g d2 j => ?_
 let g4 : Value := (.int .i64 ((g.1).Op))
 let f4 : Value := (.string (((g.1).kD).kL))
 let f3 : Value := (.string (((g.1).kD).kE))
 refine VE (eD b (aY _) call71 (fun A => (Lh Q N _ _ A (d4.mono kN.mono (lu.refl _)) d2)) ?_ (L0 := []))
 rintro _ h7 i1 f9 b c3 n ⟨h8, Y, rfl, b0⟩
 obtain rfl := Y.symm
 refine Wx rfl (Wx rfl ?_)
 obtain ⟨J, M, rfl⟩ := b0.form
 let L : Value := (.slice J ((g.1).Kids).length M)
 let b4 : Value := (.agg #[g4, (.int .i64 ((g.1).K)), f3, f4, L])
 refine VO (lh b4 (#[g4, (.int .i64 ((g.1).K)), f3, f4, L]) b T rfl aC oc nb rfl (fun g7 b => Wa (lt ?_)))
 obtain rfl := sj j
 exact qZ (v0 := b4) (v1 := (.int .i64 g.2)) rfl T (kO b.has Mh [g4, (.int .i64 ((g.1).K)), f3, f4, L] rfl aK aC) rfl ⟨_, _, _, rfl, (b.mX Sn), (((I.trans a8).trans c1).trans c3), (((d.trans F).trans m).trans n), (ST.lX b (nq.mem Sn)), L, rfl, rfl, b0⟩
theorem DU (Q : Formula → (kD → Option Bool) → Option Bool) (a5 : ∀ (g : Formula) (k : Value) (t : Value) (J : kD → Option Bool) (r : Bool) (w : World) (c : Sl kG 5 (hp w) k g.Kids) (K : Bb Tryz.prog t (hp w) (fun (x : kD) => [(.agg (kR x).toArray)]) (fun (r : Bool) => (.bool r)) J), Q g J = some r → lE false Tryz.prog 73 [(.agg #[(.int .i64 g.Op), (.int .i64 g.K), (.string g.kD.kE), (.string g.kD.kL), k]), t] w (.bool r)) (g : Formula) (k t : Value) (J : kD → Option Bool) (r : Bool) (w : World) (c : Sl kG 5 (hp w) k g.Kids) (K : Bb Tryz.prog t (hp w) (fun (x : kD) => [(.agg (kR x).toArray)]) (fun (r : Bool) => (.bool r)) J) (hm : wz Q g J = some r) :
  lE false Tryz.prog 73 [(.agg #[(.int .i64 g.Op), (.int .i64 g.K), (.string g.kD.kE), (.string g.kD.kL), k]), t] w (.bool r) := by
 refine cG 45 func73 rfl (fun b => sg ?_)
 obtain ⟨A1, c2, rfl⟩ := c.form
 refine VE (lI b rfl (fun W4 n b => Wa (lS (Wf oB (VB b Mh rfl rfl cA (Wi rfl (ln (CI hm rfl (fun a9 hm => ?_) (fun a9 hm => ?_)))))))))
 ·refine sg (Wm (Wf uU (VA b Mh (kR g.kD) bI aR (bS hm fun r6 v hm => VE (PD g.kD b K (lu.refl _) rfl (wE rfl) v (fun W8 b => Wa (ln ?_)))))))
  replace b := b.kH (Db St)
  refine lC (lJ ?_)
  obtain rfl := sj hm
  exact rP b
 refine kg (Wa (lS (Wf oA (VB b Mh rfl rfl eA (V (ml aD rfl c) (Wm (lH ?_)))))))
 refine kU (mf (fun i E W => ∃ z I, (E 18 = .int .i64 (i : Nat) ∧ E 17 = .int .i64 (g.Kids.length : Nat)) ∧ ST false lU w W (hp w) ((n, Ol (C2 g.Op g.K g.kD.kE g.kD.kL A1 g.Kids.length c2) 58) :: I) ∧ E 1 = t ∧ E 2 = (.pointer (some ⟨n, 0, none⟩)) ∧ E 5 = (.int .i64 z) ∧ E 16 = (.slice A1 g.Kids.length c2) ∧ qm Q J g (g.Kids.drop i) z = some r) g.Kids.length c.len ⟨0, _, ⟨rfl, rfl⟩, (b.kH St), rfl, rfl, rfl, rfl, hm⟩ dc dc dc (fun _ _ _ h => by obtain ⟨_, _, l, _⟩ := h; exact l) ?_ ?_)
 ·rintro A E W a4 ⟨z, I, ⟨d, m⟩, b, G, u, y, H, a⟩
  obtain ⟨j, c1, s, q, N⟩ := lT a4
  rw [s] at a
  refine bg (VQ (mU (i := (A : Int)) (x0 := j) kG.out aD aC H d c (aH _) q) (fun R ⟨_, ⟨c0, rfl, M⟩, Z⟩ => V (kI rfl (lB b.has Z aK aC)) (VE (lG b aP (fun F P b => ?_)))))
  obtain ⟨B, D, rfl⟩ := M.form
  let a0 := (C2 j.Op j.K j.kD.kE j.kD.kL B j.Kids.length D)
  refine VO (lh (.agg a0.toArray) (a0.toArray) b rfl rfl aC oc nb rfl (fun L b => lr (VA b Mh a0 aK aC (Wh G (bS a fun b9 p a => VE (Eg b call73 (a5 j (.slice B j.Kids.length D) t J _ _ (M.mono kN.mono b.kM) (K.mono b.kM) p) (fun O b => ln ?_)))))))
  replace b := b.kH (Db St)
  refine CI a rfl (fun T a => ?_) (fun T a => ?_)
  ·exact kW (Wh y (Wi rfl (Wa (lH (lL (kU ⟨d, (IntKind.i64.wrap (z + 1)), _, ⟨rfl, m⟩, (b.kH St), G, u, rfl, H, (by rw [N]; exact a)⟩))))))
  exact mr (lL (kU ⟨d, z, _, ⟨rfl, m⟩, (b.kH St), G, u, y, H, (by rw [N]; exact a)⟩))
 rintro E W ⟨z, I, ⟨d, m⟩, b, G, u, y, H, a⟩
 rw [aI] at a
 refine kU (kZ (sg (V (kP oB u) (VB b Mh rfl rfl cA (ln (bg (Wi rfl (Wa (ln ?_)))))))))
 refine CI a rfl (fun U a => ?_) (fun U a => ?_)
 ·refine sg (Wh y (V (kP oA u) (VB b Mh rfl rfl eA (V (ml aD rfl c) (Wi rfl (Wa (ln ?_)))))))
  replace b := b.kH (Db St)
  refine lC (nC (lJ ?_))
  obtain rfl := sj a
  exact rP b
 refine sg (Wi rfl (Wa (ln (CI a rfl (fun Y a => ?_) (fun Y a => ?_)))))
 ·refine sg (Wh y (Wi rfl (Wa (ln ?_))))
  replace b := b.kH (Db St)
  refine lC (nC (lJ ?_))
  obtain rfl := sj a
  exact rP b
 refine mr (lL (kU (sg (Wh y (V (kP sK u) (VB b Mh rfl rfl cA (Wi rfl (Wa (ln ?_)))))))))
 exact lC (rQ a b)
theorem CH : ∀ (n : Nat) (c : Formula) (a : Value) (g : Value) (j : kD → Option Bool) (r : Bool) (w : World) (i : Sl kG 5 (hp w) a c.Kids) (k : Bb Tryz.prog g (hp w) (fun (x : kD) => [(.agg (kR x).toArray)]) (fun (r : Bool) => (.bool r)) j) (_ : qU n c j = some r),
  lE false Tryz.prog 73 [(.agg #[(.int .i64 c.Op), (.int .i64 c.K), (.string c.kD.kE), (.string c.kD.kL), a]), g] w (.bool r)
 | 0 => by intros; rename_i h; simp only [qU] at h; cases h
 | n + 1 => DU (qU n) (CH n)
theorem Dn (a : Formula) (j k : Value) (G : kD → Option Bool) (r : Bool) (w : World) (c : Sl kG 5 (hp w) j a.Kids) (z : Bb Tryz.prog k (hp w) (fun (x : kD) => [(.agg (kR x).toArray)]) (fun (r : Bool) => (.bool r)) G) (hm : wc a G = some r) :
  lE false Tryz.prog 24 [(.agg #[(.int .i64 a.Op), (.int .i64 a.K), (.string a.kD.kE), (.string a.kD.kL), j]), k] w (.bool r) := by
 refine cG 16 func24 rfl (fun b => sg ?_)
 obtain ⟨u, y, rfl⟩ := c.form
 let a0 := (C2 a.Op a.K a.kD.kE a.kD.kL u a.Kids.length y)
 refine VE (lI b rfl (fun U Z b => Wa (lr (Wm (V (OK underlying65 z.form rfl rfl) (Wm (Vg rfl rfl (kI rfl (kO b.has Mh a0 rfl aK aC)) (bS hm fun d K hm => Ox rfl rfl (Eg b call72 (xj a (.slice u a.Kids.length y) _ _ (c.mono kN.mono b.kM) K) (fun Y b => V (lj rfl rfl) (Wm (LJ hm (fun D E W => ∃ B, ST false lU w W (hp w) B ∧ E 4 = (.bool false) ∧ E 15 = (.bool D)) 4 ?_ (fun D g t => ?_)))))))))))))
 ·rintro T E W ⟨B, b, N, J⟩ H
  exact Wg J (lt (rQ H b))
 refine bC g (fun i g => ?_) (fun i g => ?_)
 ·refine ug i (kI rfl (kO b.has Mh a0 rfl aK aC)) (ug i (kT rfl) (bS g fun Q I g => tm i (Eg b call73 ((CH lF) a (.slice u a.Kids.length y) k G _ _ (c.mono kN.mono b.kM) (z.mono b.kM) I) (fun M b => V (lj (cB i) rfl) ?_))))
  obtain rfl := sj g
  exact t _ _ ⟨_, (b.kH (Db St)), rfl, rfl⟩
 refine un i (un i (un i (V (ll (cB i) rfl) ?_)))
 obtain rfl := sj g
 exact t _ _ ⟨_, (b.kH (Db St)), rfl, rfl⟩
theorem B5 (K : Nat) (a : Value) (G : List (kD × (List (ByteArray × Bool)))) (c : Value) (t : List kF) (j : Value) (D : List (kD × (List kF))) (g : Value) (u : List (ByteArray × (List kF))) (i : Value) (B : List lf) (J : Int) (I : kD) (a2 : ByteArray) (r : Bool) (w : World) (H : sL (fun (x : kD) => (.agg (kR x).toArray)) (nh Value.string (fun (x : Bool) => (Value.bool x))) (hp w) a G) (T : Sl (Pl kK) 9 (hp w) c t) (Z : sL (fun (x : kD) => (.agg (kR x).toArray)) (lA 52 kK 9) (hp w) j D) (U : sL Value.string (lA 52 kK 9) (hp w) g u) (Y : Sl (Pl lV) 3 (hp w) i B) (Q : At (hp w) (.pointer (some ⟨K, 0, none⟩)) [a, c, j, g, i, (.int .i64 J)]) (hm : uQ G t D u B J I a2 = some r) :
  lE true Tryz.prog 64 [(.pointer (some ⟨K, 0, none⟩)), (.agg (kR I).toArray), (.string a2)] w (.bool r) := by
 refine cG 19 func64 rfl (fun l => sg (VE (lI l rfl (fun W2 q l => Wa (ln (kZ ?_))))))
 replace l := l.drew
 have d := l.has.kH (Kb Sn)
 refine mi d lN (X 0 rfl d (kT rfl) (X 1 rfl d (Ec underlying132 rfl rfl) (X 2 rfl d (kT rfl) (Xg 3 rfl rfl rfl d (kT rfl) (Xg 4 rfl rfl rfl d (nz rfl) (rX 5 rfl kr (.inr ⟨2, true, 9, rfl, rfl, by decide, rfl⟩) rfl dc (fun _ _ h => h) d (zt [a] xZ rfl Q rfl) (fun p a3 => qQ 6 rfl rfl rfl d (fun _ m => kI rfl (tX m (y := a) a3 jz)) (qQ 7 rfl rfl rfl d (fun _ m => kI rfl (kO m Mh (kR I) rfl bI aR)) ?_))))))))
 obtain ⟨a4, a5, M, N⟩ := H
 refine qQ 8 rfl rfl rfl d (fun _ m => qg (k := I) (z := (.map none)) Bh fU gT rfl rfl M (fun b o n => m.1 b o (N b o n))) (Xg 9 rfl rfl rfl d (kT rfl) (qQ 10 rfl rfl rfl d (fun _ m => AQ (k := a2) (z := false) (vf := (fun (x : Bool) => (Value.bool x))) Hq gZ kk rfl rfl ((nV.D4 lz.1 M I N).mono (fun b o n => m.1 b o n))) (X 11 rfl d (lj rfl rfl) (X 12 rfl d (od rfl) (mu kr (kU ?_))))))
 exact lC (rQ hm l)
theorem Hv (N : kD) (Q D : Nat) (t : Value) (B : List (kD × (List (ByteArray × Bool)))) (a : Value) (j : List kF) (i : Value) (z : List (kD × (List kF))) (c : Value) (k : List (ByteArray × (List kF))) (g : Value) (u : List lf) (I : Int) (T : Nat) (Y : ByteArray) (r : Bool) (w : World) (M : sL (fun (x : kD) => (.agg (kR x).toArray)) (nh Value.string (fun (x : Bool) => (Value.bool x))) (hp w) t B) (G : Sl (Pl kK) 9 (hp w) a j) (K : sL (fun (x : kD) => (.agg (kR x).toArray)) (lA 52 kK 9) (hp w) i z) (H : sL Value.string (lA 52 kK 9) (hp w) c k) (J : Sl (Pl lV) 3 (hp w) g u) (U : At (hp w) (.pointer (some ⟨D, 0, none⟩)) [t, a, i, c, g, (.int .i64 I)]) (Z : At (hp w) (.pointer (some ⟨Q, 0, none⟩)) [(.pointer (some ⟨D, 0, none⟩))]) (d : At (hp w) (.pointer (some ⟨T, 0, none⟩)) [(.string Y)]) (hm : qV N B j z k u I Y = some r) :
  lE true Tryz.prog 110 [(.agg (kR N).toArray), (.pointer (some ⟨Q, 0, none⟩)), (.pointer (some ⟨T, 0, none⟩))] w (.bool r) := by
 refine cG 9 func110 rfl (fun b => sg (VE (lI b rfl (fun W2 h b => Wa (lr (V (kI rfl (tX b.has (y := (.pointer (some ⟨D, 0, none⟩))) Z isAgg132)) (VA b Mh (kR N) bI aR (V (kI rfl (tX b.has (y := (.string Y)) d bW)) (bS hm fun l a2 hm => VE (Eg b call64 (B5 D t B a j i z c k g u I N Y _ _ (M.mono b.kM) (G.mono (Pl.mono _) b.kM) (K.mono b.kM) (H.mono b.kM) (J.mono (Pl.mono _) b.kM) (U.mono b.kM) a2) (fun W5 b => Wa ?_)))))))))))
 refine ln ?_
 exact lC (rQ hm b)
theorem Ey (g : Value) (i r : List kF) (w : World) (a : Sl (Pl kK) 9 (hp w) g i) (hm : sN i = some r) :
  nA true Tryz.prog 61 [g] w 52 kK 9 r := by
 unfold sN at hm
 refine wM 8 func61 rfl (fun b => sg (Wa (lS (Wm ?_))))
 obtain ⟨y, B, rfl⟩ := a.form
 refine V (AS aS rfl rfl) (ln ?_)
 rcases y with _ | z
 ·have u := a.isNil
  replace hm : some [] = some r := by rw [u] at hm; simpa [nG, maxLen] using hm
  refine vr (rfl) (sg (Wa (lt (lJ ?_))))
  obtain rfl := sj hm
  exact mD (v := (.slice none 0 0)) rfl rfl ⟨_, [], rfl, b.oR (fun p d => by cases d) (by simp), lA.nil _ _ _⟩
 ·refine rT (rfl) (kg (VE (lD (cs := #[]) b rp (Ax [] aS aO cW dc rfl (by simp) rfl rfl) (fun G k b => Wm (bS hm fun H t hm => VE (oG (enc := kK) (v := (.slice (some ⟨k, 0, none⟩) 0 0)) (vs := (.slice (some z) i.length B)) (R := [(k, Ob #[] 52)]) b mG dc oQ aS pc.1 pc.2.1 rfl pc.2.2.1 pc.2.2.2 rfl rfl (lA.lit (l := []) (enc := kK) rfl dc rfl rfl) (a.mono (Pl.mono _) b.kM) t (fun D x j b c => Wa (lt ?_))))))))
  obtain rfl := sj hm
  exact mD (v := x) rfl rfl ⟨_, j, rfl, b.oR (fun p d => (Ml d)) c.nd, c⟩
theorem Ck (g : Value) (t : List kF) (j : Value) (B : kF → Option Bool) (r : Int) (w : World) (c : Sl (Pl kK) 9 (hp w) g t) (D : Bb Tryz.prog j (hp w) (fun (x : kF) => [(.agg (kK x).toArray)]) (fun (r : Bool) => (.bool r)) B) (hm : vi t B = some r) :
  lE false Tryz.prog 145 [g, j] w (.int .i64 r) := by
 refine cG 19 func145 rfl (fun b => sg (Wa (lS (Wm (V (ml aS rfl c) (Wm (ln (mf (fun i E W => ∃ k, (E 8 = .int .i64 (i : Nat) ∧ E 7 = .int .i64 (t.length : Nat)) ∧ ST false lU w W (hp w) k ∧ E 0 = g ∧ E 1 = j ∧ pH B (t.drop i) i = some r) t.length c.len ⟨_, ⟨rfl, rfl⟩, (b.kH St), rfl, rfl, hm⟩ dc dc dc (fun _ _ _ h => by obtain ⟨_, l, _⟩ := h; exact l) ?_ ?_))))))))
 ·rintro Q E W H ⟨k, ⟨d, m⟩, b, u, y, a⟩
  obtain ⟨z, T, M, K, N⟩ := lT H
  rw [M] at a
  refine bg (Wh d (Wa (lr (Wh y (Wh u (Wm (VQ (oH (enc := kK) (i := (Q : Int)) (x0 := z) aS aO rfl rfl c (aH _) K) (fun Y I => V (kI rfl (lB b.has I bX aO)) (bS a fun Z J a => ?_)))))))))
  refine VE (PD z b D (lu.refl _) rfl (wE rfl) J (fun U b => ln (CI a rfl (fun G a => ?_) (fun G a => ?_))))
  ·refine sg (Wm (Wa (lt (nC (lJ (nC (lJ ?_)))))))
   obtain rfl := sj a
   exact rP b
  exact mr (lL (kU ⟨d, _, ⟨rfl, m⟩, (b.kH St), u, y, (by rw [N]; exact a)⟩))
 rintro E W ⟨k, ⟨d, m⟩, b, u, y, a⟩
 rw [aI] at a
 exact kU (sg (Wa (lt (rQ a b))))
theorem Ce (j : Value) (a0 : List kF) (t : LO) (H : Value) (f1 : kF → Option Bool) (r : List kF) (w : World) {μ0 : lQ} (h0 : oC μ0 (t ++ []) w) (T : lA 52 kK 9 j a0 t) (a4 : Bb Tryz.prog H μ0 (fun (x : kF) => [(.agg (kK x).toArray)]) (fun (r : Bool) => (.bool r)) f1) (hm : sb a0 f1 = some r) :
  mZ false Tryz.prog 111 [j, H] w (t ++ []) (fun v L1 W' => ∃ q S2, v = q ∧ L1 = (S2 ++ []) ∧ lA 52 kK 9 q r S2) := by
 refine BT h0 42 func111 rfl (fun d => sg (Wa (lr (Wm (Wm (bS hm fun n d3 hm => VE (Eg d call145 (Ck j a0 H f1 _ _ (T.sl mG (fun b o h => d.at_ (Ml h))) (a4.mono d.kM) d3) (fun W3 d => Wa (ln ?_)))))))))
 refine kZ (sg (Wm (Wi rfl (ln (CI hm rfl (fun d2 hm => ?_) (fun d2 hm => ?_))))))
 ·refine sg (Wm (Wa (lt (lJ ?_))))
  obtain rfl := sj hm
  exact mD (v := j) rfl rfl ⟨_, _, rfl, (d.mX (Kr Sn)), j, t, rfl, rfl, T⟩
 refine kS (Wm (Wi rfl (Wa (ln (mK (nZ (fun m E W => ∃ U I B D a2, ST false (keys (t ++ [])) w W μ0 (I ++ a2) ∧ E 0 = j ∧ E 1 = H ∧ E 5 = (.int .i64 B) ∧ E 6 = (.int .i64 D) ∧ lA 52 kK 9 j U I ∧ oM f1 m U B D = some r) lF ⟨a0, t, n, (IntKind.i64.wrap (n + 1)), _, (d.kH St), rfl, rfl, rfl, rfl, T, hm⟩ ?_))))))
 rintro m E W ⟨U, I, B, D, a2, d, y, Q, G, K, g, a⟩
 cases m with
 | zero => rw [oM] at a; cases a
 | succ c8 =>
  refine kZ (sg (Wh K (Wh y (V (oq aS rfl g) (Wi rfl (ln (CI a rfl (fun A a => ?_) (fun A a => ?_))))))))
  ·refine kn (kZ (CJ a (fun Y E W => ∃ J a3, ST false (keys (t ++ [])) w W μ0 (J ++ a3) ∧ E 0 = j ∧ E 1 = H ∧ E 5 = (.int .i64 Y.2) ∧ E 6 = (.int .i64 D) ∧ lA 52 kK 9 j Y.1 J) (fun Y c => ?_) ?_))
   ·refine bg (Wh y (Wh K (bS c fun k M c => VQ (pg (i := D) (x0 := k) aS aO rfl rfl g (lM M) (lK M)) (fun e4 O => V (kI rfl (uc d.has (fun p h => (Ml h)) g mG O (lK M) bX aO)) (VE (lG d cW (fun d7 e2 d => VO (lh (.agg (kK k).toArray) ((kK k).toArray) d rfl rfl aO (oQ k) nb rfl (fun d8 d => lr (Wh Q ?_))))))))))
    refine VA d Mh (kK k) bX aO (bS c fun e6 R c => VE (PD k d a4 (lu.refl _) rfl (wE rfl) R (fun d9 d => V (ol rfl) (ln (CI c rfl (fun F c => ?_) (fun F c => ?_))))))
    ·refine sg (Wh y (Wh G (VA d Mh (kK k) bX aO (bS c fun d0 N c => VQ (pg (i := B) (x0 := d0) aS aO rfl rfl g (lM N) (lK N)) (fun e5 P => ?_)))))
     replace d := d.perm (Nr (Qb Qz) Nz)
     refine VO (DI (u := (.agg (kK k).toArray)) (x1 := k)  d g mG oQ rfl rfl rfl P (lK N) aO (fun e0 c1 d s => ln ?_))
     replace d := d.kH (Kr (Db St))
     refine kW (Wh G (Wi rfl (Wa (lH (lL (kU ?_))))))
     obtain rfl := sj c
     exact ⟨c1, _, (d.kH St), y, Q, rfl, K, s⟩
    refine mr (lL (kU ?_))
    obtain rfl := sj c
    exact ⟨I, _, (d.kH (Db St)), y, Q, G, K, g⟩
   rintro ⟨c7, c9⟩ E W ⟨J, a3, d, c3, c4, c5, c6, b6⟩ L
   exact kW (Wh c6 (Wi rfl (Wa (ln ⟨c8, bF _, c7, J, c9, (IntKind.i64.wrap (D + 1)), _, (d.kH St), c3, c4, c5, rfl, b6, L⟩))))
  refine nT (nJ (nJ (qE (kU (sg (Wh y (Wh G (bS a fun _ Z a => VQ (AG (i := B) aS aO rfl rfl g (vG Z) (vw Z)) (fun e7 b7 => VO (Di (z := K9)  d g mG oQ aS cW b7 rfl rfl (fun e1 c2 d a9 => lr (Wh y ?_))))))))))))
  refine Wh G (bS a fun _ l a => VQ (EQ (i := B) aS aO rfl rfl a9 mG (vG l) (vw l)) (fun a5 b9 => Wa (lt ?_)))
  obtain rfl := sj a
  exact mD (v := a5) rfl rfl ⟨_, _, rfl, (d.mX (Kr Sn)), a5, c2, rfl, rfl, b9⟩
theorem Ja (a : kF) (r : Bool) (w : World) (hm : yS a = some r) :
  lE true Tryz.prog 112 [(.agg (kK a).toArray)] w (.bool r) := by
 refine cG 6 func112 rfl (fun b => sg (VE (lI b rfl (fun g j b => Wa (lr (VA b Mh (kK a) bX aO (bS hm fun k c hm => VE (Eg b call113 (zY a _ _  c) (fun i b => V (ol rfl) (Wa (lH ?_)))))))))))
 refine kU ?_
 exact lC (rQ hm b)
theorem Nh (c : Value) (k : List kF) (a : LO) (g : Value) (t : (kF × kF) → Option Int) (r : List kF) (w : World) {y : lQ} (u : oC y (a ++ []) w) (i : lA 52 kK 9 c k a) (j : TK Tryz.prog g y (fun (x : (kF × kF)) => [(.agg (kK x.1).toArray), (.agg (kK x.2).toArray)]) (fun (r : Int) => (.int .i64 r)) t) (hm : AL t k = some r) :
  mZ true Tryz.prog 114 [c, g] w (a ++ []) (fun v z W' => ∃ S, v = (.tuple #[]) ∧ z = (S ++ []) ∧ lA 52 kK 9 c r S) := Lt (P := Tryz.prog) (ρ := NL) Ru 9 bX aO kK mG oQ u.H u.S i j hm
theorem Fu (c : kF) (r : List Int) (w : World) (hm : xJ c = some r) :
  nA true Tryz.prog 119 [(.agg (kK c).toArray)] w 5 (mM .u8) 1 r := by
 refine wM 53 func119 rfl (fun d => sg (VE (lI d rfl (fun W2 b1 d => Wa (lS (VA d Mh (kK c) bX aO (bS hm fun r3 g3 hm => VE (Eg d call113 (zY c _ _  g3) (fun W5 d => V (ol rfl) (lH ?_))))))))))
 refine kU (CI hm rfl (fun g0 hm => ?_) (fun g0 hm => ?_))
 ·refine sg (Wa (ln ?_))
  replace d := d.kH (Db St)
  refine lC (lJ ?_)
  obtain rfl := sj hm
  exact mD (v := (.slice none 0 0)) rfl rfl ⟨_, [], rfl, d.oR (fun p m => by cases m) (by simp), lA.nil _ _ _⟩
 refine kg (V (mB (v := (.agg #[(.slice none 0 0)])) rp (mn zeroValue239 iQ (P3 _ iQ) kr)) (VE (lI d rfl (fun W8 g d => Wa (lr (Wm (Wf rI (VB d (Mt Mh) rfl rfl cA (bS hm fun r9 e2 hm => ?_)))))))))
 refine VE (eM d (Cb Pz (C0 Cn)) call181 (fun l _ => (sM g (.slice none 0 0) ([]) [] c.Kind _ _ l (lA.nil _ _ _) e2)) ?_)
 rintro _ k3 k5 j9 d g7 P h ⟨g4, f9, I, rfl, e4⟩
 obtain rfl := I.symm
 replace d := d.perm (Tb (Tr Tn))
 refine lr (Wm (Wf rJ (VA d (Mt (Ma Mh)) (kR c.Head) bI aR (bS hm fun N e3 hm => ?_))))
 refine VE (eM d (Cb Pz (Cr Qz Cn)) call182 (fun l _ => (wi g g4 r9.2 f9 c.Head _ _ l e4 e3)) ?_)
 rintro _ k4 d1 k0 d g8 R h ⟨G, D, J, rfl, i⟩
 obtain rfl := J.symm
 replace d := d.perm (Tb (Tr Tn))
 refine ln (kZ (CJ hm (fun a3 E W => ∃ B H K Q, lu d1 K ∧ ST true lU w W K ((g, Ob #[B] 239) :: (H ++ Q)) ∧ E 3 = (.pointer (some ⟨g, 0, none⟩)) ∧ lA 5 (mM .u8) 1 B a3 H) (fun a3 a => ?_) ?_))
 ·refine sg (Wf rI (VB d (Mt (Ma Mh)) rfl rfl cA (ln (bg (Wi rfl (Wa (ln (CI a rfl (fun b0 a => ?_) (fun b0 a => ?_)))))))))
  ·refine kW (Wm (Wf xH (VB d (Mt (Ma Mh)) rfl rfl bW (bS a fun i3 b6 a => ?_))))
   refine VE (eM d (Cb Pz (Cr Qz Cn)) call183 (fun l _ => (zA g G N.2 D c.ma _ _ l i b6)) ?_)
   rintro _ i8 f5 g9 d T q h ⟨e9, d3, k, rfl, c5⟩
   obtain rfl := k.symm
   replace d := d.perm (Tb (Tr Tn))
   refine lH (lL (kU ?_))
   obtain rfl := sj a
   exact ⟨e9, d3, f5, _, T, (d.kH (Kb (Kr (Db St)))), rfl, c5⟩
  refine sg (Wi rfl (Wa (ln (CI a rfl (fun b2 a => ?_) (fun b2 a => ?_)))))
  ·refine kW (Wm (Wf oP (VA d (Mt (Ma Mh)) (kR c.B) bI aR (bS a fun i4 b9 a => ?_))))
   refine VE (eM d (Cb Pz (Cr Qz Cn)) call182 (fun l _ => (wi g G N.2 D c.B _ _ l i b9)) ?_)
   rintro _ i9 f6 h0 d U s h ⟨f0, d4, t, rfl, c6⟩
   obtain rfl := t.symm
   replace d := d.perm (Tb (Tr Tn))
   refine lH (lL (kU ?_))
   obtain rfl := sj a
   exact ⟨f0, d4, f6, _, U, (d.kH (Kb (Kr (Db St)))), rfl, c6⟩
  refine sg (Wi rfl (Wa (ln (CI a rfl (fun b3 a => ?_) (fun b3 a => ?_)))))
  ·refine sg (Wm (Wf oP (VA d (Mt (Ma Mh)) (kR c.B) bI aR (bS a fun e6 c0 a => ?_))))
   refine VE (eM d (Cb Pz (Cr Qz Cn)) call182 (fun l _ => (wi g G N.2 D c.B _ _ l i c0)) ?_)
   rintro _ j0 j7 h1 d Y A h ⟨f1, d5, u, rfl, c7⟩
   obtain rfl := u.symm
   replace d := d.perm (Tb (Tr Tn))
   refine ln (kW (Wm (Wf vA (VB d (Mt (Ma Mh)) rfl rfl bW (bS a fun i5 c1 a => ?_)))))
   refine VE (eM d (Cb Pz (Cr Qz Cn)) call183 (fun l _ => (zA g f1 e6.2 d5 c.mc _ _ l c7 c1)) ?_)
   rintro _ j3 f7 h2 d Z F h ⟨f2, d6, x, rfl, c8⟩
   obtain rfl := x.symm
   replace d := d.perm (Tb (Tr Tn))
   refine lH (lL (kU ?_))
   obtain rfl := sj a
   exact ⟨f2, d6, f7, _, (Y.trans Z), (d.kH (Kb (Kr (Db St)))), rfl, c8⟩
  refine sg (Wi rfl (Wa (ln (CI a rfl (fun b4 a => ?_) (fun b4 a => ?_)))))
  ·refine sg (Wm (Wf oP (VA d (Mt (Ma Mh)) (kR c.B) bI aR (bS a fun e7 c2 a => ?_))))
   refine VE (eM d (Cb Pz (Cr Qz Cn)) call182 (fun l _ => (wi g G N.2 D c.B _ _ l i c2)) ?_)
   rintro _ j4 j8 h3 d a1 L h ⟨f3, d7, y, rfl, c9⟩
   obtain rfl := y.symm
   replace d := d.perm (Tb (Tr Tn))
   refine ln (kW (Wm (Wf tD (VA d (Mt (Ma Mh)) (kR c.C) bI aR (bS a fun i6 c3 a => ?_)))))
   refine VE (eM d (Cb Pz (Cr Qz Cn)) call182 (fun l _ => (wi g f3 e7.2 d7 c.C _ _ l c9 c3)) ?_)
   rintro _ j5 f8 h4 d a2 O h ⟨f4, d8, z, rfl, d0⟩
   obtain rfl := z.symm
   replace d := d.perm (Tb (Tr Tn))
   refine lH (lL (kU ?_))
   obtain rfl := sj a
   exact ⟨f4, d8, f8, _, (a1.trans a2), (d.kH (Kb (Kr (Db St)))), rfl, d0⟩
  refine mr (lL (kU ?_))
  obtain rfl := sj a
  exact ⟨G, D, d1, _, (lu.refl _), (d.kH (Kb (Kr (Db St)))), rfl, i⟩
 rintro e5 E W ⟨B, H, K, Q, g1, d, d9, c4⟩ j
 refine sg (Wh d9 (bS j fun i2 b5 j => VE (vh d call184 (BW g B e5 _ _ (c4.sl (fun _ => rfl) (fun b o m => d.at_ (Mt (Ml m)))) (At.of (d.at_ Mh) _ rfl) b5) (fun h5 e8 j6 d2 d g2 n M => Wa (ln ?_)))))
 replace d := d.kH (Kr (Db (Dr St)))
 refine lC ?_
 obtain rfl := sj j
 exact mD (v := e8) rfl rfl ⟨_, d2, rfl, d.oR (fun p m => (Ml m)) M.nd, M⟩
theorem H8 (g i : kF) (r : Int) (w : World) (hm : uI g i = some r) :
  lE true Tryz.prog 115 [(.agg (kK g).toArray), (.agg (kK i).toArray)] w (.int .i64 r) := by
 refine cG 10 func115 rfl (fun d => sg (VE (lI d rfl (fun T Y d => VE (lI d rfl (fun U Z d => Wa (ln (kZ ?_))))))))
 replace d := d.drew
 have h := d.has.kH (Kb (Kb Sn))
 refine mi h lN (XH 0 rfl h (fun _ l => kI rfl (kO l (Mt Mh) (kK g) rfl bX aO)) (XH 2 rfl h (fun _ l => kI rfl (kO l Mh (kK i) rfl bX aO)) (bS hm fun y t hm => XE 1 rfl (vh d call119 (Fu g _ _  t) (fun I B N G d a n j => ?_)))))
 have h := d.has.pZ a (Dr (Kb (Kb Sn)))
 refine ⟨h, (bS hm fun z u hm => XE 3 rfl (vh d call119 (Fu i _ _  u) (fun J D Q H d c p k => ?_)))⟩
 have h := d.has.pZ (a.trans c) (Dr (Dr (Kb (Kb Sn))))
 refine ⟨h, (bS hm fun M x hm => XE 4 rfl (Eg d call178 (Cu B y D z _ _ (j.sl (fun _ => rfl) (fun b o m => d.at_ (Ma (Ml m)))) (k.sl (fun _ => rfl) (fun b o m => d.at_ (Ml m))) x) (fun K d => ?_)))⟩
 have h := d.has.pZ (a.trans c) (Dr (Dr (Kb (Kb Sn))))
 refine ⟨h, (X 5 rfl h (od rfl) (mu kr (kU ?_)))⟩
 exact lC (rQ hm d)
theorem DG (j : Value) (a0 : List kF) (x : LO) (r : List kF) (w : World) {μ0 : lQ} (h0 : oC μ0 (x ++ []) w) (B : lA 52 kK 9 j a0 x) (hm : tR a0 = some r) :
  mZ true Tryz.prog 116 [j] w (x ++ []) (fun v L1 W' => ∃ y1 S2, v = y1 ∧ L1 = (S2 ++ []) ∧ lA 52 kK 9 y1 r S2) := by
 refine BT h0 61 func116 rfl (fun b => sg (Wa (lS (Wm (V (oq aS rfl B) (Wi rfl (ln (CI hm rfl (fun g0 hm => ?_) (fun g0 hm => ?_)))))))))
 ·refine sg (Wm (Wa (lt (lJ ?_))))
  obtain rfl := sj hm
  exact mD (v := j) rfl rfl ⟨_, _, rfl, (b.mX (Kr Sn)), j, x, rfl, rfl, B⟩
 refine kS (Wa (ln (mK (nZ (fun m E W => ∃ t R, ST true (keys (x ++ [])) w W μ0 (x ++ R) ∧ E 0 = j ∧ E 3 = (.int .i64 t) ∧ pq a0 m t = some r) lF ⟨1, _, (b.kH St), rfl, rfl, hm⟩ ?_))))
 rintro m E W ⟨t, R, b, D, H, a⟩
 cases m with
 | zero => rw [pq] at a; cases a
 | succ f5 =>
  refine kZ (sg (Wh H (Wh D (V (oq aS rfl B) (Wi rfl (ln (CI a rfl (fun d0 a => ?_) (fun d0 a => ?_))))))))
  ·refine kn (kZ (mK (kZ ?_)))
   replace b := b.drew
   have d := b.has.kH (Kr Sn)
   refine mi d lN (X 0 rfl d (kT D) (X 1 rfl d (kT H) (bS a fun c3 Z a => XQ 2 rfl d (pg (i := t) (x0 := c3) aS aO rfl rfl B (lM Z) (lK Z)) (fun g7 d6 => XH 3 rfl d (fun _ l => kI rfl (uc l (fun p h => (Ml h)) B mG d6 (lK Z) bX aO)) (X 4 rfl d (kT D) (X 5 rfl d (kT H) (X 6 rfl d (lR rfl rfl rfl) (bS a fun c4 n a => XQ 7 rfl d (pg (i := (IntKind.i64.wrap (t - 1))) (x0 := c4) aS aO rfl rfl B (lM n) (lK n)) (fun g8 d7 => XH 8 rfl d (fun _ l => kI rfl (uc l (fun p h => (Ml h)) B mG d7 (lK n) bX aO)) (X 9 rfl d (uY rfl rfl (nW fK) (ra (vN _ c3 c4))) (mu kr (kU ?_))))))))))))
   refine CI a rfl (fun d1 a => ?_) (fun d1 a => ?_)
   ·refine sg (Wh D (Wh H (bS a fun _ F a => VQ (AG (i := t) aS aO rfl rfl B (vG F) (vw F)) (fun c1 M => Wa (lS (Wa (ln ?_)))))))
    refine CJ a (fun U E W => ∃ q b5, ST true (keys (x ++ [])) w W μ0 (q ++ b5) ∧ E 0 = j ∧ E 3 = (.int .i64 U.2) ∧ lA 52 kK 9 j U.1 q) (fun U d4 => ?_) ?_
    ·refine mK (nZ (fun m E W => ∃ s K Y y b6, ST true (keys (x ++ [])) w W μ0 (K ++ b6) ∧ E 0 = j ∧ E 3 = (.int .i64 Y) ∧ E 4 = c1 ∧ E 5 = (.int .i64 y) ∧ lA 52 kK 9 j s K ∧ pn t m s Y y = some U) lF ⟨a0, x, t, 1, _, (b.kH St), D, H, rfl, rfl, B, d4⟩ ?_)
     rintro m E W ⟨s, K, Y, y, b6, b, Q, T, I, J, g, k⟩
     cases m with
     | zero => rw [pn] at k; cases k
     | succ f6 =>
      refine kZ (sg (Wh J (Wh I (V (IL aS rfl M g) (Wi rfl (ln (CI k rfl (fun d2 k => ?_) (fun d2 k => ?_))))))))
      ·refine kn (kZ (CJ k (fun A E W => ∃ N b7, ST true (keys (x ++ [])) w W μ0 (N ++ b7) ∧ E 0 = j ∧ E 3 = (.int .i64 A.2) ∧ E 4 = c1 ∧ E 5 = (.int .i64 y) ∧ lA 52 kK 9 j A.1 N) (fun A c => ?_) ?_))
       ·refine mK (kZ ?_)
        replace b := b.drew
        have d := b.has.kH (Kr Sn)
        refine mi d lN (X 0 rfl d (kT I) (X 1 rfl d (kT J) (bS c fun c6 a2 c => XQ 2 rfl d (AP (i := y) (x0 := c6) aS aO rfl rfl g M (lM a2) (lK a2)) (fun g9 d8 => XH 3 rfl d (fun _ l => kI rfl (uc l (fun p h => (Ml h)) g mG d8 (Cc (lK a2)) bX aO)) (X 4 rfl d (kT I) (X 5 rfl d (kT J) (X 6 rfl d (lR rfl rfl rfl) (bS c fun c7 a3 c => XQ 7 rfl d (AP (i := (IntKind.i64.wrap (y - 1))) (x0 := c7) aS aO rfl rfl g M (lM a3) (lK a3)) (fun h1 d9 => XH 8 rfl d (fun _ l => kI rfl (uc l (fun p h => (Ml h)) g mG d9 (Cc (lK a3)) bX aO)) (X 9 rfl d (Ed rfl rfl (nW fK) (Al (vN _ c6 c7))) (mu kr (kU ?_))))))))))))
        refine CI c rfl (fun d3 c => ?_) (fun d3 c => ?_)
        ·refine sg (Wh Q (Wh T (Wh I (Wh J (bS c fun a9 a4 c => VQ (AP (i := y) (x0 := a9) aS aO rfl rfl g M (lM a4) (lK a4)) (fun h2 e0 => V (kI rfl (uc b.has (fun p h => (Ml h)) g mG e0 (Cc (lK a4)) bX aO)) (bS c fun f8 a5 c => VQ (pg (i := Y) (x0 := f8) aS aO rfl rfl g (lM a5) (lK a5)) (fun h3 e1 => VO (DI (u := (.agg (kK a9).toArray)) (x1 := a9)  b g mG oQ rfl rfl rfl e1 (lK a5) aO (fun g3 e8 b c9 => ln (kW ?_)))))))))))
         refine Wh T (Wi rfl (Wa (lH (lL (kU ?_)))))
         obtain rfl := sj c
         exact ⟨e8, _, (b.kH St), Q, rfl, I, J, c9⟩
        refine mr (lL (kU ?_))
        obtain rfl := sj c
        exact ⟨K, _, (b.kH St), Q, T, I, J, g⟩
       rintro ⟨f4, f7⟩ E W ⟨N, b7, b, f0, f1, f2, f3, e4⟩ d5
       exact kW (Wh f3 (Wi rfl (Wa (ln ⟨f6, bF _, f4, N, f7, (IntKind.i64.wrap (y + 1)), _, (b.kH St), f0, f1, f2, rfl, e4, d5⟩))))
      refine nT (nJ (nJ (qE (kU ?_))))
      obtain rfl := sj k
      exact ⟨K, _, (b.kH St), Q, T, g⟩
    rintro ⟨g4, c5⟩ E W ⟨q, b5, b, b9, c0, P⟩ G
    refine sg (Wh b9 (Wh c0 (bS G fun _ L G => VQ (AG (i := c5) aS aO rfl rfl P (vG L) (vw L)) (fun h4 e2 => VO (Di (z := K9)  b P mG oQ aS cW e2 rfl rfl (fun g2 e7 b c8 => lr (Wh b9 (Wh c0 (bS G fun _ O G => VQ (EQ (i := c5) aS aO rfl rfl c8 mG (vG O) (vw O)) (fun c2 e3 => ?_))))))))))
    refine Wa (lt (nC (lJ (lJ (nC (lJ ?_))))))
    obtain rfl := sj G
    exact mD (v := c2) rfl rfl ⟨_, _, rfl, (b.mX (Kr Sn)), c2, e7, rfl, rfl, e3⟩
   exact mr (lL (kU (kW (Wh H (Wi rfl (Wa (ln ⟨f5, bF _, (IntKind.i64.wrap (t + 1)), _, (b.kH St), D, rfl, a⟩)))))))
  refine nT (nJ (nJ (qE (kU (sg (Wh D (Wa (lt ?_))))))))
  obtain rfl := sj a
  exact mD (v := j) rfl rfl ⟨_, _, rfl, (b.mX (Kr Sn)), j, x, rfl, rfl, B⟩
theorem MN (i : Value) (t r : List kF) (w : World) (B : Sl (Pl kK) 9 (hp w) i t) (hm : zM t = some r) :
  nA false Tryz.prog 52 [i] w 52 kK 9 r := by
 refine wM 11 func52 rfl (fun b => sg (Wa (lr (Wm (bS hm fun y T hm => VE (vh b call61 (nA.mR (Ey i t _ _ (B.mono (Pl.mono _) b.kM) T)) (fun W3 v7 z R8 b a5 q Q => bS hm fun U D hm => ?_)))))))
 refine VE (eM b (Cr Qz Cn) call111 (fun h _ => (Ce v7 y R8 (.func (.func 112) #[] #[]) (fun (x : kF) => yS x) _ _ h Q ⟨112, #[], #[], rfl, call112, fun W x r u hm => (Ja x r W  hm).mR⟩ D)) ?_)
 rintro _ O b9 E b A l d ⟨k, K, a, rfl, I⟩
 obtain rfl := a.symm
 replace b := b.perm (Tr Tn)
 refine Wa (lr (Wm (bS hm fun Y G hm => ?_)))
 refine VE (eM b (Cr Qz Cn) call114 (fun h _ => mZ.mR (Nh k U K (.func (.func 115) #[] #[]) (fun (x : (kF × kF)) => uI x.1 x.2) _ _ h I ⟨115, #[], rfl, call115, fun W x r u hm => H8 x.1 x.2 r W  hm⟩ G)) ?_)
 rintro _ P c0 a9 b a2 m d ⟨M, c, rfl, J⟩
 obtain rfl := c.symm
 replace b := b.perm (Tr Tn)
 refine lr (Wm (bS hm fun L H hm => ?_))
 refine VE (eM b (Cr Qz Cn) call116 (fun h _ => mZ.mR (DG k Y M _ _ h J H)) ?_)
 rintro _ R c1 F b a3 n d ⟨Z, N, g, rfl, j⟩
 obtain rfl := g.symm
 replace b := b.perm (Tr Tn)
 refine Wa (lt ?_)
 obtain rfl := sj hm
 exact mD (v := Z) rfl rfl ⟨_, N, rfl, b.oR (fun p s => (Ml s)) j.nd, j⟩
theorem EP (k : lW) (H K c1 : Value) (L : List kF) (a2 : ByteArray) (r : List kF) (w : World) (g : Sl kY 15 (hp w) H k.kQ) (J : Sl lO 8 (hp w) K k.li) (h5 : Sl (Pl kK) 9 (hp w) c1 L) (hm : tI k L a2 = some r) :
  nA false Tryz.prog 13 [(.agg #[(.string k.Name), H, K]), c1, (.string a2)] w 52 kK 9 r := by
 refine wM 47 func13 rfl (fun d => sg ?_)
 obtain ⟨A1, c2, rfl⟩ := g.form
 let c8 : Value := (.slice A1 k.kQ.length c2)
 obtain ⟨A3, c4, rfl⟩ := J.form
 let O := (C4 k.Name A1 k.kQ.length c2 A3 k.li.length c4)
 refine VE (lI d rfl (fun W6 A d => Wa (lr (Wm (Wm (bS hm fun B i5 hm => ?_))))))
 refine VE (F7 d (aY _) call51 (fun _ _ _ _ => (Kx c1 L a2 _ _ (h5.mono (Pl.mono _) d.kM) i5)) (fun W9 l1 g4 l0 d a5 af ae h4 => ?_) (L0 := []))
 obtain ⟨N, q, e0, f9, e1, g0, e2, g1, e3, g2, e4, g3, Q, c0, rfl, h6, h7, h8, h9, i0⟩ := h4
 replace c0 := c0.symm; subst c0
 replace d := d.perm (Tb (Tb (Tb (Tr (Tr (Tr (Tr (Tr Tn))))))))
 refine Wa (lr (Wa (lS (Wf oU (VB d (Mt (Mt (Mt (Ma (Ma (Ma (Ma (Ma Mh)))))))) rfl rfl eX (V (ml bK rfl g) (Wm ?_)))))))
 refine ln (mf (fun i E W => ∃ D I G s P, (E 19 = .int .i64 (i : Nat) ∧ E 18 = .int .i64 (k.kQ.length : Nat)) ∧ lu g4 s ∧ ST false lU w W s ((N, Ob #[(.pointer (some ⟨q, 0, none⟩))] 132) :: ((q, Ob #[e0, e1, e2, e3, e4, (.int .i64 B.2.2.2.2.2.1)] 189) :: ((Q, Ob #[(.string B.2.2.2.2.2.2)] 9) :: ((A, Ol O 25) :: (G ++ (f9 ++ (g0 ++ (g1 ++ (g2 ++ (g3 ++ P)))))))))) ∧ E 3 = (.pointer (some ⟨A, 0, none⟩)) ∧ E 7 = (.func (.func 110) #[] #[(.pointer (some ⟨N, 0, none⟩)), (.pointer (some ⟨Q, 0, none⟩))]) ∧ E 8 = D ∧ E 17 = c8 ∧ lA 52 kK 9 D I G ∧ se k B (k.kQ.drop i) I = some r) k.kQ.length g.len ⟨(.slice none 0 0), ([]), [], g4, _, ⟨rfl, rfl⟩, (lu.refl _), (d.kH (Kb (Kb (Kb (Sb (Pr (Pr (Pr (Pr (Pr Pz))))) St))))), rfl, rfl, rfl, rfl, (lA.nil _ _ _), hm⟩ dc dc dc (fun _ _ _ h => by obtain ⟨_, _, _, _, _, aa, _⟩ := h; exact aa) ?_ ?_)
 ·let b6 : Value := (.func (.func 110) #[] #[(.pointer (some ⟨N, 0, none⟩)), (.pointer (some ⟨Q, 0, none⟩))])
  rintro d8 E W f0 ⟨D, I, G, s, P, ⟨F, eN⟩, u, d, Y, Z, a3, a4, M, j⟩
  obtain ⟨a, i6, f8, f7, c6⟩ := lT f0
  rw [f8] at j
  refine bg (VQ (mU (i := (d8 : Int)) (x0 := a) kY.out bK cR a4 F (g.mono kX.mono (a5.trans u)) (aH _) f7) (fun k1 ⟨_, ⟨k4, k5, rfl, f5, f6⟩, f1⟩ => V (kI rfl (lB d.has f1 iX cR)) (VE (lG d eG (fun i9 d0 d => ?_)))))
  obtain ⟨b2, b7, rfl⟩ := f5.form
  obtain ⟨b3, b9, rfl⟩ := f6.form
  let a0 := (C3 a.Signed.kF.Kind a.Signed.kF.Head.kE a.Signed.kF.Head.kL a.Signed.kF.ma a.Signed.kF.B.kE a.Signed.kF.B.kL a.Signed.kF.C.kE a.Signed.kF.C.kL a.Signed.kF.mc b2 a.Signed.Tag.length b7 a.kJ.Op a.kJ.K a.kJ.kD.kE a.kJ.kD.kL b3 a.kJ.Kids.length b9)
  refine VO (lh (.agg a0.toArray) (a0.toArray) d rfl rfl cR oc nb rfl (fun j0 d => lr (V (kI Y (kO d.has (Mt (Mt (Mt (Mt Mh)))) O rfl eC dC)) (Wf wP (Wf yB (VA d Mh (kK a.Signed.kF) bX aO (bS j fun c f2 j => ?_)))))))
  let e5 : Value := (.string (((c.1).kD).kL))
  let d1 : Value := (.string (((c.1).kD).kE))
  refine VE (eD d (aY _) call23 (fun hh => (M7 k c8 (.slice A3 k.li.length c4) a.Signed.kF _ _ hh (g.mono kX.mono (a5.trans u)) (J.mono me.mono (a5.trans u)) f2)) ?_ (L0 := []))
  rintro _ k6 c3 i8 d a9 ab ⟨k8, a6, rfl, c7⟩
  obtain rfl := a6.symm
  refine Wm (Wx rfl (Wx rfl (VE (lG d aP (fun j4 k0 d => ?_)))))
  obtain ⟨T, U, rfl⟩ := c7.form
  let b8 : Value := (.slice T ((c.1).Kids).length U)
  refine VO (lh (.agg #[(.int .i64 ((c.1).Op)), (.int .i64 ((c.1).K)), d1, e5, b8]) (#[(.int .i64 ((c.1).Op)), (.int .i64 ((c.1).K)), d1, e5, b8]) d rfl rfl aC oc nb rfl (fun j5 d => Wa (lr (Wm (Wi rfl (Wm (LJ j (fun d9 E W => ∃ c9, ST false lU w W c3 ((d0, Ol a0 60) :: ((N, Ob #[(.pointer (some ⟨q, 0, none⟩))] 132) :: ((q, Ob #[e0, e1, e2, e3, e4, (.int .i64 B.2.2.2.2.2.1)] 189) :: ((Q, Ob #[(.string B.2.2.2.2.2.2)] 9) :: ((A, Ol O 25) :: (G ++ (f9 ++ (g0 ++ (g1 ++ (g2 ++ (g3 ++ c9))))))))))) ∧ E 3 = (.pointer (some ⟨A, 0, none⟩)) ∧ E 7 = b6 ∧ E 8 = D ∧ E 10 = (.pointer (some ⟨d0, 0, none⟩)) ∧ E 17 = c8 ∧ E 18 = (.int .i64 (k.kQ.length : Int)) ∧ E 19 = (.int .i64 (d8 : Int)) ∧ E 37 = (.bool d9)) 4 ?_ (fun d9 z b0 => ?_))))))))
  ·rintro k7 E W ⟨c9, d, d2, d3, d4, h2, d5, d6, d7, h3⟩ y
   refine ln (CI y h3 (fun e8 y => ?_) (fun e8 y => ?_))
   ·refine kW (Wh d4 (V (kP wP h2) (Wf yB (VA d Mh (kK a.Signed.kF) bX aO (VE (lD (cs := (kK a.Signed.kF).toArray) d (ni rfl) (nj aS aO cW) (fun j6 h1 d => ?_)))))))
    replace d := d.perm (Nr (Qb (Qb (Qb (Qb (Qb (Qb Qz)))))) Nz)
    refine bS y fun i1 e9 y => VE (oG (enc := kK) (v := D) (vs := (.slice (some ⟨h1, 0, none⟩) 1 1)) (R := G) d mG dc oQ aS pc.1 pc.2.1 rfl pc.2.2.1 pc.2.2.2 rfl rfl M (Sl.lit (enc := kK) (l := [a.Signed.kF]) mG rfl nb rfl (d.at_ (Ma Mh))) e9 (fun j7 i2 g7 d e7 => Wa (lH (lL (kU ?_)))))
    replace d := d.kH (Kr (Db (Db St)))
    exact ⟨d7, i2, i1, g7, c3, _, ⟨rfl, d6⟩, (u.trans a9), (d.kH (Sb (Pr Pz) (Sb (Pr Pz) (Sb (Pr Pz) (Sb (Pr Pz) St))))), d2, d3, rfl, d5, e7, (by rw [c6]; exact y)⟩
   refine mr (lL (kU ?_))
   replace d := d.kH (Db St)
   exact ⟨d7, D, I, G, c3, _, ⟨rfl, d6⟩, (u.trans a9), (d.kH St), d2, d3, d4, d5, M, (by rw [c6]; exact y)⟩
  refine bC z (fun t z => ?_) (fun t z => ?_)
  ·refine ug t (kI rfl (kO d.has Mh [(.int .i64 ((c.1).Op)), (.int .i64 ((c.1).K)), d1, e5, b8] rfl aK aC)) (ug t (kT Z) (bS z fun k2 f3 z => tm t (Eg d call24 (Dn c.1 b8 b6 (fun (x : kD) => qV x B.1 B.2.1 B.2.2.1 B.2.2.2.1 B.2.2.2.2.1 B.2.2.2.2.2.1 B.2.2.2.2.2.2) _ _ (c7.mono kN.mono d.kM) ⟨110, #[], #[(.pointer (some ⟨N, 0, none⟩)), (.pointer (some ⟨Q, 0, none⟩))], rfl, call110, fun W x r n hm => (Hv x N q e0 B.1 e1 B.2.1 e2 B.2.2.1 e3 B.2.2.2.1 e4 B.2.2.2.2.1 B.2.2.2.2.2.1 Q B.2.2.2.2.2.2 r W (h6.at (fun b o m => n _ _ ((fun b o m => d.at_ (Mt (Mt (Mt (Mt (Mt (Mt (Ma (Ml m))))))))) b o m))) (h7.sl mG (fun b o m => n _ _ ((fun b o m => d.at_ (Mt (Mt (Mt (Mt (Mt (Mt (Ma (Ma (Ml m)))))))))) b o m))) (h8.at (fun b o m => n _ _ ((fun b o m => d.at_ (Mt (Mt (Mt (Mt (Mt (Mt (Ma (Ma (Ma (Ml m))))))))))) b o m))) (h9.at (fun b o m => n _ _ ((fun b o m => d.at_ (Mt (Mt (Mt (Mt (Mt (Mt (Ma (Ma (Ma (Ma (Ml m)))))))))))) b o m))) ((i0.Eo qY).mono (Pl.mono _) (nn (fun b o m => n _ _ ((fun b o m => d.at_ (Mt (Mt (Mt (Mt (Mt (Mt (Ma (Ma (Ma (Ma (Ma (Ml m))))))))))))) b o m)))) (At.of (n _ _ (d.at_ (Mt (Mt (Mt Mh))))) _ rfl) (At.of (n _ _ (d.at_ (Mt (Mt Mh)))) _ rfl) (At.of (n _ _ (d.at_ (Mt (Mt (Mt (Mt Mh)))))) _ rfl) hm).mR⟩ f3) (fun j8 d => V (lj (cB t) rfl) ?_))))
   obtain rfl := sj z
   exact b0 _ _ ⟨_, (d.kH (Db St)), Y, Z, a3, rfl, a4, eN, F, rfl⟩
  refine un t (un t (un t (V (ll (cB t) rfl) ?_)))
  obtain rfl := sj z
  exact b0 _ _ ⟨_, (d.kH (Db St)), Y, Z, a3, rfl, a4, eN, F, rfl⟩
 rintro E W ⟨D, I, G, s, P, ⟨F, eN⟩, u, d, Y, Z, a3, a4, M, j⟩
 rw [aI] at j
 refine kU ?_
 replace d := d.kH (Db (Db (Db (Db (Kr (Dr (Dr (Dr (Dr (Dr St))))))))))
 refine sg (Wh a3 (bS j fun k3 f4 j => VE (vh d call52 (MN D I _ _ (M.sl mG (fun b o m => d.at_ (Ml m))) f4) (fun j9 i3 k9 g8 d i4 ad c5 => Wa (ln ?_)))))
 replace d := d.kH (Kr (Dr St))
 refine lC ?_
 obtain rfl := sj j
 exact mD (v := i3) rfl rfl ⟨_, g8, rfl, d.oR (fun p m => (Ml m)) c5.nd, c5⟩
theorem Gc (g : lW) (D K : Value) (i : lW) (G M : Value) (r : ((List kF) × (List kF) × Int)) (w : World) (x : Sl kY 15 (hp w) D g.kQ) (I : Sl lO 8 (hp w) K g.li) (y : Sl kY 15 (hp w) G i.kQ) (J : Sl lO 8 (hp w) M i.li) (hm : wY g i = some r) :
  mZ false Tryz.prog 11 [(.agg #[(.string g.Name), D, K]), (.agg #[(.string i.Name), G, M])] w [] (fun v L1 W' => ∃ y1 S2 y4 S5, v = (.tuple #[y1, y4, (.int .i64 (r.2.2))]) ∧ L1 = (S2 ++ (S5 ++ [])) ∧ lA 52 kK 9 y1 r.1 S2 ∧ lA 52 kK 9 y4 r.2.1 S5) := by
 refine wM 41 func11 rfl (fun d => sg ?_)
 obtain ⟨A1, c2, rfl⟩ := x.form
 obtain ⟨A3, c4, rfl⟩ := I.form
 let q := (C4 g.Name A1 g.kQ.length c2 A3 g.li.length c4)
 refine VE (lI d rfl (fun W6 p d => ?_))
 obtain ⟨A7, c8, rfl⟩ := y.form
 obtain ⟨A9, L, rfl⟩ := J.form
 let a0 := (C4 i.Name A7 i.kQ.length c8 A9 i.li.length L)
 refine VE (lI d rfl (fun f8 n d => Wa (Wa (Wa (lr (Wa (Wa (lr (Wa ?_)))))))))
 refine ln (qw (mK (nZ (fun m E W => ∃ t a4 N u a5 Q H a9 b9, lu (hp w) a9 ∧ ST false lU w W a9 ((n, Ol a0 25) :: ((p, Ol q 25) :: (Q ++ (N ++ b9)))) ∧ E 2 = (.pointer (some ⟨p, 0, none⟩)) ∧ E 3 = (.pointer (some ⟨n, 0, none⟩)) ∧ E 7 = t ∧ E 8 = u ∧ E 9 = (.int .i64 H) ∧ lA 52 kK 9 t a4 N ∧ lA 52 kK 9 u a5 Q ∧ qv g i m a4 a5 H = some r) lF ⟨(.slice none 0 0), ([]), [], (.slice none 0 0), ([]), [], 0, (hp w), _, (lu.refl _), (d.kH St), rfl, rfl, rfl, rfl, rfl, (lA.nil _ _ _), (lA.nil _ _ _), hm⟩ ?_)))
 rintro m E W ⟨t, a4, N, u, a5, Q, H, a9, b9, j, d, T, U, Y, Z, c9, a2, a3, c⟩
 cases m with
 | zero => rw [qv] at c; cases c
 | succ e6 =>
  refine kZ (mK (kZ ?_))
  replace d := d.drew
  have h := d.has.kH (Kb (Kb Sn))
  refine mi h lN (XH 0 rfl h (fun _ l => kI T (kO l (Mt Mh) q rfl eC dC)) (X 1 rfl h (kT Z) (X 2 rfl h (kP zN U) (XH 3 rfl h (fun _ l => kI rfl (lg l Mh rfl bW)) (XH 5 rfl h (fun _ l => kI U (kO l Mh a0 rfl eC dC)) (X 6 rfl h (kT Y) (X 7 rfl h (kP zN T) (XH 8 rfl h (fun _ l => kI rfl (lg l (Mt Mh) rfl bW)) (bS c fun e7 d7 c => XE 4 rfl (vh d call13 (EP g (.slice A1 g.kQ.length c2) (.slice A3 g.li.length c4) u a5 i.Name _ _ (x.mono kX.mono (j.trans d.kM)) (I.mono me.mono (j.trans d.kM)) (a3.sl mG (fun b o F => d.at_ (Mt (Mt (Ml F))))) d7) (fun f4 d2 f7 c1 d k s R => ?_)))))))))))
  have h := d.has.pZ k (Dr (Kb (Kb Sn)))
  refine ⟨h, (bS c fun e8 d8 c => XE 9 rfl (vh d call13 (EP i (.slice A7 i.kQ.length c8) (.slice A9 i.li.length L) t a4 g.Name _ _ (y.mono kX.mono ((j.trans k).trans d.kM)) (J.mono me.mono ((j.trans k).trans d.kM)) (a2.sl mG (fun b o F => d.at_ (Ma (Mt (Mt (Ma (Ml F))))))) d8) (fun f5 d3 d4 c3 d O A b2 => ?_)))⟩
  have h := d.has.pZ (k.trans O) (Dr (Dr (Kb (Kb Sn))))
  refine ⟨h, (X 10 rfl h (od rfl) (X 11 rfl h (od rfl) (mu kr (kU (kZ (sg (Wm (V (oq aS rfl R) (Wh Y (V (oq aS rfl a2) (Wi rfl (Wm (LJ c (fun d1 E W => ∃ c0, ST false lU w W d4 ((n, Ol a0 25) :: ((p, Ol q 25) :: (c3 ++ (c1 ++ (Q ++ (N ++ c0)))))) ∧ E 2 = (.pointer (some ⟨p, 0, none⟩)) ∧ E 3 = (.pointer (some ⟨n, 0, none⟩)) ∧ E 7 = t ∧ E 8 = u ∧ E 9 = (.int .i64 H) ∧ E 10 = d2 ∧ E 11 = d3 ∧ E 35 = (.bool d1)) 6 ?_ (fun d1 B P => ?_))))))))))))))⟩
  ·rintro f6 E W ⟨c0, d, d9, e0, e1, e2, d0, e3, e4, e5⟩ z
   refine ln (CI z e5 (fun d6 z => ?_) (fun d6 z => ?_))
   ·refine sg (Wh e1 (Wh e2 (Wh d0 (Wa (Wa (Wa (ln ?_)))))))
    replace d := d.kH (Db (Db (Dr (Dr St))))
    refine lC (lJ (nC (lJ (lJ (nC (lJ ?_))))))
    obtain rfl := sj z
    exact KM (v0 := t) (v1 := u) (v2 := (.int .i64 H)) rfl rfl rfl rfl ⟨_, _, rfl, (d.LR (Sr (Qr Qz) (Kr Sn))), t, N, u, Q, rfl, rfl, a2, a3⟩
   refine kn ?_
   replace d := d.kH (Kb (Kb (Kr (Kr (Dr (Dr St))))))
   exact kW (Wh e3 (Wh e4 (Wa (Wa (lH (lL (kU (kW (Wh d0 (Wi rfl (Wa (ln ⟨e6, bF _, d2, e7, c1, d3, e8, c3, (IntKind.i64.wrap (H + 1)), d4, _, ((j.trans k).trans O), (d.kH St), d9, e0, rfl, rfl, rfl, R, b2, z⟩))))))))))))
  refine bC B (fun a B => ?_) (fun a B => ?_)
  ·refine ug a (kT rfl) (ug a (oq aS rfl b2) (ug a (kT Z) (ug a (oq aS rfl a3) (ug a (lR rfl rfl rfl) (V (lj (cB a) rfl) ?_)))))
   obtain rfl := sj B
   exact P _ _ ⟨_, (d.kH (Sb (Pr (Pr Pz)) (Sb (Pr (Pr Pz)) St))), T, U, Y, Z, c9, rfl, rfl, rfl⟩
  refine un a (un a (un a (un a (un a (V (ll (cB a) rfl) ?_)))))
  obtain rfl := sj B
  exact P _ _ ⟨_, (d.kH (Sb (Pr (Pr Pz)) (Sb (Pr (Pr Pz)) St))), T, U, Y, Z, c9, rfl, rfl, rfl⟩
theorem Jp (k : lW) (j B : Value) (t : lW) (a c : Value) (r : ((List kF) × (List (kD × (List (ByteArray × Bool)))) × (List kF) × (List (kD × (List kF))) × (List (ByteArray × (List kF))) × (List lf) × Int × ByteArray)) (w : World) (g : Sl kY 15 (hp w) j k.kQ) (y : Sl lO 8 (hp w) B k.li) (i : Sl kY 15 (hp w) a t.kQ) (z : Sl lO 8 (hp w) c t.li) (hm : Bc k t = some r) :
  mZ false Tryz.prog 106 [(.agg #[(.string k.Name), j, B]), (.agg #[(.string t.Name), a, c])] w [] (fun v L1 W' => ∃ A S2 m l E S7 F M a2 N a3 Q a4 T Y, v = (.tuple #[A, (.func (.func 169) #[] #[(.pointer (some ⟨m, 0, none⟩)), (.pointer (some ⟨Y, 0, none⟩))])]) ∧ L1 = ((m, Ob #[(.pointer (some ⟨l, 0, none⟩))] 132) :: ((l, Ob #[E, F, a2, a3, a4, (.int .i64 (r.2.2.2.2.2.2.1))] 189) :: ((Y, Ob #[(.string (r.2.2.2.2.2.2.2)), a, c] 25) :: (S2 ++ (S7 ++ (M ++ (N ++ (Q ++ (T ++ []))))))))) ∧ lA 52 kK 9 A r.1 S2 ∧ nk (fun (x : kD) => (.agg (kR x).toArray)) (nh Value.string (fun (x : Bool) => (Value.bool x))) E r.2.1 S7 ∧ lA 52 kK 9 F r.2.2.1 M ∧ nk (fun (x : kD) => (.agg (kR x).toArray)) (lA 52 kK 9) a2 r.2.2.2.1 N ∧ nk Value.string (lA 52 kK 9) a3 r.2.2.2.2.1 Q ∧ rz 111 lV 3 a4 r.2.2.2.2.2.1 T) := by
 refine wM 21 func106 rfl (fun d => sg ?_)
 obtain ⟨A1, c2, rfl⟩ := g.form
 obtain ⟨A3, n, rfl⟩ := y.form
 refine VE (lI d rfl (fun W6 l d => ?_))
 obtain ⟨A7, p, rfl⟩ := i.form
 obtain ⟨A9, I, rfl⟩ := z.form
 refine VE (lI d rfl (fun f4 U d => Wa (Wa (lr (VA d (Mt Mh) (C4 k.Name A1 k.kQ.length c2 A3 k.li.length n) eC dC (VA d Mh (C4 t.Name A7 t.kQ.length p A9 t.li.length I) eC dC (bS hm fun d7 P hm => ?_)))))))
 refine VE (F7 d (aY _) call11 (fun _ _ _ _ => (Gc k (.slice A1 k.kQ.length c2) (.slice A3 k.li.length n) t (.slice A7 t.kQ.length p) (.slice A9 t.li.length I) _ _ (g.mono kX.mono d.kM) (y.mono me.mono d.kM) (i.mono kX.mono d.kM) (z.mono me.mono d.kM) P)) (fun f5 g0 g3 f1 d e6 q h L => ?_) (L0 := []))
 obtain ⟨g2, f3, K, c9, D, rfl, f0, J⟩ := L
 replace D := D.symm; subst D
 replace d := d.perm (Tr (Tr Tn))
 refine Wm (Wx rfl (Wx rfl (Wx rfl (Wa (Wa (Wa (ln ?_)))))))
 replace d := d.kH (Dr (Kr (Kb (Db St))))
 refine sg (Wm (bS hm fun f9 R hm => ?_))
 refine VE (F7 d (aY _) call62 (fun _ _ _ _ => (HI K d7.2.1 _ _ (J.sl mG (fun b o hq => d.at_ (Ml hq))) R)) (fun f6 g1 g4 f2 d e7 s h O => ?_) (L0 := []))
 obtain ⟨H, d9, d0, e0, d1, e1, d2, e2, d3, e3, d4, G, rfl, W, c1, c3, c5, c6⟩ := O
 replace G := G.symm; subst G
 replace d := d.perm (Tb (Tr (Tr (Tr (Tr (Tr Tn))))))
 refine VE (lG d zeroValue132 (fun f7 Z d => VO (lh (.pointer (some ⟨H, 0, none⟩)) (#[(.pointer (some ⟨H, 0, none⟩))]) d rfl rfl sizeOf132 oc nb rfl (fun f8 d => lr (Wm (V (xa (by exact yl rfl rfl) rfl) (Wa (Wa (lt ?_)))))))))
 obtain rfl := sj hm
 exact Ha (v := K) (u := (.func (.func 169) #[] #[(.pointer (some ⟨Z, 0, none⟩)), (.pointer (some ⟨U, 0, none⟩))])) rfl rfl rfl ⟨_, _, rfl, (d.LR (Kb (Kb (Sb (Pr (Pr (Pr (Pr (Pr (Pr Pz)))))) (Sr (Qr (Qr (Qr (Qr (Qr Qz))))) (Kr (Kr (Kr (Kr (Kr Sn)))))))))), K, c9, Z, H, d9, d0, e0, d1, e1, d2, e2, d3, e3, d4, U, rfl, rfl, J, W, c1, c3, c5, c6⟩
theorem Gt (Z : kD) (d I : Nat) (u : Value) (G : List (kD × (List (ByteArray × Bool)))) (a : Value) (k : List kF) (j : Value) (B : List (kD × (List kF))) (c : Value) (t : List (ByteArray × (List kF))) (i : Value) (z : List lf) (Q : Int) (a2 : Nat) (g : ByteArray) (D : Value) (J : List lm) (H : Value) (N : List nY) (r : Bool) (w : World) (Y : sL (fun (x : kD) => (.agg (kR x).toArray)) (nh Value.string (fun (x : Bool) => (Value.bool x))) (hp w) u G) (K : Sl (Pl kK) 9 (hp w) a k) (U : sL (fun (x : kD) => (.agg (kR x).toArray)) (lA 52 kK 9) (hp w) j B) (M : sL Value.string (lA 52 kK 9) (hp w) c t) (T : Sl (Pl lV) 3 (hp w) i z) (a3 : At (hp w) (.pointer (some ⟨I, 0, none⟩)) [u, a, j, c, i, (.int .i64 Q)]) (a4 : At (hp w) (.pointer (some ⟨d, 0, none⟩)) [(.pointer (some ⟨I, 0, none⟩))]) (l : Sl kY 15 (hp w) D J) (m : Sl lO 8 (hp w) H N) (a5 : At (hp w) (.pointer (some ⟨a2, 0, none⟩)) [(.string g), D, H]) (hm : wC Z G k B t z Q g J N = some r) :
  lE true Tryz.prog 169 [(.agg (kR Z).toArray), (.pointer (some ⟨d, 0, none⟩)), (.pointer (some ⟨a2, 0, none⟩))] w (.bool r) := by
 refine cG 10 func169 rfl (fun b => sg (VE (lI b rfl (fun W2 n b => Wa (lr (V (kI rfl (tX b.has (y := (.pointer (some ⟨I, 0, none⟩))) a4 isAgg132)) (VA b Mh (kR Z) bI aR (VQ (zt [(.string g)] zN rfl a5 rfl) (fun p h => V (kI rfl (tX b.has (y := (.string g)) h bW)) (bS hm fun q a9 hm => VE (Eg b call64 (B5 I u G a k j B c t i z Q Z g _ _ (Y.mono b.kM) (K.mono (Pl.mono _) b.kM) (U.mono b.kM) (M.mono b.kM) (T.mono (Pl.mono _) b.kM) (a3.mono b.kM) a9) (fun W8 b => ?_))))))))))))
 refine Wa (ln ?_)
 exact lC (rQ hm b)
theorem Hr (y : lW) (t D : Value) (c : lW) (u G : Value) (i : Formula) (H : Value) (r : Bool) (w : World) (k : Sl kY 15 (hp w) t y.kQ) (z : Sl lO 8 (hp w) D y.li) (g : Sl kY 15 (hp w) u c.kQ) (j : Sl lO 8 (hp w) G c.li) (B : Sl kG 5 (hp w) H i.Kids) (hm : vC y c i = some r) :
  lE false Tryz.prog 49 [(.agg #[(.string y.Name), t, D]), (.agg #[(.string c.Name), u, G]), (.agg #[(.int .i64 i.Op), (.int .i64 i.K), (.string i.kD.kE), (.string i.kD.kL), H])] w (.bool r) := by
 refine cG 18 func49 rfl (fun d => sg ?_)
 obtain ⟨A1, c2, rfl⟩ := k.form
 obtain ⟨A3, n, rfl⟩ := z.form
 refine VE (lI d rfl (fun W6 b5 d => ?_))
 obtain ⟨U, Z, rfl⟩ := g.form
 obtain ⟨Y, K, rfl⟩ := j.form
 refine VE (lI d rfl (fun d4 d8 d => ?_))
 obtain ⟨M, T, rfl⟩ := B.form
 refine VE (lI d rfl (fun d5 d9 d => Wa (lr (VA d (Mt (Mt Mh)) (C4 y.Name A1 y.kQ.length c2 A3 y.li.length n) eC dC (VA d (Mt Mh) (C4 c.Name U c.kQ.length Z Y c.li.length K) eC dC (bS hm fun a s hm => ?_))))))
 refine VE (F7 d (aY _) call106 (fun _ _ _ _ => (Jp y (.slice A1 y.kQ.length c2) (.slice A3 y.li.length n) c (.slice U c.kQ.length Z) (.slice Y c.li.length K) _ _ (k.mono kX.mono d.kM) (z.mono me.mono d.kM) (g.mono kX.mono d.kM) (j.mono me.mono d.kM) s)) (fun d6 e1 e3 c6 d I p m q => ?_) (L0 := []))
 obtain ⟨e2, c7, N, O, P, c9, R, d0, c0, d1, c1, d2, c3, d3, Q, J, rfl, c5, v, A, E, F, L⟩ := q
 replace J := J.symm; subst J
 replace d := d.perm (Tb (Tb (Tb (Tr (Tr (Tr (Tr (Tr (Tr Tn)))))))))
 refine Wm (Wx rfl (Wx rfl (Wa (Wa (ln ?_)))))
 replace d := d.kH (Kb (Kb (Kb (Dr (Kr (Kr (Kr (Kr (Kr (Kb (Db (Db St))))))))))))
 refine sg (VA d (Mt (Mt (Mt (Ma (Ma (Ma (Ma (Ma Mh)))))))) (C2 i.Op i.K i.kD.kE i.kD.kL M i.Kids.length T) aK aC (Wm (bS hm fun e0 a9 hm => VE (Eg d call24 (Dn i (.slice M i.Kids.length T) (.func (.func 169) #[] #[(.pointer (some ⟨N, 0, none⟩)), (.pointer (some ⟨Q, 0, none⟩))]) (fun (x : kD) => wC x a.2.1 a.2.2.1 a.2.2.2.1 a.2.2.2.2.1 a.2.2.2.2.2.1 a.2.2.2.2.2.2.1 a.2.2.2.2.2.2.2 c.kQ c.li) _ _ (B.mono kN.mono (I.trans d.kM)) ⟨169, #[], #[(.pointer (some ⟨N, 0, none⟩)), (.pointer (some ⟨Q, 0, none⟩))], rfl, call169, fun W x r l hm => (Gt x N O P a.2.1 R a.2.2.1 c0 a.2.2.2.1 c1 a.2.2.2.2.1 c3 a.2.2.2.2.2.1 a.2.2.2.2.2.2.1 Q a.2.2.2.2.2.2.2 (.slice U c.kQ.length Z) c.kQ (.slice Y c.li.length K) c.li r W (v.at (fun b o h => l _ _ ((fun b o h => d.at_ (Mt (Mt (Mt (Ml h))))) b o h))) (A.sl mG (fun b o h => l _ _ ((fun b o h => d.at_ (Mt (Mt (Mt (Ma (Ml h)))))) b o h))) (E.at (fun b o h => l _ _ ((fun b o h => d.at_ (Mt (Mt (Mt (Ma (Ma (Ml h))))))) b o h))) (F.at (fun b o h => l _ _ ((fun b o h => d.at_ (Mt (Mt (Mt (Ma (Ma (Ma (Ml h)))))))) b o h))) ((L.Eo qY).mono (Pl.mono _) (nn (fun b o h => l _ _ ((fun b o h => d.at_ (Mt (Mt (Mt (Ma (Ma (Ma (Ma (Ml h))))))))) b o h)))) (At.of (l _ _ (d.at_ (Mt Mh))) _ rfl) (At.of (l _ _ (d.at_ Mh)) _ rfl) (g.mono kX.mono ((I.trans d.kM).trans l)) (j.mono me.mono ((I.trans d.kM).trans l)) (At.of (l _ _ (d.at_ (Mt (Mt Mh)))) _ rfl) hm).mR⟩ a9) (fun d7 d => Wa (ln ?_))))))
 exact lC (rQ hm d)
theorem uD (a : mI) (x z i u j B : Value) (r : Bool) (w : World) (t : Sl kY 15 (hp w) x a.kE.kQ) (y : Sl lO 8 (hp w) z a.kE.li) (c : Sl kY 15 (hp w) i a.Client.kQ) (k : Sl lO 8 (hp w) u a.Client.li) (g : Sl kG 5 (hp w) j a.Formula.Kids) (D : Sl ou 2 (hp w) B a.Keys) (hm : qx a = some r) :
  lE false Tryz.prog 98 [(.agg #[(.string a.kE.Name), x, z, (.string a.Client.Name), i, u, (.int .i64 a.Formula.Op), (.int .i64 a.Formula.K), (.string a.Formula.kD.kE), (.string a.Formula.kD.kL), j, (.int .i64 a.oN), (.int .i64 a.mw.pD), (.int .i64 a.mw.pE), (.int .i64 a.mW), (.int .i64 a.nU), (.int .i64 a.ny), B])] w (.bool r) := by
 refine cG 10 func98 rfl (fun b => sg ?_)
 obtain ⟨H, N, rfl⟩ := t.form
 obtain ⟨I, Q, rfl⟩ := y.form
 obtain ⟨J, T, rfl⟩ := c.form
 obtain ⟨K, U, rfl⟩ := k.form
 obtain ⟨M, G, rfl⟩ := g.form
 obtain ⟨Z, d, rfl⟩ := D.form
 refine VE (lI b rfl (fun a2 a4 b => Wa (lr (Wf xK (VA b Mh (C4 a.kE.Name H a.kE.kQ.length N I a.kE.li.length Q) eC dC (Wf vT (VA b Mh (C4 a.Client.Name J a.Client.kQ.length T K a.Client.li.length U) eC dC (Wf Kt (VA b Mh (C2 a.Formula.Op a.Formula.K a.Formula.kD.kE a.Formula.kD.kL M a.Formula.Kids.length G) aK aC (bS hm fun a5 Y hm => VE (Eg b call49 (Hr a.kE (.slice H a.kE.kQ.length N) (.slice I a.kE.li.length Q) a.Client (.slice J a.Client.kQ.length T) (.slice K a.Client.li.length U) a.Formula (.slice M a.Formula.Kids.length G) _ _ (t.mono kX.mono b.kM) (y.mono me.mono b.kM) (c.mono kX.mono b.kM) (k.mono me.mono b.kM) (g.mono kN.mono b.kM) Y) (fun a3 b => Wa ?_))))))))))))
 refine ln ?_
 exact lC (rQ hm b)
theorem xo (u : Nat) (a : mI) (j k c i g t : Value) (I : Int) (r : Nat) (w : World) {x : lQ} (M : oC x ((u, Ob #[(.string a.kE.Name), j, k, (.string a.Client.Name), c, i, (.int .i64 a.Formula.Op), (.int .i64 a.Formula.K), (.string a.Formula.kD.kE), (.string a.Formula.kD.kL), g, (.int .i64 a.oN), (.int .i64 a.mw.pD), (.int .i64 a.mw.pE), (.int .i64 a.mW), (.int .i64 a.nU), (.int .i64 a.ny), t] 93) :: []) w) (D : Sl kY 15 x j a.kE.kQ) (G : Sl lO 8 x k a.kE.li) (y : Sl kY 15 x c a.Client.kQ) (B : Sl lO 8 x i a.Client.li) (z : Sl kG 5 x g a.Formula.Kids) (H : Sl ou 2 x t a.Keys) (hm : pu a I = some r) :
  ms true Tryz.prog 99 [(.pointer (some ⟨u, 0, none⟩)), (.int .i64 I)] w x ((u, Ob #[(.string a.kE.Name), j, k, (.string a.Client.Name), c, i, (.int .i64 a.Formula.Op), (.int .i64 a.Formula.K), (.string a.Formula.kD.kE), (.string a.Formula.kD.kL), g, (.int .i64 a.oN), (.int .i64 a.mw.pD), (.int .i64 a.mw.pE), (.int .i64 a.mW), (.int .i64 a.nU), (.int .i64 a.ny), t] 93) :: []) (fun v K N => v = (.pointer (some ⟨u, r, none⟩)) ∧ K = ((u, Ob #[(.string a.kE.Name), j, k, (.string a.Client.Name), c, i, (.int .i64 a.Formula.Op), (.int .i64 a.Formula.K), (.string a.Formula.kD.kE), (.string a.Formula.kD.kL), g, (.int .i64 a.oN), (.int .i64 a.mw.pD), (.int .i64 a.mw.pE), (.int .i64 a.mW), (.int .i64 a.nU), (.int .i64 a.ny), t] 93) :: []) ∧ (r = 0 ∨ r = 3)) := by
 refine tp M 13 func99 rfl (fun b => sg (Wa (lS (Wm (Wi rfl (ln (CI hm rfl (fun J hm => ?_) (fun J hm => ?_))))))))
 ·refine sg (Wm (Wn (Wf xK (Wa (lt (lJ ?_))))))
  obtain rfl := sj hm
  exact mD (v := (.pointer (some ⟨u, 0, none⟩))) rfl rfl ⟨_, _, _, rfl, (b.mX (Kb Sn)), (lu.refl _), Lo.refl, (ST.lX b (nq.mem (Kb Sn))), rfl, rfl, (.inl rfl)⟩
 refine kg (Wm (Wn (Wf vT (Wa (lt ?_)))))
 obtain rfl := sj hm
 exact mD (v := (.pointer (some ⟨u, 3, none⟩))) rfl rfl ⟨_, _, _, rfl, (b.mX (Kb Sn)), (lu.refl _), Lo.refl, (ST.lX b (nq.mem (Kb Sn))), rfl, rfl, (.inr rfl)⟩
theorem yM (c : Value) (u r : List lm) (w : World) {j : lQ} (I : oC j [] w) (a : Sl kY 15 j c u) (hm : pM u = some r) :
  ms true Tryz.prog 104 [c] w j [] (fun v G J => ∃ z t, v = z ∧ G = (t ++ []) ∧ lY 60 kY 15 J z r t) := by
 unfold pM at hm
 refine tp I 8 func104 rfl (fun b => sg (Wa (lS (Wm ?_))))
 obtain ⟨D, Q, rfl⟩ := a.form
 refine V (AS bK rfl rfl) (ln ?_)
 rcases D with _ | M
 ·have y := a.isNil
  replace hm : some [] = some r := by rw [y] at hm; simpa [nG, maxLen] using hm
  refine vr (rfl) (sg (Wa (lt (lJ ?_))))
  obtain rfl := sj hm
  refine mD (v := (.slice none 0 0)) rfl rfl ?_
  replace b := b.Ph
  exact ⟨_, _, _, rfl, (b.mX (Kr Sn)), (lu.refl _), Lo.refl, (ST.lX b (nq.mem (Kr Sn))), (.slice none 0 0), [], rfl, rfl, (lY.nil _ _ _ _)⟩
 ·refine rT (rfl) (kg (VE (lD (cs := #[]) b rp (Ax [] bK cR eG dc rfl (by simp) rfl rfl) (fun N H b => Wm (bS hm fun T x hm => VE (pS (B := [(H, Ob #[] 60)]) kX b dc bK yH.1 yH.2.1 rfl yH.2.2.1 yH.2.2.2 rfl rfl (lY.lit kX (l := []) .nil rfl nb rfl) (xL.sl kX a b.kM) x (fun K g k b i => Wa (lt ?_))))))))
  obtain rfl := sj hm
  exact mD (v := g) rfl rfl ⟨_, _, _, rfl, (b.mX (Kr Sn)), (lu.refl _), Lo.refl, (ST.lX b (nq.mem (Kr Sn))), g, k, rfl, rfl, i⟩
theorem yr (k : Value) (B : List lm) (t : LO) (D G : Int) (r : List lm) (w : World) {μ0 : lQ} (q : oC μ0 (t ++ []) w) (c : lY 60 kY 15 μ0 k B t) (hm : pz B D G = some r) :
  ms true Tryz.prog 103 [k, (.int .i64 D), (.int .i64 G)] w μ0 (t ++ []) (fun v L1 μ1 => ∃ p, v = p ∧ L1 = [] ∧ Sl kY 15 μ1 p (r)) := by
 refine tp q 33 func103 rfl (fun d => sg (Wa (lr (Wm (Wm (Wm (Wm (V (qX bK rfl c) (bS hm fun _ y hm => VQ (Oa (a := D) (b := G) (m := (B.length : Int)) bK cR c rfl rfl rfl rfl (BS y).1 (BS y).2.1 (BS y).2.2.1 (BS y).2.2.2) (fun v1 O => ?_))))))))))
 refine lS (Wm (Wm (Wi rfl (ln (CI hm rfl (fun a4 hm => ?_) (fun a4 hm => ?_))))))
 ·refine sg (Wm (Wa (lt (lJ ?_))))
  obtain rfl := sj hm
  refine mD (v := k) rfl rfl ?_
  obtain ⟨s, d, Q, n, a5⟩ := ST.tJ kX d c
  exact ⟨_, _, _, rfl, (d.mX Sn), Q, n, (ST.lX d (nq.mem Sn)), k, rfl, rfl, a5⟩
 refine kg (Wm (V (qX bK rfl c) (Wa (ln (kZ ?_)))))
 replace d := d.drew
 have h := d.has.kH Sn
 refine mi h lN (X 0 rfl h (kT rfl) (X 1 rfl h (kT rfl) (bS hm fun _ I hm => XQ 2 rfl h (Bu (i := D) bK cR rfl rfl c (vG I) (vw I)) (fun R T => X 3 rfl h (kT rfl) (X 4 rfl h (kT rfl) (bS hm fun _ J hm => XQ 5 rfl h (zK (i := G) bK cR rfl rfl c (vG J) (vw J)) (fun W U => bS hm fun P H hm => XE 6 rfl (I9 (i := (Int.toNat D)) (j := (Int.toNat G)) d c T dc bK yH.1 yH.2.2.1 (BS H).1 (BS H).2 U rfl rfl (fun F M A d u x => ?_)))))))))
 have h := d.has.kH Sn
 refine ⟨h, (X 7 rfl h (od rfl) (mu kr (kU (sg (Wm (Wm (V (qX bK rfl x) (Wm (bS hm fun _ g hm => VQ (MJ (a := ((B.take (Int.toNat D) ++ B.drop (Int.toNat G)).length : Int)) (b := (B.length : Int)) bK cR dc u x rfl rfl rfl (BS g).1 (BS g).2.1 (BS g).2.2.1 (BS g).2.2.2) (fun b9 Y => VO (BO (z := (⟨(⟨K9, []⟩ : Signed), RP⟩ : lm)) (zs := C9) kX d u (kY.mk ⟨(.slice none 0 0), (.slice none 0 0), rfl, (Sl.nil _ _ _), (Sl.nil _ _ _)⟩) bK eG Y rfl rfl (fun L E d N => ln ?_))))))))))))⟩
 refine sg (Wm (Wa (lt ?_)))
 obtain rfl := sj hm
 refine mD (v := M) rfl rfl ?_
 obtain ⟨c0, d, K, l, Z⟩ := ST.tJ kX d (lY.OV dc u x N (by have := BS g; rw [vm _ _ _ (by omega)]; omega))
 exact ⟨_, _, _, rfl, (d.mX Sn), K, l, (ST.lX d (nq.mem Sn)), M, rfl, rfl, Z⟩
set_option maxHeartbeats 1000000 in
theorem vR (a : mI) (a4 a5 Y a3 Z c7 : Value) (a1 a2 : Int) (r : mI) (w : World) {μ0 : lQ} (h0 : oC μ0 [] w) (i : Sl kY 15 μ0 a4 a.kE.kQ) (t : Sl lO 8 μ0 a5 a.kE.li) (c : Sl kY 15 μ0 Y a.Client.kQ) (k : Sl lO 8 μ0 a3 a.Client.li) (j : Sl kG 5 μ0 Z a.Formula.Kids) (I : Sl ou 2 μ0 c7 a.Keys) (hm : rl a a1 a2 = some r) :
  ms true Tryz.prog 44 [(.agg #[(.string a.kE.Name), a4, a5, (.string a.Client.Name), Y, a3, (.int .i64 a.Formula.Op), (.int .i64 a.Formula.K), (.string a.Formula.kD.kE), (.string a.Formula.kD.kL), Z, (.int .i64 a.oN), (.int .i64 a.mw.pD), (.int .i64 a.mw.pE), (.int .i64 a.mW), (.int .i64 a.nU), (.int .i64 a.ny), c7]), (.int .i64 a1), (.int .i64 a2)] w μ0 [] (fun v L1 μ1 => ∃ y1 y3 y5 y7 y9 g9, v = (.agg #[(.string (((r).kE).Name)), y1, y3, (.string (((r).Client).Name)), y5, y7, (.int .i64 (((r).Formula).Op)), (.int .i64 (((r).Formula).K)), (.string ((((r).Formula).kD).kE)), (.string ((((r).Formula).kD).kL)), y9, (.int .i64 ((r).oN)), (.int .i64 (((r).mw).pD)), (.int .i64 (((r).mw).pE)), (.int .i64 ((r).mW)), (.int .i64 ((r).nU)), (.int .i64 ((r).ny)), g9]) ∧ L1 = [] ∧ Sl kY 15 μ1 y1 (((r).kE).kQ) ∧ Sl lO 8 μ1 y3 (((r).kE).li) ∧ Sl kY 15 μ1 y5 (((r).Client).kQ) ∧ Sl lO 8 μ1 y7 (((r).Client).li) ∧ Sl kG 5 μ1 y9 (((r).Formula).Kids) ∧ Sl ou 2 μ1 g9 ((r).Keys)) := by
 refine tp h0 42 func44 rfl (fun b => sg ?_)
 obtain ⟨M, Q, rfl⟩ := i.form
 let c8 : Value := (.slice M a.kE.kQ.length Q)
 obtain ⟨z, G, rfl⟩ := t.form
 let d6 : Value := (.slice z a.kE.li.length G)
 obtain ⟨N, T, rfl⟩ := c.form
 let c4 : Value := (.slice N a.Client.kQ.length T)
 obtain ⟨B, H, rfl⟩ := k.form
 let d3 : Value := (.slice B a.Client.li.length H)
 obtain ⟨D, x, rfl⟩ := j.form
 let c6 : Value := (.slice D a.Formula.Kids.length x)
 obtain ⟨u, y, rfl⟩ := I.form
 let e6 : Value := (.slice u a.Keys.length y)
 let a0 := (C1 a.kE.Name M a.kE.kQ.length Q z a.kE.li.length G a.Client.Name N a.Client.kQ.length T B a.Client.li.length H a.Formula.Op a.Formula.K a.Formula.kD.kE a.Formula.kD.kL D a.Formula.Kids.length x a.oN a.mw.pD a.mw.pE a.mW a.nU a.ny u a.Keys.length y)
 refine VE (lI b rfl (fun l7 l b => VE (lG b fA (fun l8 d0 b => lS (Wm (Wi rfl (Wm (LJ hm (fun e9 E W => ∃ f6, ST true (keys []) w W μ0 ((d0, Ol C6 93) :: ((l, Ol a0 93) :: f6)) ∧ E 1 = (.int .i64 a1) ∧ E 2 = (.int .i64 a2) ∧ E 3 = (.pointer (some ⟨l, 0, none⟩)) ∧ E 6 = (.pointer (some ⟨d0, 0, none⟩)) ∧ E 13 = (.bool e9)) 3 ?_ (fun e9 b9 d8 => ?_)))))))))
 ·let f0 : Value := (.pointer (some ⟨l, 0, none⟩))
  rintro n0 E W ⟨f6, b, i7, n, d1, d2, i8⟩ U
  refine ln (CI U i8 (fun h6 U => ?_) (fun h6 U => ?_))
  ·refine sg (V (kI d1 (kO b.has (Mt Mh) a0 rfl dA cF)) (VO (lh (.agg a0.toArray) (a0.toArray) b d2 rfl cF oc nb rfl (fun l9 b => ln ?_))))
   replace b := b.kH (Kb (Db St))
   refine lC (lJ ?_)
   obtain rfl := sj U
   exact nw (v := (.agg a0.toArray)) rfl d2 (kO b.has Mh a0 rfl dA cF) ⟨_, _, _, rfl, (b.mX Sn), (lu.refl _), Lo.refl, (ST.lX b (nq.mem Sn)), c8, d6, c4, d3, c6, e6, rfl, rfl, i, t, c, k, j, I⟩
  refine kg (Wh i7 (bS U fun g7 h9 U => ?_))
  refine VE (eD b (Cb (Pb Pz) Cn) call99 (fun m => (xo l a c8 d6 c4 d3 c6 e6 a1 _ _ m (i.mono kX.mono (lu.refl _)) (t.mono me.mono (lu.refl _)) (c.mono kX.mono (lu.refl _)) (k.mono me.mono (lu.refl _)) (j.mono kN.mono (lu.refl _)) (I.mono oY.mono (lu.refl _)) h9)) ?_ (ha := P9 d1 rfl))
  rintro _ m7 h1 l4 b g d ⟨d9, rfl, i2⟩
  obtain rfl := d9.symm
  replace b := b.perm (Tb Tn)
  rcases i2 with p | q
  ·replace U := M0 (show (g7 == 0) = true by rw [p]; rfl) U
   refine V (od (bL (fun (o : Nat) => Value.pointer (some ⟨l, o, none⟩)) p)) (lS (Wh n (Wi rfl (Wm (LJ U (fun g8 E W => ∃ f7, ST true (keys []) w W h1 ((l, Ol a0 93) :: ((d0, Ol C6 93) :: f7)) ∧ E 2 = (.int .i64 a2) ∧ E 3 = f0 ∧ E 6 = (.pointer (some ⟨d0, 0, none⟩)) ∧ E 7 = f0 ∧ E 27 = (.bool g8)) 8 ?_ (fun g8 c9 e5 => ?_))))))
   ·rintro n1 E W ⟨f7, b, f9, g0, e2, g1, i9⟩ h
    refine ln (CI h i9 (fun h7 h => ?_) (fun h7 h => ?_))
    ·refine sg (V (kI g0 (kO b.has Mh a0 rfl dA cF)) ?_)
     replace b := b.perm (Nb (Pb Pz) Nz)
     refine VO (lh (.agg a0.toArray) (a0.toArray) b e2 rfl cF oc nb rfl (fun m1 b => ln ?_))
     replace b := b.kH (Kb (Db St))
     refine lC (lJ ?_)
     obtain rfl := sj h
     exact nw (v := (.agg a0.toArray)) rfl e2 (kO b.has Mh a0 rfl dA cF) ⟨_, _, _, rfl, (b.mX Sn), g, d, (ST.lX b (nq.mem Sn)), c8, d6, c4, d3, c6, e6, rfl, rfl, (i.mono kX.mono g), (t.mono me.mono g), (c.mono kX.mono g), (k.mono me.mono g), (j.mono kN.mono g), (I.mono oY.mono g)⟩
    refine kg (Wh g1 (Wh g1 (Wn (Wf oU (VB b Mh rfl rfl eX (bS h fun j3 i0 h => ?_))))))
    refine VE (eD b (aY _) call104 (fun m => (yM c8 a.kE.kQ _ _ m (i.mono kX.mono g) i0)) ?_ (L0 := []))
    rintro _ m8 n4 l5 b P aa ⟨j7, i6, e0, rfl, i3⟩
    obtain rfl := e0.symm
    replace b := b.perm (Tr Tn)
    refine Wh f9 (Wh f9 (Wi rfl (bS h fun c5 i1 h => ?_)))
    refine VE (eD b (Cr Qz Cn) call103 (fun m => (yr j7 j3 i6 a2 (IntKind.i64.wrap (a2 + 1)) _ _ m i3 i1)) ?_)
    rintro _ m9 n5 l6 b R ab ⟨n3, e1, rfl, e7⟩
    obtain rfl := e1.symm
    refine Wn (Wf oU ?_)
    obtain ⟨c0, c1, rfl⟩ := e7.form
    let b8 := (C1 a.kE.Name c0 c5.length c1 z a.kE.li.length G a.Client.Name N a.Client.kQ.length T B a.Client.li.length H a.Formula.Op a.Formula.K a.Formula.kD.kE a.Formula.kD.kL D a.Formula.Kids.length x a.oN a.mw.pD a.mw.pE a.mW a.nU a.ny u a.Keys.length y)
    refine VO (lh (.slice c0 c5.length c1) (b8.toArray) b rfl rfl sizeOf22 oc nb rfl (fun m4 b => lr (V (kI g0 (kO b.has Mh b8 rfl dA cF)) ?_)))
    replace b := b.perm (Nb (Pb Pz) Nz)
    refine VO (lh (.agg b8.toArray) (b8.toArray) b e2 rfl cF oc nb rfl (fun m5 b => ln ?_))
    replace b := b.kH (Kb (Db St))
    refine lC ?_
    obtain rfl := sj h
    exact nw (v := (.agg b8.toArray)) rfl e2 (kO b.has Mh b8 rfl dA cF) ⟨_, _, _, rfl, (b.mX Sn), ((g.trans P).trans R), ((d.trans aa).trans ab), (ST.lX b (nq.mem Sn)), (.slice c0 c5.length c1), d6, c4, d3, c6, e6, rfl, rfl, e7, (t.mono me.mono ((g.trans P).trans R)), (c.mono kX.mono ((g.trans P).trans R)), (k.mono me.mono ((g.trans P).trans R)), (j.mono kN.mono ((g.trans P).trans R)), (I.mono oY.mono ((g.trans P).trans R))⟩
   refine bC c9 (fun J c9 => ?_) (fun J c9 => ?_)
   ·refine un J (un J (un J (un J (un J (un J (un J (V (lj (cB J) rfl) ?_)))))))
    obtain rfl := sj c9
    exact e5 _ _ ⟨_, (b.kH St), n, d1, d2, rfl, rfl⟩
   refine ug J (kT n) (ug J (kT rfl) (ug J (nz rfl) (ug J (kP oU rfl) (ug J (kI rfl (lg b.has Mh rfl eX)) (ug J (ml bK rfl i) (ug J (lR rfl rfl rfl) (V (ll (cB J) rfl) ?_)))))))
   obtain rfl := sj c9
   exact e5 _ _ ⟨_, (b.kH St), n, d1, d2, rfl, rfl⟩
  replace U := M3 (show (g7 == 0) = false by rw [q]; rfl) U
  refine V (od (bL (fun (o : Nat) => Value.pointer (some ⟨l, o, none⟩)) q)) (lS (Wh n (Wi rfl (Wm (LJ U (fun e8 E W => ∃ f8, ST true (keys []) w W h1 ((l, Ol a0 93) :: ((d0, Ol C6 93) :: f8)) ∧ E 2 = (.int .i64 a2) ∧ E 3 = f0 ∧ E 6 = (.pointer (some ⟨d0, 0, none⟩)) ∧ E 7 = (.pointer (some ⟨l, 3, none⟩)) ∧ E 27 = (.bool e8)) 8 ?_ (fun e8 b7 d7 => ?_))))))
  ·rintro n2 E W ⟨f8, b, g2, g3, e3, g4, j0⟩ a9
   refine ln (CI a9 j0 (fun h8 a9 => ?_) (fun h8 a9 => ?_))
   ·refine sg (V (kI g3 (kO b.has Mh a0 rfl dA cF)) ?_)
    replace b := b.perm (Nb (Pb Pz) Nz)
    refine VO (lh (.agg a0.toArray) (a0.toArray) b e3 rfl cF oc nb rfl (fun m6 b => ln ?_))
    replace b := b.kH (Kb (Db St))
    refine lC (lJ ?_)
    obtain rfl := sj a9
    exact nw (v := (.agg a0.toArray)) rfl e3 (kO b.has Mh a0 rfl dA cF) ⟨_, _, _, rfl, (b.mX Sn), g, d, (ST.lX b (nq.mem Sn)), c8, d6, c4, d3, c6, e6, rfl, rfl, (i.mono kX.mono g), (t.mono me.mono g), (c.mono kX.mono g), (k.mono me.mono g), (j.mono kN.mono g), (I.mono oY.mono g)⟩
   refine kg (Wh g4 (Wh g4 (Wn (Wf oU (VB b Mh rfl rfl eX (bS a9 fun i4 f3 a9 => ?_))))))
   refine VE (eD b (aY _) call104 (fun m => (yM c4 a.Client.kQ _ _ m (c.mono kX.mono g) f3)) ?_ (L0 := []))
   rintro _ k9 l2 k2 b L A ⟨i5, h2, d4, rfl, f5⟩
   obtain rfl := d4.symm
   replace b := b.perm (Tr Tn)
   refine Wh g2 (Wh g2 (Wi rfl (bS a9 fun b3 f4 a9 => ?_)))
   refine VE (eD b (Cr Qz Cn) call103 (fun m => (yr i5 i4 h2 a2 (IntKind.i64.wrap (a2 + 1)) _ _ m f5 f4)) ?_)
   rintro _ l0 l3 k3 b O F ⟨l1, d5, rfl, e4⟩
   obtain rfl := d5.symm
   refine Wn (Wf oU ?_)
   obtain ⟨b0, b2, rfl⟩ := e4.form
   let c2 := (C1 a.kE.Name M a.kE.kQ.length Q z a.kE.li.length G a.Client.Name b0 b3.length b2 B a.Client.li.length H a.Formula.Op a.Formula.K a.Formula.kD.kE a.Formula.kD.kL D a.Formula.Kids.length x a.oN a.mw.pD a.mw.pE a.mW a.nU a.ny u a.Keys.length y)
   refine VO (lh (.slice b0 b3.length b2) (c2.toArray) b rfl rfl sizeOf22 oc nb rfl (fun k6 b => lr (V (kI g3 (kO b.has Mh c2 rfl dA cF)) ?_)))
   replace b := b.perm (Nb (Pb Pz) Nz)
   refine VO (lh (.agg c2.toArray) (c2.toArray) b e3 rfl cF oc nb rfl (fun k7 b => ln ?_))
   replace b := b.kH (Kb (Db St))
   refine lC ?_
   obtain rfl := sj a9
   exact nw (v := (.agg c2.toArray)) rfl e3 (kO b.has Mh c2 rfl dA cF) ⟨_, _, _, rfl, (b.mX Sn), ((g.trans L).trans O), ((d.trans A).trans F), (ST.lX b (nq.mem Sn)), c8, d6, (.slice b0 b3.length b2), d3, c6, e6, rfl, rfl, (i.mono kX.mono ((g.trans L).trans O)), (t.mono me.mono ((g.trans L).trans O)), e4, (k.mono me.mono ((g.trans L).trans O)), (j.mono kN.mono ((g.trans L).trans O)), (I.mono oY.mono ((g.trans L).trans O))⟩
  refine bC b7 (fun K b7 => ?_) (fun K b7 => ?_)
  ·refine un K (un K (un K (un K (un K (un K (un K (V (lj (cB K) rfl) ?_)))))))
   obtain rfl := sj b7
   exact d7 _ _ ⟨_, (b.kH St), n, d1, d2, rfl, rfl⟩
  refine ug K (kT n) (ug K (kT rfl) (ug K (nz rfl) (ug K (kP oU rfl) (ug K (kI rfl (lg b.has Mh rfl eX)) (ug K (ml bK rfl c) (ug K (lR rfl rfl rfl) (V (ll (cB K) rfl) ?_)))))))
  obtain rfl := sj b7
  exact d7 _ _ ⟨_, (b.kH St), n, d1, d2, rfl, rfl⟩
 refine bC b9 (fun s b9 => ?_) (fun s b9 => ?_)
 ·refine un s (un s (V (lj (cB s) rfl) ?_))
  obtain rfl := sj b9
  exact d8 _ _ ⟨_, (b.kH St), rfl, rfl, rfl, rfl, rfl⟩
 refine ug s (kT rfl) (ug s (lR rfl rfl rfl) (V (ll (cB s) rfl) ?_))
 obtain rfl := sj b9
 exact d8 _ _ ⟨_, (b.kH St), rfl, rfl, rfl, rfl, rfl⟩
set_option maxHeartbeats 1000000 in
theorem Dl (a : mI) (N Q J M K d6 : Value) (r : List mj) (w : World) (k : Sl kY 15 (hp w) N a.kE.kQ) (D : Sl lO 8 (hp w) Q a.kE.li) (j : Sl kY 15 (hp w) J a.Client.kQ) (z : Sl lO 8 (hp w) M a.Client.li) (y : Sl kG 5 (hp w) K a.Formula.Kids) (I : Sl ou 2 (hp w) d6 a.Keys) (hm : uF a = some r) :
  nA false Tryz.prog 40 [(.agg #[(.string a.kE.Name), N, Q, (.string a.Client.Name), J, M, (.int .i64 a.Formula.Op), (.int .i64 a.Formula.K), (.string a.Formula.kD.kE), (.string a.Formula.kD.kL), K, (.int .i64 a.oN), (.int .i64 a.mw.pD), (.int .i64 a.mw.pE), (.int .i64 a.mW), (.int .i64 a.nU), (.int .i64 a.ny), d6])] w 91 mE 2 r := by
 refine wM 36 func40 rfl (fun b => sg ?_)
 obtain ⟨A1, c2, rfl⟩ := k.form
 let c7 : Value := (.slice A1 a.kE.kQ.length c2)
 obtain ⟨A3, c4, rfl⟩ := D.form
 let d1 : Value := (.slice A3 a.kE.li.length c4)
 obtain ⟨A5, c6, rfl⟩ := j.form
 let c5 : Value := (.slice A5 a.Client.kQ.length c6)
 obtain ⟨A7, c8, rfl⟩ := z.form
 let c9 : Value := (.slice A7 a.Client.li.length c8)
 obtain ⟨A9, Y, rfl⟩ := y.form
 let d0 : Value := (.slice A9 a.Formula.Kids.length Y)
 obtain ⟨T, Z, rfl⟩ := I.form
 let d2 : Value := (.slice T a.Keys.length Z)
 let a0 := (C1 a.kE.Name A1 a.kE.kQ.length c2 A3 a.kE.li.length c4 a.Client.Name A5 a.Client.kQ.length c6 A7 a.Client.li.length c8 a.Formula.Op a.Formula.K a.Formula.kD.kE a.Formula.kD.kL A9 a.Formula.Kids.length Y a.oN a.mw.pD a.mw.pE a.mW a.nU a.ny T a.Keys.length Z)
 refine VE (lI b rfl (fun q9 U b => Wa (lS (VA b Mh a0 dA cF (bS hm fun r1 o4 hm => VE (Eg b call98 (uD a c7 d1 c5 c9 d0 d2 _ _ (k.mono kX.mono b.kM) (D.mono me.mono b.kM) (j.mono kX.mono b.kM) (z.mono me.mono b.kM) (y.mono kN.mono b.kM) (I.mono oY.mono b.kM) o4) (fun r0 b => V (ol rfl) (ln (CI hm rfl (fun o3 hm => ?_) (fun o3 hm => ?_))))))))))
 ·refine sg (Wa (ln ?_))
  replace b := b.kH (Db St)
  refine lC (lJ ?_)
  obtain rfl := sj hm
  exact mD (v := (.slice none 0 0)) rfl rfl ⟨_, [], rfl, b.oR (fun p hq => by cases hq) (by simp), lA.nil _ _ _⟩
 let b8 : Value := (.pointer (some ⟨U, 0, none⟩))
 refine kg (Wa (lS (Wm (ln (mK (nZ (fun m E W => ∃ P b7 O g f9 g2, lu (hp w) f9 ∧ ST false lU w W f9 ((U, Ol a0 93) :: (O ++ g2)) ∧ E 1 = b8 ∧ E 3 = P ∧ E 9 = (.int .i64 g) ∧ lA 91 mE 2 P b7 O ∧ pR a m b7 g = some r) lF ⟨(.slice none 0 0), ([]), [], 0, (hp w), _, (lu.refl _), (b.kH St), rfl, rfl, rfl, (lA.nil _ _ _), hm⟩ ?_))))))
 rintro m E W ⟨P, b7, O, g, f9, g2, c, b, f5, f6, d9, b4, B⟩
 cases m with
 | zero => rw [pR] at B; cases B
 | succ g7 =>
  refine sg (V (lR d9 rfl rfl) (ln (kZ (CI B rfl (fun h8 B => ?_) (fun h8 B => ?_)))))
  ·refine kn (kZ (bg (Wh d9 (Wa (lr (Wm (bS B fun g8 i9 B => ?_)))))))
   refine VE (eD b (Cb Pz Cn) call99 (fun hh => ms.mR (xo U a c7 d1 c5 c9 d0 d2 g _ _ hh (k.mono kX.mono c) (D.mono me.mono c) (j.mono kX.mono c) (z.mono me.mono c) (y.mono kN.mono c) (I.mono oY.mono c) i9)) ?_ (ha := P9 f5 rfl))
   rintro _ q3 a9 o9 b x aa ⟨e8, rfl, k0⟩
   obtain rfl := e8.symm
   replace b := b.perm (Tb Tn)
   rcases k0 with d | n
   ·replace B := M0 (show (g8 == 0) = true by rw [d]; rfl) B
    refine V (nz (bL (fun (o : Nat) => Value.pointer (some ⟨U, o, none⟩)) d)) (Wf oU (VB b Mh rfl rfl eX (V (ml bK rfl k) (Wm (ln (qw (CJ B (fun f7 E W => ∃ e4 d7 e6 g3, lu a9 e6 ∧ ST false lU w W e6 ((U, Ol a0 93) :: (d7 ++ g3)) ∧ E 1 = b8 ∧ E 3 = e4 ∧ E 9 = (.int .i64 g) ∧ lA 91 mE 2 e4 f7 d7) (fun f7 i6 => ?_) ?_)))))))
    ·refine mf (fun i E W => ∃ a5 b9 s c1 f3, (E 18 = .int .i64 (i : Nat) ∧ E 17 = .int .i64 (a.kE.kQ.length : Nat)) ∧ lu a9 c1 ∧ ST false lU w W c1 ((U, Ol a0 93) :: (s ++ f3)) ∧ E 1 = b8 ∧ E 3 = a5 ∧ E 4 = (.int .i64 g) ∧ E 9 = (.int .i64 g) ∧ lA 91 mE 2 a5 b9 s ∧ qL a g (a.kE.kQ.drop i) i b9 = some f7) a.kE.kQ.length k.len ⟨P, b7, O, a9, _, ⟨rfl, rfl⟩, (lu.refl _), (b.kH St), f5, f6, rfl, d9, b4, i6⟩ dc dc dc (fun _ _ _ h => by obtain ⟨_, _, _, _, _, F, _⟩ := h; exact F) ?_ ?_
     ·rintro a3 E W i3 ⟨a5, b9, s, c1, f3, ⟨q, L⟩, G, b, b0, e0, b1, e1, b5, t⟩
      obtain ⟨q6, o7, j8, o5, g0⟩ := lT i3
      rw [j8] at t
      refine bg (Wh q (Wa (lr (V (kI b0 (kO b.has Mh a0 rfl dA cF)) (Wh b1 (Wm (bS t fun m7 j0 t => ?_)))))))
      refine VE (eD b (aY _) call44 (fun hh => ms.mR (vR a c7 d1 c5 c9 d0 d2 g (a3 : Int) _ _ hh (k.mono kX.mono ((c.trans x).trans G)) (D.mono me.mono ((c.trans x).trans G)) (j.mono kX.mono ((c.trans x).trans G)) (z.mono me.mono ((c.trans x).trans G)) (y.mono kN.mono ((c.trans x).trans G)) (I.mono oY.mono ((c.trans x).trans G)) j0)) ?_ (L0 := []))
      let d4 := (⟨g, (a3 : Int)⟩ : mj)
      rintro _ q4 g9 p0 b f1 ab ⟨n1, n2, n3, n4, n5, n6, e9, rfl, k1, k2, k3, k4, k5, k6⟩
      obtain rfl := e9.symm
      refine bS t fun q1 j3 t => VE (Eg b call98 (uD m7 n1 n2 n3 n4 n5 n6 _ _ (k1.mono kX.mono b.kM) (k2.mono me.mono b.kM) (k3.mono kX.mono b.kM) (k4.mono me.mono b.kM) (k5.mono kN.mono b.kM) (k6.mono oY.mono b.kM) j3) (fun p4 b => V (ol rfl) (ln (CI t rfl (fun h9 t => ?_) (fun h9 t => ?_)))))
      ·refine kW (Wh e0 (Wh b1 (Wm (V (mB (v := (.agg (mE (d4)).toArray)) (oJ rfl rfl) (zG gQ fQ fP kr)) (VE (lD (cs := (mE (d4)).toArray) b (ni rfl) (nj dW jl gQ) (fun p5 l5 b => ?_)))))))
       replace b := b.perm (Nr (Qb (Qb Qz)) Nz)
       refine bS t fun m4 i0 t => VE (oG (enc := mE) (v := a5) (vs := (.slice (some ⟨l5, 0, none⟩) 1 1)) (R := s) b si dc Bw dW ui.1 ui.2.1 rfl ui.2.2.1 ui.2.2.2 rfl rfl b5 (Sl.lit (enc := mE) (l := [d4]) si rfl nb rfl (b.at_ (Ma Mh))) i0 (fun p6 m9 l3 b h6 => Wa (lH (lL (kU ?_)))))
       replace b := b.kH (Kr (Db St))
       exact ⟨q, m9, m4, l3, g9, _, ⟨rfl, L⟩, (G.trans f1), (b.kH (Sb (Pr Pz) St)), b0, rfl, b1, e1, h6, (by rw [g0]; exact t)⟩
      exact mr (lL (kU ⟨q, a5, b9, s, g9, _, ⟨rfl, L⟩, (G.trans f1), (b.kH St), b0, e0, b1, e1, b5, (by rw [g0]; exact t)⟩))
     rintro E W ⟨a5, b9, s, c1, f3, ⟨q, L⟩, G, b, b0, e0, b1, e1, b5, t⟩
     rw [aI] at t
     refine kU ?_
     obtain rfl := sj t
     exact ⟨a5, s, c1, _, G, (b.kH St), b0, e0, e1, b5⟩
    rintro m3 E W ⟨e4, d7, e6, g3, h1, b, l7, l8, l9, j6⟩ i5
    exact lL (kU (kW (V (lR l9 rfl rfl) (Wm (ln ⟨g7, bF _, e4, m3, d7, (IntKind.i64.wrap (g + 1)), e6, _, ((c.trans x).trans h1), (b.kH St), l7, l8, rfl, j6, i5⟩)))))
   replace B := M3 (show (g8 == 0) = false by rw [n]; rfl) B
   refine V (nz (bL (fun (o : Nat) => Value.pointer (some ⟨U, o, none⟩)) n)) (Wf oU (VB b Mh rfl rfl eX (V (ml bK rfl j) (Wm (ln (qw (CJ B (fun f8 E W => ∃ e5 d8 e7 g4, lu a9 e7 ∧ ST false lU w W e7 ((U, Ol a0 93) :: (d8 ++ g4)) ∧ E 1 = b8 ∧ E 3 = e5 ∧ E 9 = (.int .i64 g) ∧ lA 91 mE 2 e5 f8 d8) (fun f8 i8 => ?_) ?_)))))))
   ·refine mf (fun i E W => ∃ A c0 a2 c3 f4, (E 18 = .int .i64 (i : Nat) ∧ E 17 = .int .i64 (a.Client.kQ.length : Nat)) ∧ lu a9 c3 ∧ ST false lU w W c3 ((U, Ol a0 93) :: (a2 ++ f4)) ∧ E 1 = b8 ∧ E 3 = A ∧ E 4 = (.int .i64 g) ∧ E 9 = (.int .i64 g) ∧ lA 91 mE 2 A c0 a2 ∧ qH a g (a.Client.kQ.drop i) i c0 = some f8) a.Client.kQ.length j.len ⟨P, b7, O, a9, _, ⟨rfl, rfl⟩, (lu.refl _), (b.kH St), f5, f6, rfl, d9, b4, i8⟩ dc dc dc (fun _ _ _ h => by obtain ⟨_, _, _, _, _, F, _⟩ := h; exact F) ?_ ?_
    ·rintro a4 E W i4 ⟨A, c0, a2, c3, f4, ⟨q, L⟩, H, b, b2, e2, b3, e3, b6, u⟩
     let d3 := (⟨g, (a4 : Int)⟩ : mj)
     obtain ⟨q7, o8, j9, o6, g1⟩ := lT i4
     rw [j9] at u
     refine bg (Wh q (Wa (lr (V (kI b2 (kO b.has Mh a0 rfl dA cF)) (Wh b3 (Wm (bS u fun m8 j4 u => ?_)))))))
     refine VE (eD b (aY _) call44 (fun hh => ms.mR (vR a c7 d1 c5 c9 d0 d2 g (a4 : Int) _ _ hh (k.mono kX.mono ((c.trans x).trans H)) (D.mono me.mono ((c.trans x).trans H)) (j.mono kX.mono ((c.trans x).trans H)) (z.mono me.mono ((c.trans x).trans H)) (y.mono kN.mono ((c.trans x).trans H)) (I.mono oY.mono ((c.trans x).trans H)) j4)) ?_ (L0 := []))
     rintro _ q5 h0 p1 b f2 ad ⟨n7, n8, n9, o0, o1, o2, f0, rfl, k7, k8, k9, l0, l1, l2⟩
     obtain rfl := f0.symm
     refine bS u fun q2 j5 u => VE (Eg b call98 (uD m8 n7 n8 n9 o0 o1 o2 _ _ (k7.mono kX.mono b.kM) (k8.mono me.mono b.kM) (k9.mono kX.mono b.kM) (l0.mono me.mono b.kM) (l1.mono kN.mono b.kM) (l2.mono oY.mono b.kM) j5) (fun p8 b => V (ol rfl) (ln (CI u rfl (fun i1 u => ?_) (fun i1 u => ?_)))))
     ·refine kW (Wh e2 (Wh b3 (Wm (V (mB (v := (.agg (mE (d3)).toArray)) (oJ rfl rfl) (zG gQ fQ fP kr)) (VE (lD (cs := (mE (d3)).toArray) b (ni rfl) (nj dW jl gQ) (fun p9 l6 b => ?_)))))))
      replace b := b.perm (Nr (Qb (Qb Qz)) Nz)
      refine bS u fun m6 i2 u => VE (oG (enc := mE) (v := A) (vs := (.slice (some ⟨l6, 0, none⟩) 1 1)) (R := a2) b si dc Bw dW ui.1 ui.2.1 rfl ui.2.2.1 ui.2.2.2 rfl rfl b6 (Sl.lit (enc := mE) (l := [d3]) si rfl nb rfl (b.at_ (Ma Mh))) i2 (fun q0 n0 l4 b h7 => Wa (lH (lL (kU ?_)))))
      replace b := b.kH (Kr (Db St))
      exact ⟨q, n0, m6, l4, h0, _, ⟨rfl, L⟩, (H.trans f2), (b.kH (Sb (Pr Pz) St)), b2, rfl, b3, e3, h7, (by rw [g1]; exact u)⟩
     exact mr (lL (kU ⟨q, A, c0, a2, h0, _, ⟨rfl, L⟩, (H.trans f2), (b.kH St), b2, e2, b3, e3, b6, (by rw [g1]; exact u)⟩))
    rintro E W ⟨A, c0, a2, c3, f4, ⟨q, L⟩, H, b, b2, e2, b3, e3, b6, u⟩
    rw [aI] at u
    refine kU ?_
    obtain rfl := sj u
    exact ⟨A, a2, c3, _, H, (b.kH St), b2, e2, e3, b6⟩
   rintro m5 E W ⟨e5, d8, e7, g4, h2, b, m0, m1, m2, j7⟩ i7
   exact lL (kU (kW (V (lR m2 rfl rfl) (Wm (ln ⟨g7, bF _, e5, m5, d8, (IntKind.i64.wrap (g + 1)), e7, _, ((c.trans x).trans h2), (b.kH St), m0, m1, rfl, j7, i7⟩)))))
  refine nT (nJ (nJ (qE (kU ?_))))
  replace b := b.kH (Db St)
  refine sg (Wh f6 (Wa (lt ?_)))
  obtain rfl := sj B
  exact mD (v := P) rfl rfl ⟨_, O, rfl, b.oR (fun p hq => (Ml hq)) b4.nd, b4⟩
set_option maxHeartbeats 1000000 in
theorem H5 (g : mI) (a9 e6 a4 a8 a5 m4 : Value) (r : (mI × Bool)) (w : World) {μ0 : lQ} (h0 : oC μ0 [] w) (z : Sl kY 15 μ0 a9 g.kE.kQ) (B : Sl lO 8 μ0 e6 g.kE.li) (j : Sl kY 15 μ0 a4 g.Client.kQ) (y : Sl lO 8 μ0 a8 g.Client.li) (t : Sl kG 5 μ0 a5 g.Formula.Kids) (a2 : Sl ou 2 μ0 m4 g.Keys) (hm : wk g = some r) :
  ms false Tryz.prog 36 [(.agg #[(.string g.kE.Name), a9, e6, (.string g.Client.Name), a4, a8, (.int .i64 g.Formula.Op), (.int .i64 g.Formula.K), (.string g.Formula.kD.kE), (.string g.Formula.kD.kL), a5, (.int .i64 g.oN), (.int .i64 g.mw.pD), (.int .i64 g.mw.pE), (.int .i64 g.mW), (.int .i64 g.nU), (.int .i64 g.ny), m4])] w μ0 [] (fun v L1 μ1 => ∃ y1 y3 y5 y7 y9 bx, v = (.tuple #[(.agg #[(.string (((r.1).kE).Name)), y1, y3, (.string (((r.1).Client).Name)), y5, y7, (.int .i64 (((r.1).Formula).Op)), (.int .i64 (((r.1).Formula).K)), (.string ((((r.1).Formula).kD).kE)), (.string ((((r.1).Formula).kD).kL)), y9, (.int .i64 ((r.1).oN)), (.int .i64 (((r.1).mw).pD)), (.int .i64 (((r.1).mw).pE)), (.int .i64 ((r.1).mW)), (.int .i64 ((r.1).nU)), (.int .i64 ((r.1).ny)), bx]), (.bool (r.2))]) ∧ L1 = [] ∧ Sl kY 15 μ1 y1 (((r.1).kE).kQ) ∧ Sl lO 8 μ1 y3 (((r.1).kE).li) ∧ Sl kY 15 μ1 y5 (((r.1).Client).kQ) ∧ Sl lO 8 μ1 y7 (((r.1).Client).li) ∧ Sl kG 5 μ1 y9 (((r.1).Formula).Kids) ∧ Sl ou 2 μ1 bx ((r.1).Keys)) := by
 refine tp h0 38 func36 rfl (fun b => sg ?_)
 obtain ⟨A1, c2, rfl⟩ := z.form
 let cg : Value := (.slice A1 g.kE.kQ.length c2)
 obtain ⟨A3, c4, rfl⟩ := B.form
 let ct : Value := (.slice A3 g.kE.li.length c4)
 obtain ⟨A5, c6, rfl⟩ := j.form
 let ce : Value := (.slice A5 g.Client.kQ.length c6)
 obtain ⟨A7, c8, rfl⟩ := y.form
 let ch : Value := (.slice A7 g.Client.li.length c8)
 obtain ⟨A9, g7, rfl⟩ := t.form
 let cf : Value := (.slice A9 g.Formula.Kids.length g7)
 obtain ⟨g4, g8, rfl⟩ := a2.form
 let cv : Value := (.slice g4 g.Keys.length g8)
 let a0 := (C1 g.kE.Name A1 g.kE.kQ.length c2 A3 g.kE.li.length c4 g.Client.Name A5 g.Client.kQ.length c6 A7 g.Client.li.length c8 g.Formula.Op g.Formula.K g.Formula.kD.kE g.Formula.kD.kL A9 g.Formula.Kids.length g7 g.oN g.mw.pD g.mw.pE g.mW g.nU g.ny g4 g.Keys.length g8)
 refine VE (lI b rfl (fun ef p b => VE (lG b fA (fun eg h9 b => Wa (lS (VA b (Mt Mh) a0 dA cF (bS hm fun ek ca hm => VE (Eg b call98 (uD g cg ct ce ch cf cv _ _ (z.mono kX.mono b.kM) (B.mono me.mono b.kM) (j.mono kX.mono b.kM) (y.mono me.mono b.kM) (t.mono kN.mono b.kM) (a2.mono oY.mono b.kM) ca) (fun eh b => V (ol rfl) (ln (CI hm rfl (fun bz hm => ?_) (fun bz hm => ?_))))))))))))
 ·refine sg (VA b (Mt Mh) a0 dA cF (VO (lh (.agg a0.toArray) (a0.toArray) b rfl rfl cF oc nb rfl (fun ei b => Wa (ln ?_)))))
  replace b := b.kH (Kb (Db St))
  refine lC (lJ ?_)
  obtain rfl := sj hm
  exact qZ (v0 := (.agg a0.toArray)) (v1 := (.bool false)) rfl rfl (kO b.has Mh a0 rfl dA cF) rfl ⟨_, _, _, rfl, (b.mX Sn), (lu.refl _), Lo.refl, (ST.lX b (nq.mem Sn)), cg, ct, ce, ch, cf, cv, rfl, rfl, z, B, j, y, t, a2⟩
 refine kS (VE (lD (cs := #[(.int .i64 1), (.int .i64 0)]) b (oJ rfl rfl) (nj gY fP zeroValue3) (fun ej i0 b => V (BK gY rfl) (Wm (ln (mK (NW 3 (Im (sg (Wi rfl ?_))))))))))
 refine ln (kZ (vr rfl (kn (kZ (bg (V (Hc (i := 0) gY fP rfl rfl dc dc rfl) (VB b Mh rfl rfl cA (Wa (ln ?_)))))))))
 refine sg (Wm (bS hm fun df t5 hm => ?_))
 refine VE (eD b (Cb (Pb (Pb Pz)) Cn) call99 (fun hh => ms.mR (xo p g cg ct ce ch cf cv 1 _ _ hh (z.mono kX.mono (lu.refl _)) (B.mono me.mono (lu.refl _)) (j.mono kX.mono (lu.refl _)) (y.mono me.mono (lu.refl _)) (t.mono kN.mono (lu.refl _)) (a2.mono oY.mono (lu.refl _)) t5)) ?_)
 rintro _ dj t4 ci b T s ⟨q8, rfl, cb⟩
 obtain rfl := q8.symm
 replace b := b.perm (Tb Tn)
 refine V (nz (bL (fun (o : Nat) => Value.pointer (some ⟨p, o, none⟩)) (jB (t5.symm.trans rfl)))) (Wf oU (VB b Mh rfl rfl eX (V (ml bK rfl j) (Wi rfl (Wa (ln (qw (mK (nZ (fun m E W => ∃ h7 f4 e0 e7 e1 h2 f5 e2 h3 e3 h4 f6 f7 P e4 h5 f8 R f9 g0 g1 e5 h6 H u4, lu t4 H ∧ Lo (keys []) w t4 H ∧ ST false (keys []) w W H ((p, Ob #[(.string f4), e0, e1, (.string f5), e2, e3, (.int .i64 f6), (.int .i64 f7), (.string P.kE), (.string P.kL), e4, (.int .i64 f8), (.int .i64 R.pD), (.int .i64 R.pE), (.int .i64 f9), (.int .i64 g0), (.int .i64 g1), e5] 93) :: ((i0, Ob #[(.int .i64 1), (.int .i64 0)] 3) :: ((h9, Ol C6 93) :: u4))) ∧ E 1 = (.pointer (some ⟨p, 0, none⟩)) ∧ E 2 = (.pointer (some ⟨h9, 0, none⟩)) ∧ E 5 = (.int .i64 1) ∧ E 6 = (.int .i64 h7) ∧ E 12 = (.slice (some ⟨i0, 0, none⟩) 2 2) ∧ E 13 = (.int .i64 2) ∧ E 14 = (.int .i64 0) ∧ Sl kY 15 H e0 e7 ∧ Sl lO 8 H e1 h2 ∧ Sl kY 15 H e2 h3 ∧ Sl lO 8 H e3 h4 ∧ Sl kG 5 H e4 h5 ∧ Sl ou 2 H e5 h6 ∧ qD m h7 f4 e7 h2 f5 h3 h4 f6 f7 P h5 f8 R f9 g0 g1 h6 = some r) lF ⟨(IntKind.i64.wrap ((g.Client.kQ.length : Int) - 1)), g.kE.Name, cg, g.kE.kQ, ct, g.kE.li, g.Client.Name, ce, g.Client.kQ, ch, g.Client.li, g.Formula.Op, g.Formula.K, g.Formula.kD, cf, g.Formula.Kids, g.oN, g.mw, g.mW, g.nU, g.ny, cv, g.Keys, t4, _, (lu.refl _), Lo.refl, (b.kH St), rfl, rfl, rfl, rfl, rfl, rfl, rfl, (z.mono kX.mono T), (B.mono me.mono T), (j.mono kX.mono T), (y.mono me.mono T), (t.mono kN.mono T), (a2.mono oY.mono T), hm⟩ ?_)))))))))
 let cn : Value := (.pointer (some ⟨h9, 0, none⟩))
 let cm : Value := (.pointer (some ⟨p, 0, none⟩))
 let cd : Value := (.slice (some ⟨i0, 0, none⟩) 2 2)
 let v9 := (#[(.int .i64 1), (.int .i64 0)] : Array Value)
 rintro m E W ⟨h7, f4, e0, e7, e1, h2, f5, e2, h3, e3, h4, f6, f7, P, e4, h5, f8, R, f9, g0, g1, e5, h6, H, u4, s4, d, b, h1, s6, s7, m5, m6, m7, s8, g9, j6, j7, j8, j9, k0, G⟩
 let w0 := (⟨(⟨f4, e7, h2⟩ : lW), (⟨f5, h3, h4⟩ : lW), (⟨f6, f7, P, h5⟩ : Formula), f8, R, f9, g0, g1, h6⟩ : mI)
 cases m with
 | zero => rw [qD] at G; cases G
 | succ aw =>
  refine kZ (sg (Wh m5 (Wi rfl (ln (CI G rfl (fun w2 G => ?_) (fun w2 G => ?_))))))
  ·refine kn (kZ (CJ G (fun u E W => ∃ n5 n6 n7 n8 n9 o0 N u5, lu H N ∧ Lo (keys []) w H N ∧ ST false (keys []) w W N ((p, Ob #[(.string u.1), n5, n6, (.string u.2.2.2.1), n7, n8, (.int .i64 u.2.2.2.2.2.2.1), (.int .i64 u.2.2.2.2.2.2.2.1), (.string u.2.2.2.2.2.2.2.2.1.kE), (.string u.2.2.2.2.2.2.2.2.1.kL), n9, (.int .i64 u.2.2.2.2.2.2.2.2.2.2.1), (.int .i64 u.2.2.2.2.2.2.2.2.2.2.2.1.pD), (.int .i64 u.2.2.2.2.2.2.2.2.2.2.2.1.pE), (.int .i64 u.2.2.2.2.2.2.2.2.2.2.2.2.1), (.int .i64 u.2.2.2.2.2.2.2.2.2.2.2.2.2.1), (.int .i64 u.2.2.2.2.2.2.2.2.2.2.2.2.2.2.1), o0] 93) :: ((i0, Obj.cells v9 3 (0, 0)) :: ((h9, Ol C6 93) :: u5))) ∧ E 1 = cm ∧ E 2 = cn ∧ E 5 = (.int .i64 1) ∧ E 6 = (.int .i64 h7) ∧ E 12 = cd ∧ E 13 = (.int .i64 2) ∧ E 14 = (.int .i64 0) ∧ Sl kY 15 N n5 u.2.1 ∧ Sl lO 8 N n6 u.2.2.1 ∧ Sl kY 15 N n7 u.2.2.2.2.1 ∧ Sl lO 8 N n8 u.2.2.2.2.2.1 ∧ Sl kG 5 N n9 u.2.2.2.2.2.2.2.2.2.1 ∧ Sl ou 2 N o0 u.2.2.2.2.2.2.2.2.2.2.2.2.2.2.2) (fun u K => ?_) ?_))
   ·refine bg (V (kI h1 (kO b.has Mh [(.string f4), e0, e1, (.string f5), e2, e3, (.int .i64 f6), (.int .i64 f7), (.string P.kE), (.string P.kL), e4, (.int .i64 f8), (.int .i64 R.pD), (.int .i64 R.pE), (.int .i64 f9), (.int .i64 g0), (.int .i64 g1), e5] rfl dA cF)) (Wh s7 (Wh m5 (bS K fun a x0 K => ?_))))
    let ew : Value := (.int .i64 ((a).oN))
    let eu : Value := (.int .i64 ((a).nU))
    let es : Value := (.int .i64 ((a).ny))
    let er : Value := (.int .i64 ((a).mW))
    let el : Value := (.string (((a).kE).Name))
    let ed : Value := (.int .i64 (((a).mw).pE))
    let ec : Value := (.int .i64 (((a).mw).pD))
    let eb : Value := (.int .i64 (((a).Formula).K))
    let ea : Value := (.string (((a).Client).Name))
    let dd : Value := (.int .i64 (((a).Formula).Op))
    let w1 := (((a).Formula).kD)
    let fb : Value := (.string (w1.kL))
    let fa : Value := (.string (w1.kE))
    refine VE (eD b (aY _) call44 (fun hh => ms.mR (vR w0 e0 e1 e2 e3 e4 e5 1 h7 _ _ hh (g9.mono kX.mono (lu.refl _)) (j6.mono me.mono (lu.refl _)) (j7.mono kX.mono (lu.refl _)) (j8.mono me.mono (lu.refl _)) (j9.mono kN.mono (lu.refl _)) (k0.mono oY.mono (lu.refl _)) x0)) ?_ (L0 := []))
    rintro _ dk v2 cj b I h ⟨dn, dp, dq, dr, ds, dt, q9, rfl, r2, r3, r4, r5, r6, r7⟩
    obtain rfl := q9.symm
    refine VE (lG b fA (fun co da b => ?_))
    obtain ⟨b0, c7, rfl⟩ := r2.form
    let p7 : Value := (.slice b0 (((a).kE).kQ).length c7)
    obtain ⟨b1, c9, rfl⟩ := r3.form
    let q1 : Value := (.slice b1 (((a).kE).li).length c9)
    obtain ⟨b2, d0, rfl⟩ := r4.form
    let p3 : Value := (.slice b2 (((a).Client).kQ).length d0)
    obtain ⟨b3, d1, rfl⟩ := r5.form
    let p8 : Value := (.slice b3 (((a).Client).li).length d1)
    obtain ⟨b4, d2, rfl⟩ := r6.form
    let p4 : Value := (.slice b4 (((a).Formula).Kids).length d2)
    obtain ⟨b5, d3, rfl⟩ := r7.form
    let v7 : Value := (.slice b5 ((a).Keys).length d3)
    let g6 := (#[el, p7, q1, ea, p3, p8, dd, eb, fa, fb, p4, ew, ec, ed, er, eu, es, v7])
    let b8 : Value := (.agg #[el, p7, q1, ea, p3, p8, dd, eb, fa, fb, p4, ew, ec, ed, er, eu, es, v7])
    refine VO (lh b8 g6 b rfl rfl cF oc nb rfl (fun cp b => lr (VA b Mh [el, p7, q1, ea, p3, p8, dd, eb, fa, fb, p4, ew, ec, ed, er, eu, es, v7] dA cF (bS K fun dg x1 K => VE (Eg b call98 (uD a p7 q1 p3 p8 p4 v7 _ _ (r2.mono kX.mono b.kM) (r3.mono me.mono b.kM) (r4.mono kX.mono b.kM) (r5.mono me.mono b.kM) (r6.mono kN.mono b.kM) (r7.mono oY.mono b.kM) x1) (fun cq b => ln (CI K rfl (fun w3 K => ?_) (fun w3 K => ?_))))))))
    ·refine kW (VA b Mh [el, p7, q1, ea, p3, p8, dd, eb, fa, fb, p4, ew, ec, ed, er, eu, es, v7] dA cF ?_)
     replace b := b.perm (Nb (Pb Pz) Nz)
     refine VO (lh b8 g6 b h1 rfl cF oc nb rfl (fun cr b => lH (lL (kU ?_))))
     obtain rfl := sj K
     exact ⟨p7, q1, p3, p8, p4, v7, v2, _, I, h, (b.kH (Kb (Db St))), h1, s6, s7, m5, m6, m7, s8, r2, r3, r4, r5, r6, r7⟩
    refine mr (lL (kU ?_))
    obtain rfl := sj K
    exact ⟨e0, e1, e2, e3, e4, e5, v2, _, I, h, (b.kH (Db St)), h1, s6, s7, m5, m6, m7, s8, (g9.mono kX.mono I), (j6.mono me.mono I), (j7.mono kX.mono I), (j8.mono me.mono I), (j9.mono kN.mono I), (k0.mono oY.mono I)⟩
   rintro ⟨az, ai, aj, ba, ak, al, bc, bd, be, am, bf, bh, bi, bj, bk, an⟩ E W ⟨n5, n6, n7, n8, n9, o0, N, u5, v4, A, b, z1, z2, z3, z4, z5, z6, z7, x4, x5, x6, x7, x8, x9⟩ w6
   exact kW (Wh z4 (Wi rfl (Wa (ln ⟨aw, bF _, (IntKind.i64.wrap (h7 - 1)), az, n5, ai, n6, aj, ba, n7, ak, n8, al, bc, bd, be, n9, am, bf, bh, bi, bj, bk, o0, an, N, _, (s4.trans v4), (d.trans A), (b.kH St), z1, z2, z3, rfl, z5, z6, z7, x4, x5, x6, x7, x8, x9, w6⟩))))
  refine nT (nJ (nJ (qE (kU (lL (kU (kW (V (lR s8 rfl rfl) (Wm (ln (Im (sg (V (lR rfl m7 rfl) (lH ?_))))))))))))))
  refine kU (kZ (vr rfl (kn (kZ (bg (V (Hc (i := 1) gY fP m6 rfl dc dc rfl) (VB b (Mt Mh) rfl rfl cA (Wa (ln (kZ ?_))))))))))
  refine kW (Wm (bS G fun dh t6 G => ?_))
  refine VE (eD b (Cb Pz Cn) call99 (fun hh => ms.mR (xo p w0 e0 e1 e2 e3 e4 e5 0 _ _ hh (g9.mono kX.mono (lu.refl _)) (j6.mono me.mono (lu.refl _)) (j7.mono kX.mono (lu.refl _)) (j8.mono me.mono (lu.refl _)) (j9.mono kN.mono (lu.refl _)) (k0.mono oY.mono (lu.refl _)) t6)) ?_ (ha := P9 h1 rfl))
  rintro _ dl m3 ck b U F ⟨r0, rfl, cc⟩
  obtain rfl := r0.symm
  replace b := b.perm (Tb Tn)
  refine V (nz (bL (fun (o : Nat) => Value.pointer (some ⟨p, o, none⟩)) (jB (t6.symm.trans rfl)))) (Wf oU (VB b Mh rfl rfl eX (V (ml bK rfl g9) (Wi rfl (Wa (ln (qw (CJ G (fun k E W => ∃ o1 o2 o3 o4 o5 o6 q u6, lu m3 q ∧ Lo (keys []) w m3 q ∧ ST false (keys []) w W q ((p, Ob #[(.string k.1), o1, o2, (.string k.2.2.2.1), o3, o4, (.int .i64 k.2.2.2.2.2.2.1), (.int .i64 k.2.2.2.2.2.2.2.1), (.string k.2.2.2.2.2.2.2.2.1.kE), (.string k.2.2.2.2.2.2.2.2.1.kL), o5, (.int .i64 k.2.2.2.2.2.2.2.2.2.2.1), (.int .i64 k.2.2.2.2.2.2.2.2.2.2.2.1.pD), (.int .i64 k.2.2.2.2.2.2.2.2.2.2.2.1.pE), (.int .i64 k.2.2.2.2.2.2.2.2.2.2.2.2.1), (.int .i64 k.2.2.2.2.2.2.2.2.2.2.2.2.2.1), (.int .i64 k.2.2.2.2.2.2.2.2.2.2.2.2.2.2.1), o6] 93) :: ((i0, Obj.cells v9 3 (0, 0)) :: ((h9, Ol C6 93) :: u6))) ∧ E 1 = cm ∧ E 2 = cn ∧ E 12 = cd ∧ E 13 = (.int .i64 2) ∧ E 14 = (.int .i64 1) ∧ Sl kY 15 q o1 k.2.1 ∧ Sl lO 8 q o2 k.2.2.1 ∧ Sl kY 15 q o3 k.2.2.2.2.1 ∧ Sl lO 8 q o4 k.2.2.2.2.2.1 ∧ Sl kG 5 q o5 k.2.2.2.2.2.2.2.2.2.1 ∧ Sl ou 2 q o6 k.2.2.2.2.2.2.2.2.2.2.2.2.2.2.2) (fun k w8 => ?_) ?_))))))))
  ·refine mK (nZ (fun m E W => ∃ h8 l5 e8 m9 e9 n0 l6 f0 n1 f1 n2 l7 l8 g2 f2 n3 l9 g3 m0 m1 m2 f3 n4 D u7, lu m3 D ∧ Lo (keys []) w m3 D ∧ ST false (keys []) w W D ((p, Ob #[(.string l5), e8, e9, (.string l6), f0, f1, (.int .i64 l7), (.int .i64 l8), (.string g2.kE), (.string g2.kL), f2, (.int .i64 l9), (.int .i64 g3.pD), (.int .i64 g3.pE), (.int .i64 m0), (.int .i64 m1), (.int .i64 m2), f3] 93) :: ((i0, Obj.cells v9 3 (0, 0)) :: ((h9, Ol C6 93) :: u7))) ∧ E 1 = cm ∧ E 2 = cn ∧ E 5 = (.int .i64 0) ∧ E 6 = (.int .i64 h8) ∧ E 12 = cd ∧ E 13 = (.int .i64 2) ∧ E 14 = (.int .i64 1) ∧ Sl kY 15 D e8 m9 ∧ Sl lO 8 D e9 n0 ∧ Sl kY 15 D f0 n1 ∧ Sl lO 8 D f1 n2 ∧ Sl kG 5 D f2 n3 ∧ Sl ou 2 D f3 n4 ∧ qJ m h8 l5 m9 n0 l6 n1 n2 l7 l8 g2 n3 l9 g3 m0 m1 m2 n4 = some k) lF ⟨(IntKind.i64.wrap ((e7.length : Int) - 1)), f4, e0, e7, e1, h2, f5, e2, h3, e3, h4, f6, f7, P, e4, h5, f8, R, f9, g0, g1, e5, h6, m3, _, (lu.refl _), Lo.refl, (b.kH St), h1, s6, rfl, rfl, m6, m7, rfl, (g9.mono kX.mono U), (j6.mono me.mono U), (j7.mono kX.mono U), (j8.mono me.mono U), (j9.mono kN.mono U), (k0.mono oY.mono U), w8⟩ ?_)
   rintro m E W ⟨h8, l5, e8, m9, e9, n0, l6, f0, n1, f1, n2, l7, l8, g2, f2, n3, l9, g3, m0, m1, m2, f3, n4, D, u7, s5, l, b, j5, s9, t0, m8, t1, t2, t3, q2, q3, q4, q5, q6, q7, a3⟩
   cases m with
   | zero => rw [qJ] at a3; cases a3
   | succ ay =>
    refine kZ (sg (Wh m8 (Wi rfl (ln (CI a3 rfl (fun w4 a3 => ?_) (fun w4 a3 => ?_))))))
    ·refine kn (kZ (CJ a3 (fun x E W => ∃ o7 o8 o9 p0 p1 p2 Q u8, lu D Q ∧ Lo (keys []) w D Q ∧ ST false (keys []) w W Q ((p, Ob #[(.string x.1), o7, o8, (.string x.2.2.2.1), o9, p0, (.int .i64 x.2.2.2.2.2.2.1), (.int .i64 x.2.2.2.2.2.2.2.1), (.string x.2.2.2.2.2.2.2.2.1.kE), (.string x.2.2.2.2.2.2.2.2.1.kL), p1, (.int .i64 x.2.2.2.2.2.2.2.2.2.2.1), (.int .i64 x.2.2.2.2.2.2.2.2.2.2.2.1.pD), (.int .i64 x.2.2.2.2.2.2.2.2.2.2.2.1.pE), (.int .i64 x.2.2.2.2.2.2.2.2.2.2.2.2.1), (.int .i64 x.2.2.2.2.2.2.2.2.2.2.2.2.2.1), (.int .i64 x.2.2.2.2.2.2.2.2.2.2.2.2.2.2.1), p2] 93) :: ((i0, Obj.cells v9 3 (0, 0)) :: ((h9, Ol C6 93) :: u8))) ∧ E 1 = cm ∧ E 2 = cn ∧ E 5 = (.int .i64 0) ∧ E 6 = (.int .i64 h8) ∧ E 12 = cd ∧ E 13 = (.int .i64 2) ∧ E 14 = (.int .i64 1) ∧ Sl kY 15 Q o7 x.2.1 ∧ Sl lO 8 Q o8 x.2.2.1 ∧ Sl kY 15 Q o9 x.2.2.2.2.1 ∧ Sl lO 8 Q p0 x.2.2.2.2.2.1 ∧ Sl kG 5 Q p1 x.2.2.2.2.2.2.2.2.2.1 ∧ Sl ou 2 Q p2 x.2.2.2.2.2.2.2.2.2.2.2.2.2.2.2) (fun x M => ?_) ?_))
     ·refine bg (V (kI j5 (kO b.has Mh [(.string l5), e8, e9, (.string l6), f0, f1, (.int .i64 l7), (.int .i64 l8), (.string g2.kE), (.string g2.kL), f2, (.int .i64 l9), (.int .i64 g3.pD), (.int .i64 g3.pE), (.int .i64 m0), (.int .i64 m1), (.int .i64 m2), f3] rfl dA cF)) (Wh t0 (Wh m8 (bS M fun c x2 M => ?_))))
      let ez : Value := (.int .i64 ((c).oN))
      let ey : Value := (.int .i64 ((c).nU))
      let ev : Value := (.int .i64 ((c).ny))
      let et : Value := (.int .i64 ((c).mW))
      let eq : Value := (.string (((c).kE).Name))
      let ep : Value := (.int .i64 (((c).mw).pE))
      let eo : Value := (.int .i64 (((c).mw).pD))
      let en : Value := (.int .i64 (((c).Formula).K))
      let em : Value := (.string (((c).Client).Name))
      let ee : Value := (.int .i64 (((c).Formula).Op))
      let bb := (((c).Formula).kD)
      let fd : Value := (.string (bb.kL))
      let fc : Value := (.string (bb.kE))
      refine VE (eD b (aY _) call44 (fun hh => ms.mR (vR (⟨(⟨l5, m9, n0⟩ : lW), (⟨l6, n1, n2⟩ : lW), (⟨l7, l8, g2, n3⟩ : Formula), l9, g3, m0, m1, m2, n4⟩ : mI) e8 e9 f0 f1 f2 f3 0 h8 _ _ hh (q2.mono kX.mono (lu.refl _)) (q3.mono me.mono (lu.refl _)) (q4.mono kX.mono (lu.refl _)) (q5.mono me.mono (lu.refl _)) (q6.mono kN.mono (lu.refl _)) (q7.mono oY.mono (lu.refl _)) x2)) ?_ (L0 := []))
      rintro _ dm v3 cl b J n ⟨du, dv, dw, dx, dy, dz, r1, rfl, r8, r9, s0, s1, s2, s3⟩
      obtain rfl := r1.symm
      refine VE (lG b fA (fun cw db b => ?_))
      obtain ⟨b6, d4, rfl⟩ := r8.form
      let p9 : Value := (.slice b6 (((c).kE).kQ).length d4)
      obtain ⟨b7, d5, rfl⟩ := r9.form
      let u3 : Value := (.slice b7 (((c).kE).li).length d5)
      obtain ⟨b9, d6, rfl⟩ := s0.form
      let p5 : Value := (.slice b9 (((c).Client).kQ).length d6)
      obtain ⟨c0, d7, rfl⟩ := s1.form
      let q0 : Value := (.slice c0 (((c).Client).li).length d7)
      obtain ⟨c1, d8, rfl⟩ := s2.form
      let p6 : Value := (.slice c1 (((c).Formula).Kids).length d8)
      obtain ⟨c3, d9, rfl⟩ := s3.form
      let v8 : Value := (.slice c3 ((c).Keys).length d9)
      let j1 := (#[eq, p9, u3, em, p5, q0, ee, en, fc, fd, p6, ez, eo, ep, et, ey, ev, v8])
      let g5 : Value := (.agg #[eq, p9, u3, em, p5, q0, ee, en, fc, fd, p6, ez, eo, ep, et, ey, ev, v8])
      refine VO (lh g5 j1 b rfl rfl cF oc nb rfl (fun cx b => lr (VA b Mh [eq, p9, u3, em, p5, q0, ee, en, fc, fd, p6, ez, eo, ep, et, ey, ev, v8] dA cF (bS M fun di x3 M => VE (Eg b call98 (uD c p9 u3 p5 q0 p6 v8 _ _ (r8.mono kX.mono b.kM) (r9.mono me.mono b.kM) (s0.mono kX.mono b.kM) (s1.mono me.mono b.kM) (s2.mono kN.mono b.kM) (s3.mono oY.mono b.kM) x3) (fun cy b => ln (CI M rfl (fun w5 M => ?_) (fun w5 M => ?_))))))))
      ·refine kW (VA b Mh [eq, p9, u3, em, p5, q0, ee, en, fc, fd, p6, ez, eo, ep, et, ey, ev, v8] dA cF ?_)
       replace b := b.perm (Nb (Pb Pz) Nz)
       refine VO (lh g5 j1 b j5 rfl cF oc nb rfl (fun cz b => lH (lL (kU ?_))))
       obtain rfl := sj M
       exact ⟨p9, u3, p5, q0, p6, v8, v3, _, J, n, (b.kH (Kb (Db St))), j5, s9, t0, m8, t1, t2, t3, r8, r9, s0, s1, s2, s3⟩
      refine mr (lL (kU ?_))
      obtain rfl := sj M
      exact ⟨e8, e9, f0, f1, f2, f3, v3, _, J, n, (b.kH (Db St)), j5, s9, t0, m8, t1, t2, t3, (q2.mono kX.mono J), (q3.mono me.mono J), (q4.mono kX.mono J), (q5.mono me.mono J), (q6.mono kN.mono J), (q7.mono oY.mono J)⟩
     rintro ⟨bl, ao, ap, bn, aq, ar, bo, bp, bq, au, bs, bt, bu, bv, bw, av⟩ E W ⟨o7, o8, o9, p0, p1, p2, Q, u8, v6, O, b, ab, ac, ad, ae, af, ag, ah, y0, y2, y4, y6, y8, z0⟩ w9
     exact kW (Wh ae (Wi rfl (Wa (ln ⟨ay, bF _, (IntKind.i64.wrap (h8 - 1)), bl, o7, ao, o8, ap, bn, o9, aq, p0, ar, bo, bp, bq, p1, au, bs, bt, bu, bv, bw, p2, av, Q, _, (s5.trans v6), (l.trans O), (b.kH St), ab, ac, ad, rfl, af, ag, ah, y0, y2, y4, y6, y8, z0, w9⟩))))
    refine nT (nJ (nJ (qE (kU ?_))))
    obtain rfl := sj a3
    exact ⟨e8, e9, f0, f1, f2, f3, D, _, s5, l, (b.kH St), j5, s9, t1, t2, t3, q2, q3, q4, q5, q6, q7⟩
  rintro ⟨k7, k1, k2, k8, k3, k4, k9, l0, Y, k5, l1, Z, l2, l3, l4, k6⟩ E W ⟨o1, o2, o3, o4, o5, o6, q, u6, v5, L, b, z8, u9, de, z9, aa, t7, t8, t9, u0, u1, u2⟩ w7
  refine lL (kU (kW (V (lR aa rfl rfl) (Wm (ln (Im (sg (V (lR rfl z9 rfl) (ln (kZ (rT rfl ?_)))))))))))
  refine nT (nJ (nJ (qE (kU ?_))))
  replace b := b.kH (Kb (Db St))
  refine sg (V (kI z8 (kO b.has Mh [(.string k7), o1, o2, (.string k8), o3, o4, (.int .i64 k9), (.int .i64 l0), (.string Y.kE), (.string Y.kL), o5, (.int .i64 l1), (.int .i64 Z.pD), (.int .i64 Z.pE), (.int .i64 l2), (.int .i64 l3), (.int .i64 l4), o6] rfl dA cF)) ?_)
  obtain ⟨i1, i7, rfl⟩ := t7.form
  obtain ⟨i2, i8, rfl⟩ := t8.form
  obtain ⟨i3, i9, rfl⟩ := t9.form
  obtain ⟨i4, j0, rfl⟩ := u0.form
  obtain ⟨i5, j3, rfl⟩ := u1.form
  obtain ⟨i6, j4, rfl⟩ := u2.form
  let j2 := (C1 k7 i1 k1.length i7 i2 k2.length i8 k8 i3 k3.length i9 i4 k4.length j0 k9 l0 Y.kE Y.kL i5 k5.length j3 l1 Z.pD Z.pE l2 l3 l4 i6 k6.length j4)
  replace b := b.perm (Nb (Pb Pz) Nz)
  refine VO (lh (.agg j2.toArray) (j2.toArray) b u9 rfl cF oc nb rfl (fun cu b => Wa (ln ?_)))
  replace b := b.kH (Kb (Db St))
  refine lC ?_
  obtain rfl := sj w7
  exact qZ (v0 := (.agg j2.toArray)) (v1 := (.bool true)) rfl u9 (kO b.has Mh j2 rfl dA cF) rfl ⟨_, _, _, rfl, (b.mX Sn), (((T.trans s4).trans U).trans v5), (((s.trans d).trans F).trans L), (ST.lX b (nq.mem Sn)), (.slice i1 k1.length i7), (.slice i2 k2.length i8), (.slice i3 k3.length i9), (.slice i4 k4.length j0), (.slice i5 k5.length j3), (.slice i6 k6.length j4), rfl, rfl, t7, t8, t9, u0, u1, u2⟩
theorem Bn (a : mI) (u y g t i B : Value) (r : Int) (w : World) (k : Sl kY 15 (hp w) u a.kE.kQ) (x : Sl lO 8 (hp w) y a.kE.li) (c : Sl kY 15 (hp w) g a.Client.kQ) (j : Sl lO 8 (hp w) t a.Client.li) (z : Sl kG 5 (hp w) i a.Formula.Kids) (D : Sl ou 2 (hp w) B a.Keys) (hm : qt a = some r) :
  lE false Tryz.prog 42 [(.agg #[(.string a.kE.Name), u, y, (.string a.Client.Name), g, t, (.int .i64 a.Formula.Op), (.int .i64 a.Formula.K), (.string a.Formula.kD.kE), (.string a.Formula.kD.kL), i, (.int .i64 a.oN), (.int .i64 a.mw.pD), (.int .i64 a.mw.pE), (.int .i64 a.mW), (.int .i64 a.nU), (.int .i64 a.ny), B])] w (.int .i64 r) := by
 refine cG 20 func42 rfl (fun b => sg ?_)
 obtain ⟨H, M, rfl⟩ := k.form
 obtain ⟨I, N, rfl⟩ := x.form
 obtain ⟨J, Q, rfl⟩ := c.form
 obtain ⟨K, T, rfl⟩ := j.form
 obtain ⟨A9, a3, rfl⟩ := z.form
 obtain ⟨a2, a4, rfl⟩ := D.form
 refine VE (lI b rfl (fun p s b => Wa (lr (Wf xK (VA b Mh (C4 a.kE.Name H a.kE.kQ.length M I a.kE.li.length N) eC dC (Wf vT (VA b Mh (C4 a.Client.Name J a.Client.kQ.length Q K a.Client.li.length T) eC dC (bS hm fun v Y hm => ?_))))))))
 refine VE (F7 b (aY _) call11 (fun _ _ _ _ => (Gc a.kE (.slice H a.kE.kQ.length M) (.slice I a.kE.li.length N) a.Client (.slice J a.Client.kQ.length Q) (.slice K a.Client.li.length T) _ _ (k.mono kX.mono b.kM) (x.mono me.mono b.kM) (c.mono kX.mono b.kM) (j.mono me.mono b.kM) Y)) (fun q A L m b a5 h d U => ?_) (L0 := []))
 obtain ⟨E, n, F, a9, G, rfl, Z, l⟩ := U
 replace G := G.symm; subst G
 replace b := b.perm (Tr (Tr Tn))
 refine Wm (Wx rfl (Wx rfl (Wx rfl (Wa (Wa (Wa (ln ?_)))))))
 replace b := b.kH (Kr (Kr (Db St)))
 refine sg (Wm (V (oq aS rfl Z) (Wm (V (oq aS rfl l) (Wi rfl (Wa (ln ?_)))))))
 exact lC (rQ hm b)
set_option maxHeartbeats 1000000 in
theorem Jk (r : Bool) (w : World) (hm : wQ  = some r) :
  lE false Tryz.prog 34 [] w (.bool r) := by
 let gx : Value := (.agg (kK Du).toArray)
 let bb := (⟨1, (⟨K7.kE, K5⟩ : kD), K3, K0, K0, zS⟩ : kF)
 refine cG 82 func34 rfl (fun d => sg (Wa (lr (V (mB (v := (.agg (kR K7).toArray)) (oJ rfl rfl) (mn fF dQ (J6 _ dQ) kr)) (V (mB (v := gx) (A8 rfl rfl rfl) (mn cW eQ (SG _ eQ) kr)) (VE (lG d cW (fun W2 b1 d => VO (lh gx ((kK Du).toArray) d rfl rfl aO (oQ Du) nb rfl (fun W3 d => ln (kZ ?_)))))))))))
 refine kW (VA d Mh (kK Du) bX aO (VE (lG d cW (fun W5 b4 d => VO (lh gx ((kK Du).toArray) d rfl rfl aO (oQ Du) nb rfl (fun W6 d => lr (Wf rJ (Wf uN (VO (lh (.string K5) ((kK bb).toArray) d rfl rfl gJ (Ku K5) nb rfl (fun W7 d => lr ?_)))))))))))
 refine Wa (ln (kZ ?_))
 replace d := d.drew
 have m := d.has.kH (Kb (Kb Sn))
 refine mi m lN (X 0 rfl m (mB (v := (.agg UD.toArray)) (ni rfl) (mn jV eJ (KF _ eJ) kr)) (X 1 rfl m (kT rfl) (XH 2 rfl m (fun _ q => kI rfl (kO q (Mt Mh) (kK Du) rfl bX aO)) (X 4 rfl m (kT rfl) (XH 5 rfl m (fun _ q => kI rfl (kO q Mh (kK bb) rfl bX aO)) (X 9 rfl m (kP rJ rfl) (XH 10 rfl m (fun _ q => kI rfl (kO q (Mt Mh) (kR K7) rfl bI aR)) (X 11 rfl m (mB (v := (.agg Up.toArray)) (oJ rfl rfl) (mn aP bH (uM _ bH) kr)) (PJ hm (fun x E W => ∃ R n2 n3 p4 p3 n4 n5 n6 n7 n8 n9 o0 o1 o2 s s5, lu (hp w) s ∧ ST false lU w W s ((R, Ob #[(.string x.2.2.2.2.2.2.2.2.2.2.2.2.2.2.2.2.1), n7, n8, (.string x.2.2.2.2.2.2.2.2.2.2.2.2.2.2.2.2.2.2.2.1), n9, o0, (.int .i64 x.2.2.2.2.2.2.2.2.2.2.2.2.2.2.2.2.2.2.2.2.2.2.1), (.int .i64 x.2.2.2.2.2.2.2.2.2.2.2.2.2.2.2.2.2.2.2.2.2.2.2.1), (.string x.2.2.2.2.2.2.2.2.2.2.2.2.2.2.2.2.2.2.2.2.2.2.2.2.1.kE), (.string x.2.2.2.2.2.2.2.2.2.2.2.2.2.2.2.2.2.2.2.2.2.2.2.2.1.kL), o1, (.int .i64 x.2.2.2.2.2.2.2.2.2.2.2.2.2.2.2.2.2.2.2.2.2.2.2.2.2.2.1), (.int .i64 x.2.2.2.2.2.2.2.2.2.2.2.2.2.2.2.2.2.2.2.2.2.2.2.2.2.2.2.1.pD), (.int .i64 x.2.2.2.2.2.2.2.2.2.2.2.2.2.2.2.2.2.2.2.2.2.2.2.2.2.2.2.1.pE), (.int .i64 x.2.2.2.2.2.2.2.2.2.2.2.2.2.2.2.2.2.2.2.2.2.2.2.2.2.2.2.2.1), (.int .i64 x.2.2.2.2.2.2.2.2.2.2.2.2.2.2.2.2.2.2.2.2.2.2.2.2.2.2.2.2.2.1), (.int .i64 x.2.2.2.2.2.2.2.2.2.2.2.2.2.2.2.2.2.2.2.2.2.2.2.2.2.2.2.2.2.2.1), o2] 93) :: ((b4, Ol (kK bb) 52) :: ((b1, Ol (kK Du) 52) :: (p3 ++ s5)))) ∧ E 1 = (.pointer (some ⟨b1, 0, none⟩)) ∧ E 4 = (.pointer (some ⟨R, 0, none⟩)) ∧ E 25 = (.agg #[(.string x.1), n2, n3, (.string x.2.2.2.1), p4, n4, (.int .i64 x.2.2.2.2.2.2.1), (.int .i64 x.2.2.2.2.2.2.2.1), (.string x.2.2.2.2.2.2.2.2.1.kE), (.string x.2.2.2.2.2.2.2.2.1.kL), n5, (.int .i64 x.2.2.2.2.2.2.2.2.2.2.1), (.int .i64 x.2.2.2.2.2.2.2.2.2.2.2.1.pD), (.int .i64 x.2.2.2.2.2.2.2.2.2.2.2.1.pE), (.int .i64 x.2.2.2.2.2.2.2.2.2.2.2.2.1), (.int .i64 x.2.2.2.2.2.2.2.2.2.2.2.2.2.1), (.int .i64 x.2.2.2.2.2.2.2.2.2.2.2.2.2.2.1), n6]) ∧ Sl kY 15 s n2 x.2.1 ∧ Fr w.heap.size n2 ∧ Sl lO 8 s n3 x.2.2.1 ∧ Fr w.heap.size n3 ∧ lY 60 kY 15 s p4 x.2.2.2.2.1 p3 ∧ Sl lO 8 s n4 x.2.2.2.2.2.1 ∧ Fr w.heap.size n4 ∧ Sl kG 5 s n5 x.2.2.2.2.2.2.2.2.2.1 ∧ Fr w.heap.size n5 ∧ Sl ou 2 s n6 x.2.2.2.2.2.2.2.2.2.2.2.2.2.2.2.1 ∧ Fr w.heap.size n6 ∧ Sl kY 15 s n7 x.2.2.2.2.2.2.2.2.2.2.2.2.2.2.2.2.2.1 ∧ Fr w.heap.size n7 ∧ Sl lO 8 s n8 x.2.2.2.2.2.2.2.2.2.2.2.2.2.2.2.2.2.2.1 ∧ Fr w.heap.size n8 ∧ Sl kY 15 s n9 x.2.2.2.2.2.2.2.2.2.2.2.2.2.2.2.2.2.2.2.2.1 ∧ Fr w.heap.size n9 ∧ Sl lO 8 s o0 x.2.2.2.2.2.2.2.2.2.2.2.2.2.2.2.2.2.2.2.2.2.1 ∧ Fr w.heap.size o0 ∧ Sl kG 5 s o1 x.2.2.2.2.2.2.2.2.2.2.2.2.2.2.2.2.2.2.2.2.2.2.2.2.2.1 ∧ Fr w.heap.size o1 ∧ Sl ou 2 s o2 x.2.2.2.2.2.2.2.2.2.2.2.2.2.2.2.2.2.2.2.2.2.2.2.2.2.2.2.2.2.2.2 ∧ Fr w.heap.size o2) (bm 15 16383) 1 ?_ (fun x J j7 => ?_))))))))))
 ·let hc : Value := (.pointer (some ⟨b1, 0, none⟩))
  let et := ((kK Du).toArray : Array Value)
  rintro ⟨b6, K, M, b7, N, Q, b9, c0, z, T, c1, B, c2, c3, c4, U, ea, dq, dr, eb, ds, dt, ec, ed, ee, du, ef, eg, eh, ei, ej, dv⟩ E W ⟨R, n2, n3, p4, p3, n4, n5, n6, n7, n8, n9, o0, o1, o2, s, s5, o4, d, s6, l0, y4, k0, av, k1, aw, k8, k2, ay, k3, az, k4, ba, bk, bc, bl, bd, bn, be, bo, bf, bp, bh, bq, bi⟩ j9
  let fg : Value := (.pointer (some ⟨R, 0, none⟩))
  let dd := (⟨(⟨b6, K, M⟩ : lW), (⟨b7, N, Q⟩ : lW), (⟨b9, c0, z, T⟩ : Formula), c1, B, c2, c3, c4, U⟩ : mI)
  obtain ⟨a2, a8, rfl⟩ := k0.form
  let hg : Value := (.slice a2 K.length a8)
  obtain ⟨a3, a9, rfl⟩ := k1.form
  let hh : Value := (.slice a3 M.length a9)
  obtain ⟨a4, b0, rfl⟩ := k8.form
  let hi : Value := (.slice a4 N.length b0)
  obtain ⟨a5, b2, rfl⟩ := k2.form
  let hj : Value := (.slice a5 Q.length b2)
  obtain ⟨a6, b3, rfl⟩ := k3.form
  let hk : Value := (.slice a6 T.length b3)
  obtain ⟨a7, b5, rfl⟩ := k4.form
  let hl : Value := (.slice a7 U.length b5)
  let g5 := (C1 b6 a2 K.length a8 a3 M.length a9 b7 a4 N.length b0 a5 Q.length b2 b9 c0 z.kE z.kL a6 T.length b3 c1 B.pD B.pE c2 c3 c4 a7 U.length b5)
  refine XO 14 rfl (lh (.agg g5.toArray) (g5.toArray) d l0 y4 cF oc nb rfl (fun dj d => ?_))
  have m := d.has.pZ o4 (Db (Kb (Kb Sn)))
  refine ⟨m, (mu kr (kU ?_))⟩
  replace d := d.kH (Kb (Db St))
  refine sg (V (kI l0 (kO d.has Mh g5 rfl dA cF)) (bS j9 fun dw x7 j9 => VE (vh d call40 (Dl dd hg hh hi hj hk hl _ _ (k0.mono kX.mono d.kM) (k1.mono me.mono d.kM) (k8.sl kX d.kM (fun b o hq => d.at_ (Mt (Mt (Ml hq))))) (k2.mono me.mono d.kM) (k3.mono kN.mono d.kM) (k4.mono oY.mono d.kM) x7) (fun dk dx er j8 d D hA m9 => Wa (lr (V (kI l0 (kO d.has (Ma Mh) g5 rfl dA cF)) ?_))))))
  replace d := d.perm (Nr (Qr (Qb (Qb Qz))) Nz)
  have bj := (k8.mono kX D).RK d (fun p hq => (Ml hq))
  obtain ⟨es, d, H, hB, n0⟩ := ST.tJ kX d (k8.mono kX D)
  refine bS j9 fun g x8 j9 => ?_
  let hd : Value := (.int .i64 ((g.1).oN))
  let hb : Value := (.int .i64 ((g.1).nU))
  let ha : Value := (.int .i64 ((g.1).ny))
  let gz : Value := (.int .i64 ((g.1).mW))
  let gv : Value := (.string (((g.1).kE).Name))
  let gu : Value := (.int .i64 (((g.1).mw).pE))
  let gt : Value := (.int .i64 (((g.1).mw).pD))
  let gs : Value := (.int .i64 (((g.1).Formula).K))
  let gr : Value := (.string (((g.1).Client).Name))
  let gl : Value := (.int .i64 (((g.1).Formula).Op))
  let fn := (((g.1).Formula).kD)
  let ic : Value := (.string (fn.kL))
  let hx : Value := (.string (fn.kE))
  refine VE (L8 d (aY _) call36 (fun hH F n L => (H5 dd hg hh hi hj hk hl _ _ ⟨hH, F, n⟩ (k0.mono kX.mono (D.trans H)) (k1.mono me.mono (D.trans H)) (n0.mono kX.mono (lu.refl _)) (k2.mono me.mono (D.trans H)) (k3.mono kN.mono (D.trans H)) (k4.mono oY.mono (D.trans H)) x8)) (fun dl dy f5 di d O hC x6 => ?_) (L0 := []))
  obtain ⟨ek, el, em, en, eo, ep, n1, rfl, r0, r1, k9, r2, r3, r4⟩ := x6
  replace n1 := n1.symm; subst n1
  replace d := d.perm Tn
  refine Wm (Wx rfl (Wx rfl (VE (lG d fA (fun dm d0 d => ?_)))))
  let fs : Value := (.pointer (some ⟨d0, 0, none⟩))
  obtain ⟨d1, d7, rfl⟩ := r0.form
  let fh : Value := (.slice d1 (((g.1).kE).kQ).length d7)
  obtain ⟨d2, d8, rfl⟩ := r1.form
  let fj : Value := (.slice d2 (((g.1).kE).li).length d8)
  obtain ⟨d3, d9, rfl⟩ := k9.form
  let fc : Value := (.slice d3 (((g.1).Client).kQ).length d9)
  obtain ⟨d4, e0, rfl⟩ := r2.form
  let fi : Value := (.slice d4 (((g.1).Client).li).length e0)
  obtain ⟨d5, e1, rfl⟩ := r3.form
  let fd : Value := (.slice d5 (((g.1).Formula).Kids).length e1)
  obtain ⟨d6, e2, rfl⟩ := r4.form
  let ft : Value := (.slice d6 ((g.1).Keys).length e2)
  let b8 := (#[gv, fh, fj, gr, fc, fi, gl, gs, hx, ic, fd, hd, gt, gu, gz, hb, ha, ft] : Array Value)
  refine VO (lh (.agg #[gv, fh, fj, gr, fc, fi, gl, gs, hx, ic, fd, hd, gt, gu, gz, hb, ha, ft]) (#[gv, fh, fj, gr, fc, fi, gl, gs, hx, ic, fd, hd, gt, gu, gz, hb, ha, ft]) d rfl rfl cF oc nb rfl (fun dn d => Wa (ln (kZ ?_))))
  replace d := d.drew
  have m := d.has.kH (Kb (Kr (Kb (Kb Sn))))
  refine mi m lN (X 0 rfl m (kT rfl) (X 1 rfl m (oq dW rfl m9) (X 2 rfl m (lR rfl rfl rfl) (X 3 rfl m (kT rfl) (PJ j9 (fun s1 E W => ∃ p5, ST false lU w W f5 ((d0, Obj.cells b8 93 (0, 0)) :: ((R, Ol g5 93) :: ((b1, Obj.cells et 52 (0, 0)) :: (j8 ++ p5)))) ∧ E 1 = hc ∧ E 4 = fg ∧ E 6 = fs ∧ E 7 = (.bool g.2) ∧ E 42 = (.bool s1)) (bm 50 1023) 40 ?_ (fun s1 e7 m5 => ?_))))))
  ·rintro cg E W ⟨p5, d, q2, q3, q4, w4, w5⟩ t3
   have m := d.has.kH (Kb (Sr (Qb (Qb Qz)) (Kb (Kb Sn))))
   refine X 10 rfl m (kT w5) (PJ t3 (fun s0 E W => ∃ p6, ST false lU w W f5 ((d0, Obj.cells b8 93 (0, 0)) :: ((R, Ol g5 93) :: ((b1, Obj.cells et 52 (0, 0)) :: (j8 ++ p6)))) ∧ E 1 = hc ∧ E 4 = fg ∧ E 6 = fs ∧ E 45 = (.bool s0)) (bm 50 8191) 37 ?_ (fun s0 f4 m4 => ?_))
   ·rintro ch E W ⟨p6, d, q5, q6, m6, w6⟩ t4
    have m := d.has.kH (Kb (Sr (Qb (Qb Qz)) (Kb (Kb Sn))))
    refine X 13 rfl m (kT w6) (PJ t4 (fun r9 E W => ∃ p7, ST false lU w W f5 ((d0, Obj.cells b8 93 (0, 0)) :: ((R, Ol g5 93) :: ((b1, Obj.cells et 52 (0, 0)) :: (j8 ++ p7)))) ∧ E 1 = hc ∧ E 4 = fg ∧ E 6 = fs ∧ E 52 = (.bool r9)) (bm 50 1048575) 30 ?_ (fun r9 f3 m3 => ?_))
    ·rintro ci E W ⟨p7, d, w7, q7, m7, w8⟩ t5
     have m := d.has.kH (Kb (Sr (Qb (Qb Qz)) (Kb (Kb Sn))))
     refine X 20 rfl m (kT w8) (PJ t5 (fun r8 E W => ∃ p8, ST false lU w W f5 ((d0, Obj.cells b8 93 (0, 0)) :: ((R, Ol g5 93) :: ((b1, Obj.cells et 52 (0, 0)) :: (j8 ++ p8)))) ∧ E 4 = fg ∧ E 6 = fs ∧ E 63 = (.bool r8)) (bm 50 2147483647) 19 ?_ (fun r8 e6 m2 => ?_))
     ·rintro cj E W ⟨p8, d, m8, q8, w9⟩ t6
      have m := d.has.kH (Kb (Sr (Qb (Qb Qz)) (Kb (Kb Sn))))
      refine X 31 rfl m (kT w9) (PJ t6 (fun r7 E W => ∃ p9, ST false lU w W f5 ((d0, Obj.cells b8 93 (0, 0)) :: ((R, Ol g5 93) :: ((b1, Obj.cells et 52 (0, 0)) :: (j8 ++ p9)))) ∧ E 4 = fg ∧ E 6 = fs ∧ E 68 = (.bool r7)) (bm 50 68719476735) 14 ?_ (fun r7 e5 m1 => ?_))
      ·rintro ck E W ⟨p9, d, q9, x1, x2⟩ t7
       have m := d.has.kH (Kb (Sr (Qb (Qb Qz)) (Kb (Kb Sn))))
       refine X 36 rfl m (kT x2) (PJ t7 (fun r6 E W => ∃ q0, ST false lU w W f5 ((d0, Obj.cells b8 93 (0, 0)) :: ((R, Ol g5 93) :: ((b1, Obj.cells et 52 (0, 0)) :: (j8 ++ q0)))) ∧ E 4 = fg ∧ E 73 = (.bool r6)) (bm 50 2199023255551) 9 ?_ (fun r6 e4 m0 => ?_))
       ·rintro cl E W ⟨q0, d, x3, x4⟩ t8
        have m := d.has.kH (Kb (Sr (Qb (Qb Qz)) (Kb (Kb Sn))))
        refine X 41 rfl m (kT x4) (PJ t8 (fun r5 E W => ∃ o3 q1, lu f5 o3 ∧ ST false lU w W o3 ((d0, Obj.cells b8 93 (0, 0)) :: ((R, Ol g5 93) :: ((b1, Obj.cells et 52 (0, 0)) :: (j8 ++ q1)))) ∧ E 81 = (.bool r5)) (bm 50 562949953421311) 1 ?_ (fun r5 e3 l9 => ?_))
        ·rintro cm E W ⟨o3, q1, s4, d, x5⟩ t9
         have m := d.has.pZ s4 (Kb (Sr (Qb (Qb Qz)) (Kb (Kb Sn))))
         refine X 49 rfl m (od x5) (mu kr (kU ?_))
         exact lC (rQ t9 d)
        refine bC e3 (fun G e3 => ?_) (fun G e3 => ?_)
        ·refine qQ 42 rfl rfl (cB G) m (fun _ q => kI x3 (kO q (Mt (Ma Mh)) g5 rfl dA cF)) (bS e3 fun x9 u4 e3 => ?_)
         refine Af 43 rfl rfl (cB G) (L8 d (aY _) call44 (fun hH F n L => ms.mR (vR dd hg hh hi hj hk hl 1 0 _ _ ⟨hH, F, n⟩ (k0.mono kX.mono ((D.trans H).trans O)) (k1.mono me.mono ((D.trans H).trans O)) (n0.mono kX.mono O) (k2.mono me.mono ((D.trans H).trans O)) (k3.mono kN.mono ((D.trans H).trans O)) (k4.mono oY.mono ((D.trans H).trans O)) u4)) (fun z8 bz y1 z2 d l8 aE s7 => ?_) (L0 := []))
         obtain ⟨cn, co, cp, cq, cr, ct, l1, rfl, v2, v3, o6, v4, v5, v6⟩ := s7
         replace l1 := l1.symm; subst l1
         replace d := d.perm Tn
         have m := d.has.pZ l8 (Kb (Sr (Qb (Qb Qz)) (Kb (Kb Sn))))
         refine ⟨m, ?_⟩
         obtain ⟨y7, ao, rfl⟩ := v2.form
         obtain ⟨y8, ap, rfl⟩ := v3.form
         obtain ⟨v7, w3, rfl⟩ := o6.form
         obtain ⟨y9, aq, rfl⟩ := v4.form
         obtain ⟨z0, ar, rfl⟩ := v5.form
         obtain ⟨z1, au, rfl⟩ := v6.form
         refine Xg 44 rfl rfl (cB G) m (OA (k := 3) eS rfl eC dC rfl rfl) (Xg 45 rfl rfl (cB G) m (Om (v := (.slice v7 (((x9).Client).kQ).length w3)) eJ rfl eX rfl rfl) (Xg 46 rfl rfl (cB G) m (ml bK rfl o6) (Xg 47 rfl rfl (cB G) m (lR rfl rfl rfl) (X 48 rfl m (lj (cB G) rfl) ?_))))
         obtain rfl := sj e3
         refine nu kr (l9 _ _ ⟨y1, _, l8, (d.kH St), rfl⟩)
        refine Xn 42 rfl rfl (cB G) m (Xn 43 rfl rfl (cB G) m (Xn 44 rfl rfl (cB G) m (Xn 45 rfl rfl (cB G) m (Xn 46 rfl rfl (cB G) m (Xn 47 rfl rfl (cB G) m (X 48 rfl m (ll (cB G) rfl) ?_))))))
        obtain rfl := sj e3
        refine nu kr (l9 _ _ ⟨f5, _, (lu.refl _), (d.kH St), rfl⟩)
       refine bC e4 (fun c9 e4 => ?_) (fun c9 e4 => ?_)
       ·refine qQ 37 rfl rfl (cB c9) m (fun _ q => kI x1 (kO q Mh [gv, fh, fj, gr, fc, fi, gl, gs, hx, ic, fd, hd, gt, gu, gz, hb, ha, ft] rfl dA cF)) (bS e4 fun bw u5 e4 => Af 38 rfl rfl (cB c9) (Eg d call42 (Bn g.1 fh fj fc fi fd ft _ _ (r0.mono kX.mono d.kM) (r1.mono me.mono d.kM) (k9.mono kX.mono d.kM) (r2.mono me.mono d.kM) (r3.mono kN.mono d.kM) (r4.mono oY.mono d.kM) u5) (fun z9 d => ?_)))
        have m := d.has.kH (Kb (Sr (Qb (Qb Qz)) (Kb (Kb Sn))))
        refine ⟨m, (Xg 39 rfl rfl (cB c9) m (lR rfl rfl rfl) (X 40 rfl m (lj (cB c9) rfl) ?_))⟩
        obtain rfl := sj e4
        refine nu kr (m0 _ _ ⟨_, (d.kH St), q9, rfl⟩)
       refine Xn 37 rfl rfl (cB c9) m (Xn 38 rfl rfl (cB c9) m (Xn 39 rfl rfl (cB c9) m (X 40 rfl m (ll (cB c9) rfl) ?_)))
       obtain rfl := sj e4
       refine nu kr (m0 _ _ ⟨_, (d.kH St), q9, rfl⟩)
      refine bC e5 (fun c8 e5 => ?_) (fun c8 e5 => ?_)
      ·refine qQ 32 rfl rfl (cB c8) m (fun _ q => kI m8 (kO q (Mt (Ma Mh)) g5 rfl dA cF)) (bS e5 fun bx u6 e5 => Af 33 rfl rfl (cB c8) (Eg d call42 (Bn dd hg hh hi hj hk hl _ _ (k0.mono kX.mono (((D.trans H).trans O).trans d.kM)) (k1.mono me.mono (((D.trans H).trans O).trans d.kM)) (n0.mono kX.mono (O.trans d.kM)) (k2.mono me.mono (((D.trans H).trans O).trans d.kM)) (k3.mono kN.mono (((D.trans H).trans O).trans d.kM)) (k4.mono oY.mono (((D.trans H).trans O).trans d.kM)) u6) (fun aa d => ?_)))
       have m := d.has.kH (Kb (Sr (Qb (Qb Qz)) (Kb (Kb Sn))))
       refine ⟨m, (Xg 34 rfl rfl (cB c8) m (lR rfl rfl rfl) (X 35 rfl m (lj (cB c8) rfl) ?_))⟩
       obtain rfl := sj e5
       refine nu kr (m1 _ _ ⟨_, (d.kH St), m8, q8, rfl⟩)
      refine Xn 32 rfl rfl (cB c8) m (Xn 33 rfl rfl (cB c8) m (Xn 34 rfl rfl (cB c8) m (X 35 rfl m (ll (cB c8) rfl) ?_)))
      obtain rfl := sj e5
      refine nu kr (m1 _ _ ⟨_, (d.kH St), m8, q8, rfl⟩)
     refine bC e6 (fun y e6 => ?_) (fun y e6 => ?_)
     ·refine Xg 21 rfl rfl (cB y) m (kP vT m7) (Xg 22 rfl rfl (cB y) m (kP oU rfl) (qQ 23 rfl rfl (cB y) m (fun _ q => kI rfl (lg q Mh rfl eX)) (bS e6 fun P o5 e6 => rX 24 rfl kr (.inr ⟨20, true, 53, rfl, rfl, by decide, (cB y)⟩) rfl dc (fun _ _ h => h) m (mU (i := 0) (x0 := P) kY.out bK cR rfl rfl k9 (lM o5) (lK o5)) (fun bs ⟨_, ⟨y0, ca, rfl, y5, y6⟩, u0⟩ => rX 25 rfl kr (.inr ⟨20, true, 53, rfl, rfl, by decide, (cB y)⟩) rfl dc (fun _ _ h => h) m (zt [(.int .i64 P.Signed.kF.Kind), (.string P.Signed.kF.Head.kE), (.string P.Signed.kF.Head.kL), (.string P.Signed.kF.ma), (.string P.Signed.kF.B.kE), (.string P.Signed.kF.B.kL), (.string P.Signed.kF.C.kE), (.string P.Signed.kF.C.kL), (.string P.Signed.kF.mc), y0] wP rfl u0 rfl) (fun bt u1 => rX 26 rfl kr (.inr ⟨20, true, 53, rfl, rfl, by decide, (cB y)⟩) rfl dc (fun _ _ h => h) m (zt (kK P.Signed.kF) yB rfl u1 rfl) (fun bu u2 => qQ 27 rfl rfl (cB y) m (fun _ q => kI rfl (lB q u2 bX aO)) (qQ 28 rfl rfl (cB y) m (fun _ q => kI w7 (kO q (Mt (Ma (Mt Mh))) (kK Du) rfl bX aO)) (Xg 29 rfl rfl (cB y) m (uY rfl rfl (nW fK) (ra (vN _ P.Signed.kF Du))) (X 30 rfl m (lj (cB y) rfl) ?_)))))))))
      obtain rfl := sj e6
      refine nu kr (m2 _ _ ⟨_, (d.kH St), q7, m7, rfl⟩)
     refine Xn 21 rfl rfl (cB y) m (Xn 22 rfl rfl (cB y) m (Xn 23 rfl rfl (cB y) m (Xn 24 rfl rfl (cB y) m (Xn 25 rfl rfl (cB y) m (Xn 26 rfl rfl (cB y) m (Xn 27 rfl rfl (cB y) m (Xn 28 rfl rfl (cB y) m (Xn 29 rfl rfl (cB y) m (X 30 rfl m (ll (cB y) rfl) ?_)))))))))
     obtain rfl := sj e6
     refine nu kr (m2 _ _ ⟨_, (d.kH St), q7, m7, rfl⟩)
    refine bC f3 (fun Z f3 => ?_) (fun Z f3 => ?_)
    ·refine Xg 14 rfl rfl (cB Z) m (kP vT m6) (Xg 15 rfl rfl (cB Z) m (kP oU rfl) (qQ 16 rfl rfl (cB Z) m (fun _ q => kI rfl (lg q Mh rfl eX)) (Xg 17 rfl rfl (cB Z) m (ml bK rfl k9) (Xg 18 rfl rfl (cB Z) m (lR rfl rfl rfl) (X 19 rfl m (lj (cB Z) rfl) ?_)))))
     obtain rfl := sj f3
     refine nu kr (m3 _ _ ⟨_, (d.kH St), q5, q6, m6, rfl⟩)
    refine Xn 14 rfl rfl (cB Z) m (Xn 15 rfl rfl (cB Z) m (Xn 16 rfl rfl (cB Z) m (Xn 17 rfl rfl (cB Z) m (Xn 18 rfl rfl (cB Z) m (X 19 rfl m (ll (cB Z) rfl) ?_)))))
    obtain rfl := sj f3
    refine nu kr (m3 _ _ ⟨_, (d.kH St), q5, q6, m6, rfl⟩)
   refine bC f4 (fun f2 f4 => ?_) (fun f2 f4 => ?_)
   ·refine Xg 11 rfl rfl (cB f2) m (kT w4) (X 12 rfl m (lj (cB f2) rfl) ?_)
    obtain rfl := sj f4
    refine nu kr (m4 _ _ ⟨_, (d.kH St), q2, q3, q4, rfl⟩)
   refine Xn 11 rfl rfl (cB f2) m (X 12 rfl m (ll (cB f2) rfl) ?_)
   obtain rfl := sj f4
   refine nu kr (m4 _ _ ⟨_, (d.kH St), q2, q3, q4, rfl⟩)
  refine bC e7 (fun Y e7 => ?_) (fun Y e7 => ?_)
  ·refine Xg 4 rfl rfl (cB Y) m (kT rfl) (bS e7 fun s2 l7 e7 => rX 5 rfl kr (.inr ⟨3, true, 36, rfl, rfl, by decide, (cB Y)⟩) rfl dc (fun _ _ h => h) m (pg (i := 0) (x0 := s2) dW jl rfl rfl m9 (lM l7) (lK l7)) (fun bv u3 => qQ 6 rfl rfl (cB Y) m (fun _ q => kI rfl (uc q (fun p hq => (Mt (Ml hq))) m9 si u3 (lK l7) isAgg91 jl)) (Xg 7 rfl rfl (cB Y) m (mB (v := (.agg (mE (⟨1, 0⟩ : mj)).toArray)) (oJ rfl rfl) (zG gQ fQ fP kr)) (Xg 8 rfl rfl (cB Y) m (uY rfl rfl (nW eqGuardType91) (ra (Gh _ s2 (⟨1, 0⟩ : mj)))) (X 9 rfl m (lj (cB Y) rfl) ?_)))))
   obtain rfl := sj e7
   refine nu kr (m5 _ _ ⟨_, (d.kH (Kb (Sb (Pr Pz) (Sb (Pr Pz) St)))), s6, l0, rfl, rfl, rfl⟩)
  refine Xn 4 rfl rfl (cB Y) m (Xn 5 rfl rfl (cB Y) m (Xn 6 rfl rfl (cB Y) m (Xn 7 rfl rfl (cB Y) m (Xn 8 rfl rfl (cB Y) m (X 9 rfl m (ll (cB Y) rfl) ?_)))))
  obtain rfl := sj e7
  refine nu kr (m5 _ _ ⟨_, (d.kH (Kb (Sb (Pr Pz) (Sb (Pr Pz) St)))), s6, l0, rfl, rfl, rfl⟩)
 refine AW 3 13 rfl rfl kr (.inl rfl) (.inl rfl) rfl rfl dc dc ?_ ?_
 ·refine bS J fun a u7 J => ?_
  let fb := (((a).Signed).Tag)
  let ev := (((a).kJ).Kids)
  let eq : Value := (.int .i64 (((a).kJ).K))
  let dz : Value := (.int .i64 (((a).kJ).Op))
  let dp := (((a).kJ).kD)
  let fp : Value := (.string (dp.kL))
  let fm : Value := (.string (dp.kE))
  let g6 := (((a).Signed).kF)
  let fu : Value := (.string (g6.ma))
  let fl : Value := (.string (g6.mc))
  let fk : Value := (.int .i64 (g6.Kind))
  let ff : Value := (.string ((g6.C).kL))
  let fe : Value := (.string ((g6.B).kL))
  let fa : Value := (.string ((g6.C).kE))
  let ez : Value := (.string ((g6.B).kE))
  let ey : Value := (.string ((g6.Head).kL))
  let eu : Value := (.string ((g6.Head).kE))
  refine GP (args := [gx]) (caps := #[]) [] _ d (aY _) rfl call97 (by exact wE rfl) (fun hH F n L => ms.mR (uX Du _ _ ⟨hH, F, n⟩  u7)) (fun ab cb dg z3 d I cS s8 => ?_)
  obtain ⟨cu, cv, l2, rfl, f0, f1⟩ := s8
  replace l2 := l2.symm; subst l2
  replace d := d.perm Tn
  have m := d.has.pZ I (Kb (Kb Sn))
  refine ⟨m, (AW 6 13 rfl rfl kr (.inl rfl) (.inl rfl) rfl rfl dc dc ?_ ?_)⟩
  ·refine bS J fun c u8 J => ?_
   let fv := (((c).kJ).Kids)
   let fq : Value := (.int .i64 (((c).kJ).K))
   let fo : Value := (.int .i64 (((c).kJ).Op))
   let ew := (((c).kJ).kD)
   let gw : Value := (.string (ew.kL))
   let gp : Value := (.string (ew.kE))
   let j1 := (((c).Signed).kF)
   let gy : Value := (.string (j1.ma))
   let go : Value := (.string (j1.mc))
   let gk : Value := (.int .i64 (j1.Kind))
   let gj : Value := (.string ((j1.C).kL))
   let gi : Value := (.string ((j1.B).kL))
   let gh : Value := (.string ((j1.C).kE))
   let gg : Value := (.string ((j1.B).kE))
   let fz : Value := (.string ((j1.Head).kL))
   let fw : Value := (.string ((j1.Head).kE))
   refine GP (args := [(.agg (kK bb).toArray)]) (caps := #[]) [] _ d (aY _) rfl call97 (by exact wE rfl) (fun hH F n L => ms.mR (uX bb _ _ ⟨hH, F, n⟩  u8)) (fun ac cc s3 z4 d a0 eI s9 => ?_)
   obtain ⟨cw, cx, l3, rfl, k5, k6⟩ := s9
   replace l3 := l3.symm; subst l3
   replace d := d.perm Tn
   have m := d.has.pZ (I.trans a0) (Kb (Kb Sn))
   refine ⟨m, (AW 7 13 rfl rfl kr (.inl rfl) (.inl rfl) rfl rfl dc dc ?_ ?_)⟩
   ·obtain ⟨f6, h8, rfl⟩ := f0.form
    let hn : Value := (.slice f6 fb.length h8)
    obtain ⟨f7, h9, rfl⟩ := f1.form
    let ho : Value := (.slice f7 ev.length h9)
    obtain ⟨f8, i0, rfl⟩ := k5.form
    let ge : Value := (.slice f8 (((c).Signed).Tag).length i0)
    obtain ⟨f9, i1, rfl⟩ := k6.form
    let hr : Value := (.slice f9 fv.length i1)
    refine lD (cs := #[fk, eu, ey, fu, ez, fe, fa, ff, fl, hn, dz, eq, fm, fp, ho, gk, fw, fz, gy, gg, gi, gh, gj, go, ge, fo, fq, gp, gw, hr]) d (oJ rfl rfl) (nj bK cR eG) (fun ad h4 d => ?_)
    have m := d.has.pZ (I.trans a0) (Db (Kb (Kb Sn)))
    refine ⟨m, (X 8 rfl m (mB (v := (.agg (P0 h4).toArray)) (oJ rfl rfl) (mn jV eJ (KF _ eJ) kr)) (X 12 rfl m (mB (v := (.agg (Ql h4).toArray)) (A8 rfl rfl rfl) (mn fA eS (MW _ eS) kr)) (XE 13 rfl (lG d fA (fun ae v9 d => ?_)))))⟩
    have m := d.has.pZ (I.trans a0) (Db (Db (Kb (Kb Sn))))
    refine ⟨m, ?_⟩
    obtain rfl := sj J
    replace d := d.perm (Nb (Pb Pz) Nz)
    replace d := d.Bk
    refine nu kr (j7 _ _ ⟨v9, (.slice none 0 0), (.slice none 0 0), (.slice (some ⟨h4, 0, none⟩) 2 2), [(h4, Ob #[fk, eu, ey, fu, ez, fe, fa, ff, fl, hn, dz, eq, fm, fp, ho, gk, fw, fz, gy, gg, gi, gh, gj, go, ge, fo, fq, gp, gw, hr] 60)], (.slice none 0 0), (.slice none 0 0), (.slice none 0 0), (.slice none 0 0), (.slice none 0 0), (.slice none 0 0), (.slice none 0 0), (.slice none 0 0), (.slice none 0 0), s3, _, (I.trans a0), (d.kH (Sb (Pr Pz) (Sb (Pr Pz) (Sb (Pr Pz) St)))), rfl, rfl, rfl, (Sl.nil _ _ _), (Fr.nil _), (Sl.nil _ _ _), (Fr.nil _), (lY.lit kX (l := [a, c]) (.cons (ys := [fk, eu, ey, fu, ez, fe, fa, ff, fl, hn, dz, eq, fm, fp, ho]) (kY.mk ⟨hn, ho, rfl, (f0.mono (Pl.mono _) a0), (f1.mono kN.mono a0)⟩) (.cons (ys := [gk, fw, fz, gy, gg, gi, gh, gj, go, ge, fo, fq, gp, gw, hr]) (kY.mk ⟨ge, hr, rfl, k5, k6⟩) .nil)) rfl nb rfl), (Sl.nil _ _ _), (Fr.nil _), (Sl.nil _ _ _), (Fr.nil _), (Sl.nil _ _ _), (Fr.nil _), (Sl.nil _ _ _), (Fr.nil _), (Sl.nil _ _ _), (Fr.nil _), (Sl.nil _ _ _), (Fr.nil _), (Sl.nil _ _ _), (Fr.nil _), (Sl.nil _ _ _), (Fr.nil _), (Sl.nil _ _ _), (Fr.nil _)⟩)
   ·refine lG d fA (fun af w0 d => ?_)
    have m := d.has.pZ (I.trans a0) (Db (Kb (Kb Sn)))
    refine ⟨m, ?_⟩
    obtain ⟨g0, i2, rfl⟩ := f0.form
    let hs : Value := (.slice g0 fb.length i2)
    obtain ⟨g1, i3, rfl⟩ := f1.form
    let ht : Value := (.slice g1 ev.length i3)
    obtain ⟨g2, i4, rfl⟩ := k5.form
    let gf : Value := (.slice g2 (((c).Signed).Tag).length i4)
    obtain ⟨g3, i5, rfl⟩ := k6.form
    let hu : Value := (.slice g3 fv.length i5)
    refine XE 7 rfl (lD (cs := #[fk, eu, ey, fu, ez, fe, fa, ff, fl, hs, dz, eq, fm, fp, ht, gk, fw, fz, gy, gg, gi, gh, gj, go, gf, fo, fq, gp, gw, hu]) d (oJ rfl rfl) (nj bK cR eG) (fun ag h5 d => ?_))
    have m := d.has.pZ (I.trans a0) (Db (Db (Kb (Kb Sn))))
    refine ⟨m, (X 8 rfl m (mB (v := (.agg (P0 h5).toArray)) (oJ rfl rfl) (mn jV eJ (KF _ eJ) kr)) (X 12 rfl m (mB (v := (.agg (Ql h5).toArray)) (A8 rfl rfl rfl) (mn fA eS (MW _ eS) kr)) ?_))⟩
    obtain rfl := sj J
    replace d := d.Bk
    refine nu kr (j7 _ _ ⟨w0, (.slice none 0 0), (.slice none 0 0), (.slice (some ⟨h5, 0, none⟩) 2 2), [(h5, Ob #[fk, eu, ey, fu, ez, fe, fa, ff, fl, hs, dz, eq, fm, fp, ht, gk, fw, fz, gy, gg, gi, gh, gj, go, gf, fo, fq, gp, gw, hu] 60)], (.slice none 0 0), (.slice none 0 0), (.slice none 0 0), (.slice none 0 0), (.slice none 0 0), (.slice none 0 0), (.slice none 0 0), (.slice none 0 0), (.slice none 0 0), s3, _, (I.trans a0), (d.kH (Sb (Pr Pz) (Sb (Pr Pz) (Sb (Pr Pz) St)))), rfl, rfl, rfl, (Sl.nil _ _ _), (Fr.nil _), (Sl.nil _ _ _), (Fr.nil _), (lY.lit kX (l := [a, c]) (.cons (ys := [fk, eu, ey, fu, ez, fe, fa, ff, fl, hs, dz, eq, fm, fp, ht]) (kY.mk ⟨hs, ht, rfl, (f0.mono (Pl.mono _) a0), (f1.mono kN.mono a0)⟩) (.cons (ys := [gk, fw, fz, gy, gg, gi, gh, gj, go, gf, fo, fq, gp, gw, hu]) (kY.mk ⟨gf, hu, rfl, k5, k6⟩) .nil)) rfl nb rfl), (Sl.nil _ _ _), (Fr.nil _), (Sl.nil _ _ _), (Fr.nil _), (Sl.nil _ _ _), (Fr.nil _), (Sl.nil _ _ _), (Fr.nil _), (Sl.nil _ _ _), (Fr.nil _), (Sl.nil _ _ _), (Fr.nil _), (Sl.nil _ _ _), (Fr.nil _), (Sl.nil _ _ _), (Fr.nil _), (Sl.nil _ _ _), (Fr.nil _)⟩)
  ·refine lG d fA (fun ah w1 d => ?_)
   have m := d.has.pZ I (Db (Kb (Kb Sn)))
   refine ⟨m, (bS J fun j u9 J => ?_)⟩
   let ib : Value := (.int .i64 (((j).kJ).K))
   let hy : Value := (.int .i64 (((j).kJ).Op))
   let gq := (((j).kJ).kD)
   let v8 := (((j).Signed).kF)
   let iq : Value := (.string ((v8.C).kE))
   let ip : Value := (.string ((v8.B).kE))
   let ij : Value := (.string ((v8.Head).kL))
   let ig : Value := (.string ((v8.Head).kE))
   refine XE 6 rfl (L8 d (aY _) call97 (fun hH F n L => ms.mR (uX bb _ _ ⟨hH, F, n⟩  u9)) (fun ai cd y2 z5 d e8 eN t0 => ?_) (L0 := []))
   obtain ⟨cy, cz, l4, rfl, o7, o8⟩ := t0
   replace l4 := l4.symm; subst l4
   replace d := d.perm Tn
   have m := d.has.pZ (I.trans e8) (Db (Kb (Kb Sn)))
   refine ⟨m, ?_⟩
   obtain ⟨g4, i6, rfl⟩ := f0.form
   let he : Value := (.slice g4 fb.length i6)
   obtain ⟨g7, i7, rfl⟩ := f1.form
   let hf : Value := (.slice g7 ev.length i7)
   obtain ⟨g8, i8, rfl⟩ := o7.form
   let gd : Value := (.slice g8 (((j).Signed).Tag).length i8)
   obtain ⟨g9, i9, rfl⟩ := o8.form
   let ga : Value := (.slice g9 (((j).kJ).Kids).length i9)
   refine XE 7 rfl (lD (cs := #[fk, eu, ey, fu, ez, fe, fa, ff, fl, he, dz, eq, fm, fp, hf, (.int .i64 (v8.Kind)), ig, ij, (.string (v8.ma)), ip, (.string ((v8.B).kL)), iq, (.string ((v8.C).kL)), (.string (v8.mc)), gd, hy, ib, (.string (gq.kE)), (.string (gq.kL)), ga]) d (oJ rfl rfl) (nj bK cR eG) (fun aj h6 d => ?_))
   have m := d.has.pZ (I.trans e8) (Db (Db (Kb (Kb Sn))))
   refine ⟨m, (X 8 rfl m (mB (v := (.agg (P0 h6).toArray)) (oJ rfl rfl) (mn jV eJ (KF _ eJ) kr)) (X 12 rfl m (mB (v := (.agg (Ql h6).toArray)) (A8 rfl rfl rfl) (mn fA eS (MW _ eS) kr)) ?_))⟩
   obtain rfl := sj J
   replace d := d.Bk
   refine nu kr (j7 _ _ ⟨w1, (.slice none 0 0), (.slice none 0 0), (.slice (some ⟨h6, 0, none⟩) 2 2), [(h6, Ob #[fk, eu, ey, fu, ez, fe, fa, ff, fl, he, dz, eq, fm, fp, hf, (.int .i64 (v8.Kind)), ig, ij, (.string (v8.ma)), ip, (.string ((v8.B).kL)), iq, (.string ((v8.C).kL)), (.string (v8.mc)), gd, hy, ib, (.string (gq.kE)), (.string (gq.kL)), ga] 60)], (.slice none 0 0), (.slice none 0 0), (.slice none 0 0), (.slice none 0 0), (.slice none 0 0), (.slice none 0 0), (.slice none 0 0), (.slice none 0 0), (.slice none 0 0), y2, _, (I.trans e8), (d.kH (Sb (Pr Pz) (Sb (Pr Pz) (Sb (Pr Pz) St)))), rfl, rfl, rfl, (Sl.nil _ _ _), (Fr.nil _), (Sl.nil _ _ _), (Fr.nil _), (lY.lit kX (l := [a, j]) (.cons (ys := [fk, eu, ey, fu, ez, fe, fa, ff, fl, he, dz, eq, fm, fp, hf]) (kY.mk ⟨he, hf, rfl, (f0.mono (Pl.mono _) e8), (f1.mono kN.mono e8)⟩) (.cons (ys := [(.int .i64 (v8.Kind)), ig, ij, (.string (v8.ma)), ip, (.string ((v8.B).kL)), iq, (.string ((v8.C).kL)), (.string (v8.mc)), gd, hy, ib, (.string (gq.kE)), (.string (gq.kL)), ga]) (kY.mk ⟨gd, ga, rfl, o7, o8⟩) .nil)) rfl nb rfl), (Sl.nil _ _ _), (Fr.nil _), (Sl.nil _ _ _), (Fr.nil _), (Sl.nil _ _ _), (Fr.nil _), (Sl.nil _ _ _), (Fr.nil _), (Sl.nil _ _ _), (Fr.nil _), (Sl.nil _ _ _), (Fr.nil _), (Sl.nil _ _ _), (Fr.nil _), (Sl.nil _ _ _), (Fr.nil _), (Sl.nil _ _ _), (Fr.nil _)⟩)
 ·refine lG d fA (fun ak w2 d => ?_)
  have m := d.has.kH (Db (Kb (Kb Sn)))
  refine ⟨m, (bS J fun t v0 J => ?_)⟩
  let hz : Value := (.int .i64 (((t).kJ).K))
  let hv : Value := (.int .i64 (((t).kJ).Op))
  let gm := (((t).kJ).kD)
  let j2 := (((t).Signed).kF)
  let it : Value := (.string ((j2.C).kL))
  let ir : Value := (.string ((j2.B).kL))
  let il : Value := (.string ((j2.C).kE))
  let ik : Value := (.string ((j2.B).kE))
  let ih : Value := (.string ((j2.Head).kL))
  let id : Value := (.string ((j2.Head).kE))
  refine XE 3 rfl (L8 d (aY _) call97 (fun hH F n L => ms.mR (uX Du _ _ ⟨hH, F, n⟩  v0)) (fun al ce dh z6 d j6 eR t1 => ?_) (L0 := []))
  obtain ⟨da, db, l5, rfl, o9, p0⟩ := t1
  replace l5 := l5.symm; subst l5
  replace d := d.perm Tn
  have m := d.has.pZ j6 (Db (Kb (Kb Sn)))
  refine ⟨m, (bS J fun u v1 J => ?_)⟩
  let ia : Value := (.int .i64 (((u).kJ).K))
  let hw : Value := (.int .i64 (((u).kJ).Op))
  let gn := (((u).kJ).kD)
  let A := (((u).Signed).kF)
  let iv : Value := (.string ((A.C).kL))
  let iu : Value := (.string ((A.B).kL))
  let io : Value := (.string ((A.C).kE))
  let im : Value := (.string ((A.B).kE))
  let ii : Value := (.string ((A.Head).kL))
  let ie : Value := (.string ((A.Head).kE))
  refine XE 6 rfl (L8 d (aY _) call97 (fun hH F n L => ms.mR (uX bb _ _ ⟨hH, F, n⟩  v1)) (fun am cf y3 z7 d e9 gR t2 => ?_) (L0 := []))
  obtain ⟨de, df, l6, rfl, p1, p2⟩ := t2
  replace l6 := l6.symm; subst l6
  replace d := d.perm Tn
  have m := d.has.pZ (j6.trans e9) (Db (Kb (Kb Sn)))
  refine ⟨m, ?_⟩
  obtain ⟨h0, j0, rfl⟩ := o9.form
  let gb : Value := (.slice h0 (((t).Signed).Tag).length j0)
  obtain ⟨h1, j3, rfl⟩ := p0.form
  let fx : Value := (.slice h1 (((t).kJ).Kids).length j3)
  obtain ⟨h2, j4, rfl⟩ := p1.form
  let gc : Value := (.slice h2 (((u).Signed).Tag).length j4)
  obtain ⟨h3, j5, rfl⟩ := p2.form
  let fy : Value := (.slice h3 (((u).kJ).Kids).length j5)
  refine XE 7 rfl (lD (cs := #[(.int .i64 (j2.Kind)), id, ih, (.string (j2.ma)), ik, ir, il, it, (.string (j2.mc)), gb, hv, hz, (.string (gm.kE)), (.string (gm.kL)), fx, (.int .i64 (A.Kind)), ie, ii, (.string (A.ma)), im, iu, io, iv, (.string (A.mc)), gc, hw, ia, (.string (gn.kE)), (.string (gn.kL)), fy]) d (oJ rfl rfl) (nj bK cR eG) (fun an h7 d => ?_))
  have m := d.has.pZ (j6.trans e9) (Db (Db (Kb (Kb Sn))))
  refine ⟨m, (X 8 rfl m (mB (v := (.agg (P0 h7).toArray)) (oJ rfl rfl) (mn jV eJ (KF _ eJ) kr)) (X 12 rfl m (mB (v := (.agg (Ql h7).toArray)) (A8 rfl rfl rfl) (mn fA eS (MW _ eS) kr)) ?_))⟩
  obtain rfl := sj J
  replace d := d.Bk
  refine nu kr (j7 _ _ ⟨w2, (.slice none 0 0), (.slice none 0 0), (.slice (some ⟨h7, 0, none⟩) 2 2), [(h7, Ob #[(.int .i64 (j2.Kind)), id, ih, (.string (j2.ma)), ik, ir, il, it, (.string (j2.mc)), gb, hv, hz, (.string (gm.kE)), (.string (gm.kL)), fx, (.int .i64 (A.Kind)), ie, ii, (.string (A.ma)), im, iu, io, iv, (.string (A.mc)), gc, hw, ia, (.string (gn.kE)), (.string (gn.kL)), fy] 60)], (.slice none 0 0), (.slice none 0 0), (.slice none 0 0), (.slice none 0 0), (.slice none 0 0), (.slice none 0 0), (.slice none 0 0), (.slice none 0 0), (.slice none 0 0), y3, _, (j6.trans e9), (d.kH (Sb (Pr Pz) (Sb (Pr Pz) (Sb (Pr Pz) St)))), rfl, rfl, rfl, (Sl.nil _ _ _), (Fr.nil _), (Sl.nil _ _ _), (Fr.nil _), (lY.lit kX (l := [t, u]) (.cons (ys := [(.int .i64 (j2.Kind)), id, ih, (.string (j2.ma)), ik, ir, il, it, (.string (j2.mc)), gb, hv, hz, (.string (gm.kE)), (.string (gm.kL)), fx]) (kY.mk ⟨gb, fx, rfl, (o9.mono (Pl.mono _) e9), (p0.mono kN.mono e9)⟩) (.cons (ys := [(.int .i64 (A.Kind)), ie, ii, (.string (A.ma)), im, iu, io, iv, (.string (A.mc)), gc, hw, ia, (.string (gn.kE)), (.string (gn.kL)), fy]) (kY.mk ⟨gc, fy, rfl, p1, p2⟩) .nil)) rfl nb rfl), (Sl.nil _ _ _), (Fr.nil _), (Sl.nil _ _ _), (Fr.nil _), (Sl.nil _ _ _), (Fr.nil _), (Sl.nil _ _ _), (Fr.nil _), (Sl.nil _ _ _), (Fr.nil _), (Sl.nil _ _ _), (Fr.nil _), (Sl.nil _ _ _), (Fr.nil _), (Sl.nil _ _ _), (Fr.nil _), (Sl.nil _ _ _), (Fr.nil _)⟩)
theorem Ep (k : Value) (u : List kF) (r : Int) (w : World) (j : Sl (Pl kK) 9 (hp w) k u) (hm : wK u = some r) :
  lE true Tryz.prog 18 [k] w (.int .i64 r) := by
 refine cG 54 func18 rfl (fun b => sg (Wa (lr (Wa (lS (Wm ?_))))))
 refine V (ml aS rfl j) (Wm (ln (mf (fun i E W => ∃ g t, (E 8 = .int .i64 (i : Nat) ∧ E 7 = .int .i64 (u.length : Nat)) ∧ ST true lU w W (hp w) t ∧ E 3 = (.int .i64 g) ∧ E 6 = k ∧ sQ (u.drop i) g = some r) u.length j.len ⟨0, _, ⟨rfl, rfl⟩, (b.kH St), rfl, rfl, hm⟩ dc dc dc (fun _ _ _ h => by obtain ⟨_, _, l, _⟩ := h; exact l) ?_ ?_)))
 ·rintro I E W z ⟨g, t, ⟨d, m⟩, b, x, y, c⟩
  obtain ⟨a, J, G, D, H⟩ := lT z
  rw [G] at c
  refine bg (VQ (oH (enc := kK) (i := (I : Int)) (x0 := a) aS aO y d j (aH _) D) (fun Q B => V (kI rfl (lB b.has B bX aO)) (VE (lG b cW (fun K N b => VO (lh (.agg (kK a).toArray) ((kK a).toArray) b rfl rfl aO (oQ a) nb rfl (fun M b => ln (kW (Wh x (Wf rJ (Wf qi (VB b Mh rfl rfl bW (V (pA cD rfl) ?_)))))))))))))
  refine Wi rfl (Wf rJ (Wf uN (VB b Mh rfl rfl bW (V (pA cD rfl) (Wi rfl (Wf xH (VB b Mh rfl rfl bW (V (pA cD rfl) (Wi rfl (Wf oP (Wf qi (VB b Mh rfl rfl bW (V (pA cD rfl) (Wi rfl ?_))))))))))))))
  refine Wf oP (Wf uN (VB b Mh rfl rfl bW (V (pA cD rfl) (Wi rfl (Wf tD (Wf qi (VB b Mh rfl rfl bW (V (pA cD rfl) (Wi rfl (Wf tD (Wf uN (VB b Mh rfl rfl bW (V (pA cD rfl) (Wi rfl ?_))))))))))))))
  refine Wf vA (VB b Mh rfl rfl bW (V (pA cD rfl) (Wi rfl (Wi rfl (Wa (lH (lL (kU ?_))))))))
  replace b := b.kH (Db St)
  exact ⟨d, (IntKind.i64.wrap (g + (IntKind.i64.wrap ((IntKind.i64.wrap ((IntKind.i64.wrap ((IntKind.i64.wrap ((IntKind.i64.wrap ((IntKind.i64.wrap ((IntKind.i64.wrap ((IntKind.i64.wrap (20 + (a.Head.kE.size : Int))) + (a.Head.kL.size : Int))) + (a.ma.size : Int))) + (a.B.kE.size : Int))) + (a.B.kL.size : Int))) + (a.C.kE.size : Int))) + (a.C.kL.size : Int))) + (a.mc.size : Int))))), _, ⟨rfl, m⟩, (b.kH St), rfl, y, (by rw [H]; exact c)⟩
 rintro E W ⟨g, t, ⟨d, m⟩, b, x, y, c⟩
 rw [aI] at c
 exact kU (sg (Wh x (Wa (lt (rQ c b)))))
theorem yQ (H : Value) (Q : List Key) (u : Value) (J : List Signed) (r : Int) (w : World) (B : Sl ou 2 (hp w) H Q) (D : Sl uz 10 (hp w) u J) (hm : vo Q J = some r) :
  lE true Tryz.prog 17 [H, u] w (.int .i64 r) := by
 refine cG 45 func17 rfl (fun b => sg (Wa (lr (Wa (lS (Wm ?_))))))
 refine V (ml underlying37 rfl B) (Wm (ln (mf (fun i E W => ∃ t N, (E 12 = .int .i64 (i : Nat) ∧ E 11 = .int .i64 (Q.length : Nat)) ∧ ST true lU w W (hp w) N ∧ E 1 = u ∧ E 5 = (.int .i64 t) ∧ E 10 = H ∧ rE J (Q.drop i) t = some r) Q.length B.len ⟨0, _, ⟨rfl, rfl⟩, (b.kH St), rfl, rfl, rfl, hm⟩ dc dc dc (fun _ _ _ h => by obtain ⟨_, _, n, _⟩ := h; exact n) ?_ ?_)))
 ·rintro c3 E W b5 ⟨t, N, ⟨m, p⟩, b, U, Y, Z, g⟩
  obtain ⟨k, d4, b9, b7, c0⟩ := lT b5
  rw [b9] at g
  refine bg (VQ (mU (i := (c3 : Int)) (x0 := k) ou.out underlying37 sizeOf118 Z m B (aH _) b7) (fun d8 ⟨_, ⟨d9, rfl, a2⟩, b6⟩ => V (kI rfl (lB b.has b6 isAgg118 sizeOf118)) (VE (lG b zeroValue118 (fun d5 d7 b => ?_)))))
  obtain ⟨s, v, rfl⟩ := a2.form
  refine VO (lh (.agg #[(.string k.ma), (.slice s k.Key.length v)]) (#[(.string k.ma), (.slice s k.Key.length v)]) b rfl rfl sizeOf118 oc nb rfl (fun d6 b => ln (kW (Wh Y (Wf QO (VB b Mh rfl rfl bW (V (pA cD rfl) (Wi rfl (Wf QV (VB b Mh rfl rfl km (V (ml cV rfl a2) (Wi rfl (Wi rfl (Wa ?_))))))))))))))
  refine lH (lL (kU ?_))
  replace b := b.kH (Db St)
  exact ⟨m, (IntKind.i64.wrap (t + (IntKind.i64.wrap ((IntKind.i64.wrap (10 + (k.ma.size : Int))) + (k.Key.length : Int))))), _, ⟨rfl, p⟩, (b.kH St), U, rfl, Z, (by rw [c0]; exact g)⟩
 rintro E W ⟨t, N, ⟨m, p⟩, b, U, Y, Z, g⟩
 rw [aI] at g
 refine kU (kZ (sg (Wh U (V (ml kp rfl D) (Wm (ln (CJ g (fun G E W => ∃ M, ST true lU w W (hp w) M ∧ E 5 = (.int .i64 G)) (fun G a5 => ?_) ?_)))))))
 ·refine mf (fun i E W => ∃ j x, (E 29 = .int .i64 (i : Nat) ∧ E 28 = .int .i64 (J.length : Nat)) ∧ ST true lU w W (hp w) x ∧ E 5 = (.int .i64 j) ∧ E 27 = u ∧ sV (J.drop i) j = some G) J.length D.len ⟨t, _, ⟨rfl, rfl⟩, (b.kH St), Y, rfl, a5⟩ dc dc dc (fun _ _ _ h => by obtain ⟨_, _, n, _⟩ := h; exact n) ?_ ?_
  ·rintro c1 E W a3 ⟨j, x, ⟨m, p⟩, b, y, z, c⟩
   obtain ⟨a, c4, a9, L, O⟩ := lT a3
   rw [a9] at c
   refine bg (VQ (mU (i := (c1 : Int)) (x0 := a) uz.out kp kh z m D (aH _) L) (fun d0 ⟨_, ⟨d1, rfl, I⟩, A⟩ => V (kI rfl (lB b.has A isAgg55 kh)) (VE (lG b ky (fun c5 c9 b => ?_)))))
   obtain ⟨K, T, rfl⟩ := I.form
   let a0 := (C8 a.kF.Kind a.kF.Head.kE a.kF.Head.kL a.kF.ma a.kF.B.kE a.kF.B.kL a.kF.C.kE a.kF.C.kL a.kF.mc K a.Tag.length T)
   refine VO (lh (.agg a0.toArray) (a0.toArray) b rfl rfl kh oc nb rfl (fun c6 b => ln ?_))
   replace b := b.drew
   have d := b.has.kH (Kb Sn)
   refine mi d lN (X 0 rfl d (kT y) (X 1 rfl d (kP yB rfl) (XH 2 rfl d (fun _ q => kI rfl (kO q Mh (kK a.kF) rfl bX aO)) (X 5 rfl d (kP J9 rfl) (XH 6 rfl d (fun _ q => kI rfl (lg q Mh rfl km)) (X 7 rfl d (ml cV rfl I) (XE 3 rfl (lD (cs := (kK a.kF).toArray) b (ni rfl) (nj aS aO cW) (fun c7 P b => ?_)))))))))
   have d := b.has.kH (Db (Kb Sn))
   refine ⟨d, (bS c fun c2 F c => XE 4 rfl (Eg b call18 (Ep (.slice (some ⟨P, 0, none⟩) 1 1) ([a.kF]) _ _ (Sl.lit (enc := kK) (l := [a.kF]) mG rfl nb rfl (b.at_ Mh)) F) (fun c8 b => ?_)))⟩
   have d := b.has.kH (Db (Kb Sn))
   refine ⟨d, (X 8 rfl d (lR rfl rfl rfl) (X 9 rfl d (lR rfl rfl rfl) (X 10 rfl d (od rfl) (mu kr (lL (kU ?_))))))⟩
   replace b := b.kH (Db (Db St))
   exact ⟨m, (IntKind.i64.wrap (j + (IntKind.i64.wrap (c2 + (a.Tag.length : Int))))), _, ⟨rfl, p⟩, (b.kH St), rfl, z, (by rw [O]; exact c)⟩
  rintro E W ⟨j, x, ⟨m, p⟩, b, y, z, c⟩
  rw [aI] at c
  refine kU ?_
  obtain rfl := sj c
  exact ⟨_, (b.kH St), y⟩
 rintro d3 E W ⟨M, b, R⟩ a4
 exact sg (Wh R (Wa (lt (rQ a4 b))))
theorem Fq (I : (List Formula) → Option Int) (N : ∀ (j : Value) (u : List Formula) (r : Int) (w : World) (t : Sl kG 5 (hp w) j u), I u = some r → lE false Tryz.prog 50 [j] w (.int .i64 r)) (j : Value) (u : List Formula) (r : Int) (w : World) (t : Sl kG 5 (hp w) j u) (hm : xB I u = some r) :
  lE false Tryz.prog 50 [j] w (.int .i64 r) := by
 refine cG 31 func50 rfl (fun l => sg (Wa (lr (Wa (lS (Wm ?_))))))
 refine V (ml aD rfl t) (Wm (ln (mf (fun i E W => ∃ x z, (E 8 = .int .i64 (i : Nat) ∧ E 7 = .int .i64 (u.length : Nat)) ∧ ST false lU w W (hp w) z ∧ E 3 = (.int .i64 x) ∧ E 6 = j ∧ sU I (u.drop i) x = some r) u.length t.len ⟨0, _, ⟨rfl, rfl⟩, (l.kH St), rfl, rfl, hm⟩ dc dc dc (fun _ _ _ h => by obtain ⟨_, _, p, _⟩ := h; exact p) ?_ ?_)))
 ·rintro Z E W M ⟨x, z, ⟨n, s⟩, l, D, G, g⟩
  obtain ⟨c, L, T, Q, U⟩ := lT M
  let a0 := ((c.kD.kE.size : Int) + (c.kD.kL.size : Int))
  rw [T] at g
  refine bg (VQ (mU (i := (Z : Int)) (x0 := c) kG.out aD aC G n t (aH _) Q) (fun a5 ⟨_, ⟨F, rfl, H⟩, J⟩ => V (kI rfl (lB l.has J aK aC)) (VE (lG l aP (fun A a4 l => ?_)))))
  obtain ⟨y, B, rfl⟩ := H.form
  let q := (C2 c.Op c.K c.kD.kE c.kD.kL y c.Kids.length B)
  refine VO (lh (.agg q.toArray) (q.toArray) l rfl rfl aC oc nb rfl (fun a2 l => ln ?_))
  replace l := l.drew
  have d := l.has.kH (Kb Sn)
  refine mi d lN (X 0 rfl d (kT D) (X 1 rfl d (kP uU rfl) (X 2 rfl d (kP qi rfl) (XH 3 rfl d (fun _ m => kI rfl (lg m Mh rfl bW)) (X 4 rfl d (pA cD rfl) (X 5 rfl d (kP uU rfl) (X 6 rfl d (kP uN rfl) (XH 7 rfl d (fun _ m => kI rfl (lg m Mh rfl bW)) (X 8 rfl d (pA cD rfl) (X 9 rfl d (lR rfl rfl rfl) (X 10 rfl d (JA (k := .i64) (a := (IntKind.i64.wrap a0)) (b := 16) (v := (.int .i64 (IntKind.i64.wrap (Int.tdiv (IntKind.i64.wrap a0) 16)))) rfl rfl dc rfl) (X 11 rfl d (lR rfl rfl rfl) (X 12 rfl d (kP oA rfl) (XH 13 rfl d (fun _ m => kI rfl (lg m Mh rfl eA)) ?_))))))))))))))
  refine bS g fun Y K g => XE 14 rfl (Eg l call50 (N (.slice y c.Kids.length B) c.Kids _ _ (H.mono kN.mono l.kM) K) (fun a3 l => ?_))
  have d := l.has.kH (Kb Sn)
  refine ⟨d, (X 15 rfl d (lR rfl rfl rfl) (X 16 rfl d (lR rfl rfl rfl) (X 17 rfl d (od rfl) (mu kr (lL (kU ?_))))))⟩
  replace l := l.kH (Db St)
  exact ⟨n, (IntKind.i64.wrap (x + (IntKind.i64.wrap ((IntKind.i64.wrap (1 + (IntKind.i64.wrap (Int.tdiv (IntKind.i64.wrap a0) 16)))) + Y)))), _, ⟨rfl, s⟩, (l.kH St), rfl, G, (by rw [U]; exact g)⟩
 rintro E W ⟨x, z, ⟨n, s⟩, l, D, G, g⟩
 rw [aI] at g
 exact kU (sg (Wh D (Wa (lt (rQ g l)))))
theorem yY : ∀ (n : Nat) (a : Value) (c : List Formula) (r : Int) (w : World) (g : Sl kG 5 (hp w) a c) (_ : pJ n c = some r),
  lE false Tryz.prog 50 [a] w (.int .i64 r)
 | 0 => by intros; rename_i h; simp only [pJ] at h; cases h
 | n + 1 => Fq (pJ n) (yY n)
set_option maxHeartbeats 1000000 in
theorem wN (x : lW) (J N : Value) (r : Int) (w : World) (y : Sl kY 15 (hp w) J x.kQ) (G : Sl lO 8 (hp w) N x.li) (hm : wV x = some r) :
  lE false Tryz.prog 10 [(.agg #[(.string x.Name), J, N])] w (.int .i64 r) := by
 refine cG 61 func10 rfl (fun d => sg ?_)
 obtain ⟨A1, c2, rfl⟩ := y.form
 obtain ⟨A3, c4, rfl⟩ := G.form
 let g6 := (C4 x.Name A1 x.kQ.length c2 A3 x.li.length c4)
 refine VE (lI d rfl (fun W6 L d => Wa (lr (Wf zN (VB d Mh rfl rfl bW (V (pA cD rfl) (Wa (lS ?_))))))))
 refine Wf oU (VB d Mh rfl rfl eX (V (ml bK rfl y) (Wm (ln (mf (fun i E W => ∃ I R, (E 14 = .int .i64 (i : Nat) ∧ E 13 = .int .i64 (x.kQ.length : Nat)) ∧ ST false lU w W (hp w) ((L, Ol g6 25) :: R) ∧ E 1 = (.pointer (some ⟨L, 0, none⟩)) ∧ E 3 = (.int .i64 I) ∧ E 12 = (.slice A1 x.kQ.length c2) ∧ sR x (x.kQ.drop i) I = some r) x.kQ.length y.len ⟨(x.Name.size : Int), _, ⟨rfl, rfl⟩, (d.kH St), rfl, rfl, rfl, hm⟩ dc dc dc (fun _ _ _ h => by obtain ⟨_, _, v, _⟩ := h; exact v) ?_ ?_)))))
 ·rintro d5 E W e1 ⟨I, R, ⟨q, A⟩, d, U, M, Y, H⟩
  obtain ⟨a, h9, e9, e8, f0⟩ := lT e1
  rw [e9] at H
  refine bg (VQ (mU (i := (d5 : Int)) (x0 := a) kY.out bK cR Y q y (aH _) e8) (fun j4 ⟨_, ⟨j8, j9, rfl, Q, T⟩, e2⟩ => V (kI rfl (lB d.has e2 iX cR)) (VE (lG d eG (fun i0 f4 d => ?_)))))
  obtain ⟨t, u, rfl⟩ := Q.form
  let g5 : Value := (.slice t a.Signed.Tag.length u)
  let b8 := (C8 a.Signed.kF.Kind a.Signed.kF.Head.kE a.Signed.kF.Head.kL a.Signed.kF.ma a.Signed.kF.B.kE a.Signed.kF.B.kL a.Signed.kF.C.kE a.Signed.kF.C.kL a.Signed.kF.mc t a.Signed.Tag.length u)
  obtain ⟨g, j, rfl⟩ := T.form
  let d9 : Value := (.slice g a.kJ.Kids.length j)
  let s := (C2 a.kJ.Op a.kJ.K a.kJ.kD.kE a.kJ.kD.kL g a.kJ.Kids.length j)
  let a0 := (C3 a.Signed.kF.Kind a.Signed.kF.Head.kE a.Signed.kF.Head.kL a.Signed.kF.ma a.Signed.kF.B.kE a.Signed.kF.B.kL a.Signed.kF.C.kE a.Signed.kF.C.kL a.Signed.kF.mc t a.Signed.Tag.length u a.kJ.Op a.kJ.K a.kJ.kD.kE a.kJ.kD.kL g a.kJ.Kids.length j)
  refine VO (lh (.agg a0.toArray) (a0.toArray) d rfl rfl cR oc nb rfl (fun i1 d => ln ?_))
  replace d := d.drew
  have m := d.has.kH (Kb Sn)
  refine mi m lN (X 0 rfl m (kT M) (X 1 rfl m (kP wP rfl) (XH 2 rfl m (fun _ p => kI rfl (kO p Mh b8 rfl isAgg55 kh)) (X 5 rfl m (kP Fc rfl) (XH 6 rfl m (fun _ p => kI rfl (kO p Mh s rfl aK aC)) (PJ H (fun b4 E W => ∃ F b2 b9, ST false lU w W (hp w) ((f4, Ol a0 60) :: ((L, Ol g6 25) :: (b2 ++ b9))) ∧ E 1 = (.pointer (some ⟨L, 0, none⟩)) ∧ E 3 = (.int .i64 I) ∧ E 12 = (.slice A1 x.kQ.length c2) ∧ E 13 = (.int .i64 (x.kQ.length : Int)) ∧ E 14 = (.int .i64 (d5 : Int)) ∧ E 18 = (.int .i64 I) ∧ E 22 = (.int .i64 b4.1) ∧ E 25 = F ∧ lY 58 kG 5 (hp w) F b4.2 b2) (bm 13 255) 5 ?_ (fun b4 z Z => ?_)))))))
  ·rintro ⟨g7, g3⟩ E W ⟨F, b2, b9, d, f6, j3, f7, f8, f9, g0, g1, g2, e7⟩ O
   refine bS O fun g4 e3 O => XE 8 rfl (Eg d call50 ((yY lF) F g3 _ _ (e7.sl kN d.kM (fun b o n => d.at_ (Mt (Mt (Ml n))))) e3) (fun i2 d => ?_) (ha := TR g2))
   have m := d.has.kH (Kb Sn)
   refine ⟨m, (X 9 rfl m (lR rfl rfl rfl) (X 10 rfl m (lR g1 rfl rfl) (X 11 rfl m (lR g0 rfl rfl) (X 12 rfl m (od rfl) (mu kr (lL (kU ?_)))))))⟩
   replace d := d.kH (Db (Kb (Dr St)))
   exact ⟨f9, (IntKind.i64.wrap (I + (IntKind.i64.wrap (g7 + (IntKind.i64.wrap (20 * g4)))))), _, ⟨rfl, f8⟩, (d.kH St), f6, rfl, f7, (by rw [f0]; exact O)⟩
  refine AW 3 7 rfl rfl kr (.inl rfl) (.inl rfl) rfl rfl dc dc ?_ ?_
  ·refine lD (cs := b8.toArray) d (ni rfl) (nj kp kh ky) (fun i3 b3 d => ?_)
   let d8 : Value := (.slice (some ⟨b3, 0, none⟩) 1 1)
   have m := d.has.kH (Db (Kb Sn))
   refine ⟨m, (AW 4 7 rfl rfl kr (.inl rfl) (.inl rfl) rfl rfl dc dc ?_ ?_)⟩
   ·refine bS z fun j5 e4 z => FH (args := [(.slice none 0 0), d8]) d rfl call17 (by exact yl rfl rfl) (lE.mR (yQ (.slice none 0 0) ([]) d8 ([a.Signed]) _ _ (Sl.nil _ _ _) ((lY.lit BE (l := [a.Signed]) (.cons (ys := C8 a.Signed.kF.Kind a.Signed.kF.Head.kE a.Signed.kF.Head.kL a.Signed.kF.ma a.Signed.kF.B.kE a.Signed.kF.B.kL a.Signed.kF.C.kE a.Signed.kF.C.kL a.Signed.kF.mc t a.Signed.Tag.length u) (uz.mk ⟨g5, rfl, Q⟩) .nil) rfl nb rfl).sl BE d.kM (fun b o n => (by rw [cM] at n; cases n; exact d.at_ Mh))) e4)) (fun i4 d => ?_)
    have m := d.has.kH (Db (Kb Sn))
    refine ⟨m, (XE 7 rfl (lD (cs := s.toArray) d (ni rfl) (nj aD aC aP) (fun i5 c0 d => ?_)))⟩
    have m := d.has.kH (Db (Db (Kb Sn)))
    refine ⟨m, ?_⟩
    obtain rfl := sj z
    replace d := d.Bk
    refine nu kr (Z _ _ ⟨(.slice (some ⟨c0, 0, none⟩) 1 1), [(c0, Ol s 58)], _, (d.kH (Sb (Pr (Pb Pz)) (Sb (Pr (Pb Pz)) (Kr (Db St))))), U, M, Y, A, q, rfl, rfl, rfl, (lY.lit kN (l := [a.kJ]) (.cons (ys := C2 a.kJ.Op a.kJ.K a.kJ.kD.kE a.kJ.kD.kL g a.kJ.Kids.length j) (kG.mk ⟨d9, rfl, T⟩) .nil) rfl nb rfl)⟩)
   ·refine lD (cs := s.toArray) d (ni rfl) (nj aD aC aP) (fun i6 c1 d => ?_)
    have m := d.has.kH (Db (Db (Kb Sn)))
    refine ⟨m, (bS z fun j6 e5 z => XE 4 rfl (Eg d call17 (lE.mR (yQ (.slice none 0 0) ([]) d8 ([a.Signed]) _ _ (Sl.nil _ _ _) ((lY.lit BE (l := [a.Signed]) (.cons (ys := C8 a.Signed.kF.Kind a.Signed.kF.Head.kE a.Signed.kF.Head.kL a.Signed.kF.ma a.Signed.kF.B.kE a.Signed.kF.B.kL a.Signed.kF.C.kE a.Signed.kF.C.kL a.Signed.kF.mc t a.Signed.Tag.length u) (uz.mk ⟨g5, rfl, Q⟩) .nil) rfl nb rfl).sl BE d.kM (fun b o n => (by rw [cM] at n; cases n; exact d.at_ (Mt Mh)))) e5)) (fun i7 d => ?_)))⟩
    have m := d.has.kH (Db (Db (Kb Sn)))
    refine ⟨m, ?_⟩
    obtain rfl := sj z
    replace d := d.Bk
    refine nu kr (Z _ _ ⟨(.slice (some ⟨c1, 0, none⟩) 1 1), [(c1, Ol s 58)], _, (d.kH (Sb (Pr (Pb Pz)) (Sb (Pr (Pb Pz)) (Kr (Db St))))), U, M, Y, A, q, rfl, rfl, rfl, (lY.lit kN (l := [a.kJ]) (.cons (ys := C2 a.kJ.Op a.kJ.K a.kJ.kD.kE a.kJ.kD.kL g a.kJ.Kids.length j) (kG.mk ⟨d9, rfl, T⟩) .nil) rfl nb rfl)⟩)
  ·refine lD (cs := s.toArray) d (ni rfl) (nj aD aC aP) (fun i8 c3 d => ?_)
   have m := d.has.kH (Db (Kb Sn))
   refine ⟨m, (XE 3 rfl (lD (cs := b8.toArray) d (ni rfl) (nj kp kh ky) (fun i9 f5 d => ?_)))⟩
   have m := d.has.kH (Db (Db (Kb Sn)))
   refine ⟨m, (bS z fun j7 e6 z => XE 4 rfl (Eg d call17 (lE.mR (yQ (.slice none 0 0) ([]) (.slice (some ⟨f5, 0, none⟩) 1 1) ([a.Signed]) _ _ (Sl.nil _ _ _) ((lY.lit BE (l := [a.Signed]) (.cons (ys := C8 a.Signed.kF.Kind a.Signed.kF.Head.kE a.Signed.kF.Head.kL a.Signed.kF.ma a.Signed.kF.B.kE a.Signed.kF.B.kL a.Signed.kF.C.kE a.Signed.kF.C.kL a.Signed.kF.mc t a.Signed.Tag.length u) (uz.mk ⟨g5, rfl, Q⟩) .nil) rfl nb rfl).sl BE d.kM (fun b o n => (by rw [cM] at n; cases n; exact d.at_ Mh))) e6)) (fun j0 d => ?_)))⟩
   have m := d.has.kH (Db (Db (Kb Sn)))
   refine ⟨m, ?_⟩
   obtain rfl := sj z
   replace d := d.perm (Nb (Pb Pz) Nz)
   replace d := d.Bk
   refine nu kr (Z _ _ ⟨(.slice (some ⟨c3, 0, none⟩) 1 1), [(c3, Ol s 58)], _, (d.kH (Sb (Pr (Pb Pz)) (Sb (Pr (Pb Pz)) (Kr (Db St))))), U, M, Y, A, q, rfl, rfl, rfl, (lY.lit kN (l := [a.kJ]) (.cons (ys := C2 a.kJ.Op a.kJ.K a.kJ.kD.kE a.kJ.kD.kL g a.kJ.Kids.length j) (kG.mk ⟨d9, rfl, T⟩) .nil) rfl nb rfl)⟩)
 rintro E W ⟨I, R, ⟨q, A⟩, d, U, M, Y, H⟩
 rw [aI] at H
 refine kU (kZ (sg (V (kP AX U) (VB d Mh rfl rfl kl (V (ml cX rfl G) (Wm (ln ?_)))))))
 replace d := d.kH (Db St)
 refine CJ H (fun P E W => ∃ b6, ST false lU w W (hp w) b6 ∧ E 3 = (.int .i64 P)) (fun P c8 => ?_) ?_
 ·refine mf (fun i E W => ∃ K a2, (E 34 = .int .i64 (i : Nat) ∧ E 33 = .int .i64 (x.li.length : Nat)) ∧ ST false lU w W (hp w) a2 ∧ E 3 = (.int .i64 K) ∧ E 32 = (.slice A3 x.li.length c4) ∧ ta (x.li.drop i) K = some P) x.li.length G.len ⟨I, _, ⟨rfl, rfl⟩, (d.kH St), M, rfl, c8⟩ dc dc dc (fun _ _ _ h => by obtain ⟨_, _, v, _⟩ := h; exact v) ?_ ?_
  ·rintro f1 E W c6 ⟨K, a2, ⟨q, A⟩, d, a4, a5, k⟩
   obtain ⟨c, g8, d3, d2, d4⟩ := lT c6
   rw [d3] at k
   refine bg (VQ (mU (i := (f1 : Int)) (x0 := c) lO.out cX dX a5 q G (aH _) d2) (fun h5 ⟨_, ⟨h6, h7, rfl, a9, b0⟩, c9⟩ => V (kI rfl (lB d.has c9 jU dX)) (VE (lG d iI (fun g9 h4 d => ?_)))))
   obtain ⟨B, D, rfl⟩ := a9.form
   let d6 := (C2 c.kJ.Op c.kJ.K c.kJ.kD.kE c.kJ.kD.kL B c.kJ.Kids.length D)
   obtain ⟨a1, a3, rfl⟩ := b0.form
   let c5 := (C7 c.kD.kE c.kD.kL c.kJ.Op c.kJ.K c.kJ.kD.kE c.kJ.kD.kL B c.kJ.Kids.length D a1 c.nf.length a3)
   refine VO (lh (.agg c5.toArray) (c5.toArray) d rfl rfl dX oc nb rfl (fun h0 d => ln ?_))
   replace d := d.drew
   have m := d.has.kH (Kb Sn)
   refine mi m lN (X 0 rfl m (kT a4) (X 1 rfl m (kP G7 rfl) (X 2 rfl m (kP qi rfl) (XH 3 rfl m (fun _ p => kI rfl (lg p Mh rfl bW)) (X 4 rfl m (pA cD rfl) (X 5 rfl m (kP G7 rfl) (X 6 rfl m (kP uN rfl) (XH 7 rfl m (fun _ p => kI rfl (lg p Mh rfl bW)) (X 8 rfl m (pA cD rfl) (X 9 rfl m (lR rfl rfl rfl) (X 10 rfl m (kP Ft rfl) (XH 11 rfl m (fun _ p => kI rfl (kO p Mh d6 rfl aK aC)) (X 16 rfl m (kP Fv rfl) (XH 17 rfl m (fun _ p => kI rfl (lg p Mh rfl kC)) ?_))))))))))))))
   refine XE 12 rfl (lD (cs := d6.toArray) d (ni rfl) (nj aD aC aP) (fun h1 d7 d => ?_))
   have m := d.has.kH (Db (Kb Sn))
   refine ⟨m, (bS k fun f2 d0 k => XE 13 rfl (Eg d call50 ((yY lF) (.slice (some ⟨d7, 0, none⟩) 1 1) ([c.kJ]) _ _ ((lY.lit kN (l := [c.kJ]) (.cons (ys := C2 c.kJ.Op c.kJ.K c.kJ.kD.kE c.kJ.kD.kL B c.kJ.Kids.length D) (kG.mk ⟨(.slice B c.kJ.Kids.length D), rfl, a9⟩) .nil) rfl nb rfl).sl kN d.kM (fun b o n => (by rw [cM] at n; cases n; exact d.at_ Mh))) d0) (fun h2 d => ?_)))⟩
   have m := d.has.kH (Db (Kb Sn))
   refine ⟨m, (X 14 rfl m (lR rfl rfl rfl) (X 15 rfl m (lR rfl rfl rfl) (bS k fun f3 d1 k => XE 18 rfl (Eg d call18 (lE.mR (Ep (.slice a1 c.nf.length a3) c.nf _ _ (b0.mono (Pl.mono _) d.kM) d1)) (fun h3 d => ?_)))))⟩
   have m := d.has.kH (Db (Kb Sn))
   refine ⟨m, (X 19 rfl m (lR rfl rfl rfl) (X 20 rfl m (lR rfl rfl rfl) (X 21 rfl m (od rfl) (mu kr (lL (kU ?_))))))⟩
   replace d := d.kH (Db (Db St))
   exact ⟨q, (IntKind.i64.wrap (K + (IntKind.i64.wrap ((IntKind.i64.wrap ((IntKind.i64.wrap ((c.kD.kE.size : Int) + (c.kD.kL.size : Int))) + (IntKind.i64.wrap (20 * f2)))) + f3)))), _, ⟨rfl, A⟩, (d.kH St), rfl, a5, (by rw [d4]; exact k)⟩
  rintro E W ⟨K, a2, ⟨q, A⟩, d, a4, a5, k⟩
  rw [aI] at k
  refine kU ?_
  obtain rfl := sj k
  exact ⟨_, (d.kH St), a4⟩
 rintro h8 E W ⟨b6, d, e0⟩ c7
 exact sg (Wh e0 (Wa (lt (rQ c7 d))))
theorem Jo (a : mI) (B D x z y J : Value) (r : Int) (w : World) (t : Sl kY 15 (hp w) B a.kE.kQ) (u : Sl lO 8 (hp w) D a.kE.li) (c : Sl kY 15 (hp w) x a.Client.kQ) (i : Sl lO 8 (hp w) z a.Client.li) (g : Sl kG 5 (hp w) y a.Formula.Kids) (I : Sl ou 2 (hp w) J a.Keys) (hm : yX a = some r) :
  lE false Tryz.prog 35 [(.agg #[(.string a.kE.Name), B, D, (.string a.Client.Name), x, z, (.int .i64 a.Formula.Op), (.int .i64 a.Formula.K), (.string a.Formula.kD.kE), (.string a.Formula.kD.kL), y, (.int .i64 a.oN), (.int .i64 a.mw.pD), (.int .i64 a.mw.pE), (.int .i64 a.mW), (.int .i64 a.nU), (.int .i64 a.ny), J])] w (.int .i64 r) := by
 refine cG 20 func35 rfl (fun d => sg ?_)
 obtain ⟨A1, c2, rfl⟩ := t.form
 obtain ⟨A3, n, rfl⟩ := u.form
 let a3 := (C4 a.kE.Name A1 a.kE.kQ.length c2 A3 a.kE.li.length n)
 obtain ⟨N, U, rfl⟩ := c.form
 let a5 : Value := (.slice N a.Client.kQ.length U)
 obtain ⟨Q, Y, rfl⟩ := i.form
 let b8 : Value := (.slice Q a.Client.li.length Y)
 let a4 := (C4 a.Client.Name N a.Client.kQ.length U Q a.Client.li.length Y)
 obtain ⟨G, k, rfl⟩ := g.form
 let q : Value := (.slice G a.Formula.Kids.length k)
 let a0 := (C2 a.Formula.Op a.Formula.K a.Formula.kD.kE a.Formula.kD.kL G a.Formula.Kids.length k)
 obtain ⟨p, a2, rfl⟩ := I.form
 refine VE (lI d rfl (fun e8 c7 d => Wa (ln (kZ ?_))))
 replace d := d.drew
 have h := d.has.kH (Kb Sn)
 refine mi h lN (X 0 rfl h (kP xK rfl) (XH 1 rfl h (fun _ m => kI rfl (kO m Mh a3 rfl eC dC)) (X 3 rfl h (kP vT rfl) (XH 4 rfl h (fun _ m => kI rfl (kO m Mh a4 rfl eC dC)) (X 7 rfl h (kP Kt rfl) (XH 8 rfl h (fun _ m => kI rfl (kO m Mh a0 rfl aK aC)) (X 13 rfl h (kP RB rfl) (XH 14 rfl h (fun _ m => kI rfl (lg m Mh rfl isAgg37)) (PJ hm (fun Z E W => ∃ M T s, ST false lU w W (hp w) ((c7, Ol (C1 a.kE.Name A1 a.kE.kQ.length c2 A3 a.kE.li.length n a.Client.Name N a.Client.kQ.length U Q a.Client.li.length Y a.Formula.Op a.Formula.K a.Formula.kD.kE a.Formula.kD.kL G a.Formula.Kids.length k a.oN a.mw.pD a.mw.pE a.mW a.nU a.ny p a.Keys.length a2) 93) :: (T ++ s)) ∧ E 2 = (.int .i64 0) ∧ E 9 = (.int .i64 Z.1) ∧ E 12 = M ∧ E 17 = (.slice p a.Keys.length a2) ∧ lY 58 kG 5 (hp w) M Z.2 T) (bm 18 25599) 6 ?_ (fun Z j K => ?_))))))))))
 ·rintro ⟨e7, c5⟩ E W ⟨M, T, s, d, d9, c0, c1, c3, b9⟩ H
  refine bS H fun e0 F H => XE 10 rfl (Eg d call50 ((yY lF) M c5 _ _ (b9.sl kN d.kM (fun b o hq => d.at_ (Mt (Ml hq)))) F) (fun c9 d => ?_) (ha := TR c1))
  have h := d.has.kH (Kb Sn)
  refine ⟨h, (X 11 rfl h (lR rfl rfl rfl) (X 12 rfl h (lR c0 rfl rfl) (bS H fun e1 L H => XE 15 rfl (Eg d call17 (lE.mR (yQ (.slice p a.Keys.length a2) a.Keys (.slice none 0 0) ([]) _ _ (I.mono oY.mono d.kM) (Sl.nil _ _ _) L)) (fun d0 d => ?_) (ha := P9 c3 rfl)))))⟩
  have h := d.has.kH (Kb Sn)
  refine ⟨h, (X 16 rfl h (lR rfl rfl rfl) (X 17 rfl h (od rfl) (mu kr (kU ?_))))⟩
  exact lC (rQ H d)
 refine AW 2 9 rfl rfl kr (.inl rfl) (.inl rfl) rfl rfl dc dc ?_ ?_
 ·refine bS j fun e2 O j => FH (args := [(.agg a3.toArray)]) d rfl call10 (by exact wE rfl) (wN a.kE (.slice A1 a.kE.kQ.length c2) (.slice A3 a.kE.li.length n) _ _ (t.mono kX.mono d.kM) (u.mono me.mono d.kM) O) (fun d1 d => ?_)
  have h := d.has.kH (Kb Sn)
  refine ⟨h, (AW 5 9 rfl rfl kr (.inl rfl) (.inl rfl) rfl rfl dc dc ?_ ?_)⟩
  ·refine bS j fun e3 P j => FH (args := [(.agg a4.toArray)]) d rfl call10 (by exact wE rfl) (wN a.Client a5 b8 _ _ (c.mono kX.mono d.kM) (i.mono me.mono d.kM) P) (fun d2 d => ?_)
   have h := d.has.kH (Kb Sn)
   refine ⟨h, (X 6 rfl h (lR rfl rfl rfl) (XE 9 rfl (lD (cs := a0.toArray) d (ni rfl) (nj aD aC aP) (fun d3 v d => ?_))))⟩
   have h := d.has.kH (Db (Kb Sn))
   refine ⟨h, ?_⟩
   obtain rfl := sj j
   replace d := d.Bk
   refine nu kr (K _ _ ⟨(.slice (some ⟨v, 0, none⟩) 1 1), [(v, Ol a0 58)], _, (d.kH (Sb (Pr Pz) St)), rfl, rfl, rfl, rfl, (lY.lit kN (l := [a.Formula]) (.cons (ys := C2 a.Formula.Op a.Formula.K a.Formula.kD.kE a.Formula.kD.kL G a.Formula.Kids.length k) (kG.mk ⟨q, rfl, g⟩) .nil) rfl nb rfl)⟩)
  ·refine lD (cs := a0.toArray) d (ni rfl) (nj aD aC aP) (fun d4 a9 d => ?_)
   have h := d.has.kH (Db (Kb Sn))
   refine ⟨h, (bS j fun e4 R j => XE 5 rfl (Eg d call10 (wN a.Client a5 b8 _ _ (c.mono kX.mono d.kM) (i.mono me.mono d.kM) R) (fun d5 d => ?_)))⟩
   have h := d.has.kH (Db (Kb Sn))
   refine ⟨h, (X 6 rfl h (lR rfl rfl rfl) ?_)⟩
   obtain rfl := sj j
   replace d := d.Bk
   refine nu kr (K _ _ ⟨(.slice (some ⟨a9, 0, none⟩) 1 1), [(a9, Ol a0 58)], _, (d.kH (Sb (Pr Pz) St)), rfl, rfl, rfl, rfl, (lY.lit kN (l := [a.Formula]) (.cons (ys := C2 a.Formula.Op a.Formula.K a.Formula.kD.kE a.Formula.kD.kL G a.Formula.Kids.length k) (kG.mk ⟨q, rfl, g⟩) .nil) rfl nb rfl)⟩)
 ·refine lD (cs := a0.toArray) d (ni rfl) (nj aD aC aP) (fun d6 A d => ?_)
  have h := d.has.kH (Db (Kb Sn))
  refine ⟨h, (bS j fun e5 b6 j => XE 2 rfl (Eg d call10 (wN a.kE (.slice A1 a.kE.kQ.length c2) (.slice A3 a.kE.li.length n) _ _ (t.mono kX.mono d.kM) (u.mono me.mono d.kM) b6) (fun d7 d => ?_)))⟩
  have h := d.has.kH (Db (Kb Sn))
  refine ⟨h, (bS j fun e6 b7 j => XE 5 rfl (Eg d call10 (wN a.Client a5 b8 _ _ (c.mono kX.mono d.kM) (i.mono me.mono d.kM) b7) (fun d8 d => ?_)))⟩
  have h := d.has.kH (Db (Kb Sn))
  refine ⟨h, (X 6 rfl h (lR rfl rfl rfl) ?_)⟩
  obtain rfl := sj j
  replace d := d.Bk
  refine nu kr (K _ _ ⟨(.slice (some ⟨A, 0, none⟩) 1 1), [(A, Ol a0 58)], _, (d.kH (Sb (Pr Pz) St)), rfl, rfl, rfl, rfl, (lY.lit kN (l := [a.Formula]) (.cons (ys := C2 a.Formula.Op a.Formula.K a.Formula.kD.kE a.Formula.kD.kL G a.Formula.Kids.length k) (kG.mk ⟨q, rfl, g⟩) .nil) rfl nb rfl)⟩)
theorem E4 (G : Formula → Option Int) (K : ∀ (j : Formula) (g : Value) (r : Int) (w : World) (c : Sl kG 5 (hp w) g j.Kids), G j = some r → lE false Tryz.prog 160 [(.agg #[(.int .i64 j.Op), (.int .i64 j.K), (.string j.kD.kE), (.string j.kD.kL), g])] w (.int .i64 r)) (j : Formula) (g : Value) (r : Int) (w : World) (c : Sl kG 5 (hp w) g j.Kids) (hm : xI G j = some r) :
  lE false Tryz.prog 160 [(.agg #[(.int .i64 j.Op), (.int .i64 j.K), (.string j.kD.kE), (.string j.kD.kL), g])] w (.int .i64 r) := by
 refine cG 19 func160 rfl (fun b => sg ?_)
 obtain ⟨U, Y, rfl⟩ := c.form
 refine VE (lI b rfl (fun W4 s b => Wa (lr (Wa (lS (Wf oA (VB b Mh rfl rfl eA (V (ml aD rfl c) ?_))))))))
 refine Wm (ln ?_)
 replace b := b.kH (Db St)
 refine mf (fun i E W => ∃ x z, (E 9 = .int .i64 (i : Nat) ∧ E 8 = .int .i64 (j.Kids.length : Nat)) ∧ ST false lU w W (hp w) z ∧ E 3 = (.int .i64 x) ∧ E 7 = (.slice U j.Kids.length Y) ∧ sW G (j.Kids.drop i) x = some r) j.Kids.length c.len ⟨1, _, ⟨rfl, rfl⟩, (b.kH St), rfl, rfl, hm⟩ dc dc dc (fun _ _ _ h => by obtain ⟨_, _, l, _⟩ := h; exact l) ?_ ?_
 ·rintro Z E W J ⟨x, z, ⟨d, m⟩, b, B, D, k⟩
  obtain ⟨a, q, N, M, Q⟩ := lT J
  rw [N] at k
  refine bg (VQ (mU (i := (Z : Int)) (x0 := a) kG.out aD aC D d c (aH _) M) (fun a5 ⟨_, ⟨p, rfl, y⟩, H⟩ => V (kI rfl (lB b.has H aK aC)) (VE (lG b aP (fun n a4 b => ?_)))))
  obtain ⟨t, u, rfl⟩ := y.form
  let a0 := (C2 a.Op a.K a.kD.kE a.kD.kL t a.Kids.length u)
  refine VO (lh (.agg a0.toArray) (a0.toArray) b rfl rfl aC oc nb rfl (fun a2 b => ln (kW (Wh B (VA b Mh a0 aK aC (bS k fun T I k => VE (Eg b call160 (K a (.slice t a.Kids.length u) _ _ (y.mono kN.mono b.kM) I) (fun a3 b => Wi rfl (Wa (lH (lL (kU ?_))))))))))))
  replace b := b.kH (Db St)
  exact ⟨d, (IntKind.i64.wrap (x + T)), _, ⟨rfl, m⟩, (b.kH St), rfl, D, (by rw [Q]; exact k)⟩
 rintro E W ⟨x, z, ⟨d, m⟩, b, B, D, k⟩
 rw [aI] at k
 exact kU (sg (Wh B (Wa (lt (rQ k b)))))
theorem El : ∀ (n : Nat) (c : Formula) (a : Value) (r : Int) (w : World) (g : Sl kG 5 (hp w) a c.Kids) (_ : sr n c = some r),
  lE false Tryz.prog 160 [(.agg #[(.int .i64 c.Op), (.int .i64 c.K), (.string c.kD.kE), (.string c.kD.kL), a])] w (.int .i64 r)
 | 0 => by intros; rename_i h; simp only [sr] at h; cases h
 | n + 1 => E4 (sr n) (El n)
theorem FU (I : Formula → Option Int) (N : ∀ (j : Formula) (g : Value) (r : Int) (w : World) (c : Sl kG 5 (hp w) g j.Kids), I j = some r → lE false Tryz.prog 161 [(.agg #[(.int .i64 j.Op), (.int .i64 j.K), (.string j.kD.kE), (.string j.kD.kL), g])] w (.int .i64 r)) (j : Formula) (g : Value) (r : Int) (w : World) (c : Sl kG 5 (hp w) g j.Kids) (hm : yx I j = some r) :
  lE false Tryz.prog 161 [(.agg #[(.int .i64 j.Op), (.int .i64 j.K), (.string j.kD.kE), (.string j.kD.kL), g])] w (.int .i64 r) := by
 refine cG 20 func161 rfl (fun b => sg ?_)
 obtain ⟨Y, Z, rfl⟩ := c.form
 refine VE (lI b rfl (fun W4 v b => Wa (lr (Wa (lS (Wf oA (VB b Mh rfl rfl eA (V (ml aD rfl c) ?_))))))))
 refine Wm (ln ?_)
 replace b := b.kH (Db St)
 refine mf (fun i E W => ∃ u B, (E 9 = .int .i64 (i : Nat) ∧ E 8 = .int .i64 (j.Kids.length : Nat)) ∧ ST false lU w W (hp w) B ∧ E 3 = (.int .i64 u) ∧ E 7 = (.slice Y j.Kids.length Z) ∧ tM I (j.Kids.drop i) u = some r) j.Kids.length c.len ⟨0, _, ⟨rfl, rfl⟩, (b.kH St), rfl, rfl, hm⟩ dc dc dc (fun _ _ _ h => by obtain ⟨_, _, l, _⟩ := h; exact l) ?_ ?_
 ·rintro n E W M ⟨u, B, ⟨d, m⟩, b, D, G, t⟩
  obtain ⟨a, s, T, Q, U⟩ := lT M
  rw [T] at t
  refine bg (VQ (mU (i := (n : Int)) (x0 := a) kG.out aD aC G d c (aH _) Q) (fun p ⟨_, ⟨q, rfl, z⟩, J⟩ => V (kI rfl (lB b.has J aK aC)) (VE (lG b aP (fun a2 a5 b => ?_)))))
  obtain ⟨x, y, rfl⟩ := z.form
  let a0 := (C2 a.Op a.K a.kD.kE a.kD.kL x a.Kids.length y)
  refine VO (lh (.agg a0.toArray) (a0.toArray) b rfl rfl aC oc nb rfl (fun a3 b => ln (kW (Wh D (VA b Mh a0 aK aC (bS t fun H K t => VE (Eg b call161 (N a (.slice x a.Kids.length y) _ _ (z.mono kN.mono b.kM) K) (fun a4 b => V (Ot (k := .i64) rfl rfl) (Wa (lH (lL (kU ?_))))))))))))
  replace b := b.kH (Db St)
  exact ⟨d, (if H > u then H else u), _, ⟨rfl, m⟩, (b.kH St), rfl, G, (by rw [U]; exact t)⟩
 rintro E W ⟨u, B, ⟨d, m⟩, b, D, G, t⟩
 rw [aI] at t
 exact kU (sg (Wh D (Wi rfl (Wa (lt (rQ t b))))))
theorem EU : ∀ (n : Nat) (c : Formula) (a : Value) (r : Int) (w : World) (g : Sl kG 5 (hp w) a c.Kids) (_ : tE n c = some r),
  lE false Tryz.prog 161 [(.agg #[(.int .i64 c.Op), (.int .i64 c.K), (.string c.kD.kE), (.string c.kD.kL), a])] w (.int .i64 r)
 | 0 => by intros; rename_i h; simp only [tE] at h; cases h
 | n + 1 => FU (tE n) (EU n)
theorem wO (M : ByteArray) (r : Bool) (w : World) (hm : sv M = some r) :
  lE true Tryz.prog 265 [(.string M)] w (.bool r) := by
 refine cG 49 func265 rfl (fun b => sg (Wa (lS (Wm (V (rR rfl rfl rfl) (Wm (LJ hm (fun c7 E W => ∃ L3, ST true lU w W (hp w) L3 ∧ E 0 = (.string M) ∧ E 11 = (.bool c7)) 4 ?_ (fun c7 K a5 => ?_))))))))
 ·rintro x2 E W ⟨L3, b, p, e6⟩ f7
  refine Wh e6 (LJ f7 (fun c6 E W => ∃ d3, ST true lU w W (hp w) d3 ∧ E 0 = (.string M) ∧ E 16 = (.bool c6)) 4 ?_ (fun c6 x a4 => ?_))
  ·rintro g4 E W ⟨d3, b, n, f4⟩ f0
   refine Wh f4 (LJ f0 (fun c5 E W => ∃ d4, ST true lU w W (hp w) d4 ∧ E 0 = (.string M) ∧ E 21 = (.bool c5)) 4 ?_ (fun c5 u a3 => ?_))
   ·rintro g7 E W ⟨d4, b, f5, f6⟩ Q
    refine ln (CI Q f6 (fun e9 Q => ?_) (fun e9 Q => ?_))
    ·refine sg (Wa (lt (lJ ?_)))
     obtain rfl := sj Q
     exact rP b
    refine kS (Wa (ln (mK (nZ (fun m E W => ∃ y A, ST true lU w W (hp w) A ∧ E 0 = (.string M) ∧ E 3 = (.int .i64 y) ∧ rB M m y = some r) lF ⟨0, _, (b.kH St), f5, rfl, Q⟩ ?_))))
    rintro m E W ⟨y, A, b, T, U, c⟩
    cases m with
    | zero => rw [rB] at c; cases c
    | succ f1 =>
     refine kZ (sg (Wh U (Wh T (V (pA cD rfl) (Wi rfl (ln (CI c rfl (fun c8 c => ?_) (fun c8 c => ?_))))))))
     ·refine kn (kZ (bg (Wh T (Wh U (bS c fun d a9 c => V (BC (i := y) cD rfl rfl (AH a9) (D1 a9)) (Wa (lr ?_)))))))
      refine Wm (Wi rfl (Wm (LJ c (fun c4 E W => ∃ F, ST true lU w W (hp w) F ∧ E 0 = (.string M) ∧ E 3 = (.int .i64 y) ∧ E 4 = (.int .u8 (d.toNat : Int)) ∧ E 36 = (.bool c4)) 3 ?_ (fun c4 J a2 => ?_))))
      ·rintro f2 E W ⟨F, b, h, l, N, d5⟩ d0
       refine Wh d5 (LJ d0 (fun c2 E W => ∃ L, ST true lU w W (hp w) L ∧ E 0 = (.string M) ∧ E 3 = (.int .i64 y) ∧ E 4 = (.int .u8 (d.toNat : Int)) ∧ E 44 = (.bool c2)) 7 ?_ (fun c2 H Z => ?_))
       ·rintro g1 E W ⟨L, b, R, c0, d6, d7⟩ d1
        refine Wh d7 (LJ d1 (fun c1 E W => ∃ O, ST true lU w W (hp w) O ∧ E 0 = (.string M) ∧ E 3 = (.int .i64 y) ∧ E 48 = (.bool c1)) 3 ?_ (fun c1 G Y => ?_))
        ·rintro g2 E W ⟨O, b, d8, d9, e0⟩ D
         refine ln (CI D e0 (fun c9 D => ?_) (fun c9 D => ?_))
         ·refine sg (Wa (lt (nC (lJ (lJ (nC (lJ ?_)))))))
          obtain rfl := sj D
          exact rP b
         exact mr (lL (kU (kW (Wh d9 (Wi rfl (Wa (ln ⟨f1, bF _, (IntKind.i64.wrap (y + 1)), _, (b.kH St), d8, rfl, D⟩)))))))
        refine bC G (fun k G => ?_) (fun k G => ?_)
        ·refine ug k (kT d6) (ug k (lR rfl rfl rfl) (V (lj (cB k) rfl) ?_))
         obtain rfl := sj G
         exact Y _ _ ⟨_, (b.kH St), R, c0, rfl⟩
        refine un k (un k (V (ll (cB k) rfl) ?_))
        obtain rfl := sj G
        exact Y _ _ ⟨_, (b.kH St), R, c0, rfl⟩
       refine bC H (fun a H => ?_) (fun a H => ?_)
       ·refine ug a (kT N) (ug a (lR rfl rfl rfl) (ug a (kT rfl) (LJ H (fun c3 E W => ∃ P, ST true lU w W (hp w) P ∧ E 0 = (.string M) ∧ E 3 = (.int .i64 y) ∧ E 4 = (.int .u8 (d.toNat : Int)) ∧ E 37 = (.bool f2) ∧ E 43 = (.bool c3)) 3 ?_ (fun c3 I q => ?_))))
        ·rintro g3 E W ⟨P, b, e1, e2, e3, e4, e7⟩ d2
         refine V (lj (e4.trans (cB a)) e7) ?_
         obtain rfl := sj d2
         exact Z _ _ ⟨_, (b.kH St), e1, e2, e3, rfl⟩
        refine bC I (fun t I => ?_) (fun t I => ?_)
        ·refine un t (un t (ug a (lj (cB t) rfl) ?_))
         obtain rfl := sj I
         exact q _ _ ⟨_, (b.kH St), h, l, N, rfl, rfl⟩
        refine ug t (kT N) (ug t (lR rfl rfl rfl) (ug a (ll (cB t) rfl) ?_))
        obtain rfl := sj I
        exact q _ _ ⟨_, (b.kH St), h, l, N, rfl, rfl⟩
       refine un a (un a (un a (Vu rfl rfl (Vu rfl rfl (un a (V (ll (cB a) rfl) ?_))))))
       obtain rfl := sj H
       exact Z _ _ ⟨_, (b.kH St), h, l, N, rfl⟩
      refine bC J (fun j J => ?_) (fun j J => ?_)
      ·refine un j (un j (V (lj (cB j) rfl) ?_))
       obtain rfl := sj J
       exact a2 _ _ ⟨_, (b.kH St), T, U, rfl, rfl⟩
      refine ug j (kT rfl) (ug j (lR rfl rfl rfl) (V (ll (cB j) rfl) ?_))
      obtain rfl := sj J
      exact a2 _ _ ⟨_, (b.kH St), T, U, rfl, rfl⟩
     exact nT (nJ (nJ (qE (kU (sg (Wa (lt (rQ c b))))))))
   refine bC u (fun g u => ?_) (fun g u => ?_)
   ·refine un g (un g (un g (V (lj (cB g) rfl) ?_)))
    obtain rfl := sj u
    exact a3 _ _ ⟨_, (b.kH St), n, rfl⟩
   refine ug g (kT n) (bS u fun f8 s u => ug g (BC (i := 0) cD rfl rfl (AH s) (D1 s)) (ug g (lR rfl rfl rfl) (V (ll (cB g) rfl) ?_)))
   obtain rfl := sj u
   exact a3 _ _ ⟨_, (b.kH St), n, rfl⟩
  refine bC x (fun B x => ?_) (fun B x => ?_)
  ·refine un B (un B (un B (V (lj (cB B) rfl) ?_)))
   obtain rfl := sj x
   exact a4 _ _ ⟨_, (b.kH St), p, rfl⟩
  refine ug B (kT p) (bS x fun f9 v x => ug B (BC (i := 0) cD rfl rfl (AH v) (D1 v)) (ug B (lR rfl rfl rfl) (V (ll (cB B) rfl) ?_)))
  obtain rfl := sj x
  exact a4 _ _ ⟨_, (b.kH St), p, rfl⟩
 refine bC K (fun z K => ?_) (fun z K => ?_)
 ·refine un z (un z (un z (V (lj (cB z) rfl) ?_)))
  obtain rfl := sj K
  exact a5 _ _ ⟨_, (b.kH St), rfl, rfl⟩
 refine ug z (kT rfl) (ug z (pA cD rfl) (ug z (lR rfl rfl rfl) (V (ll (cB z) rfl) ?_)))
 obtain rfl := sj K
 exact a5 _ _ ⟨_, (b.kH St), rfl, rfl⟩
theorem yR (i : kD) (r : Bool) (w : World) (hm : ub i = some r) :
  lE true Tryz.prog 216 [(.agg (kR i).toArray)] w (.bool r) := by
 refine cG 11 func216 rfl (fun b => sg (VE (lI b rfl (fun H J b => Wa (lr (Wf qi (VB b Mh rfl rfl bW (bS hm fun K y hm => VE (Eg b call265 (wO i.kE _ _  y) (fun I b => Wm (LJ hm (fun k E W => ∃ j, ST true lU w W (hp w) j ∧ E 2 = (.bool false) ∧ E 10 = (.bool k)) 4 ?_ (fun k a g => ?_))))))))))))
 ·rintro G E W ⟨j, b, B, x⟩ t
  exact Wg x (lt (rQ t b))
 refine bC a (fun c a => ?_) (fun c a => ?_)
 ·refine ug c (kP uN rfl) (ug c (kI rfl (lg b.has Mh rfl bW)) (bS a fun D u a => tm c (Eg b call265 (wO i.kL _ _  u) (fun z b => V (lj (cB c) rfl) ?_))))
  obtain rfl := sj a
  exact g _ _ ⟨_, (b.kH (Db St)), rfl, rfl⟩
 refine un c (un c (un c (V (ll (cB c) rfl) ?_)))
 obtain rfl := sj a
 exact g _ _ ⟨_, (b.kH (Db St)), rfl, rfl⟩
set_option maxHeartbeats 1000000 in
theorem FT (d8 : Formula → Option Bool) (i9 : ∀ (a : Formula) (x : Value) (r : Bool) (w : World) (k : Sl kG 5 (hp w) x a.Kids), d8 a = some r → lE false Tryz.prog 162 [(.agg #[(.int .i64 a.Op), (.int .i64 a.K), (.string a.kD.kE), (.string a.kD.kL), x])] w (.bool r)) (a : Formula) (x : Value) (r : Bool) (w : World) (k : Sl kG 5 (hp w) x a.Kids) (hm : yu d8 a = some r) :
  lE false Tryz.prog 162 [(.agg #[(.int .i64 a.Op), (.int .i64 a.K), (.string a.kD.kE), (.string a.kD.kL), x])] w (.bool r) := by
 refine cG 81 func162 rfl (fun b => sg ?_)
 obtain ⟨A1, c2, rfl⟩ := k.form
 let b8 := (C2 a.Op a.K a.kD.kE a.kD.kL A1 a.Kids.length c2)
 refine VE (lI b rfl (fun W4 H b => Wa (lr (Wf oA (VB b Mh rfl rfl eA (V (ml aD rfl k) (Wa (lS ?_))))))))
 refine Wf oB (VB b Mh rfl rfl cA (Wi rfl (ln (CI hm rfl (fun k0 hm => ?_) (fun k0 hm => ?_)))))
 ·refine sg (Wf uU (VA b Mh (kR a.kD) bI aR (bS hm fun r6 k1 hm => VE (Eg b call216 (lE.mR (yR a.kD _ _  k1)) (fun W8 b => Wm (LJ hm (fun h2 E W => ∃ f9, ST false lU w W (hp w) ((H, Ol b8 58) :: f9) ∧ E 1 = (.pointer (some ⟨H, 0, none⟩)) ∧ E 2 = (.bool false) ∧ E 18 = (.bool h2)) 3 ?_ (fun h2 m c8 => ?_)))))))
  ·rintro l5 E W ⟨f9, b, j3, g7, j4⟩ i4
   refine Wh j4 (LJ i4 (fun h1 E W => ∃ g0, ST false lU w W (hp w) g0 ∧ E 2 = (.bool false) ∧ E 23 = (.bool h1)) 4 ?_ (fun h1 a5 c7 => ?_))
   ·rintro l6 E W ⟨g0, b, l4, j5⟩ i5
    refine Wg j5 (lt (lJ ?_))
    obtain rfl := sj i5
    exact rP b
   refine bC a5 (fun B a5 => ?_) (fun B a5 => ?_)
   ·refine ug B (kP sK j3) (ug B (kI rfl (lg b.has Mh rfl cA)) (ug B (lR rfl rfl rfl) (V (lj (cB B) rfl) ?_)))
    obtain rfl := sj a5
    exact c7 _ _ ⟨_, (b.kH (Db St)), g7, rfl⟩
   refine un B (un B (un B (V (ll (cB B) rfl) ?_)))
   obtain rfl := sj a5
   exact c7 _ _ ⟨_, (b.kH (Db St)), g7, rfl⟩
  refine bC m (fun a4 m => ?_) (fun a4 m => ?_)
  ·refine ug a4 (kT rfl) (ug a4 (lR rfl rfl rfl) (V (lj (cB a4) rfl) ?_))
   obtain rfl := sj m
   exact c8 _ _ ⟨_, (b.kH St), rfl, rfl, rfl⟩
  refine un a4 (un a4 (V (ll (cB a4) rfl) ?_))
  obtain rfl := sj m
  exact c8 _ _ ⟨_, (b.kH St), rfl, rfl, rfl⟩
 let a0 := (b8.toArray : Array Value)
 let d : Value := (.pointer (some ⟨H, 0, none⟩))
 refine kS (Wf oB (VB b Mh rfl rfl cA (Wi rfl (Wm (LJ hm (fun e6 E W => ∃ g1, ST false lU w W (hp w) ((H, Obj.cells a0 58 (0, 0)) :: g1) ∧ E 1 = d ∧ E 3 = (.int .i64 (a.Kids.length : Int)) ∧ E 31 = (.bool e6)) 4 ?_ (fun e6 Z c0 => ?_))))))
 ·let p : Value := (.int .i64 (a.Kids.length : Int))
  rintro l7 E W ⟨g1, b, d5, g8, j6⟩ i6
  refine Wh j6 (LJ i6 (fun e5 E W => ∃ g2, ST false lU w W (hp w) ((H, Obj.cells a0 58 (0, 0)) :: g2) ∧ E 1 = d ∧ E 3 = p ∧ E 37 = (.bool e5)) 5 ?_ (fun e5 Y b9 => ?_))
  ·rintro l8 E W ⟨g2, b, g9, d6, j7⟩ i7
   refine Wh j7 (LJ i7 (fun e4 E W => ∃ g3, ST false lU w W (hp w) ((H, Obj.cells a0 58 (0, 0)) :: g3) ∧ E 1 = d ∧ E 3 = p ∧ E 41 = (.bool e4)) 3 ?_ (fun e4 U b7 => ?_))
   ·rintro l9 E W ⟨g3, b, q, h0, j8⟩ n
    refine ln (CI n j8 (fun i3 n => ?_) (fun i3 n => ?_))
    ·refine sg (Wa (ln ?_))
     replace b := b.kH (Db St)
     refine lC (lJ ?_)
     obtain rfl := sj n
     exact rP b
    refine kS (V (kP oB q) (VB b Mh rfl rfl cA (Wi rfl (Wm (LJ n (fun e3 E W => ∃ g4, ST false lU w W (hp w) ((H, Obj.cells a0 58 (0, 0)) :: g4) ∧ E 1 = d ∧ E 3 = p ∧ E 49 = (.bool e3)) 4 ?_ (fun e3 T b6 => ?_))))))
    ·rintro F E W ⟨g4, b, l, d7, j9⟩ i8
     refine Wh j9 (LJ i8 (fun d9 E W => ∃ c9, ST false lU w W (hp w) ((H, Obj.cells a0 58 (0, 0)) :: c9) ∧ E 1 = d ∧ E 69 = (.bool d9)) 19 ?_ (fun d9 K R => ?_))
     ·rintro l0 E W ⟨c9, b, h3, h4⟩ J
      refine ln (CI J h4 (fun e8 J => ?_) (fun e8 J => ?_))
      ·refine sg (Wa (ln ?_))
       replace b := b.kH (Db St)
       refine lC (lJ ?_)
       obtain rfl := sj J
       exact rP b
      refine kS (V (kP oA h3) (VB b Mh rfl rfl eA (V (ml aD rfl k) (Wm (ln ?_)))))
      replace b := b.kH (Db St)
      refine mf (fun i E W => ∃ c1, (E 73 = .int .i64 (i : Nat) ∧ E 72 = .int .i64 (a.Kids.length : Nat)) ∧ ST false lU w W (hp w) c1 ∧ E 71 = (.slice A1 a.Kids.length c2) ∧ tU d8 (a.Kids.drop i) = some r) a.Kids.length k.len ⟨_, ⟨rfl, rfl⟩, (b.kH St), rfl, J⟩ dc dc dc (fun _ _ _ h => by obtain ⟨_, O, _⟩ := h; exact O) ?_ ?_
      ·rintro j0 E W f0 ⟨c1, ⟨L, eN⟩, b, s, j⟩
       obtain ⟨g, k2, f7, f6, f8⟩ := lT f0
       rw [f7] at j
       refine bg (VQ (mU (i := (j0 : Int)) (x0 := g) kG.out aD aC s L k (aH _) f6) (fun k7 ⟨_, ⟨k9, rfl, c6⟩, f4⟩ => V (kI rfl (lB b.has f4 aK aC)) (VE (lG b aP (fun k3 k6 b => ?_)))))
       obtain ⟨a9, P, rfl⟩ := c6.form
       let a2 := (C2 g.Op g.K g.kD.kE g.kD.kL a9 g.Kids.length P)
       refine VO (lh (.agg a2.toArray) (a2.toArray) b rfl rfl aC oc nb rfl (fun k4 b => lr (VA b Mh a2 aK aC (bS j fun k8 f5 j => VE (Eg b call162 (i9 g (.slice a9 g.Kids.length P) _ _ (c6.mono kN.mono b.kM) f5) (fun k5 b => V (ol rfl) (ln ?_)))))))
       replace b := b.kH (Db St)
       refine CI j rfl (fun e9 j => ?_) (fun e9 j => ?_)
       ·refine sg (Wa (lt (nC (lJ (nC (lJ ?_))))))
        obtain rfl := sj j
        exact rP b
       exact mr (lL (kU ⟨L, _, ⟨rfl, eN⟩, (b.kH St), s, (by rw [f8]; exact j)⟩))
      rintro E W ⟨c1, ⟨L, eN⟩, b, s, j⟩
      rw [aI] at j
      exact kU (sg (Wa (lt (rQ j b))))
     refine bC K (fun u K => ?_) (fun u K => ?_)
     ·refine un u (un u (un u (un u (Vu rfl rfl (Vu rfl rfl (Vu rfl rfl (Vu rfl rfl (Vu rfl rfl (Vu rfl rfl (Vu rfl rfl (Vu rfl rfl (Vu rfl rfl (Vu rfl rfl (Vu rfl rfl ?_))))))))))))))
      refine Vu rfl rfl (Vu rfl rfl (un u (V (lj (cB u) rfl) ?_)))
      obtain rfl := sj K
      exact R _ _ ⟨_, (b.kH St), l, rfl⟩
     refine ug u (kP oB l) (ug u (kI rfl (lg b.has Mh rfl cA)) (ug u (lR rfl rfl rfl) (ug u (kT rfl) (LJ K (fun e0 E W => ∃ d0, ST false lU w W (hp w) ((H, Obj.cells a0 58 (0, 0)) :: d0) ∧ E 1 = d ∧ E 50 = (.bool F) ∧ E 68 = (.bool e0)) 14 ?_ (fun e0 M b2 => ?_)))))
     ·rintro l1 E W ⟨d0, b, h5, h6, h7⟩ f1
      refine V (ll (h6.trans (cB u)) h7) ?_
      obtain rfl := sj f1
      exact R _ _ ⟨_, (b.kH St), h5, rfl⟩
     refine bC M (fun c M => ?_) (fun c M => ?_)
     ·refine ug c (kT d7) (ug c (lR rfl rfl rfl) (ug c (kT rfl) (LJ M (fun e2 E W => ∃ d1, ST false lU w W (hp w) ((H, Obj.cells a0 58 (0, 0)) :: d1) ∧ E 1 = d ∧ E 3 = p ∧ E 50 = (.bool F) ∧ E 54 = (.bool (a.Op == 4)) ∧ E 61 = (.bool e2)) 4 ?_ (fun e2 Q b5 => ?_))))
      ·rintro l2 E W ⟨d1, b, A, h8, d3, a3, h9⟩ f2
       refine Vg rfl (a3.trans (cB c)) (kT h9) (LJ f2 (fun e1 E W => ∃ d2, ST false lU w W (hp w) ((H, Obj.cells a0 58 (0, 0)) :: d2) ∧ E 1 = d ∧ E 50 = (.bool F) ∧ E 54 = (.bool (a.Op == 4)) ∧ E 67 = (.bool e1)) 5 ?_ (fun e1 N b4 => ?_))
       ·rintro l3 E W ⟨d2, b, i0, d4, i1, i2⟩ f3
        refine Vg rfl (d4.trans (cB u)) (lj (i1.trans (cB c)) i2) ?_
        obtain rfl := sj f3
        exact b2 _ _ ⟨_, (b.kH St), i0, d4, rfl⟩
       refine bC N (fun t N => ?_) (fun t N => ?_)
       ·refine un t (un t (un t (un t (Vg rfl (a3.trans (cB c)) (lj (cB t) rfl) ?_))))
        obtain rfl := sj N
        exact b4 _ _ ⟨_, (b.kH St), A, d3, a3, rfl⟩
       refine ug t (kP sK A) (ug t (kI rfl (lg b.has Mh rfl cA)) (ug t (kT h8) (ug t (lR rfl rfl rfl) (Vg rfl (a3.trans (cB c)) (ll (cB t) rfl) ?_))))
       obtain rfl := sj N
       exact b4 _ _ ⟨_, (b.kH St), A, d3, a3, rfl⟩
      refine bC Q (fun y Q => ?_) (fun y Q => ?_)
      ·refine un y (un y (un y (ug c (lj (cB y) rfl) ?_)))
       obtain rfl := sj Q
       exact b5 _ _ ⟨_, (b.kH St), l, d7, rfl, rfl, rfl⟩
      refine ug y (kP sK l) (ug y (kI rfl (lg b.has Mh rfl cA)) (ug y (lR rfl rfl rfl) (ug c (ll (cB y) rfl) ?_)))
      obtain rfl := sj Q
      exact b5 _ _ ⟨_, (b.kH St), l, d7, rfl, rfl, rfl⟩
     refine un c (un c (un c (Vu rfl rfl (Vu rfl rfl (Vu rfl rfl (un c (un c (Vu rfl rfl (Vu rfl rfl (Vu rfl rfl (Vu rfl rfl (un c (ug u (ll (cB c) rfl) ?_)))))))))))))
     obtain rfl := sj M
     exact b2 _ _ ⟨_, (b.kH St), l, rfl, rfl⟩
    refine bC T (fun G T => ?_) (fun G T => ?_)
    ·refine ug G (kP sK q) (ug G (kI rfl (lg b.has Mh rfl cA)) (ug G (lR rfl rfl rfl) (V (lj (cB G) rfl) ?_)))
     obtain rfl := sj T
     exact b6 _ _ ⟨_, (b.kH St), q, h0, rfl⟩
    refine un G (un G (un G (V (ll (cB G) rfl) ?_)))
    obtain rfl := sj T
    exact b6 _ _ ⟨_, (b.kH St), q, h0, rfl⟩
   refine bC U (fun I U => ?_) (fun I U => ?_)
   ·refine un I (un I (V (lj (cB I) rfl) ?_))
    obtain rfl := sj U
    exact b7 _ _ ⟨_, (b.kH St), g9, d6, rfl⟩
   refine ug I (kT d6) (ug I (lR rfl rfl rfl) (V (ll (cB I) rfl) ?_))
   obtain rfl := sj U
   exact b7 _ _ ⟨_, (b.kH St), g9, d6, rfl⟩
  refine bC Y (fun z Y => ?_) (fun z Y => ?_)
  ·refine un z (un z (un z (un z (V (lj (cB z) rfl) ?_))))
   obtain rfl := sj Y
   exact b9 _ _ ⟨_, (b.kH St), d5, g8, rfl⟩
  refine ug z (kP uU d5) (ug z (kI rfl (kO b.has Mh (kR a.kD) rfl bI aR)) (ug z (mB (v := (.agg (kR K0).toArray)) rp (mn fF dQ (J6 _ dQ) kr)) (ug z (Ed rfl rfl (nW eL) (Al (qf _ a.kD K0))) (V (ll (cB z) rfl) ?_))))
  obtain rfl := sj Y
  exact b9 _ _ ⟨_, (b.kH St), d5, g8, rfl⟩
 refine bC Z (fun D Z => ?_) (fun D Z => ?_)
 ·refine un D (un D (un D (V (lj (cB D) rfl) ?_)))
  obtain rfl := sj Z
  exact c0 _ _ ⟨_, (b.kH St), rfl, rfl, rfl⟩
 refine ug D (kP oB rfl) (ug D (kI rfl (lg b.has Mh rfl cA)) (ug D (lR rfl rfl rfl) (V (ll (cB D) rfl) ?_)))
 obtain rfl := sj Z
 exact c0 _ _ ⟨_, (b.kH St), rfl, rfl, rfl⟩
theorem Fb : ∀ (n : Nat) (c : Formula) (a : Value) (r : Bool) (w : World) (g : Sl kG 5 (hp w) a c.Kids) (_ : tL n c = some r),
  lE false Tryz.prog 162 [(.agg #[(.int .i64 c.Op), (.int .i64 c.K), (.string c.kD.kE), (.string c.kD.kL), a])] w (.bool r)
 | 0 => by intros; rename_i h; simp only [tL] at h; cases h
 | n + 1 => FT (tL n) (Fb n)
theorem wW (a : Formula) (t : Value) (r : Bool) (w : World) (c : Sl kG 5 (hp w) t a.Kids) (hm : ru a = some r) :
  lE false Tryz.prog 92 [(.agg #[(.int .i64 a.Op), (.int .i64 a.K), (.string a.kD.kE), (.string a.kD.kL), t])] w (.bool r) := by
 refine cG 15 func92 rfl (fun b => sg ?_)
 obtain ⟨u, x, rfl⟩ := c.form
 let d : Value := (.slice u a.Kids.length x)
 let a0 := (C2 a.Op a.K a.kD.kE a.kD.kL u a.Kids.length x)
 refine VE (lI b rfl (fun W4 Q b => Wa (lr (VA b Mh a0 aK aC (bS hm fun n Z hm => VE (Eg b call160 ((El lF) a d _ _ (c.mono kN.mono b.kM) Z) (fun W7 b => Wi rfl (Wm (LJ hm (fun I E W => ∃ B, ST false lU w W (hp w) ((Q, Ol a0 58) :: B) ∧ E 1 = (.pointer (some ⟨Q, 0, none⟩)) ∧ E 2 = (.bool false) ∧ E 10 = (.bool I)) 4 ?_ (fun I j z => ?_))))))))))
 ·rintro l E W ⟨B, b, T, G, U⟩ J
  refine Wh U (LJ J (fun H E W => ∃ D, ST false lU w W (hp w) D ∧ E 2 = (.bool false) ∧ E 14 = (.bool H)) 3 ?_ (fun H i y => ?_))
  ·rintro m E W ⟨D, b, a3, Y⟩ K
   exact Wg Y (lt (rQ K b))
  refine bC i (fun g i => ?_) (fun g i => ?_)
  ·refine ug g (kI T (kO b.has Mh a0 rfl aK aC)) (bS i fun a4 M i => tm g (Eg b call162 ((Fb lF) a d _ _ (c.mono kN.mono b.kM) M) (fun h b => V (lj (cB g) rfl) ?_)))
   obtain rfl := sj i
   exact y _ _ ⟨_, (b.kH (Db St)), G, rfl⟩
  refine un g (un g (V (ll (cB g) rfl) ?_))
  obtain rfl := sj i
  exact y _ _ ⟨_, (b.kH (Db St)), G, rfl⟩
 refine bC j (fun k j => ?_) (fun k j => ?_)
 ·refine ug k (kI rfl (kO b.has Mh a0 rfl aK aC)) (bS j fun a5 N j => tm k (Eg b call161 ((EU lF) a d _ _ (c.mono kN.mono b.kM) N) (fun a2 b => ug k (lR rfl rfl rfl) (V (lj (cB k) rfl) ?_))))
  obtain rfl := sj j
  exact z _ _ ⟨_, (b.kH St), rfl, rfl, rfl⟩
 refine un k (un k (un k (V (ll (cB k) rfl) ?_)))
 obtain rfl := sj j
 exact z _ _ ⟨_, (b.kH St), rfl, rfl, rfl⟩
theorem EZ (t u : kD) (r : Bool) (w : World) (hm : xF t u = some r) :
  lE true Tryz.prog 297 [(.agg (kR t).toArray), (.agg (kR u).toArray)] w (.bool r) := by
 refine cG 24 func297 rfl (fun b => sg (VE (lI b rfl (fun T Y b => VE (lI b rfl (fun U Z b => Wa (lr (Wf qi (VB b (Mt Mh) rfl rfl bW (Wf qi (VB b Mh rfl rfl bW (V (rR rfl rfl rfl) ?_))))))))))))
 refine Wm (LJ hm (fun z E W => ∃ x, ST true lU w W (hp w) x ∧ E 4 = (.bool false) ∧ E 23 = (.bool z)) 13 ?_ (fun z g j => ?_))
 ·rintro N E W ⟨x, b, M, H⟩ D
  exact Wg H (lt (rQ D b))
 refine bC g (fun a g => ?_) (fun a g => ?_)
 ·refine un a (un a (un a (un a (un a (un a (Vu rfl rfl (Vu rfl rfl (Vu rfl rfl (Vu rfl rfl (Vu rfl rfl (un a (V (lj (cB a) rfl) ?_))))))))))))
  obtain rfl := sj g
  exact j _ _ ⟨_, (b.kH (Db (Db St))), rfl, rfl⟩
 refine ug a (kP qi rfl) (ug a (kI rfl (lg b.has (Mt Mh) rfl bW)) (ug a (kP qi rfl) (ug a (kI rfl (lg b.has Mh rfl bW)) (ug a (rR rfl rfl rfl) (ug a (kT rfl) (LJ g (fun B E W => ∃ y, ST true lU w W (hp w) y ∧ E 4 = (.bool false) ∧ E 10 = (.bool (rq t.kE u.kE)) ∧ E 22 = (.bool B)) 6 ?_ (fun B i k => ?_)))))))
 ·rintro Q E W ⟨y, b, I, J, K⟩ G
  refine V (ll (J.trans (cB a)) K) ?_
  obtain rfl := sj G
  exact j _ _ ⟨_, (b.kH St), I, rfl⟩
 refine bC i (fun c i => ?_) (fun c i => ?_)
 ·refine ug c (kP uN rfl) (ug c (kI rfl (lg b.has (Mt Mh) rfl bW)) (ug c (kP uN rfl) (ug c (kI rfl (lg b.has Mh rfl bW)) (ug c (rR rfl rfl rfl) (ug a (lj (cB c) rfl) ?_)))))
  obtain rfl := sj i
  exact k _ _ ⟨_, (b.kH (Db (Db St))), rfl, rfl, rfl⟩
 refine un c (un c (un c (un c (un c (ug a (ll (cB c) rfl) ?_)))))
 obtain rfl := sj i
 exact k _ _ ⟨_, (b.kH (Db (Db St))), rfl, rfl, rfl⟩
theorem Et (g : kF) (r : Bool) (w : World) (hm : wS g = some r) :
  lE true Tryz.prog 261 [(.agg (kK g).toArray)] w (.bool r) := by
 refine cG 93 func261 rfl (fun b => sg (VE (lI b rfl (fun W2 M b => Wa (lr (VE (lG b fF (fun W4 h b => lS ?_))))))))
 refine Wf rJ (VA b (Mt Mh) (kR g.Head) bI aR (bS hm fun r5 h4 hm => VE (Eg b call216 (yR g.Head _ _  h4) (fun W7 b => V (ol rfl) (ln (CI hm rfl (fun h2 hm => ?_) (fun h2 hm => ?_)))))))
 ·refine sg (Wa (ln ?_))
  replace b := b.kH (Db (Db St))
  refine lC (lJ ?_)
  obtain rfl := sj hm
  exact rP b
 refine kS (Wf rI (VB b (Mt Mh) rfl rfl cA (Wi rfl (ln (CI hm rfl (fun h3 hm => ?_) (fun h3 hm => ?_))))))
 ·refine sg (Wf xH (VB b (Mt Mh) rfl rfl bW (bS hm fun i6 f7 hm => VE (Eg b call265 (wO g.ma _ _  f7) (fun i3 b => Wm (LJ hm (fun e1 E W => ∃ R, ST true lU w W (hp w) ((h, Ol (kR K0) 50) :: ((M, Ol (kK g) 52) :: R)) ∧ E 1 = (.pointer (some ⟨M, 0, none⟩)) ∧ E 2 = (.bool false) ∧ E 3 = (.pointer (some ⟨h, 0, none⟩)) ∧ E 19 = (.bool e1)) 5 ?_ (fun e1 T p => ?_)))))))
  ·rintro i8 E W ⟨R, b, l, d6, f9, g0⟩ f0
   refine Wh g0 (LJ f0 (fun e0 E W => ∃ c9, ST true lU w W (hp w) ((M, Ol (kK g) 52) :: c9) ∧ E 1 = (.pointer (some ⟨M, 0, none⟩)) ∧ E 2 = (.bool false) ∧ E 25 = (.bool e0)) 5 ?_ (fun e0 Q a5 => ?_))
   ·rintro i9 E W ⟨c9, b, g1, d7, g2⟩ f1
    refine Wh g2 (LJ f1 (fun d9 E W => ∃ d0, ST true lU w W (hp w) d0 ∧ E 2 = (.bool false) ∧ E 30 = (.bool d9)) 4 ?_ (fun d9 N a4 => ?_))
    ·rintro j0 E W ⟨d0, b, i5, g3⟩ f2
     refine Wg g3 (lt (lJ ?_))
     obtain rfl := sj f2
     exact rP b
    refine bC N (fun x N => ?_) (fun x N => ?_)
    ·refine ug x (kP vA g1) (ug x (kI rfl (lg b.has Mh rfl bW)) (ug x (rR rfl rfl rfl) (V (lj (cB x) rfl) ?_)))
     obtain rfl := sj N
     exact a4 _ _ ⟨_, (b.kH (Db St)), d7, rfl⟩
    refine un x (un x (un x (V (ll (cB x) rfl) ?_)))
    obtain rfl := sj N
    exact a4 _ _ ⟨_, (b.kH (Db St)), d7, rfl⟩
   refine bC Q (fun k Q => ?_) (fun k Q => ?_)
   ·refine ug k (kP tD l) (ug k (kI rfl (kO b.has (Mt Mh) (kR g.C) rfl bI aR)) (ug k (kI f9 (kO b.has Mh (kR K0) rfl bI aR)) (ug k (uY rfl rfl (nW eL) (ra (qf _ g.C K0))) (V (lj (cB k) rfl) ?_))))
    obtain rfl := sj Q
    exact a5 _ _ ⟨_, (b.kH (Db St)), l, d6, rfl⟩
   refine un k (un k (un k (un k (V (ll (cB k) rfl) ?_))))
   obtain rfl := sj Q
   exact a5 _ _ ⟨_, (b.kH (Db St)), l, d6, rfl⟩
  refine bC T (fun j T => ?_) (fun j T => ?_)
  ·refine ug j (kP oP rfl) (ug j (kI rfl (kO b.has (Mt Mh) (kR g.B) rfl bI aR)) (ug j (kI rfl (kO b.has Mh (kR K0) rfl bI aR)) (ug j (uY rfl rfl (nW eL) (ra (qf _ g.B K0))) (V (lj (cB j) rfl) ?_))))
   obtain rfl := sj T
   exact p _ _ ⟨_, (b.kH St), rfl, rfl, rfl, rfl⟩
  refine un j (un j (un j (un j (V (ll (cB j) rfl) ?_))))
  obtain rfl := sj T
  exact p _ _ ⟨_, (b.kH St), rfl, rfl, rfl, rfl⟩
 let a0 := ((kK g).toArray : Array Value)
 let d : Value := (.pointer (some ⟨M, 0, none⟩))
 refine kS (Wf xH (VB b (Mt Mh) rfl rfl bW (V (rR rfl rfl rfl) (Wm (LJ hm (fun c1 E W => ∃ d1, ST true lU w W (hp w) ((h, Ol (kR K0) 50) :: ((M, Obj.cells a0 52 (0, 0)) :: d1)) ∧ E 1 = d ∧ E 3 = (.pointer (some ⟨h, 0, none⟩)) ∧ E 39 = (.bool c1)) 5 ?_ (fun c1 I a3 => ?_))))))
 ·rintro j3 E W ⟨d1, b, u, d8, g4⟩ i
  refine ln (CI i g4 (fun e7 i => ?_) (fun e7 i => ?_))
  ·refine sg (Wa (ln ?_))
   replace b := b.kH (Db (Db St))
   refine lC (lJ ?_)
   obtain rfl := sj i
   exact rP b
  refine kS (V (kP rI u) (VB b (Mt Mh) rfl rfl cA (Wi rfl (ln (CI i rfl (fun e8 i => ?_) (fun e8 i => ?_))))))
  ·refine sg (V (kP tD u) (VA b (Mt Mh) (kR g.C) bI aR (V (kI d8 (kO b.has Mh (kR K0) rfl bI aR)) (V (uY rfl rfl (nW eL) (ra (qf _ g.C K0))) (Wm (LJ i (fun e2 E W => ∃ d2, ST true lU w W (hp w) d2 ∧ E 51 = (.bool e2)) 4 ?_ (fun e2 U q => ?_)))))))
   ·rintro j4 E W ⟨d2, b, g7⟩ f3
    refine Wg g7 (lt (lJ ?_))
    obtain rfl := sj f3
    exact rP b
   refine bC U (fun y U => ?_) (fun y U => ?_)
   ·refine ug y (kP vA u) (ug y (kI rfl (lg b.has (Mt Mh) rfl bW)) (ug y (rR rfl rfl rfl) (V (lj (cB y) rfl) ?_)))
    obtain rfl := sj U
    exact q _ _ ⟨_, (b.kH (Db (Db St))), rfl⟩
   refine un y (un y (un y (V (ll (cB y) rfl) ?_)))
   obtain rfl := sj U
   exact q _ _ ⟨_, (b.kH (Db (Db St))), rfl⟩
  refine kS (V (kP rI u) (VB b (Mt Mh) rfl rfl cA (Wi rfl (ln (CI i rfl (fun e9 i => ?_) (fun e9 i => ?_))))))
  ·refine sg (V (kP tD u) (VA b (Mt Mh) (kR g.C) bI aR (V (kI d8 (kO b.has Mh (kR K0) rfl bI aR)) (V (uY rfl rfl (nW eL) (ra (qf _ g.C K0))) (Wm (LJ i (fun e4 E W => ∃ d3, ST true lU w W (hp w) ((M, Obj.cells a0 52 (0, 0)) :: d3) ∧ E 1 = d ∧ E 67 = (.bool e4)) 8 ?_ (fun e4 Y a9 => ?_)))))))
   ·rintro j5 E W ⟨d3, b, g8, g9⟩ f4
    refine Wh g9 (LJ f4 (fun e3 E W => ∃ d4, ST true lU w W (hp w) d4 ∧ E 72 = (.bool e3)) 4 ?_ (fun e3 J s => ?_))
    ·rintro j6 E W ⟨d4, b, h0⟩ f5
     refine Wg h0 (lt (lJ ?_))
     obtain rfl := sj f5
     exact rP b
    refine bC J (fun z J => ?_) (fun z J => ?_)
    ·refine ug z (kP vA g8) (ug z (kI rfl (lg b.has Mh rfl bW)) (bS J fun i7 f8 J => tm z (Eg b call265 (wO g.mc _ _  f8) (fun i4 b => V (lj (cB z) rfl) ?_))))
     obtain rfl := sj J
     exact s _ _ ⟨_, (b.kH (Db St)), rfl⟩
    refine un z (un z (un z (V (ll (cB z) rfl) ?_)))
    obtain rfl := sj J
    exact s _ _ ⟨_, (b.kH (Db St)), rfl⟩
   refine bC Y (fun a Y => ?_) (fun a Y => ?_)
   ·refine ug a (kP oP u) (ug a (kP qi rfl) (ug a (kI rfl (lg b.has (Mt Mh) rfl bW)) (ug a (kP rJ u) (ug a (kP qi rfl) (ug a (kI rfl (lg b.has (Mt Mh) rfl bW)) (ug a (rR rfl rfl rfl) (V (lj (cB a) rfl) ?_)))))))
    obtain rfl := sj Y
    exact a9 _ _ ⟨_, (b.kH (Db St)), u, rfl⟩
   refine un a (un a (un a (un a (un a (un a (un a (V (ll (cB a) rfl) ?_)))))))
   obtain rfl := sj Y
   exact a9 _ _ ⟨_, (b.kH (Db St)), u, rfl⟩
  refine kn ?_
  replace b := b.kH (Db St)
  refine sg (V (kP rI u) (VB b Mh rfl rfl cA (Wi rfl (Wm (LJ i (fun P E W => ∃ d5, ST true lU w W (hp w) ((M, Obj.cells a0 52 (0, 0)) :: d5) ∧ E 1 = d ∧ E 80 = (.bool P)) 4 ?_ (fun P K a2 => ?_))))))
  ·rintro j7 E W ⟨d5, b, m, h1⟩ f6
   refine Wh h1 (LJ f6 (fun O E W => ∃ v, ST true lU w W (hp w) ((M, Obj.cells a0 52 (0, 0)) :: v) ∧ E 1 = d ∧ E 85 = (.bool O)) 4 ?_ (fun O H n => ?_))
   ·rintro i1 E W ⟨v, b, F, e5⟩ c3
    refine Wh e5 (LJ c3 (fun L E W => ∃ A, ST true lU w W (hp w) A ∧ E 92 = (.bool L)) 6 ?_ (fun L G Z => ?_))
    ·rintro i2 E W ⟨A, b, e6⟩ c4
     exact Wg e6 (lt (rQ c4 b))
    refine bC G (fun c G => ?_) (fun c G => ?_)
    ·refine ug c (kP oP F) (ug c (kI rfl (kO b.has Mh (kR g.B) rfl bI aR)) (ug c (kP tD F) (ug c (kI rfl (kO b.has Mh (kR g.C) rfl bI aR)) (bS G fun h8 c5 G => tm c (Eg b call297 (EZ g.B g.C _ _  c5) (fun h5 b => V (lj (cB c) rfl) ?_))))))
     obtain rfl := sj G
     exact Z _ _ ⟨_, (b.kH (Db St)), rfl⟩
    refine un c (un c (un c (un c (un c (V (ll (cB c) rfl) ?_)))))
    obtain rfl := sj G
    exact Z _ _ ⟨_, (b.kH (Db St)), rfl⟩
   refine bC H (fun D H => ?_) (fun D H => ?_)
   ·refine ug D (kP tD m) (ug D (kI rfl (kO b.has Mh (kR g.C) rfl bI aR)) (bS H fun h9 c6 H => tm D (Eg b call216 (yR g.C _ _  c6) (fun h6 b => V (lj (cB D) rfl) ?_))))
    obtain rfl := sj H
    exact n _ _ ⟨_, (b.kH St), m, rfl⟩
   refine un D (un D (un D (V (ll (cB D) rfl) ?_)))
   obtain rfl := sj H
   exact n _ _ ⟨_, (b.kH St), m, rfl⟩
  refine bC K (fun B K => ?_) (fun B K => ?_)
  ·refine ug B (kP vA u) (ug B (kI rfl (lg b.has Mh rfl bW)) (ug B (rR rfl rfl rfl) (V (lj (cB B) rfl) ?_)))
   obtain rfl := sj K
   exact a2 _ _ ⟨_, (b.kH St), u, rfl⟩
  refine un B (un B (un B (V (ll (cB B) rfl) ?_)))
  obtain rfl := sj K
  exact a2 _ _ ⟨_, (b.kH St), u, rfl⟩
 refine bC I (fun t I => ?_) (fun t I => ?_)
 ·refine un t (un t (un t (un t (V (lj (cB t) rfl) ?_))))
  obtain rfl := sj I
  exact a3 _ _ ⟨_, (b.kH St), rfl, rfl, rfl⟩
 refine ug t (kP oP rfl) (ug t (kI rfl (kO b.has (Mt Mh) (kR g.B) rfl bI aR)) (bS I fun i0 c7 I => tm t (Eg b call216 (yR g.B _ _  c7) (fun h7 b => ug t (ol rfl) (V (ll (cB t) rfl) ?_)))))
 obtain rfl := sj I
 exact a3 _ _ ⟨_, (b.kH St), rfl, rfl, rfl⟩
theorem vV (x : Int) (r : ByteArray) (w : World) (hm : rL x = some r) :
  lE true Tryz.prog 340 [(.int .i64 x)] w (.string r) := by
 refine cG 22 func340 rfl (fun d => sg (Wa (lr (Wa (ln (kZ (mK (nZ (fun m E W => ∃ c j t, ST true lU w W (hp w) t ∧ E 0 = (.int .i64 c) ∧ E 3 = (.string j) ∧ uq m c j = some r) lF ⟨x, zS, _, (d.kH St), rfl, rfl, hm⟩ ?_))))))))
 rintro m E W ⟨c, j, t, d, i, u, g⟩
 let N := (Int.tmod c 128)
 cases m with
 | zero => rw [uq] at g; cases g
 | succ D =>
  refine kZ (sg (Wh i (Wi rfl (ln (CI g rfl (fun y g => ?_) (fun y g => ?_))))))
  ·refine kn (bg (Wh u (Wh i (V (JA (k := .i64) (a := c) (b := 128) (v := (.int .i64 N)) rfl rfl dc rfl) (Wi rfl (V (sC (k' := .i64) (a := (IntKind.i64.wrap (128 + N))) eT gK rfl) (VE (lD (cs := [(.int .u8 (IntKind.u8.wrap (IntKind.i64.wrap (128 + N))))].toArray) d (ni rfl) (nj cV sizeOf5 ko) (fun H J d => V (FI cV gK cD rfl (Sl.lit (enc := (mM .u8)) (l := [(IntKind.u8.wrap (IntKind.i64.wrap (128 + N)))]) (fun _ => rfl) rfl nb rfl (d.at_ Mh))) (bS g fun G z g => V (xR rfl rfl z) (Wa ?_)))))))))))
   refine ln ?_
   replace d := d.kH (Db St)
   exact kW (Wh i (V (JA (k := .i64) (a := c) (b := 128) (v := (.int .i64 (IntKind.i64.wrap (Int.tdiv c 128)))) rfl rfl dc rfl) (Wa (lH (lL (kU ⟨D, bF _, (IntKind.i64.wrap (Int.tdiv c 128)), G, _, (d.kH St), rfl, rfl, g⟩))))))
  refine nT (nJ (nJ (qE (kU (sg (Wh u (Wh i (V (sC (k' := .i64) (a := c) eT gK rfl) (VE (lD (cs := [(.int .u8 (IntKind.u8.wrap c))].toArray) d (ni rfl) (nj cV sizeOf5 ko) (fun I K d => V (FI cV gK cD rfl (Sl.lit (enc := (mM .u8)) (l := [(IntKind.u8.wrap c)]) (fun _ => rfl) rfl nb rfl (d.at_ Mh))) (bS g fun M B g => V (xR rfl rfl B) (Wa (ln ?_))))))))))))))
  exact lC (rQ g d)
theorem Ab (a r : ByteArray) (w : World) (hm : uW a = some r) :
  lE true Tryz.prog 342 [(.string a)] w (.string r) := by
 refine cG 8 func342 rfl (fun b => sg (Wa (lr (Wm (V (pA cD rfl) (bS hm fun j c hm => VE (Eg b call340 (vV (a.size : Int) _ _  c) (fun i b => Wm (bS hm fun k g hm => V (xR rfl rfl g) ?_)))))))))
 exact Wa (lt (rQ hm b))
theorem yP (a : kD) (r : ByteArray) (w : World) (hm : ud a = some r) :
  lE true Tryz.prog 341 [(.agg (kR a).toArray)] w (.string r) := by
 refine cG 10 func341 rfl (fun b => sg (VE (lI b rfl (fun y z b => Wa (ln (kZ ?_))))))
 replace b := b.drew
 have d := b.has.kH (Kb Sn)
 refine mi d lN (X 0 rfl d (kP qi rfl) (XH 1 rfl d (fun _ h => kI rfl (lg h Mh rfl bW)) (X 3 rfl d (kP uN rfl) (XH 4 rfl d (fun _ h => kI rfl (lg h Mh rfl bW)) (bS hm fun t c hm => XE 2 rfl (Eg b call342 (Ab a.kE _ _  c) (fun j b => ?_)))))))
 have d := b.has.kH (Kb Sn)
 refine ⟨d, (bS hm fun u g hm => XE 5 rfl (Eg b call342 (Ab a.kL _ _  g) (fun k b => ?_)))⟩
 have d := b.has.kH (Kb Sn)
 refine ⟨d, (bS hm fun x i hm => X 6 rfl d (xR rfl rfl i) (X 7 rfl d (od rfl) (mu kr (kU ?_))))⟩
 exact lC (rQ hm b)
theorem Jg (g : kF) (r : ByteArray) (w : World) (hm : Bf g = some r) :
  lE true Tryz.prog 325 [(.agg (kK g).toArray)] w (.string r) := by
 refine cG 41 func325 rfl (fun b => sg (VE (lI b rfl (fun W2 l b => Wa (ln (kZ ?_))))))
 replace b := b.drew
 have d := b.has.kH (Kb Sn)
 refine mi d lN (X 0 rfl d (kP rI rfl) (XH 1 rfl d (fun _ h => kI rfl (lg h Mh rfl cA)) (X 3 rfl d (kP rJ rfl) (XH 4 rfl d (fun _ h => kI rfl (kO h Mh (kR g.Head) rfl bI aR)) (bS hm fun a9 H hm => XE 2 rfl (Eg b call340 (vV g.Kind _ _  H) (fun a3 b => ?_)))))))
 have d := b.has.kH (Kb Sn)
 refine ⟨d, (bS hm fun q I hm => XE 5 rfl (Eg b call341 (yP g.Head _ _  I) (fun a4 b => ?_)))⟩
 have d := b.has.kH (Kb Sn)
 refine ⟨d, (bS hm fun L Q hm => X 6 rfl d (xR rfl rfl Q) (X 7 rfl d (od rfl) (mu kr (kU (kZ (sg (Wf rI (VB b Mh rfl rfl cA (Wi rfl (ln (CI hm rfl (fun y hm => ?_) (fun y hm => ?_))))))))))))⟩
 ·refine sg (Wm (Wf xH (VB b Mh rfl rfl bW (bS hm fun s J hm => VE (Eg b call342 (Ab g.ma _ _  J) (fun a5 b => bS hm fun O T hm => V (xR rfl rfl T) (Wa (ln ?_))))))))
  replace b := b.kH (Db St)
  refine lC (lJ ?_)
  obtain rfl := sj hm
  exact rP b
 refine kg (Wm (Wf oP (VA b Mh (kR g.B) bI aR (bS hm fun v K hm => VE (Eg b call341 (yP g.B _ _  K) (fun m b => bS hm fun P U hm => V (xR rfl rfl U) (Wa (ln (kZ ?_)))))))))
 refine CJ hm (fun x E W => ∃ i, ST true lU w W (hp w) ((l, Ol (kK g) 52) :: i) ∧ E 1 = (.pointer (some ⟨l, 0, none⟩)) ∧ E 3 = (.string x)) (fun x c => ?_) ?_
 ·refine sg (Wf rI (VB b Mh rfl rfl cA (Wi rfl (ln (CI c rfl (fun B c => ?_) (fun B c => ?_))))))
  ·refine kW (Wm (Wf vA (VB b Mh rfl rfl bW (bS c fun F N c => VE (Eg b call342 (Ab g.mc _ _  N) (fun p b => bS c fun c1 Z c => V (xR rfl rfl Z) (Wa (ln ?_))))))))
   obtain rfl := sj c
   exact ⟨_, (b.kH St), rfl, rfl⟩
  refine kn ?_
  obtain rfl := sj c
  exact ⟨_, (b.kH St), rfl, rfl⟩
 rintro c2 E W ⟨i, b, k, t⟩ D
 refine kZ (CJ D (fun u E W => ∃ j, ST true lU w W (hp w) j ∧ E 3 = (.string u)) (fun u a => ?_) ?_)
 ·refine sg (V (kP rI k) (VB b Mh rfl rfl cA (Wi rfl (ln (CI a rfl (fun z a => ?_) (fun z a => ?_))))))
  ·refine kW (Wh t (V (kP tD k) (VA b Mh (kR g.C) bI aR (bS a fun A M a => VE (Eg b call341 (yP g.C _ _  M) (fun n b => bS a fun R Y a => V (xR rfl rfl Y) (Wa (ln ?_))))))))
   obtain rfl := sj a
   exact ⟨_, (b.kH (Db St)), rfl⟩
  refine kn ?_
  obtain rfl := sj a
  exact ⟨_, (b.kH (Db St)), t⟩
 rintro c3 E W ⟨j, b, a2⟩ G
 exact sg (Wh a2 (Wa (lt (rQ G b))))
theorem En (a : kF) (r : ByteArray) (w : World) (hm : wJ a = some r) :
  lE true Tryz.prog 298 [(.agg (kK a).toArray)] w (.string r) := by
 refine cG 8 func298 rfl (fun b => sg (VE (lI b rfl (fun j u b => Wa (lS (VA b Mh (kK a) bX aO (bS hm fun x g hm => VE (Eg b call261 (Et a _ _  g) (fun k b => V (ol rfl) (lH ?_))))))))))
 refine kU (CI hm rfl (fun c hm => ?_) (fun c hm => ?_))
 ·refine sg (Wa (ln ?_))
  replace b := b.kH (Db St)
  refine lC (lJ ?_)
  obtain rfl := sj hm
  exact rP b
 refine kg (VA b Mh (kK a) bX aO (bS hm fun y i hm => VE (Eg b call325 (Jg a _ _  i) (fun t b => Wa (ln ?_)))))
 exact lC (rQ hm b)
theorem Cw (a c : kF) (r : Int) (w : World) (hm : tT a c = some r) :
  lE true Tryz.prog 262 [(.agg (kK a).toArray), (.agg (kK c).toArray)] w (.int .i64 r) := by
 refine cG 17 func262 rfl (fun b => sg (VE (lI b rfl (fun u z b => VE (lI b rfl (fun x B b => Wa (lr (VA b (Mt Mh) (kK a) bX aO (bS hm fun D j hm => VE (Eg b call298 (En a _ _  j) (fun y b => Wa (lH ?_))))))))))))
 refine kU ?_
 replace b := b.kH (Kb (Db St))
 refine sg (VA b Mh (kK c) bX aO (bS hm fun G k hm => VE (Eg b call298 (En c _ _  k) (fun t b => Wa (ln ?_)))))
 replace b := b.kH (Db St)
 refine kZ (sg (Wm (Wm (V (rR rfl rfl rfl) (ln (CI hm rfl (fun g hm => ?_) (fun g hm => ?_)))))))
 ·refine sg (Wa (lt (lJ ?_)))
  obtain rfl := sj hm
  exact rP b
 refine kS (Wm (Wm (V (rR rfl rfl rfl) (ln (CI hm rfl (fun i hm => ?_) (fun i hm => ?_))))))
 ·refine sg (Wa (lt (lJ ?_)))
  obtain rfl := sj hm
  exact rP b
 exact kg (Wa (lt (rQ hm b)))
end Go.Proofs.YtklbhegeiijbjaaGreat
