/- a part of a proof of LeastStays -/
import Derived.Test.YtmlncblocfcmiaaGreatL5W1s
set_option linter.all false
namespace Go.Proofs.YtmlncblocfcmiaaGreat
open Go.RowKit
set_option maxRecDepth 10000
open Tryz
theorem uw (j : Nat) (a0 : lQ) (c : Int) (K : Value) (a2 : List Formula) (r : (Formula × lQ)) (w : World) {μ0 : lG} (h0 : oW μ0 ((j, Ol (mK a0) 376) :: []) w) (b5 : Sl kL 5 μ0 K a2) (hm : pc a0 c a2 = some r) :
  mE false Tryz.prog 407 [(.pointer (some ⟨j, 0, none⟩)), (.int .i64 c), K] w μ0 ((j, Ol (mK a0) 376) :: []) (fun v L1 μ1 => ∃ y1, v = (.agg #[(.int .i64 ((r.1).Op)), (.int .i64 ((r.1).K)), (.string (((r.1).kI).kK)), (.string (((r.1).kI).kP)), y1]) ∧ L1 = ((j, Ol (mK (r.2)) 376) :: []) ∧ Sl kL 5 μ1 y1 ((r.1).Kids)) := by
 refine vd h0 37 func407 rfl (fun b => sg (VE (lZ b bE (fun W2 R b => lr (Wm (Wi rfl (VE (lZ b zeroValue3 (fun W4 s b => VO (lA (.int .i64 (IntKind.i64.wrap (5 - c))) (#[(.int .i64 (IntKind.i64.wrap (5 - c)))]) b rfl rfl fK (Gv _ (IntKind.i64.wrap (5 - c))) nb rfl (fun W5 b => ln (lj ?_))))))))))))
 let m := (IntKind.i64.wrap (5 - c))
 let q : Value := (.agg (Rq m).toArray)
 refine lh (Wm (Wm (bS hm fun r6 d1 hm => ?_)))
 refine VE (eD b (bM _) call437 (fun n => mE.nB (IJ c K a2 _ _ n (b5.mono kT.mono (lz.refl _)) d1)) ?_ (L0 := []))
 rintro _ f4 aa e2 b B d ⟨P, H, rfl, a3⟩
 obtain rfl := H.symm
 refine Wa (lS (Wm (V (wI (by exact wk rfl) rfl) (bS hm fun f3 c1 hm => VE (Eg b call310 (vz P r6 (.func (.func 438) #[] #[(.pointer (some ⟨s, 0, none⟩))]) (fun (x : Formula) => rH x m) _ _ (a3.mono kT.mono b.kV) ⟨438, #[], #[(.pointer (some ⟨s, 0, none⟩))], rfl, call438, fun W x vs r hs A hm => by obtain ⟨_, rfl, U⟩ := A; obtain ⟨L, rfl, F⟩ := U.out; exact (Ba x L s m r W F (At.of (hs _ _ (b.at_ Mh)) _ rfl) hm).nB⟩ c1) (fun e5 b => ln (CI hm rfl (fun b6 hm => ?_) (fun b6 hm => ?_))))))))
 ·refine sg (VB b Mh rfl rfl cV (V (ns (v := q) (ot rfl) (mP bE bZ (yn _ bZ) kr)) ?_))
  replace b := b.perm (Nb (Pb Pz) Nz)
  refine VO (lA q ((Rq m).toArray) b rfl rfl aC oc nb rfl (fun e6 b => ln ?_))
  replace b := b.kM (Kb (Db St))
  refine ma (mV ?_)
  obtain rfl := sj hm
  exact oI (v := q) rfl rfl (kX b.has Mh (Rq m) rfl aS aC) ⟨_, _, _, rfl, (b.ny (Db (Kb Sn))), B, d, (ST.mf b (nL.mem (Db (Kb Sn)))), (.slice none 0 0), rfl, rfl, (Sl.nil _ _ _)⟩
 refine kn ?_
 replace b := b.kM (Db St)
 refine sg (Wm (bS hm fun d2 c2 hm => ?_))
 refine VE (eD b (bM _) call436 (fun n => (Dg P r6 _ _ n (a3.mono kT.mono (lz.refl _)) c2)) ?_ (L0 := []))
 rintro _ f5 f9 e3 b N h ⟨d5, c7, I, rfl, c4⟩
 obtain rfl := I.symm
 replace b := b.perm (Tr Tn)
 refine bS hm fun z c3 hm => ?_
 refine VE (eD b (Cr Qz Cn) call439 (fun n => (zY d5 d2 c7 (.func (.func 440) #[] #[]) (fun (x : (Formula × Formula)) => oZ lE x.1 x.2) _ _ n c4 ⟨440, #[], #[], rfl, call440, fun W x vs r hs A hm => by obtain ⟨_, _, rfl, U, d0⟩ := A; obtain ⟨L, rfl, F⟩ := U.out; obtain ⟨t0, rfl, j0⟩ := d0.out; exact (Dn lE) x.1 L x.2 t0 r W F j0 hm⟩ c3)) ?_)
 rintro _ f6 d7 e4 b Q l ⟨d6, J, rfl, y⟩
 obtain rfl := J.symm
 refine Wa (ln (lj (CJ hm (fun O E W => ∃ a5, ST false (keys ((j, Ol (mK a0) 376) :: [])) w W d7 ((R, Ol C7 113) :: ((j, Ol (mK O) 376) :: a5)) ∧ E 1 = (.int .i64 c) ∧ E 6 = (.pointer (some ⟨R, 0, none⟩)) ∧ E 8 = d6) (fun O u => ?_) ?_)))
 ·refine sg (Wm (V (nn aF rfl y) (Wi rfl (ln (CI u rfl (fun b9 u => ?_) (fun b9 u => ?_))))))
  ·refine lh (Wm (Wn (Wf LA ?_)))
   replace b := b.perm (Nb (Pb Pz) Nz)
   refine VO (lA (.int .i64 12) ((mK (⟨12⟩ : lQ)).toArray) b rfl rfl sizeOf57 (Gv _ 12) nb rfl (fun f1 b => ln ?_))
   obtain rfl := sj u
   exact ⟨_, (b.kM (Sb (Pb Pz) St)), rfl, rfl, rfl⟩
  refine kn ?_
  obtain rfl := sj u
  exact ⟨_, (b.kM St), rfl, rfl, rfl⟩
 rintro f8 E W ⟨a5, b, c9, M, T⟩ g
 refine lj (sg (Wh T (V (nn aF rfl y) (Wi rfl (ln (CI g rfl (fun b7 g => ?_) (fun b7 g => ?_)))))))
 ·refine sg (Wh T (bS g fun a Z g => VQ (nX (i := 0) (x0 := a) kL.out aF aC rfl rfl y (lK Z) (lI Z)) (fun f2 ⟨_, ⟨f7, rfl, Y⟩, c0⟩ => V (kQ rfl (lR b.has c0 aS aC)) ?_)))
  obtain ⟨D, G, rfl⟩ := Y.form
  let a4 := (C2 a.Op a.K a.kI.kK a.kI.kP D a.Kids.length G)
  refine VO (lA (.agg a4.toArray) (a4.toArray) b M rfl aC oc nb rfl (fun e9 b => lt (mV ?_)))
  obtain rfl := sj g
  exact oI (v := (.agg a4.toArray)) rfl M (kX b.has Mh a4 rfl aS aC) ⟨_, _, _, rfl, (b.ny (Db (Kb Sn))), ((B.trans N).trans Q), ((d.trans h).trans l), (ST.mf b (nL.mem (Db (Kb Sn)))), (.slice D a.Kids.length G), rfl, rfl, Y⟩
 refine kg (Wh c9 (Wh T ?_))
 obtain ⟨k, t, rfl⟩ := y.form
 let a9 : Value := (.slice k z.length t)
 let p : Value := (.agg #[(.int .i64 c), (.int .i64 0), (.string zS), (.string zS), a9])
 refine V (ns (v := p) (pE rfl rfl) (mP bE bZ (yn _ bZ) kr)) (VO (lA p (#[(.int .i64 c), (.int .i64 0), (.string zS), (.string zS), a9]) b M rfl aC oc nb rfl (fun f0 b => lt ?_)))
 obtain rfl := sj g
 exact oI (v := p) rfl M (kX b.has Mh [(.int .i64 c), (.int .i64 0), (.string zS), (.string zS), a9] rfl aS aC) ⟨_, _, _, rfl, (b.ny (Db (Kb Sn))), ((B.trans N).trans Q), ((d.trans h).trans l), (ST.mf b (nL.mem (Db (Kb Sn)))), a9, rfl, rfl, y⟩
theorem AZ (G : Nat) (a0 : lQ) (a1 : Int) (c2 : Value) (a2 : List Formula) (r : (Formula × lQ)) (w : World) {μ0 : lG} (h0 : oW μ0 ((G, Ol (mK a0) 376) :: []) w) (c1 : Sl kL 5 μ0 c2 a2) (hm : rI a0 a1 a2 = some r) :
  mE false Tryz.prog 406 [(.pointer (some ⟨G, 0, none⟩)), (.int .i64 a1), c2] w μ0 ((G, Ol (mK a0) 376) :: []) (fun v L1 μ1 => ∃ y1, v = (.agg #[(.int .i64 ((r.1).Op)), (.int .i64 ((r.1).K)), (.string (((r.1).kI).kK)), (.string (((r.1).kI).kP)), y1]) ∧ L1 = ((G, Ol (mK (r.2)) 376) :: []) ∧ Sl kL 5 μ1 y1 ((r.1).Kids)) := by
 let j8 := ((mK a0).toArray : Array Value)
 refine vd h0 58 func406 rfl (fun b => sg (VE (lZ b bE (fun W2 b1 b => lr (Wa (lS (Wm ?_)))))))
 refine V (nn aF rfl c1) (Wm (ln (nm (fun i E W => ∃ x K J N c0, (E 12 = .int .i64 (i : Nat) ∧ E 11 = .int .i64 (a2.length : Nat)) ∧ ST false (keys ((G, Obj.cells j8 376 (0, 0)) :: [])) w W μ0 ((b1, Ol C7 113) :: ((G, Obj.cells j8 376 (0, 0)) :: (N ++ c0))) ∧ E 0 = (.pointer (some ⟨G, 0, none⟩)) ∧ E 1 = (.int .i64 x) ∧ E 6 = (.pointer (some ⟨b1, 0, none⟩)) ∧ E 7 = K ∧ E 10 = c2 ∧ lN 113 kL 5 μ0 K J N ∧ nD a0 (a2.drop i) x J = some r) a2.length c1.len ⟨a1, (.slice none 0 0), ([]), [], _, ⟨rfl, rfl⟩, (b.kM St), rfl, rfl, rfl, rfl, rfl, (lN.nil _ _ _ _), hm⟩ dc dc dc (fun _ _ _ h => by obtain ⟨_, _, _, _, _, aa, _⟩ := h; exact aa) ?_ ?_)))
 ·rintro h2 E W f2 ⟨x, K, J, N, c0, ⟨R, eN⟩, b, U, H, u, I, P, D, a⟩
  obtain ⟨c, h8, g8, g7, b7⟩ := mT f2
  rw [g8] at a
  refine bg (VQ (nX (i := (h2 : Int)) (x0 := c) kL.out aF aC P R c1 (bA _) g7) (fun k7 ⟨_, ⟨l0, rfl, Y⟩, f3⟩ => V (kQ rfl (lR b.has f3 aS aC)) (VE (lZ b bE (fun i6 k4 b => ?_)))))
  obtain ⟨y, z, rfl⟩ := Y.form
  let j6 : Value := (.slice y c.Kids.length z)
  let b8 := (C2 c.Op c.K c.kI.kK c.kI.kP y c.Kids.length z)
  refine VO (lA (.agg b8.toArray) (b8.toArray) b rfl rfl aC oc nb rfl (fun i7 b => ln (bg (VA b Mh b8 aS aC (bS a fun k8 f4 a => VE (Eg b call433 (mi.nB (zZ c j6 2 _ _ (Y.mono kT.mono b.kV) f4)) (fun i8 b => Wa (ln (CI a rfl (fun e5 a => ?_) (fun e5 a => ?_))))))))))
  ·refine lh (Wh H (Wi rfl (Wa (lY (me (me (li ?_)))))))
   replace b := b.kM (Db St)
   exact ⟨R, (IntKind.i64.wrap (x - 1)), K, J, N, _, ⟨rfl, eN⟩, (b.kM St), U, rfl, u, I, P, D, (by rw [b7]; exact a)⟩
  refine sg (VA b Mh b8 aS aC (bS a fun k9 f5 a => VE (Eg b call433 (mi.nB (zZ c j6 3 _ _ (Y.mono kT.mono b.kV) f5)) (fun i9 b => V (qp rfl) (Wa (ln (CI a rfl (fun e6 a => ?_) (fun e6 a => ?_))))))))
  ·refine lh (Wh I (VA b Mh b8 aS aC (VE (lO (cs := b8.toArray) b (ot rfl) (nZ aF aC bE) (fun j0 k5 b => ?_)))))
   replace b := b.perm (Nr (Qb (Qb (Qb (Qb Qz)))) Nz)
   refine bS a fun h3 e7 a => VE (vW (B := N) kT b dc aF oS.1 oS.2.1 rfl oS.2.2.1 oS.2.2.2 rfl rfl D (Du.lit kT (l := [c]) (.cons (ys := C2 c.Op c.K c.kI.kK c.kI.kP y c.Kids.length z) (kL.mk ⟨j6, rfl, Y⟩) .nil) rfl nb (b.at_ (Ma Mh))) e7 (fun j3 h4 g9 b e4 => Wa (lY (me (me (li ?_))))))
   replace b := b.kM (Kr (Db (Db St)))
   exact ⟨R, x, h4, h3, g9, _, ⟨rfl, eN⟩, (b.kM (Sb (Pr Pz) (Sb (Pr Pz) St))), U, H, u, rfl, P, e4, (by rw [b7]; exact a)⟩
  refine nt (me (me (li ?_)))
  replace b := b.kM (Db St)
  exact ⟨R, x, K, J, N, _, ⟨rfl, eN⟩, (b.kM St), U, H, u, I, P, D, (by rw [b7]; exact a)⟩
 rintro E W ⟨x, K, J, N, c0, ⟨R, eN⟩, b, U, H, u, I, P, D, a⟩
 rw [bD] at a
 refine li (lj (bg (Wh H (Wi rfl (Wa (ln (CI a rfl (fun e8 a => ?_) (fun e8 a => ?_))))))))
 ·refine sg (bS a fun g f6 a => ?_)
  let j2 : Value := (.string (((g).kI).kP))
  let h9 : Value := (.string (((g).kI).kK))
  refine VE (eD b (bM _) call434 (fun d => mE.nB (GF  _ _ d  f6)) ?_ (L0 := []))
  rintro _ l1 m2 i0 b c9 m ⟨l6, b2, rfl, c3⟩
  obtain rfl := b2.symm
  obtain ⟨Z, a6, rfl⟩ := c3.form
  let g5 : Value := (.slice Z ((g).Kids).length a6)
  let e0 : Value := (.agg #[(.int .i64 ((g).Op)), (.int .i64 ((g).K)), h9, j2, g5])
  refine VO (lA e0 (#[(.int .i64 ((g).Op)), (.int .i64 ((g).K)), h9, j2, g5]) b u rfl aC oc nb rfl (fun j5 b => ln ?_))
  replace b := b.kM (Kb (Kb (Dr St)))
  refine ma (qI (mV ?_))
  obtain rfl := sj a
  exact oI (v := e0) rfl u (kX b.has Mh [(.int .i64 ((g).Op)), (.int .i64 ((g).K)), h9, j2, g5] rfl aS aC) ⟨_, _, _, rfl, (b.ny (Db (Kb Sn))), c9, m, (ST.mf b (nL.mem (Db (Kb Sn)))), g5, rfl, rfl, c3⟩
 refine sg (Wh H (Wh I (V (vr aF rfl D) (Wi rfl (Wa (ln (CI a rfl (fun e9 a => ?_) (fun e9 a => ?_))))))))
 ·refine sg (bS a fun j f7 a => ?_)
  let j4 : Value := (.string (((j).kI).kP))
  let j1 : Value := (.string (((j).kI).kK))
  refine VE (eD b (bM _) call435 (fun d => mE.nB (Hx  _ _ d  f7)) ?_ (L0 := []))
  rintro _ l2 m3 i1 b d0 n ⟨l7, b3, rfl, c4⟩
  obtain rfl := b3.symm
  obtain ⟨a3, a7, rfl⟩ := c4.form
  let e3 : Value := (.slice a3 ((j).Kids).length a7)
  let d9 : Value := (.agg #[(.int .i64 ((j).Op)), (.int .i64 ((j).K)), j1, j4, e3])
  refine VO (lA d9 (#[(.int .i64 ((j).Op)), (.int .i64 ((j).K)), j1, j4, e3]) b u rfl aC oc nb rfl (fun j7 b => ln ?_))
  replace b := b.kM (Kb (Kb (Dr St)))
  refine ma (qI (mV ?_))
  obtain rfl := sj a
  exact oI (v := d9) rfl u (kX b.has Mh [(.int .i64 ((j).Op)), (.int .i64 ((j).K)), j1, j4, e3] rfl aS aC) ⟨_, _, _, rfl, (b.ny (Db (Kb Sn))), d0, n, (ST.mf b (nL.mem (Db (Kb Sn)))), e3, rfl, rfl, c4⟩
 refine sg (Wh H (Wh I (V (vr aF rfl D) (Wi rfl (Wa (ln (CI a rfl (fun f0 a => ?_) (fun f0 a => ?_))))))))
 ·refine sg (Wh U (Wh I ?_))
  replace b := b.perm (Nr (Qb (Qb Qz)) Nz)
  obtain ⟨m4, b, d1, p, g1⟩ := ST.xn kT b D
  refine bS a fun k f8 a => ?_
  let h6 : Value := (.string (((k.1).kI).kP))
  let h1 : Value := (.string (((k.1).kI).kK))
  refine VE (eD b (Cb (Pb Pz) Cn) call407 (fun d => (uw G a0 2 K J _ _ d (g1.mono kT.mono (lz.refl _)) f8)) ?_)
  rintro _ l3 m5 i2 b d2 q ⟨l8, b4, rfl, c5⟩
  obtain rfl := b4.symm
  replace b := b.perm (Tb Tn)
  obtain ⟨a4, a8, rfl⟩ := c5.form
  let e1 : Value := (.slice a4 ((k.1).Kids).length a8)
  let c8 : Value := (.agg #[(.int .i64 ((k.1).Op)), (.int .i64 ((k.1).K)), h1, h6, e1])
  replace b := b.perm (Nb (Pb Pz) Nz)
  refine VO (lA c8 (#[(.int .i64 ((k.1).Op)), (.int .i64 ((k.1).K)), h1, h6, e1]) b u rfl aC oc nb rfl (fun j9 b => lt (qI (mV ?_))))
  obtain rfl := sj a
  exact oI (v := c8) rfl u (kX b.has Mh [(.int .i64 ((k.1).Op)), (.int .i64 ((k.1).K)), h1, h6, e1] rfl aS aC) ⟨_, _, _, rfl, (b.ny (Db (Kb Sn))), (d1.trans d2), (p.trans q), (ST.mf b (nL.mem (Db (Kb Sn)))), e1, rfl, rfl, c5⟩
 refine sg (Wh H (Wi rfl (Wa (ln (CI a rfl (fun f1 a => ?_) (fun f1 a => ?_))))))
 ·refine sg (Wh U (Wh I ?_))
  replace b := b.perm (Nr (Qb (Qb Qz)) Nz)
  obtain ⟨m6, b, d3, s, g2⟩ := ST.xn kT b D
  refine bS a fun t f9 a => ?_
  let h7 : Value := (.string (((t.1).kI).kP))
  let h5 : Value := (.string (((t.1).kI).kK))
  refine VE (eD b (Cb (Pb Pz) Cn) call407 (fun d => (uw G a0 3 K J _ _ d (g2.mono kT.mono (lz.refl _)) f9)) ?_)
  rintro _ l4 m7 i3 b d4 A ⟨l9, b5, rfl, c6⟩
  obtain rfl := b5.symm
  replace b := b.perm (Tb Tn)
  obtain ⟨a5, a9, rfl⟩ := c6.form
  let e2 : Value := (.slice a5 ((t.1).Kids).length a9)
  let d8 : Value := (.agg #[(.int .i64 ((t.1).Op)), (.int .i64 ((t.1).K)), h5, h7, e2])
  replace b := b.perm (Nb (Pb Pz) Nz)
  refine VO (lA d8 (#[(.int .i64 ((t.1).Op)), (.int .i64 ((t.1).K)), h5, h7, e2]) b u rfl aC oc nb rfl (fun k1 b => lt (qI (mV ?_))))
  obtain rfl := sj a
  exact oI (v := d8) rfl u (kX b.has Mh [(.int .i64 ((t.1).Op)), (.int .i64 ((t.1).K)), h5, h7, e2] rfl aS aC) ⟨_, _, _, rfl, (b.ny (Db (Kb Sn))), (d3.trans d4), (s.trans A), (ST.mf b (nL.mem (Db (Kb Sn)))), e2, rfl, rfl, c6⟩
 refine nt (me (li (sg (Wh H (Wh I ?_)))))
 replace b := b.perm (Nr (Qb (Qb Qz)) Nz)
 obtain ⟨m8, b, d5, F, g3⟩ := ST.xn kT b D
 refine bS a fun T g0 a => ?_
 refine VE (eD b (bM _) call436 (fun d => (Dg K J _ _ d (g3.mono kT.mono (lz.refl _)) g0)) ?_ (L0 := []))
 rintro _ l5 m9 i4 b d6 L ⟨m0, i5, b6, rfl, c7⟩
 obtain rfl := b6.symm
 replace b := b.perm (Tr Tn)
 obtain ⟨M, Q, rfl⟩ := c7.form
 let g6 : Value := (.slice M T.length Q)
 let b9 : Value := (.agg #[(.int .i64 4), (.int .i64 x), (.string zS), (.string zS), g6])
 refine V (ns (v := b9) (BX rfl rfl rfl) (mP bE bZ (yn _ bZ) kr)) ?_
 replace b := b.perm (Nb (Pr Pz) Nz)
 refine VO (lA b9 (#[(.int .i64 4), (.int .i64 x), (.string zS), (.string zS), g6]) b u rfl aC oc nb rfl (fun k3 b => lt ?_))
 obtain rfl := sj a
 refine oI (v := b9) rfl u (kX b.has Mh [(.int .i64 4), (.int .i64 x), (.string zS), (.string zS), g6] rfl aS aC) ?_
 replace b := b.perm (Nr (Qb Qz) Nz)
 obtain ⟨n0, b, d7, O, g4⟩ := ST.xn kT b c7
 exact ⟨_, _, _, rfl, (b.ny (Db (Kb Sn))), ((d5.trans d6).trans d7), ((F.trans L).trans O), (ST.mf b (nL.mem (Db (Kb Sn)))), g6, rfl, rfl, g4⟩
theorem Ac (c9 : lQ → Formula → Option (Formula × lQ)) (e9 : ∀ (u : Nat) (a0 : lQ) (a : Formula) (y : Value) (r : (Formula × lQ)) (w : World) {μ0 : lG} (h0 : oW μ0 ((u, Ol (mK a0) 376) :: []) w) (x : Sl kL 5 μ0 y a.Kids), c9 a0 a = some r → mE false Tryz.prog 351 [(.pointer (some ⟨u, 0, none⟩)), (.agg #[(.int .i64 a.Op), (.int .i64 a.K), (.string a.kI.kK), (.string a.kI.kP), y])] w μ0 ((u, Ol (mK a0) 376) :: []) (fun v L1 μ1 => ∃ L, v = (.agg #[(.int .i64 ((r.1).Op)), (.int .i64 ((r.1).K)), (.string (((r.1).kI).kK)), (.string (((r.1).kI).kP)), L]) ∧ L1 = ((u, Ol (mK (r.2)) 376) :: []) ∧ Sl kL 5 μ1 L ((r.1).Kids))) (u : Nat) (a0 : lQ) (a : Formula) (y : Value) (r : (Formula × lQ)) (w : World) {μ0 : lG} (h0 : oW μ0 ((u, Ol (mK a0) 376) :: []) w) (x : Sl kL 5 μ0 y a.Kids) (hm : sX c9 a0 a = some r) :
  mE false Tryz.prog 351 [(.pointer (some ⟨u, 0, none⟩)), (.agg #[(.int .i64 a.Op), (.int .i64 a.K), (.string a.kI.kK), (.string a.kI.kP), y])] w μ0 ((u, Ol (mK a0) 376) :: []) (fun v L1 μ1 => ∃ L, v = (.agg #[(.int .i64 ((r.1).Op)), (.int .i64 ((r.1).K)), (.string (((r.1).kI).kK)), (.string (((r.1).kI).kP)), L]) ∧ L1 = ((u, Ol (mK (r.2)) 376) :: []) ∧ Sl kL 5 μ1 L ((r.1).Kids)) := by
 let d0 := ((u, Ol (mK a0) 376) :: [])
 refine vd h0 39 func351 rfl (fun b => sg ?_)
 obtain ⟨A1, c2, rfl⟩ := x.form
 let A := (C2 a.Op a.K a.kI.kK a.kI.kP A1 a.Kids.length c2)
 refine VE (mx b rfl (fun W4 b3 b => VE (lZ b bE (fun W6 b5 b => lS (Wf tD (VB b (Mt Mh) rfl rfl cV (Wi rfl (ln (CI hm rfl (fun f8 hm => ?_) (fun f8 hm => ?_))))))))))
 ·refine sg (VA b (Mt Mh) A aS aC (VO (lA (.agg A.toArray) (A.toArray) b rfl rfl aC oc nb rfl (fun W8 b => ln ?_))))
  replace b := b.kM (Kb (Db St))
  refine ma (mV ?_)
  obtain rfl := sj hm
  exact oI (v := (.agg A.toArray)) rfl rfl (kX b.has Mh A rfl aS aC) ⟨_, _, _, rfl, (b.ny (Db (Kb Sn))), (lz.refl _), Lo.refl, (ST.mf b (nL.mem (Db (Kb Sn)))), (.slice A1 a.Kids.length c2), rfl, rfl, x⟩
 refine kg (Wa (lS (Wf se (VB b (Mt Mh) rfl rfl fR (V (nn aF rfl x) (Wm (lY ?_)))))))
 refine li (nm (fun i E W => ∃ I H T D J b7, (E 15 = .int .i64 (i : Nat) ∧ E 14 = .int .i64 (a.Kids.length : Nat)) ∧ lz μ0 J ∧ Lo (keys d0) w μ0 J ∧ ST false (keys d0) w W J ((u, Ol (mK D) 376) :: ((b5, Ol C7 113) :: ((b3, Ol A 113) :: (T ++ b7)))) ∧ E 0 = (.pointer (some ⟨u, 0, none⟩)) ∧ E 3 = (.pointer (some ⟨b3, 0, none⟩)) ∧ E 4 = (.pointer (some ⟨b5, 0, none⟩)) ∧ E 5 = I ∧ E 13 = (.slice A1 a.Kids.length c2) ∧ lN 113 kL 5 J I H T ∧ oF c9 a (a.Kids.drop i) H D = some r) a.Kids.length x.len ⟨(.slice none 0 0), ([]), [], a0, μ0, _, ⟨rfl, rfl⟩, (lz.refl _), Lo.refl, (b.kM (Sb (Pb (Pb Pz)) St)), rfl, rfl, rfl, rfl, rfl, (lN.nil _ _ _ _), hm⟩ dc dc dc (fun _ _ _ h => by obtain ⟨_, _, _, _, _, _, aa, _⟩ := h; exact aa) ?_ ?_)
 ·rintro f0 E W d7 ⟨I, H, T, D, J, b7, ⟨eI, eN⟩, z, d, b, a2, a3, G, P, b9, K, c⟩
  obtain ⟨t, f9, e5, e4, e6⟩ := mT d7
  rw [e5] at c
  refine bg (VQ (nX (i := (f0 : Int)) (x0 := t) kL.out aF aC b9 eI (x.mono kT.mono z) (bA _) e4) (fun h7 ⟨_, ⟨h8, rfl, c0⟩, d8⟩ => V (kQ rfl (lR b.has d8 aS aC)) (VE (lZ b bE (fun g3 h5 b => ?_)))))
  obtain ⟨a7, a9, rfl⟩ := c0.form
  let R := (C2 t.Op t.K t.kI.kK t.kI.kP a7 t.Kids.length a9)
  refine VO (lA (.agg R.toArray) (R.toArray) b rfl rfl aC oc nb rfl (fun g4 b => ln (lh (Wh P (Wh a2 (VA b Mh R aS aC (bS c fun g d9 c => ?_)))))))
  refine VE (eD b (Cb (Pb Pz) Cn) call351 (fun F => (e9 u D t (.slice a7 t.Kids.length a9) _ _ F (c0.mono kT.mono (lz.refl _)) d9)) ?_)
  rintro _ h9 f4 g0 b b6 m ⟨i2, b1, rfl, c1⟩
  obtain rfl := b1.symm
  replace b := b.perm (Tb Tn)
  obtain ⟨M, U, rfl⟩ := c1.form
  let d1 : Value := (.slice M ((g.1).Kids).length U)
  refine VE (lO (cs := #[(.int .i64 ((g.1).Op)), (.int .i64 ((g.1).K)), (.string (((g.1).kI).kK)), (.string (((g.1).kI).kP)), d1]) b (ot rfl) (nZ aF aC bE) (fun g8 h6 b => ?_))
  replace b := b.perm (Nr (Qb (Qb (Qb (Qb (Qb Qz))))) Nz)
  refine bS c fun f1 d5 c => VE (vW (B := T) kT b dc aF oS.1 oS.2.1 rfl oS.2.2.1 oS.2.2.2 rfl rfl (K.mono kT b6) (Du.lit kT (l := [g.1]) (.cons (ys := [(.int .i64 ((g.1).Op)), (.int .i64 ((g.1).K)), (.string (((g.1).kI).kK)), (.string (((g.1).kI).kP)), d1]) (kL.mk ⟨d1, rfl, c1⟩) .nil) rfl nb (b.at_ (Ma Mh))) d5 (fun g9 f2 e8 b d4 => Wa (lY (me (li ?_)))))
  replace b := b.kM (Kr (Db (Kb (Db St))))
  exact ⟨eI, f2, f1, e8, g.2, f4, _, ⟨rfl, eN⟩, (z.trans b6), (d.trans m), (b.kM (Sb (Pr Pz) (Sb (Pr Pz) (Sb (Pr Pz) St)))), a2, a3, G, rfl, b9, d4, (by rw [e6]; exact c)⟩
 rintro E W ⟨I, H, T, D, J, b7, ⟨eI, eN⟩, z, d, b, a2, a3, G, P, b9, K, c⟩
 rw [bD] at c
 refine li (lj (sg (V (lg tD a3) (VB b (Mt (Mt Mh)) rfl rfl cV (Wi rfl (ln (CI c rfl (fun d6 c => ?_) (fun d6 c => ?_))))))))
 ·refine sg (Wh a2 (V (lg xE a3) (VB b (Mt (Mt Mh)) rfl rfl cV (Wh P ?_))))
  replace b := b.perm (Nr (Qb (Qb (Qb Qz))) Nz)
  obtain ⟨i5, b, c5, n, e2⟩ := ST.xn kT b K
  refine bS c fun j e0 c => ?_
  let f3 : Value := (.string (((j.1).kI).kP))
  let d3 : Value := (.string (((j.1).kI).kK))
  refine VE (eD b (Cb Pz Cn) call406 (fun F => (AZ u D a.K I H _ _ F (e2.mono kT.mono (lz.refl _)) e0)) ?_)
  rintro _ i0 i6 g1 b c6 p ⟨i3, b2, rfl, c3⟩
  obtain rfl := b2.symm
  replace b := b.perm (Tb Tn)
  obtain ⟨N, Y, rfl⟩ := c3.form
  let b8 : Value := (.slice N ((j.1).Kids).length Y)
  let a5 : Value := (.agg #[(.int .i64 ((j.1).Op)), (.int .i64 ((j.1).K)), d3, f3, b8])
  replace b := b.perm (Nb (Pb Pz) Nz)
  refine VO (lA a5 (#[(.int .i64 ((j.1).Op)), (.int .i64 ((j.1).K)), d3, f3, b8]) b G rfl aC oc nb rfl (fun h2 b => ln ?_))
  replace b := b.kM (Kb (Kb (Db St)))
  refine ma (mV ?_)
  obtain rfl := sj c
  exact oI (v := a5) rfl G (kX b.has Mh [(.int .i64 ((j.1).Op)), (.int .i64 ((j.1).K)), d3, f3, b8] rfl aS aC) ⟨_, _, _, rfl, (b.ny (Db (Kb Sn))), ((z.trans c5).trans c6), ((d.trans n).trans p), (ST.mf b (nL.mem (Db (Kb Sn)))), b8, rfl, rfl, c3⟩
 refine kg (Wh a2 (V (lg tD a3) (VB b (Mt (Mt Mh)) rfl rfl cV (Wh P ?_))))
 replace b := b.perm (Nr (Qb (Qb (Qb Qz))) Nz)
 obtain ⟨i7, b, c7, q, e3⟩ := ST.xn kT b K
 refine bS c fun k e1 c => ?_
 let f5 : Value := (.int .i64 ((k.1).Op))
 let e7 : Value := (.string (((k.1).kI).kP))
 let d2 : Value := (.string (((k.1).kI).kK))
 refine VE (eD b (Cb Pz Cn) call407 (fun F => (uw u D a.Op I H _ _ F (e3.mono kT.mono (lz.refl _)) e1)) ?_)
 rintro _ i1 i8 g2 b c8 s ⟨i4, b4, rfl, c4⟩
 obtain rfl := b4.symm
 replace b := b.perm (Tb Tn)
 obtain ⟨Q, Z, rfl⟩ := c4.form
 let O : Value := (.slice Q ((k.1).Kids).length Z)
 let a4 : Value := (.agg #[f5, (.int .i64 ((k.1).K)), d2, e7, O])
 replace b := b.perm (Nb (Pb Pz) Nz)
 refine VO (lA a4 (#[f5, (.int .i64 ((k.1).K)), d2, e7, O]) b G rfl aC oc nb rfl (fun h4 b => ln ?_))
 replace b := b.kM (Kb (Kb (Db St)))
 refine ma ?_
 obtain rfl := sj c
 exact oI (v := a4) rfl G (kX b.has Mh [f5, (.int .i64 ((k.1).K)), d2, e7, O] rfl aS aC) ⟨_, _, _, rfl, (b.ny (Db (Kb Sn))), ((z.trans c7).trans c8), ((d.trans q).trans s), (ST.mf b (nL.mem (Db (Kb Sn)))), O, rfl, rfl, c4⟩
theorem xV : ∀ (n : Nat) (c : Nat) (j : lQ) (g : Formula) (a : Value) (r : (Formula × lQ)) (w : World) {k : lG} (y : oW k ((c, Ol (mK j) 376) :: []) w) (i : Sl kL 5 k a g.Kids) (_ : od n j g = some r),
  mE false Tryz.prog 351 [(.pointer (some ⟨c, 0, none⟩)), (.agg #[(.int .i64 g.Op), (.int .i64 g.K), (.string g.kI.kK), (.string g.kI.kP), a])] w k ((c, Ol (mK j) 376) :: []) (fun v u x => ∃ t, v = (.agg #[(.int .i64 ((r.1).Op)), (.int .i64 ((r.1).K)), (.string (((r.1).kI).kK)), (.string (((r.1).kI).kP)), t]) ∧ u = ((c, Ol (mK (r.2)) 376) :: []) ∧ Sl kL 5 x t ((r.1).Kids))
 | 0 => by intros; rename_i h; simp only [od] at h; cases h
 | n + 1 => Ac (od n) (xV n)
theorem FO (c : Formula) (u : Value) (r : (Formula × Int)) (w : World) {Z : lG} (A : oW Z [] w) (k : Sl kL 5 Z u c.Kids) (hm : yh c = some r) :
  mE false Tryz.prog 306 [(.agg #[(.int .i64 c.Op), (.int .i64 c.K), (.string c.kI.kK), (.string c.kI.kP), u])] w Z [] (fun v L1 μ1 => ∃ q, v = (.tuple #[(.agg #[(.int .i64 ((r.1).Op)), (.int .i64 ((r.1).K)), (.string (((r.1).kI).kK)), (.string (((r.1).kI).kP)), q]), (.int .i64 (r.2))]) ∧ L1 = [] ∧ Sl kL 5 μ1 q ((r.1).Kids)) := by
 refine vd A 27 func306 rfl (fun b => sg ?_)
 obtain ⟨H, I, rfl⟩ := k.form
 let n := (C2 c.Op c.K c.kI.kK c.kI.kP H c.Kids.length I)
 refine VE (mx b rfl (fun W4 L b => VE (lZ b bE (fun W6 p b => Wa (lS (VA b (Mt Mh) n aS aC (bS hm fun r7 a5 hm => VE (Eg b call107 (wP c (.slice H c.Kids.length I) _ _ (k.mono kT.mono b.kV) a5) (fun W9 b => V (qp rfl) (ln (CI hm rfl (fun Q hm => ?_) (fun Q hm => ?_))))))))))))
 ·refine sg (V (ns (v := (.agg C7.toArray)) vm (mP bE bZ (yn _ bZ) kr)) (VO (lA (.agg C7.toArray) (C7.toArray) b rfl rfl aC oc nb rfl (fun P b => Wa (ln ?_)))))
  replace b := b.kM (Kb (Db St))
  refine ma (mV ?_)
  obtain rfl := sj hm
  exact uS (v0 := (.agg C7.toArray)) (v1 := (.int .i64 11)) rfl rfl (kX b.has Mh C7 rfl aS aC) rfl ⟨_, _, _, rfl, (b.ny Sn), (lz.refl _), Lo.refl, (ST.mf b (nL.mem Sn)), (.slice none 0 0), rfl, rfl, (Sl.nil _ _ _)⟩
 refine kg (V (ns (v := (.agg (mK K6).toArray)) vm (mP zeroValue376 jY (Sw _ jY) kr)) (VE (mx b rfl (fun R s b => Wa (lr (Wm (VA b (Mt (Mt Mh)) n aS aC (bS hm fun a U hm => ?_))))))))
 let m : Value := (.int .i64 ((a.1).K))
 let l : Value := (.int .i64 ((a.1).Op))
 let h : Value := (.string (((a.1).kI).kP))
 let a2 : Value := (.string (((a.1).kI).kK))
 refine VE (eD b (Cb Pz Cn) call351 (fun F => ((xV lE) s K6 c (.slice H c.Kids.length I) _ _ F (k.mono kT.mono (lz.refl _)) U)) ?_)
 rintro _ c7 a9 O b D d ⟨c9, y, rfl, z⟩
 obtain rfl := y.symm
 replace b := b.perm (Tb Tn)
 refine VE (lZ b bE (fun c0 K b => ?_))
 obtain ⟨i, j, rfl⟩ := z.form
 let a0 : Value := (.slice i ((a.1).Kids).length j)
 let N : Value := (.agg #[l, m, a2, h, a0])
 refine VO (lA N (#[l, m, a2, h, a0]) b rfl rfl aC oc nb rfl (fun c1 b => ln ?_))
 replace b := b.kM (Kb (Kb (Kb (Db St))))
 refine lj (sg (Wm (Wn (Wf LA (VB b (Mt Mh) rfl rfl isAgg57 (Wi rfl (Wm (LJ hm (fun M E W => ∃ J, ST false (keys []) w W a9 ((K, Ob #[l, m, a2, h, a0] 113) :: ((p, Ol C7 113) :: J)) ∧ E 2 = (.pointer (some ⟨p, 0, none⟩)) ∧ E 5 = (.pointer (some ⟨K, 0, none⟩)) ∧ E 24 = (.bool M)) 4 ?_ (fun M t G => ?_)))))))))
 ·rintro c8 E W ⟨J, b, B, a3, a4⟩ x
  refine ln (CI x a4 (fun T x => ?_) (fun T x => ?_))
  ·refine sg (V (ns (v := (.agg C7.toArray)) vm (mP bE bZ (yn _ bZ) kr)) ?_)
   replace b := b.perm (Nb (Pb Pz) Nz)
   refine VO (lA (.agg C7.toArray) (C7.toArray) b B rfl aC oc nb rfl (fun c3 b => Wa (ln ?_)))
   replace b := b.kM (Kb (Db St))
   refine ma (mV ?_)
   obtain rfl := sj x
   exact uS (v0 := (.agg C7.toArray)) (v1 := (.int .i64 12)) rfl B (kX b.has Mh C7 rfl aS aC) rfl ⟨_, _, _, rfl, (b.ny Sn), D, d, (ST.mf b (nL.mem Sn)), (.slice none 0 0), rfl, rfl, (Sl.nil _ _ _)⟩
  refine kg (V (kQ a3 (kX b.has Mh [l, m, a2, h, a0] rfl aS aC)) ?_)
  replace b := b.perm (Nb (Pb Pz) Nz)
  refine VO (lA N (#[l, m, a2, h, a0]) b B rfl aC oc nb rfl (fun c4 b => Wa (ln ?_)))
  replace b := b.kM (Kb (Db St))
  refine ma ?_
  obtain rfl := sj x
  exact uS (v0 := N) (v1 := (.int .i64 0)) rfl B (kX b.has Mh [l, m, a2, h, a0] rfl aS aC) rfl ⟨_, _, _, rfl, (b.ny Sn), D, d, (ST.mf b (nL.mem Sn)), a0, rfl, rfl, z⟩
 refine bC t (fun g t => ?_) (fun g t => ?_)
 ·refine un g (un g (un g (V (mh (cB g) rfl) ?_)))
  obtain rfl := sj t
  exact G _ _ ⟨_, (b.kM (Kb (Db St))), rfl, rfl, rfl⟩
 refine ug g (kQ rfl (kX b.has Mh [l, m, a2, h, a0] rfl aS aC)) (bS t fun c6 Y t => zG g (Eg b call107 (wP a.1 a0 _ _ (z.mono kT.mono b.kV) Y) (fun c5 b => ug g (qp rfl) (V (mg (cB g) rfl) ?_))))
 obtain rfl := sj t
 exact G _ _ ⟨_, (b.kM (Kb (Db St))), rfl, rfl, rfl⟩
theorem ID (a : Formula) (k : Value) (c : Formula) (t : Value) (r : (Formula × Int)) (w : World) {N : lG} (q : oW N [] w) (i : Sl kL 5 N k a.Kids) (j : Sl kL 5 N t c.Kids) (hm : yp a c = some r) :
  mE false Tryz.prog 307 [(.agg #[(.int .i64 a.Op), (.int .i64 a.K), (.string a.kI.kK), (.string a.kI.kP), k]), (.agg #[(.int .i64 c.Op), (.int .i64 c.K), (.string c.kI.kK), (.string c.kI.kP), t])] w N [] (fun v Z μ1 => ∃ Y, v = (.tuple #[(.agg #[(.int .i64 ((r.1).Op)), (.int .i64 ((r.1).K)), (.string (((r.1).kI).kK)), (.string (((r.1).kI).kP)), Y]), (.int .i64 (r.2))]) ∧ Z = [] ∧ Sl kL 5 μ1 Y ((r.1).Kids)) := by
 refine vd q 13 func307 rfl (fun b => sg ?_)
 obtain ⟨u, z, rfl⟩ := i.form
 let a3 : Value := (.slice u a.Kids.length z)
 refine VE (mx b rfl (fun W4 P b => ?_))
 obtain ⟨y, G, rfl⟩ := j.form
 let n : Value := (.slice y c.Kids.length G)
 refine VE (mx b rfl (fun W8 R b => VE (lZ b bE (fun a5 W b => Wa (lr (VA b (Mt (Mt Mh)) (C2 a.Op a.K a.kI.kK a.kI.kP u a.Kids.length z) aS aC (VA b (Mt Mh) (C2 c.Op c.K c.kI.kK c.kI.kP y c.Kids.length G) aS aC (VE (lO (cs := #[(.int .i64 a.Op), (.int .i64 a.K), (.string a.kI.kK), (.string a.kI.kP), a3, (.int .i64 c.Op), (.int .i64 c.K), (.string c.kI.kK), (.string c.kI.kP), n]) b (pE rfl rfl) (nZ aF aC bE) (fun A I b => V (ns (v := (.agg #[(.int .i64 2), (.int .i64 0), (.string zS), (.string zS), (.slice (some ⟨I, 0, none⟩) 2 2)])) (pE rfl rfl) (mP bE bZ (yn _ bZ) kr)) ?_))))))))))
 obtain ⟨L, b, K, d, U⟩ := ST.xn (B := [(I, Ob #[(.int .i64 a.Op), (.int .i64 a.K), (.string a.kI.kK), (.string a.kI.kP), a3, (.int .i64 c.Op), (.int .i64 c.K), (.string c.kI.kK), (.string c.kI.kP), n] 113)]) kT b (lN.lit kT (l := [a, c]) (.cons (ys := C2 a.Op a.K a.kI.kK a.kI.kP u a.Kids.length z) (kL.mk ⟨a3, rfl, i⟩) (.cons (ys := C2 c.Op c.K c.kI.kK c.kI.kP y c.Kids.length G) (kL.mk ⟨n, rfl, j⟩) .nil)) rfl nb rfl)
 refine bS hm fun g T hm => ?_
 let p : Value := (.int .i64 ((g.1).Op))
 let a2 : Value := (.string (((g.1).kI).kP))
 let m : Value := (.string (((g.1).kI).kK))
 refine VE (eD b (bM _) call306 (fun s => (FO (⟨2, 0, K0, [a, c]⟩ : Formula) (.slice (some ⟨I, 0, none⟩) 2 2) _ _ s (U.mono kT.mono (lz.refl _)) T)) ?_ (L0 := []))
 rintro _ a9 O a4 b M h ⟨F, H, rfl, J⟩
 obtain rfl := H.symm
 refine Wx rfl (Wx rfl ?_)
 obtain ⟨x, D, rfl⟩ := J.form
 let a0 : Value := (.slice x ((g.1).Kids).length D)
 let Q : Value := (.agg #[p, (.int .i64 ((g.1).K)), m, a2, a0])
 refine VO (lA Q (#[p, (.int .i64 ((g.1).K)), m, a2, a0]) b rfl rfl aC oc nb rfl (fun E b => Wa (ln ?_)))
 replace b := b.kM (Kb (Db (Db St)))
 refine ma ?_
 obtain rfl := sj hm
 exact uS (v0 := Q) (v1 := (.int .i64 g.2)) rfl rfl (kX b.has Mh [p, (.int .i64 ((g.1).K)), m, a2, a0] rfl aS aC) rfl ⟨_, _, _, rfl, (b.ny Sn), (K.trans M), (d.trans h), (ST.mf b (nL.mem Sn)), a0, rfl, rfl, J⟩
theorem Ko (d1 : Value) (a0 : List Formula) (r : (Formula × Int)) (w : World) {μ0 : lG} (h0 : oW μ0 [] w) (c7 : Sl kL 5 μ0 d1 a0) (hm : wH a0 = some r) :
  mE false Tryz.prog 213 [d1] w μ0 [] (fun v L1 μ1 => ∃ y1, v = (.tuple #[(.agg #[(.int .i64 ((r.1).Op)), (.int .i64 ((r.1).K)), (.string (((r.1).kI).kK)), (.string (((r.1).kI).kP)), y1]), (.int .i64 (r.2))]) ∧ L1 = [] ∧ Sl kL 5 μ1 y1 ((r.1).Kids)) := by
 let e5 := (a0.drop (Int.toNat 1))
 refine vd h0 36 func213 rfl (fun b => sg (VE (lZ b bE (fun W2 A b => Wa (lr (Wm (bS hm fun x6 e3 hm => VQ (nX (i := 0) (x0 := x6) kL.out aF aC rfl rfl c7 (lK e3) (lI e3)) (fun p3 ⟨_, ⟨v8, rfl, f2⟩, f1⟩ => V (kQ rfl (lR b.has f1 aS aC)) (bS hm fun j e6 hm => ?_)))))))))
 refine VE (eD b (bM _) call306 (fun hh => (FO x6 v8 _ _ hh (f2.mono kT.mono (lz.refl _)) e6)) ?_ (L0 := []))
 rintro _ i4 a9 i0 b a4 m ⟨i5, b6, rfl, d0⟩
 obtain rfl := b6.symm
 refine Wm (Wx rfl (Wx rfl (VE (lZ b bE (fun i2 F b => ?_)))))
 obtain ⟨c2, c5, rfl⟩ := d0.form
 let d2 : Value := (.slice c2 ((j.1).Kids).length c5)
 refine VO (lA (.agg #[(.int .i64 ((j.1).Op)), (.int .i64 ((j.1).K)), (.string (((j.1).kI).kK)), (.string (((j.1).kI).kP)), d2]) (#[(.int .i64 ((j.1).Op)), (.int .i64 ((j.1).K)), (.string (((j.1).kI).kK)), (.string (((j.1).kI).kP)), d2]) b rfl rfl aC oc nb rfl (fun i3 b => Wa (lS (Wm (bS hm fun _ c8 hm => VQ (FM (i := 1) aF aC rfl rfl (c7.mono kT.mono a4) (wq c8) (vZ c8)) (fun f3 R => V (nn aF rfl R.1) (Wm (ln (CJ hm (fun u E W => ∃ q U c3, lz a9 U ∧ Lo (keys []) w a9 U ∧ ST false (keys []) w W U ((F, Ob #[(.int .i64 u.2.1), (.int .i64 u.2.2.1), (.string u.2.2.2.1.kK), (.string u.2.2.2.1.kP), q] 113) :: ((A, Ol C7 113) :: c3)) ∧ E 2 = (.pointer (some ⟨A, 0, none⟩)) ∧ E 4 = (.pointer (some ⟨F, 0, none⟩)) ∧ E 5 = (.int .i64 u.1) ∧ Sl kL 5 U q u.2.2.2.2) (fun u d7 => ?_) ?_)))))))))
 ·refine nm (fun i E W => ∃ s G H y x N z O, (E 18 = .int .i64 (i : Nat) ∧ E 17 = .int .i64 (e5.length : Nat)) ∧ lz a9 z ∧ Lo (keys []) w a9 z ∧ ST false (keys []) w W z ((F, Ob #[(.int .i64 G), (.int .i64 H), (.string y.kK), (.string y.kP), x] 113) :: ((A, Ol C7 113) :: O)) ∧ E 2 = (.pointer (some ⟨A, 0, none⟩)) ∧ E 4 = (.pointer (some ⟨F, 0, none⟩)) ∧ E 5 = (.int .i64 s) ∧ E 16 = f3 ∧ Sl kL 5 z x N ∧ ui (e5.drop i) s G H y N = some u) e5.length R.1.len ⟨j.2, ((j.1).Op), ((j.1).K), ((j.1).kI), d2, ((j.1).Kids), a9, _, ⟨rfl, rfl⟩, (lz.refl _), Lo.refl, (b.kM St), rfl, rfl, rfl, rfl, d0, d7⟩ dc dc dc (fun _ _ _ h => by obtain ⟨_, _, _, _, _, _, _, _, aa, _⟩ := h; exact aa) ?_ ?_
  ·rintro e7 E W d6 ⟨s, G, H, y, x, N, z, O, ⟨eI, eN⟩, t, d, b, a2, D, a3, P, I, c⟩
   obtain ⟨a, f6, e1, e0, e2⟩ := mT d6
   rw [e1] at c
   refine bg (VQ (nX (i := (e7 : Int)) (x0 := a) kL.out aF aC P eI (R.1.mono kT.mono t) (bA _) e0) (fun h1 ⟨_, ⟨h4, rfl, c0⟩, d8⟩ => V (kQ rfl (lR b.has d8 aS aC)) (VE (lZ b bE (fun g2 g8 b => ?_)))))
   obtain ⟨Y, Z, rfl⟩ := c0.form
   let b8 := (C2 a.Op a.K a.kI.kK a.kI.kP Y a.Kids.length Z)
   refine VO (lA (.agg b8.toArray) (b8.toArray) b rfl rfl aC oc nb rfl (fun g3 b => lS (Wh a3 (Wi rfl (ln (CI c rfl (fun d5 c => ?_) (fun d5 c => ?_)))))))
   ·refine og (nT (RV (by simp) (nT (su (li ?_)))))
    obtain rfl := sj c
    exact ⟨x, z, _, t, d, (b.kM (Db St)), a2, D, a3, I⟩
   refine kn (lh (V (kQ D (kX b.has (Mt Mh) [(.int .i64 G), (.int .i64 H), (.string y.kK), (.string y.kP), x] rfl aS aC)) (VA b Mh b8 aS aC (bS c fun g d9 c => ?_))))
   refine VE (eD b (bM _) call307 (fun hh => (ID (⟨G, H, y, N⟩ : Formula) x a (.slice Y a.Kids.length Z) _ _ hh (I.mono kT.mono (lz.refl _)) (c0.mono kT.mono (lz.refl _)) d9)) ?_ (L0 := []))
   rintro _ h5 f0 f9 b c9 n ⟨h8, a5, rfl, c1⟩
   obtain rfl := a5.symm
   refine Wm (Wx rfl (Wx rfl ?_))
   obtain ⟨b0, b3, rfl⟩ := c1.form
   let d3 : Value := (.slice b0 ((g.1).Kids).length b3)
   replace b := b.perm (Nb (Pb Pz) Nz)
   refine VO (lA (.agg #[(.int .i64 ((g.1).Op)), (.int .i64 ((g.1).K)), (.string (((g.1).kI).kK)), (.string (((g.1).kI).kP)), d3]) (#[(.int .i64 ((g.1).Op)), (.int .i64 ((g.1).K)), (.string (((g.1).kI).kK)), (.string (((g.1).kI).kP)), d3]) b D rfl aC oc nb rfl (fun g7 b => Wa (lY (me (li ?_)))))
   replace b := b.kM (Kb (Db St))
   exact ⟨eI, g.2, ((g.1).Op), ((g.1).K), ((g.1).kI), d3, ((g.1).Kids), f0, _, ⟨rfl, eN⟩, (t.trans c9), (d.trans n), (b.kM St), a2, D, rfl, P, c1, (by rw [e2]; exact c)⟩
  rintro E W ⟨s, G, H, y, x, N, z, O, ⟨eI, eN⟩, t, d, b, a2, D, a3, P, I, c⟩
  rw [bD] at c
  refine li ?_
  obtain rfl := sj c
  exact ⟨x, z, _, t, d, (b.kM St), a2, D, a3, I⟩
 rintro ⟨e8, Q, T, k, M⟩ E W ⟨q, U, c3, a8, l, b, p, e4, c6, b9⟩ B
 refine lj (sg (Wh c6 (Wi rfl (ln (CI B rfl (fun d4 B => ?_) (fun d4 B => ?_))))))
 ·refine sg (V (ns (v := (.agg C7.toArray)) vm (mP bE bZ (yn _ bZ) kr)) (Wh c6 ?_))
  replace b := b.perm (Nb (Pb Pz) Nz)
  refine VO (lA (.agg C7.toArray) (C7.toArray) b p rfl aC oc nb rfl (fun g0 b => Wa (ln ?_)))
  replace b := b.kM (Kb (Db St))
  refine ma (mV ?_)
  obtain rfl := sj B
  exact uS (v0 := (.agg C7.toArray)) (v1 := (.int .i64 e8)) rfl p (kX b.has Mh C7 rfl aS aC) rfl ⟨_, _, _, rfl, (b.ny Sn), (a4.trans a8), (m.trans l), (ST.mf b (nL.mem Sn)), (.slice none 0 0), rfl, rfl, (Sl.nil _ _ _)⟩
 refine kg (V (kQ e4 (kX b.has Mh [(.int .i64 Q), (.int .i64 T), (.string k.kK), (.string k.kP), q] rfl aS aC)) ?_)
 obtain ⟨J, K, rfl⟩ := b9.form
 let L := (C2 Q T k.kK k.kP J M.length K)
 replace b := b.perm (Nb (Pb Pz) Nz)
 refine VO (lA (.agg L.toArray) (L.toArray) b p rfl aC oc nb rfl (fun g1 b => Wa (ln ?_)))
 replace b := b.kM (Kb (Db St))
 refine ma ?_
 obtain rfl := sj B
 exact uS (v0 := (.agg L.toArray)) (v1 := (.int .i64 0)) rfl p (kX b.has Mh L rfl aS aC) rfl ⟨_, _, _, rfl, (b.ny Sn), (a4.trans a8), (m.trans l), (ST.mf b (nL.mem Sn)), (.slice J M.length K), rfl, rfl, b9⟩
theorem Mz (k : lT) (G H : Value) (p : kJ) (r : (Formula × Int)) (w : World) {μ0 : lG} (h0 : oW μ0 [] w) (t : Sl lm 15 μ0 G k.kR) (y : Sl lX 8 μ0 H k.lC) (hm : Bc k p = some r) :
  mE false Tryz.prog 106 [(.agg #[(.string k.Name), G, H]), (.agg (kN p).toArray)] w μ0 [] (fun v L1 μ1 => ∃ y1, v = (.tuple #[(.agg #[(.int .i64 ((r.1).Op)), (.int .i64 ((r.1).K)), (.string (((r.1).kI).kK)), (.string (((r.1).kI).kP)), y1]), (.int .i64 (r.2))]) ∧ L1 = [] ∧ Sl kL 5 μ1 y1 ((r.1).Kids)) := by
 refine vd h0 41 func106 rfl (fun b => sg ?_)
 obtain ⟨A1, c2, rfl⟩ := t.form
 obtain ⟨A3, P, rfl⟩ := y.form
 let f5 := (C6 k.Name A1 k.kR.length c2 A3 k.lC.length P)
 refine VE (mx b rfl (fun W6 b5 b => VE (mx b rfl (fun W8 b7 b => VE (lZ b bE (fun i4 b9 b => Wa (lr (VA b (Mt (Mt Mh)) f5 fC eA (VA b (Mt Mh) (kN p) cN aW (bS hm fun a e7 hm => ?_))))))))))
 let b8 : Value := (.int .i64 (((a.1).kO).K))
 let q : Value := (.int .i64 (((a.1).kO).Op))
 let b1 := (((a.1).kO).kI)
 let s : Value := (.string (b1.kP))
 let d8 : Value := (.string (b1.kK))
 let a0 := (((a.1).Signed).kJ)
 refine VE (eD b (bM _) call212 (fun A => (J7 k (.slice A1 k.kR.length c2) (.slice A3 k.lC.length P) p _ _ A (t.mono ll.mono (lz.refl _)) (y.mono mr.mono (lz.refl _)) e7)) ?_ (L0 := []))
 rintro _ j4 j8 i2 b I d ⟨j6, j7, a5, rfl, e9, c5⟩
 obtain rfl := a5.symm
 refine Wm (Wx rfl (Wx rfl (VE (lZ b eF (fun i6 j3 b => ?_)))))
 obtain ⟨d9, e1, rfl⟩ := e9.form
 let f8 : Value := (.slice d9 (((a.1).Signed).Tag).length e1)
 obtain ⟨z, D, rfl⟩ := c5.form
 let a2 : Value := (.slice z (((a.1).kO).Kids).length D)
 refine VO (lA (.agg #[(.int .i64 (a0.Kind)), (.string ((a0.Head).kK)), (.string ((a0.Head).kP)), (.string (a0.lH)), (.string ((a0.B).kK)), (.string ((a0.B).kP)), (.string ((a0.C).kK)), (.string ((a0.C).kP)), (.string (a0.lM)), f8, q, b8, d8, s, a2]) (#[(.int .i64 (a0.Kind)), (.string ((a0.Head).kK)), (.string ((a0.Head).kP)), (.string (a0.lH)), (.string ((a0.B).kK)), (.string ((a0.B).kP)), (.string ((a0.C).kK)), (.string ((a0.C).kP)), (.string (a0.lM)), f8, q, b8, d8, s, a2]) b rfl rfl cR oc nb rfl (fun i7 b => Wa (lS (Wm (V (qp rfl) (ln (CI hm rfl (fun e6 hm => ?_) (fun e6 hm => ?_))))))))
 ·refine sg (V (ns (v := (.agg C7.toArray)) vm (mP bE bZ (yn _ bZ) kr)) ?_)
  replace b := b.perm (Nb (Pb Pz) Nz)
  refine VO (lA (.agg C7.toArray) (C7.toArray) b rfl rfl aC oc nb rfl (fun i8 b => Wa (ln ?_)))
  replace b := b.kM (Kb (Db (Db (Db St))))
  refine ma (mV ?_)
  obtain rfl := sj hm
  exact uS (v0 := (.agg C7.toArray)) (v1 := (.int .i64 42)) rfl rfl (kX b.has Mh C7 rfl aS aC) rfl ⟨_, _, _, rfl, (b.ny Sn), I, d, (ST.mf b (nL.mem Sn)), (.slice none 0 0), rfl, rfl, (Sl.nil _ _ _)⟩
 refine kg (Wf KI (VA b Mh [q, b8, d8, s, a2] aS aC (VE (lO (cs := #[q, b8, d8, s, a2]) b (ot rfl) (nZ aF aC bE) (fun i9 e0 b => Wa (ln ?_))))))
 replace b := b.kM (Kb (Db St))
 refine lj (sg (VA b (Mt (Mt (Mt Mh))) f5 fC eA (VA b (Mt (Mt Mh)) (kN p) cN aW (bS hm fun R e8 hm => ?_))))
 refine VE (eD b (bM _) call209 (fun A => (IL k (.slice A1 k.kR.length c2) (.slice A3 k.lC.length P) p _ _ A (t.mono ll.mono I) (y.mono mr.mono I) e8)) ?_ (L0 := []))
 rintro _ j5 e2 i3 b a8 F ⟨f6, a6, rfl, O⟩
 obtain rfl := a6.symm
 refine V (nn dS rfl O) (Wm (ln ?_))
 replace b := b.kM (Kb (Kb (Db (Db St))))
 replace b := b.AN
 refine nm (fun i E W => ∃ Q N K Z, (E 27 = .int .i64 (i : Nat) ∧ E 26 = .int .i64 (R.length : Nat)) ∧ ST false (keys []) w W e2 ((b9, Ol C7 113) :: (K ++ Z)) ∧ E 4 = (.pointer (some ⟨b9, 0, none⟩)) ∧ E 8 = Q ∧ E 25 = f6 ∧ lN 113 kL 5 e2 Q N K ∧ uP (R.drop i) N = some r) R.length O.len ⟨(.slice (some ⟨e0, 0, none⟩) 1 1), ([(a.1).kO]), [(e0, Ob #[q, b8, d8, s, a2] 113)], _, ⟨rfl, rfl⟩, (b.kM (Sb (Pr Pz) St)), rfl, rfl, rfl, (lN.lit kT (l := [(a.1).kO]) (.cons (ys := [q, b8, d8, s, a2]) (kL.mk ⟨a2, rfl, (c5.mono kT.mono a8)⟩) .nil) rfl nb rfl), hm⟩ dc dc dc (fun _ _ _ h => by obtain ⟨_, _, _, _, aa, _⟩ := h; exact aa) ?_ ?_
 ·rintro f0 E W d0 ⟨Q, N, K, Z, ⟨eI, eN⟩, b, T, a3, a4, U, j⟩
  obtain ⟨c, f7, d6, d5, d7⟩ := mT d0
  rw [d6] at j
  refine bg (VQ (nX (i := (f0 : Int)) (x0 := c) lX.out dS eY a4 eI O (bA _) d5) (fun h2 ⟨_, ⟨h5, h6, rfl, a9, d3⟩, d1⟩ => V (kQ rfl (lR b.has d1 kF eY)) (VE (lZ b jK (fun g0 g8 b => ?_)))))
  obtain ⟨u, x, rfl⟩ := a9.form
  let c7 := (C2 c.kO.Op c.kO.K c.kO.kI.kK c.kO.kI.kP u c.kO.Kids.length x)
  obtain ⟨b2, b6, rfl⟩ := d3.form
  let c0 := (R5 c.kI.kK c.kI.kP c.kO.Op c.kO.K c.kO.kI.kK c.kO.kI.kP u c.kO.Kids.length x b2 c.nM.length b6)
  refine VO (lA (.agg c0.toArray) (c0.toArray) b rfl rfl eY oc nb rfl (fun g1 b => ln (lh (Wh a3 (Wf LC (VA b Mh c7 aS aC (VE (lO (cs := c7.toArray) b (ot rfl) (nZ aF aC bE) (fun g2 g9 b => ?_)))))))))
  replace b := b.perm (Nr (Qb (Qb (Qb Qz))) Nz)
  refine bS j fun f1 c9 j => VE (vW (B := K) kT b dc aF oS.1 oS.2.1 rfl oS.2.2.1 oS.2.2.2 rfl rfl U (Du.lit kT (l := [c.kO]) (.cons (ys := C2 c.kO.Op c.kO.K c.kO.kI.kK c.kO.kI.kP u c.kO.Kids.length x) (kL.mk ⟨(.slice u c.kO.Kids.length x), rfl, a9⟩) .nil) rfl nb (b.at_ (Ma Mh))) c9 (fun g3 f2 e3 b c8 => Wa (lY (me (li ?_)))))
  replace b := b.kM (Kr (Db (Db St)))
  exact ⟨eI, f2, f1, e3, _, ⟨rfl, eN⟩, (b.kM (Sb (Pr Pz) St)), T, rfl, a4, c8, (by rw [d7]; exact j)⟩
 rintro E W ⟨Q, N, K, Z, ⟨eI, eN⟩, b, T, a3, a4, U, j⟩
 rw [bD] at j
 refine li (sg (Wh a3 ?_))
 replace b := b.perm (Nr (Qb Qz) Nz)
 obtain ⟨i0, b, c1, m, d4⟩ := ST.xn kT b U
 refine bS j fun g d2 j => ?_
 let g4 : Value := (.int .i64 ((g.1).Op))
 let f4 : Value := (.string (((g.1).kI).kP))
 let f3 : Value := (.string (((g.1).kI).kK))
 refine VE (eD b (bM _) call213 (fun A => (Ko Q N _ _ A (d4.mono kT.mono (lz.refl _)) d2)) ?_ (L0 := []))
 rintro _ h7 i1 f9 b c3 n ⟨h8, Y, rfl, b0⟩
 obtain rfl := Y.symm
 refine Wx rfl (Wx rfl ?_)
 obtain ⟨J, M, rfl⟩ := b0.form
 let L : Value := (.slice J ((g.1).Kids).length M)
 let b4 : Value := (.agg #[g4, (.int .i64 ((g.1).K)), f3, f4, L])
 refine VO (lA b4 (#[g4, (.int .i64 ((g.1).K)), f3, f4, L]) b T rfl aC oc nb rfl (fun g7 b => Wa (lt ?_)))
 obtain rfl := sj j
 exact uS (v0 := b4) (v1 := (.int .i64 g.2)) rfl T (kX b.has Mh [g4, (.int .i64 ((g.1).K)), f3, f4, L] rfl aS aC) rfl ⟨_, _, _, rfl, (b.ny Sn), (((I.trans a8).trans c1).trans c3), (((d.trans F).trans m).trans n), (ST.mf b (nL.mem Sn)), L, rfl, rfl, b0⟩
theorem DO (Q : Formula → (kI → Option Bool) → Option Bool) (a5 : ∀ (g : Formula) (k : Value) (t : Value) (J : kI → Option Bool) (r : Bool) (w : World) (c : Sl kL 5 (hp w) k g.Kids) (K : AI Tryz.prog t (hp w) (fun (x : kI) => [(.agg (kW x).toArray)]) (fun (r : Bool) => (.bool r)) J), Q g J = some r → mi false Tryz.prog 288 [(.agg #[(.int .i64 g.Op), (.int .i64 g.K), (.string g.kI.kK), (.string g.kI.kP), k]), t] w (.bool r)) (g : Formula) (k t : Value) (J : kI → Option Bool) (r : Bool) (w : World) (c : Sl kL 5 (hp w) k g.Kids) (K : AI Tryz.prog t (hp w) (fun (x : kI) => [(.agg (kW x).toArray)]) (fun (r : Bool) => (.bool r)) J) (hm : wc Q g J = some r) :
  mi false Tryz.prog 288 [(.agg #[(.int .i64 g.Op), (.int .i64 g.K), (.string g.kI.kK), (.string g.kI.kP), k]), t] w (.bool r) := by
 refine cG 45 func288 rfl (fun b => sg ?_)
 obtain ⟨A1, c2, rfl⟩ := c.form
 refine VE (mx b rfl (fun W4 n b => Wa (lS (Wf tD (VB b Mh rfl rfl cV (Wi rfl (ln (CI hm rfl (fun a9 hm => ?_) (fun a9 hm => ?_)))))))))
 ·refine sg (Wm (Wf xJ (VA b Mh (kW g.kI) bY bG (bS hm fun r6 v hm => VE (O6 g.kI b K (lz.refl _) rfl (wk rfl) v (fun W8 b => Wa (ln ?_)))))))
  replace b := b.kM (Db St)
  refine ma (mV ?_)
  obtain rfl := sj hm
  exact rP b
 refine kg (Wa (lS (Wf se (VB b Mh rfl rfl fR (V (nn aF rfl c) (Wm (lY ?_)))))))
 refine li (nm (fun i E W => ∃ z I, (E 18 = .int .i64 (i : Nat) ∧ E 17 = .int .i64 (g.Kids.length : Nat)) ∧ ST false nl w W (hp w) ((n, Ol (C2 g.Op g.K g.kI.kK g.kI.kP A1 g.Kids.length c2) 113) :: I) ∧ E 1 = t ∧ E 2 = (.pointer (some ⟨n, 0, none⟩)) ∧ E 5 = (.int .i64 z) ∧ E 16 = (.slice A1 g.Kids.length c2) ∧ qg Q J g (g.Kids.drop i) z = some r) g.Kids.length c.len ⟨0, _, ⟨rfl, rfl⟩, (b.kM St), rfl, rfl, rfl, rfl, hm⟩ dc dc dc (fun _ _ _ h => by obtain ⟨_, _, l, _⟩ := h; exact l) ?_ ?_)
 ·rintro A E W a4 ⟨z, I, ⟨d, m⟩, b, G, u, y, H, a⟩
  obtain ⟨j, c1, s, q, N⟩ := mT a4
  rw [s] at a
  refine bg (VQ (nX (i := (A : Int)) (x0 := j) kL.out aF aC H d c (bA _) q) (fun R ⟨_, ⟨c0, rfl, M⟩, Z⟩ => V (kQ rfl (lR b.has Z aS aC)) (VE (lZ b bE (fun F P b => ?_)))))
  obtain ⟨B, D, rfl⟩ := M.form
  let a0 := (C2 j.Op j.K j.kI.kK j.kI.kP B j.Kids.length D)
  refine VO (lA (.agg a0.toArray) (a0.toArray) b rfl rfl aC oc nb rfl (fun L b => lr (VA b Mh a0 aS aC (Wh G (bS a fun b9 p a => VE (Eg b call288 (a5 j (.slice B j.Kids.length D) t J _ _ (M.mono kT.mono b.kV) (K.mono b.kV) p) (fun O b => ln ?_)))))))
  replace b := b.kM (Db St)
  refine CI a rfl (fun T a => ?_) (fun T a => ?_)
  ·exact lh (Wh y (Wi rfl (Wa (lY (me (li ⟨d, (IntKind.i64.wrap (z + 1)), _, ⟨rfl, m⟩, (b.kM St), G, u, rfl, H, (by rw [N]; exact a)⟩))))))
  exact nt (me (li ⟨d, z, _, ⟨rfl, m⟩, (b.kM St), G, u, y, H, (by rw [N]; exact a)⟩))
 rintro E W ⟨z, I, ⟨d, m⟩, b, G, u, y, H, a⟩
 rw [bD] at a
 refine li (lj (sg (V (lg tD u) (VB b Mh rfl rfl cV (ln (bg (Wi rfl (Wa (ln ?_)))))))))
 refine CI a rfl (fun U a => ?_) (fun U a => ?_)
 ·refine sg (Wh y (V (lg se u) (VB b Mh rfl rfl fR (V (nn aF rfl c) (Wi rfl (Wa (ln ?_)))))))
  replace b := b.kM (Db St)
  refine ma (qI (mV ?_))
  obtain rfl := sj a
  exact rP b
 refine sg (Wi rfl (Wa (ln (CI a rfl (fun Y a => ?_) (fun Y a => ?_)))))
 ·refine sg (Wh y (Wi rfl (Wa (ln ?_))))
  replace b := b.kM (Db St)
  refine ma (qI (mV ?_))
  obtain rfl := sj a
  exact rP b
 refine nt (me (li (sg (Wh y (V (lg xE u) (VB b Mh rfl rfl cV (Wi rfl (Wa (ln ?_)))))))))
 exact ma (rQ a b)
theorem Cu : ∀ (n : Nat) (c : Formula) (a : Value) (g : Value) (j : kI → Option Bool) (r : Bool) (w : World) (i : Sl kL 5 (hp w) a c.Kids) (k : AI Tryz.prog g (hp w) (fun (x : kI) => [(.agg (kW x).toArray)]) (fun (r : Bool) => (.bool r)) j) (_ : qM n c j = some r),
  mi false Tryz.prog 288 [(.agg #[(.int .i64 c.Op), (.int .i64 c.K), (.string c.kI.kK), (.string c.kI.kP), a]), g] w (.bool r)
 | 0 => by intros; rename_i h; simp only [qM] at h; cases h
 | n + 1 => DO (qM n) (Cu n)
theorem Dd (a : Formula) (j k : Value) (G : kI → Option Bool) (r : Bool) (w : World) (c : Sl kL 5 (hp w) j a.Kids) (z : AI Tryz.prog k (hp w) (fun (x : kI) => [(.agg (kW x).toArray)]) (fun (r : Bool) => (.bool r)) G) (hm : vM a G = some r) :
  mi false Tryz.prog 183 [(.agg #[(.int .i64 a.Op), (.int .i64 a.K), (.string a.kI.kK), (.string a.kI.kP), j]), k] w (.bool r) := by
 refine cG 16 func183 rfl (fun b => sg ?_)
 obtain ⟨u, y, rfl⟩ := c.form
 let a0 := (C2 a.Op a.K a.kI.kK a.kI.kP u a.Kids.length y)
 refine VE (mx b rfl (fun U Z b => Wa (lr (Wm (V (N2 underlying242 z.form rfl rfl) (Wm (Vg rfl rfl (kQ rfl (kX b.has Mh a0 rfl aS aC)) (bS hm fun d K hm => NR rfl rfl (Eg b call107 (wP a (.slice u a.Kids.length y) _ _ (c.mono kT.mono b.kV) K) (fun Y b => V (mh rfl rfl) (Wm (LJ hm (fun D E W => ∃ B, ST false nl w W (hp w) B ∧ E 4 = (.bool false) ∧ E 15 = (.bool D)) 4 ?_ (fun D g t => ?_)))))))))))))
 ·rintro T E W ⟨B, b, N, J⟩ H
  exact Wg J (lt (rQ H b))
 refine bC g (fun i g => ?_) (fun i g => ?_)
 ·refine ug i (kQ rfl (kX b.has Mh a0 rfl aS aC)) (ug i (kZ rfl) (bS g fun Q I g => zG i (Eg b call288 ((Cu lE) a (.slice u a.Kids.length y) k G _ _ (c.mono kT.mono b.kV) (z.mono b.kV) I) (fun M b => V (mh (cB i) rfl) ?_))))
  obtain rfl := sj g
  exact t _ _ ⟨_, (b.kM (Db St)), rfl, rfl⟩
 refine un i (un i (un i (V (mg (cB i) rfl) ?_)))
 obtain rfl := sj g
 exact t _ _ ⟨_, (b.kM (Db St)), rfl, rfl⟩
theorem BN (K : Nat) (a : Value) (G : List (kI × (List (ByteArray × Bool)))) (c : Value) (t : List kJ) (j : Value) (D : List (kI × (List kJ))) (g : Value) (u : List (ByteArray × (List kJ))) (i : Value) (B : List lf) (J : Int) (I : kI) (a2 : ByteArray) (r : Bool) (w : World) (H : sG (fun (x : kI) => (.agg (kW x).toArray)) (mL Value.string (fun (x : Bool) => (Value.bool x))) (hp w) a G) (T : Sl (Pl kN) 9 (hp w) c t) (Z : sG (fun (x : kI) => (.agg (kW x).toArray)) (lD 53 kN 9) (hp w) j D) (U : sG Value.string (lD 53 kN 9) (hp w) g u) (Y : Sl (Pl mY) 3 (hp w) i B) (Q : At (hp w) (.pointer (some ⟨K, 0, none⟩)) [a, c, j, g, i, (.int .i64 J)]) (hm : ux G t D u B J I a2 = some r) :
  mi true Tryz.prog 149 [(.pointer (some ⟨K, 0, none⟩)), (.agg (kW I).toArray), (.string a2)] w (.bool r) := by
 refine cG 19 func149 rfl (fun l => sg (VE (mx l rfl (fun W2 q l => Wa (ln (lj ?_))))))
 replace l := l.drew
 have d := l.has.kM (Kb Sn)
 refine mA d lL (X 0 rfl d (kZ rfl) (X 1 rfl d (D8 underlying171 rfl rfl) (X 2 rfl d (kZ rfl) (Xg 3 rfl rfl rfl d (kZ rfl) (Xg 4 rfl rfl rfl d (nu rfl) (rJ 5 rfl kr (.inr ⟨2, true, 9, rfl, rfl, by decide, rfl⟩) rfl dc (fun _ _ h => h) d (uf [a] xP rfl Q rfl) (fun p a3 => te 6 rfl rfl rfl d (fun _ m => kQ rfl (vv m (y := a) a3 jx)) (te 7 rfl rfl rfl d (fun _ m => kQ rfl (kX m Mh (kW I) rfl bY bG)) ?_))))))))
 obtain ⟨a4, a5, M, N⟩ := H
 refine te 8 rfl rfl rfl d (fun _ m => qb (k := I) (z := (.map none)) AF fM gL rfl rfl M (fun b o n => m.1 b o (N b o n))) (Xg 9 rfl rfl rfl d (kZ rfl) (te 10 rfl rfl rfl d (fun _ m => xe (k := a2) (z := false) (vf := (fun (x : Bool) => (Value.bool x))) G2 gQ js rfl rfl ((nO.DZ lx.1 M I N).mono (fun b o n => m.1 b o n))) (X 11 rfl d (mh rfl rfl) (X 12 rfl d (oM rfl) (mH kr (li ?_))))))
 exact ma (rQ hm l)
theorem G5 (N : kI) (Q D : Nat) (t : Value) (B : List (kI × (List (ByteArray × Bool)))) (a : Value) (j : List kJ) (i : Value) (z : List (kI × (List kJ))) (c : Value) (k : List (ByteArray × (List kJ))) (g : Value) (u : List lf) (I : Int) (T : Nat) (Y : ByteArray) (r : Bool) (w : World) (M : sG (fun (x : kI) => (.agg (kW x).toArray)) (mL Value.string (fun (x : Bool) => (Value.bool x))) (hp w) t B) (G : Sl (Pl kN) 9 (hp w) a j) (K : sG (fun (x : kI) => (.agg (kW x).toArray)) (lD 53 kN 9) (hp w) i z) (H : sG Value.string (lD 53 kN 9) (hp w) c k) (J : Sl (Pl mY) 3 (hp w) g u) (U : At (hp w) (.pointer (some ⟨D, 0, none⟩)) [t, a, i, c, g, (.int .i64 I)]) (Z : At (hp w) (.pointer (some ⟨Q, 0, none⟩)) [(.pointer (some ⟨D, 0, none⟩))]) (d : At (hp w) (.pointer (some ⟨T, 0, none⟩)) [(.string Y)]) (hm : qN N B j z k u I Y = some r) :
  mi true Tryz.prog 287 [(.agg (kW N).toArray), (.pointer (some ⟨Q, 0, none⟩)), (.pointer (some ⟨T, 0, none⟩))] w (.bool r) := by
 refine cG 9 func287 rfl (fun b => sg (VE (mx b rfl (fun W2 h b => Wa (lr (V (kQ rfl (vv b.has (y := (.pointer (some ⟨D, 0, none⟩))) Z isAgg171)) (VA b Mh (kW N) bY bG (V (kQ rfl (vv b.has (y := (.string Y)) d cO)) (bS hm fun l a2 hm => VE (Eg b call149 (BN D t B a j i z c k g u I N Y _ _ (M.mono b.kV) (G.mono (Pl.mono _) b.kV) (K.mono b.kV) (H.mono b.kV) (J.mono (Pl.mono _) b.kV) (U.mono b.kV) a2) (fun W5 b => Wa ?_)))))))))))
 refine ln ?_
 exact ma (rQ hm b)
theorem Et (g : Value) (i r : List kJ) (w : World) (a : Sl (Pl kN) 9 (hp w) g i) (hm : sJ i = some r) :
  pd true Tryz.prog 228 [g] w 53 kN 9 r := by
 unfold sJ at hm
 refine BG 8 func228 rfl (fun b => sg (Wa (lS (Wm ?_))))
 obtain ⟨y, B, rfl⟩ := a.form
 refine V (Aq bF rfl rfl) (ln ?_)
 rcases y with _ | z
 ·have u := a.isNil
  replace hm : some [] = some r := by rw [u] at hm; simpa [nE, maxLen] using hm
  refine tg (rfl) (sg (Wa (lt (mV ?_))))
  obtain rfl := sj hm
  exact mS (v := (.slice none 0 0)) rfl rfl ⟨_, [], rfl, b.sU (fun p d => by cases d) (by simp), lD.nil _ _ _⟩
 ·refine qR (rfl) (kg (VE (lO (cs := #[]) b vm (Bp [] bF aW dT dc rfl (by simp) rfl rfl) (fun G k b => Wm (bS hm fun H t hm => VE (rM (enc := kN) (v := (.slice (some ⟨k, 0, none⟩) 0 0)) (vs := (.slice (some z) i.length B)) (R := [(k, Ob #[] 53)]) b np dc qQ bF rD.1 rD.2.1 rfl rD.2.2.1 rD.2.2.2 rfl rfl (lD.lit (l := []) (enc := kN) rfl dc rfl rfl) (a.mono (Pl.mono _) b.kV) t (fun D x j b c => Wa (lt ?_))))))))
  obtain rfl := sj hm
  exact mS (v := x) rfl rfl ⟨_, j, rfl, b.sU (fun p d => (Ml d)) c.nd, c⟩
theorem B0 (g : Value) (t : List kJ) (j : Value) (B : kJ → Option Bool) (r : Int) (w : World) (c : Sl (Pl kN) 9 (hp w) g t) (D : AI Tryz.prog j (hp w) (fun (x : kJ) => [(.agg (kN x).toArray)]) (fun (r : Bool) => (.bool r)) B) (hm : uL t B = some r) :
  mi false Tryz.prog 260 [g, j] w (.int .i64 r) := by
 refine cG 19 func260 rfl (fun b => sg (Wa (lS (Wm (V (nn bF rfl c) (Wm (ln (nm (fun i E W => ∃ k, (E 8 = .int .i64 (i : Nat) ∧ E 7 = .int .i64 (t.length : Nat)) ∧ ST false nl w W (hp w) k ∧ E 0 = g ∧ E 1 = j ∧ pC B (t.drop i) i = some r) t.length c.len ⟨_, ⟨rfl, rfl⟩, (b.kM St), rfl, rfl, hm⟩ dc dc dc (fun _ _ _ h => by obtain ⟨_, l, _⟩ := h; exact l) ?_ ?_))))))))
 ·rintro Q E W H ⟨k, ⟨d, m⟩, b, u, y, a⟩
  obtain ⟨z, T, M, K, N⟩ := mT H
  rw [M] at a
  refine bg (Wh d (Wa (lr (Wh y (Wh u (Wm (VQ (vt (enc := kN) (i := (Q : Int)) (x0 := z) bF aW rfl rfl c (bA _) K) (fun Y I => V (kQ rfl (lR b.has I cN aW)) (bS a fun Z J a => ?_)))))))))
  refine VE (O6 z b D (lz.refl _) rfl (wk rfl) J (fun U b => ln (CI a rfl (fun G a => ?_) (fun G a => ?_))))
  ·refine sg (Wm (Wa (lt (qI (mV (qI (mV ?_)))))))
   obtain rfl := sj a
   exact rP b
  exact nt (me (li ⟨d, _, ⟨rfl, m⟩, (b.kM St), u, y, (by rw [N]; exact a)⟩))
 rintro E W ⟨k, ⟨d, m⟩, b, u, y, a⟩
 rw [bD] at a
 exact li (sg (Wa (lt (rQ a b))))
theorem BT (j : Value) (a0 : List kJ) (t : LO) (H : Value) (f1 : kJ → Option Bool) (r : List kJ) (w : World) {μ0 : lG} (h0 : oW μ0 (t ++ []) w) (T : lD 53 kN 9 j a0 t) (a4 : AI Tryz.prog H μ0 (fun (x : kJ) => [(.agg (kN x).toArray)]) (fun (r : Bool) => (.bool r)) f1) (hm : rT a0 f1 = some r) :
  mU false Tryz.prog 143 [j, H] w (t ++ []) (fun v L1 W' => ∃ q S2, v = q ∧ L1 = (S2 ++ []) ∧ lD 53 kN 9 q r S2) := by
 refine By h0 42 func143 rfl (fun d => sg (Wa (lr (Wm (Wm (bS hm fun n d3 hm => VE (Eg d call260 (B0 j a0 H f1 _ _ (T.sl np (fun b o h => d.at_ (Ml h))) (a4.mono d.kV) d3) (fun W3 d => Wa (ln ?_)))))))))
 refine lj (sg (Wm (Wi rfl (ln (CI hm rfl (fun d2 hm => ?_) (fun d2 hm => ?_))))))
 ·refine sg (Wm (Wa (lt (mV ?_))))
  obtain rfl := sj hm
  exact mS (v := j) rfl rfl ⟨_, _, rfl, (d.ny (Kr Sn)), j, t, rfl, rfl, T⟩
 refine kS (Wm (Wi rfl (Wa (ln (mR (oG (fun m E W => ∃ U I B D a2, ST false (keys (t ++ [])) w W μ0 (I ++ a2) ∧ E 0 = j ∧ E 1 = H ∧ E 5 = (.int .i64 B) ∧ E 6 = (.int .i64 D) ∧ lD 53 kN 9 j U I ∧ oC f1 m U B D = some r) lE ⟨a0, t, n, (IntKind.i64.wrap (n + 1)), _, (d.kM St), rfl, rfl, rfl, rfl, T, hm⟩ ?_))))))
 rintro m E W ⟨U, I, B, D, a2, d, y, Q, G, K, g, a⟩
 cases m with
 | zero => rw [oC] at a; cases a
 | succ c8 =>
  refine lj (sg (Wh K (Wh y (V (rY bF rfl g) (Wi rfl (ln (CI a rfl (fun A a => ?_) (fun A a => ?_))))))))
  ·refine kn (lj (CJ a (fun Y E W => ∃ J a3, ST false (keys (t ++ [])) w W μ0 (J ++ a3) ∧ E 0 = j ∧ E 1 = H ∧ E 5 = (.int .i64 Y.2) ∧ E 6 = (.int .i64 D) ∧ lD 53 kN 9 j Y.1 J) (fun Y c => ?_) ?_))
   ·refine bg (Wh y (Wh K (bS c fun k M c => VQ (th (i := D) (x0 := k) bF aW rfl rfl g (lK M) (lI M)) (fun e4 O => V (kQ rfl (xr d.has (fun p h => (Ml h)) g np O (lI M) cN aW)) (VE (lZ d dT (fun d7 e2 d => VO (lA (.agg (kN k).toArray) ((kN k).toArray) d rfl rfl aW (qQ k) nb rfl (fun d8 d => lr (Wh Q ?_))))))))))
    refine VA d Mh (kN k) cN aW (bS c fun e6 R c => VE (O6 k d a4 (lz.refl _) rfl (wk rfl) R (fun d9 d => V (qp rfl) (ln (CI c rfl (fun F c => ?_) (fun F c => ?_))))))
    ·refine sg (Wh y (Wh G (VA d Mh (kN k) cN aW (bS c fun d0 N c => VQ (th (i := B) (x0 := d0) bF aW rfl rfl g (lK N) (lI N)) (fun e5 P => ?_)))))
     replace d := d.perm (Nr (Qb Qz) Nz)
     refine VO (DB (u := (.agg (kN k).toArray)) (x1 := k)  d g np qQ rfl rfl rfl P (lI N) aW (fun e0 c1 d s => ln ?_))
     replace d := d.kM (Kr (Db St))
     refine lh (Wh G (Wi rfl (Wa (lY (me (li ?_))))))
     obtain rfl := sj c
     exact ⟨c1, _, (d.kM St), y, Q, rfl, K, s⟩
    refine nt (me (li ?_))
    obtain rfl := sj c
    exact ⟨I, _, (d.kM (Db St)), y, Q, G, K, g⟩
   rintro ⟨c7, c9⟩ E W ⟨J, a3, d, c3, c4, c5, c6, b6⟩ L
   exact lh (Wh c6 (Wi rfl (Wa (ln ⟨c8, bL _, c7, J, c9, (IntKind.i64.wrap (D + 1)), _, (d.kM St), c3, c4, c5, rfl, b6, L⟩))))
  refine og (nT (nT (su (li (sg (Wh y (Wh G (bS a fun _ Z a => VQ (Ai (i := B) bF aW rfl rfl g (wq Z) (vZ Z)) (fun e7 b7 => VO (CV (z := Re)  d g np qQ bF dT b7 rfl rfl (fun e1 c2 d a9 => lr (Wh y ?_))))))))))))
  refine Wh G (bS a fun _ l a => VQ (EJ (i := B) bF aW rfl rfl a9 np (wq l) (vZ l)) (fun a5 b9 => Wa (lt ?_)))
  obtain rfl := sj a
  exact mS (v := a5) rfl rfl ⟨_, _, rfl, (d.ny (Kr Sn)), a5, c2, rfl, rfl, b9⟩
theorem IA (a : kJ) (r : Bool) (w : World) (hm : yo a = some r) :
  mi true Tryz.prog 229 [(.agg (kN a).toArray)] w (.bool r) := by
 refine cG 6 func229 rfl (fun b => sg (VE (mx b rfl (fun g j b => Wa (lr (VA b Mh (kN a) cN aW (bS hm fun k c hm => VE (Eg b call137 (zy a _ _  c) (fun i b => V (qp rfl) (Wa (lY ?_)))))))))))
 refine li ?_
 exact ma (rQ hm b)
theorem Mc (c : Value) (k : List kJ) (a : LO) (g : Value) (t : (kJ × kJ) → Option Int) (r : List kJ) (w : World) {y : lG} (u : oW y (a ++ []) w) (i : lD 53 kN 9 c k a) (j : Tc Tryz.prog g y (fun (x : (kJ × kJ)) => [(.agg (kN x.1).toArray), (.agg (kN x.2).toArray)]) (fun (r : Int) => (.int .i64 r)) t) (hm : Ak t k = some r) :
  mU true Tryz.prog 230 [c, g] w (a ++ []) (fun v z W' => ∃ S, v = (.tuple #[]) ∧ z = (S ++ []) ∧ lD 53 kN 9 c r S) := Kz (P := Tryz.prog) (ρ := NX) QZ 9 cN aW kN np qQ u.H u.S i j hm
theorem Fc (c : kJ) (r : List Int) (w : World) (hm : xq c = some r) :
  pd true Tryz.prog 155 [(.agg (kN c).toArray)] w 5 (mJ .u8) 1 r := by
 refine BG 53 func155 rfl (fun d => sg (VE (mx d rfl (fun W2 b1 d => Wa (lS (VA d Mh (kN c) cN aW (bS hm fun r3 g3 hm => VE (Eg d call137 (zy c _ _  g3) (fun W5 d => V (qp rfl) (lY ?_))))))))))
 refine li (CI hm rfl (fun g0 hm => ?_) (fun g0 hm => ?_))
 ·refine sg (Wa (ln ?_))
  replace d := d.kM (Db St)
  refine ma (mV ?_)
  obtain rfl := sj hm
  exact mS (v := (.slice none 0 0)) rfl rfl ⟨_, [], rfl, d.sU (fun p m => by cases m) (by simp), lD.nil _ _ _⟩
 refine kg (V (ns (v := (.agg #[(.slice none 0 0)])) vm (mP zeroValue92 jg (R7 _ jg) kr)) (VE (mx d rfl (fun W8 g d => Wa (lr (Wm (Wf za (VB d (Mt Mh) rfl rfl cV (bS hm fun r9 e2 hm => ?_)))))))))
 refine VE (eM d (Cb Pz (C0 Cn)) call268 (fun l _ => (sH g (.slice none 0 0) ([]) [] c.Kind _ _ l (lD.nil _ _ _) e2)) ?_)
 rintro _ k3 k5 j9 d g7 P h ⟨g4, f9, I, rfl, e4⟩
 obtain rfl := I.symm
 replace d := d.perm (Tb (Tr Tn))
 refine lr (Wm (Wf vn (VA d (Mt (Ma Mh)) (kW c.Head) bY bG (bS hm fun N e3 hm => ?_))))
 refine VE (eM d (Cb Pz (Cr Qz Cn)) call269 (fun l _ => (vQ g g4 r9.2 f9 c.Head _ _ l e4 e3)) ?_)
 rintro _ k4 d1 k0 d g8 R h ⟨G, D, J, rfl, i⟩
 obtain rfl := J.symm
 replace d := d.perm (Tb (Tr Tn))
 refine ln (lj (CJ hm (fun a3 E W => ∃ B H K Q, lz d1 K ∧ ST true nl w W K ((g, Ob #[B] 92) :: (H ++ Q)) ∧ E 3 = (.pointer (some ⟨g, 0, none⟩)) ∧ lD 5 (mJ .u8) 1 B a3 H) (fun a3 a => ?_) ?_))
 ·refine sg (Wf za (VB d (Mt (Ma Mh)) rfl rfl cV (ln (bg (Wi rfl (Wa (ln (CI a rfl (fun b0 a => ?_) (fun b0 a => ?_)))))))))
  ·refine lh (Wm (Wf Dk (VB d (Mt (Ma Mh)) rfl rfl cO (bS a fun i3 b6 a => ?_))))
   refine VE (eM d (Cb Pz (Cr Qz Cn)) call270 (fun l _ => (zg g G N.2 D c.lH _ _ l i b6)) ?_)
   rintro _ i8 f5 g9 d T q h ⟨e9, d3, k, rfl, c5⟩
   obtain rfl := k.symm
   replace d := d.perm (Tb (Tr Tn))
   refine lY (me (li ?_))
   obtain rfl := sj a
   exact ⟨e9, d3, f5, _, T, (d.kM (Kb (Kr (Db St)))), rfl, c5⟩
  refine sg (Wi rfl (Wa (ln (CI a rfl (fun b2 a => ?_) (fun b2 a => ?_)))))
  ·refine lh (Wm (Wf qV (VA d (Mt (Ma Mh)) (kW c.B) bY bG (bS a fun i4 b9 a => ?_))))
   refine VE (eM d (Cb Pz (Cr Qz Cn)) call269 (fun l _ => (vQ g G N.2 D c.B _ _ l i b9)) ?_)
   rintro _ i9 f6 h0 d U s h ⟨f0, d4, t, rfl, c6⟩
   obtain rfl := t.symm
   replace d := d.perm (Tb (Tr Tn))
   refine lY (me (li ?_))
   obtain rfl := sj a
   exact ⟨f0, d4, f6, _, U, (d.kM (Kb (Kr (Db St)))), rfl, c6⟩
  refine sg (Wi rfl (Wa (ln (CI a rfl (fun b3 a => ?_) (fun b3 a => ?_)))))
  ·refine sg (Wm (Wf qV (VA d (Mt (Ma Mh)) (kW c.B) bY bG (bS a fun e6 c0 a => ?_))))
   refine VE (eM d (Cb Pz (Cr Qz Cn)) call269 (fun l _ => (vQ g G N.2 D c.B _ _ l i c0)) ?_)
   rintro _ j0 j7 h1 d Y A h ⟨f1, d5, u, rfl, c7⟩
   obtain rfl := u.symm
   replace d := d.perm (Tb (Tr Tn))
   refine ln (lh (Wm (Wf Ay (VB d (Mt (Ma Mh)) rfl rfl cO (bS a fun i5 c1 a => ?_)))))
   refine VE (eM d (Cb Pz (Cr Qz Cn)) call270 (fun l _ => (zg g f1 e6.2 d5 c.lM _ _ l c7 c1)) ?_)
   rintro _ j3 f7 h2 d Z F h ⟨f2, d6, x, rfl, c8⟩
   obtain rfl := x.symm
   replace d := d.perm (Tb (Tr Tn))
   refine lY (me (li ?_))
   obtain rfl := sj a
   exact ⟨f2, d6, f7, _, (Y.trans Z), (d.kM (Kb (Kr (Db St)))), rfl, c8⟩
  refine sg (Wi rfl (Wa (ln (CI a rfl (fun b4 a => ?_) (fun b4 a => ?_)))))
  ·refine sg (Wm (Wf qV (VA d (Mt (Ma Mh)) (kW c.B) bY bG (bS a fun e7 c2 a => ?_))))
   refine VE (eM d (Cb Pz (Cr Qz Cn)) call269 (fun l _ => (vQ g G N.2 D c.B _ _ l i c2)) ?_)
   rintro _ j4 j8 h3 d a1 L h ⟨f3, d7, y, rfl, c9⟩
   obtain rfl := y.symm
   replace d := d.perm (Tb (Tr Tn))
   refine ln (lh (Wm (Wf zr (VA d (Mt (Ma Mh)) (kW c.C) bY bG (bS a fun i6 c3 a => ?_)))))
   refine VE (eM d (Cb Pz (Cr Qz Cn)) call269 (fun l _ => (vQ g f3 e7.2 d7 c.C _ _ l c9 c3)) ?_)
   rintro _ j5 f8 h4 d a2 O h ⟨f4, d8, z, rfl, d0⟩
   obtain rfl := z.symm
   replace d := d.perm (Tb (Tr Tn))
   refine lY (me (li ?_))
   obtain rfl := sj a
   exact ⟨f4, d8, f8, _, (a1.trans a2), (d.kM (Kb (Kr (Db St)))), rfl, d0⟩
  refine nt (me (li ?_))
  obtain rfl := sj a
  exact ⟨G, D, d1, _, (lz.refl _), (d.kM (Kb (Kr (Db St)))), rfl, i⟩
 rintro e5 E W ⟨B, H, K, Q, g1, d, d9, c4⟩ j
 refine sg (Wh d9 (bS j fun i2 b5 j => VE (zK d call66 (BC g B e5 _ _ (c4.sl (fun _ => rfl) (fun b o m => d.at_ (Mt (Ml m)))) (At.of (d.at_ Mh) _ rfl) b5) (fun h5 e8 j6 d2 d g2 n M => Wa (ln ?_)))))
 replace d := d.kM (Kr (Db (Dr St)))
 refine ma ?_
 obtain rfl := sj j
 exact mS (v := e8) rfl rfl ⟨_, d2, rfl, d.sU (fun p m => (Ml m)) M.nd, M⟩
theorem HC (g i : kJ) (r : Int) (w : World) (hm : uo g i = some r) :
  mi true Tryz.prog 231 [(.agg (kN g).toArray), (.agg (kN i).toArray)] w (.int .i64 r) := by
 refine cG 10 func231 rfl (fun d => sg (VE (mx d rfl (fun T Y d => VE (mx d rfl (fun U Z d => Wa (ln (lj ?_))))))))
 replace d := d.drew
 have h := d.has.kM (Kb (Kb Sn))
 refine mA h lL (XH 0 rfl h (fun _ l => kQ rfl (kX l (Mt Mh) (kN g) rfl cN aW)) (XH 2 rfl h (fun _ l => kQ rfl (kX l Mh (kN i) rfl cN aW)) (bS hm fun y t hm => XE 1 rfl (zK d call155 (Fc g _ _  t) (fun I B N G d a n j => ?_)))))
 have h := d.has.sW a (Dr (Kb (Kb Sn)))
 refine ⟨h, (bS hm fun z u hm => XE 3 rfl (zK d call155 (Fc i _ _  u) (fun J D Q H d c p k => ?_)))⟩
 have h := d.has.sW (a.trans c) (Dr (Dr (Kb (Kb Sn))))
 refine ⟨h, (bS hm fun M x hm => XE 4 rfl (Eg d call323 (Cf B y D z _ _ (j.sl (fun _ => rfl) (fun b o m => d.at_ (Ma (Ml m)))) (k.sl (fun _ => rfl) (fun b o m => d.at_ (Ml m))) x) (fun K d => ?_)))⟩
 have h := d.has.sW (a.trans c) (Dr (Dr (Kb (Kb Sn))))
 refine ⟨h, (X 5 rfl h (oM rfl) (mH kr (li ?_)))⟩
 exact ma (rQ hm d)
theorem Dz (j : Value) (a0 : List kJ) (x : LO) (r : List kJ) (w : World) {μ0 : lG} (h0 : oW μ0 (x ++ []) w) (B : lD 53 kN 9 j a0 x) (hm : tH a0 = some r) :
  mU true Tryz.prog 232 [j] w (x ++ []) (fun v L1 W' => ∃ y1 S2, v = y1 ∧ L1 = (S2 ++ []) ∧ lD 53 kN 9 y1 r S2) := by
 refine By h0 61 func232 rfl (fun b => sg (Wa (lS (Wm (V (rY bF rfl B) (Wi rfl (ln (CI hm rfl (fun g0 hm => ?_) (fun g0 hm => ?_)))))))))
 ·refine sg (Wm (Wa (lt (mV ?_))))
  obtain rfl := sj hm
  exact mS (v := j) rfl rfl ⟨_, _, rfl, (b.ny (Kr Sn)), j, x, rfl, rfl, B⟩
 refine kS (Wa (ln (mR (oG (fun m E W => ∃ t R, ST true (keys (x ++ [])) w W μ0 (x ++ R) ∧ E 0 = j ∧ E 3 = (.int .i64 t) ∧ pg a0 m t = some r) lE ⟨1, _, (b.kM St), rfl, rfl, hm⟩ ?_))))
 rintro m E W ⟨t, R, b, D, H, a⟩
 cases m with
 | zero => rw [pg] at a; cases a
 | succ f5 =>
  refine lj (sg (Wh H (Wh D (V (rY bF rfl B) (Wi rfl (ln (CI a rfl (fun d0 a => ?_) (fun d0 a => ?_))))))))
  ·refine kn (lj (mR (lj ?_)))
   replace b := b.drew
   have d := b.has.kM (Kr Sn)
   refine mA d lL (X 0 rfl d (kZ D) (X 1 rfl d (kZ H) (bS a fun c3 Z a => XQ 2 rfl d (th (i := t) (x0 := c3) bF aW rfl rfl B (lK Z) (lI Z)) (fun g7 d6 => XH 3 rfl d (fun _ l => kQ rfl (xr l (fun p h => (Ml h)) B np d6 (lI Z) cN aW)) (X 4 rfl d (kZ D) (X 5 rfl d (kZ H) (X 6 rfl d (lW rfl rfl rfl) (bS a fun c4 n a => XQ 7 rfl d (th (i := (IntKind.i64.wrap (t - 1))) (x0 := c4) bF aW rfl rfl B (lK n) (lI n)) (fun g8 d7 => XH 8 rfl d (fun _ l => kQ rfl (xr l (fun p h => (Ml h)) B np d7 (lI n) cN aW)) (X 9 rfl d (A6 rfl rfl (ue iM) (xN (yK _ c3 c4))) (mH kr (li ?_))))))))))))
   refine CI a rfl (fun d1 a => ?_) (fun d1 a => ?_)
   ·refine sg (Wh D (Wh H (bS a fun _ F a => VQ (Ai (i := t) bF aW rfl rfl B (wq F) (vZ F)) (fun c1 M => Wa (lS (Wa (ln ?_)))))))
    refine CJ a (fun U E W => ∃ q b5, ST true (keys (x ++ [])) w W μ0 (q ++ b5) ∧ E 0 = j ∧ E 3 = (.int .i64 U.2) ∧ lD 53 kN 9 j U.1 q) (fun U d4 => ?_) ?_
    ·refine mR (oG (fun m E W => ∃ s K Y y b6, ST true (keys (x ++ [])) w W μ0 (K ++ b6) ∧ E 0 = j ∧ E 3 = (.int .i64 Y) ∧ E 4 = c1 ∧ E 5 = (.int .i64 y) ∧ lD 53 kN 9 j s K ∧ pb t m s Y y = some U) lE ⟨a0, x, t, 1, _, (b.kM St), D, H, rfl, rfl, B, d4⟩ ?_)
     rintro m E W ⟨s, K, Y, y, b6, b, Q, T, I, J, g, k⟩
     cases m with
     | zero => rw [pb] at k; cases k
     | succ f6 =>
      refine lj (sg (Wh J (Wh I (V (H7 bF rfl M g) (Wi rfl (ln (CI k rfl (fun d2 k => ?_) (fun d2 k => ?_))))))))
      ·refine kn (lj (CJ k (fun A E W => ∃ N b7, ST true (keys (x ++ [])) w W μ0 (N ++ b7) ∧ E 0 = j ∧ E 3 = (.int .i64 A.2) ∧ E 4 = c1 ∧ E 5 = (.int .i64 y) ∧ lD 53 kN 9 j A.1 N) (fun A c => ?_) ?_))
       ·refine mR (lj ?_)
        replace b := b.drew
        have d := b.has.kM (Kr Sn)
        refine mA d lL (X 0 rfl d (kZ I) (X 1 rfl d (kZ J) (bS c fun c6 a2 c => XQ 2 rfl d (Ao (i := y) (x0 := c6) bF aW rfl rfl g M (lK a2) (lI a2)) (fun g9 d8 => XH 3 rfl d (fun _ l => kQ rfl (xr l (fun p h => (Ml h)) g np d8 (BR (lI a2)) cN aW)) (X 4 rfl d (kZ I) (X 5 rfl d (kZ J) (X 6 rfl d (lW rfl rfl rfl) (bS c fun c7 a3 c => XQ 7 rfl d (Ao (i := (IntKind.i64.wrap (y - 1))) (x0 := c7) bF aW rfl rfl g M (lK a3) (lI a3)) (fun h1 d9 => XH 8 rfl d (fun _ l => kQ rfl (xr l (fun p h => (Ml h)) g np d9 (BR (lI a3)) cN aW)) (X 9 rfl d (SP rfl rfl (ue iM) (P3 (yK _ c6 c7))) (mH kr (li ?_))))))))))))
        refine CI c rfl (fun d3 c => ?_) (fun d3 c => ?_)
        ·refine sg (Wh Q (Wh T (Wh I (Wh J (bS c fun a9 a4 c => VQ (Ao (i := y) (x0 := a9) bF aW rfl rfl g M (lK a4) (lI a4)) (fun h2 e0 => V (kQ rfl (xr b.has (fun p h => (Ml h)) g np e0 (BR (lI a4)) cN aW)) (bS c fun f8 a5 c => VQ (th (i := Y) (x0 := f8) bF aW rfl rfl g (lK a5) (lI a5)) (fun h3 e1 => VO (DB (u := (.agg (kN a9).toArray)) (x1 := a9)  b g np qQ rfl rfl rfl e1 (lI a5) aW (fun g3 e8 b c9 => ln (lh ?_)))))))))))
         refine Wh T (Wi rfl (Wa (lY (me (li ?_)))))
         obtain rfl := sj c
         exact ⟨e8, _, (b.kM St), Q, rfl, I, J, c9⟩
        refine nt (me (li ?_))
        obtain rfl := sj c
        exact ⟨K, _, (b.kM St), Q, T, I, J, g⟩
       rintro ⟨f4, f7⟩ E W ⟨N, b7, b, f0, f1, f2, f3, e4⟩ d5
       exact lh (Wh f3 (Wi rfl (Wa (ln ⟨f6, bL _, f4, N, f7, (IntKind.i64.wrap (y + 1)), _, (b.kM St), f0, f1, f2, rfl, e4, d5⟩))))
      refine og (nT (nT (su (li ?_))))
      obtain rfl := sj k
      exact ⟨K, _, (b.kM St), Q, T, g⟩
    rintro ⟨g4, c5⟩ E W ⟨q, b5, b, b9, c0, P⟩ G
    refine sg (Wh b9 (Wh c0 (bS G fun _ L G => VQ (Ai (i := c5) bF aW rfl rfl P (wq L) (vZ L)) (fun h4 e2 => VO (CV (z := Re)  b P np qQ bF dT e2 rfl rfl (fun g2 e7 b c8 => lr (Wh b9 (Wh c0 (bS G fun _ O G => VQ (EJ (i := c5) bF aW rfl rfl c8 np (wq O) (vZ O)) (fun c2 e3 => ?_))))))))))
    refine Wa (lt (qI (mV (mV (qI (mV ?_))))))
    obtain rfl := sj G
    exact mS (v := c2) rfl rfl ⟨_, _, rfl, (b.ny (Kr Sn)), c2, e7, rfl, rfl, e3⟩
   exact nt (me (li (lh (Wh H (Wi rfl (Wa (ln ⟨f5, bL _, (IntKind.i64.wrap (t + 1)), _, (b.kM St), D, rfl, a⟩)))))))
  refine og (nT (nT (su (li (sg (Wh D (Wa (lt ?_))))))))
  obtain rfl := sj a
  exact mS (v := j) rfl rfl ⟨_, _, rfl, (b.ny (Kr Sn)), j, x, rfl, rfl, B⟩
theorem Md (i : Value) (t r : List kJ) (w : World) (B : Sl (Pl kN) 9 (hp w) i t) (hm : zn t = some r) :
  pd false Tryz.prog 116 [i] w 53 kN 9 r := by
 refine BG 11 func116 rfl (fun b => sg (Wa (lr (Wm (bS hm fun y T hm => VE (zK b call228 (pd.nB (Et i t _ _ (B.mono (Pl.mono _) b.kV) T)) (fun W3 v7 z R8 b a5 q Q => bS hm fun U D hm => ?_)))))))
 refine VE (eM b (Cr Qz Cn) call143 (fun h _ => (BT v7 y R8 (.func (.func 229) #[] #[]) (fun (x : kJ) => yo x) _ _ h Q ⟨229, #[], #[], rfl, call229, fun W x r u hm => (IA x r W  hm).nB⟩ D)) ?_)
 rintro _ O b9 E b A l d ⟨k, K, a, rfl, I⟩
 obtain rfl := a.symm
 replace b := b.perm (Tr Tn)
 refine Wa (lr (Wm (bS hm fun Y G hm => ?_)))
 refine VE (eM b (Cr Qz Cn) call230 (fun h _ => mU.nB (Mc k U K (.func (.func 231) #[] #[]) (fun (x : (kJ × kJ)) => uo x.1 x.2) _ _ h I ⟨231, #[], rfl, call231, fun W x r u hm => HC x.1 x.2 r W  hm⟩ G)) ?_)
 rintro _ P c0 a9 b a2 m d ⟨M, c, rfl, J⟩
 obtain rfl := c.symm
 replace b := b.perm (Tr Tn)
 refine lr (Wm (bS hm fun L H hm => ?_))
 refine VE (eM b (Cr Qz Cn) call232 (fun h _ => mU.nB (Dz k Y M _ _ h J H)) ?_)
 rintro _ R c1 F b a3 n d ⟨Z, N, g, rfl, j⟩
 obtain rfl := g.symm
 replace b := b.perm (Tr Tn)
 refine Wa (lt ?_)
 obtain rfl := sj hm
 exact mS (v := Z) rfl rfl ⟨_, N, rfl, b.sU (fun p s => (Ml s)) j.nd, j⟩
theorem EI (k : lT) (H K c1 : Value) (L : List kJ) (a2 : ByteArray) (r : List kJ) (w : World) (g : Sl lm 15 (hp w) H k.kR) (J : Sl lX 8 (hp w) K k.lC) (h5 : Sl (Pl kN) 9 (hp w) c1 L) (hm : tz k L a2 = some r) :
  pd false Tryz.prog 80 [(.agg #[(.string k.Name), H, K]), c1, (.string a2)] w 53 kN 9 r := by
 refine BG 47 func80 rfl (fun d => sg ?_)
 obtain ⟨A1, c2, rfl⟩ := g.form
 let c8 : Value := (.slice A1 k.kR.length c2)
 obtain ⟨A3, c4, rfl⟩ := J.form
 let O := (C6 k.Name A1 k.kR.length c2 A3 k.lC.length c4)
 refine VE (mx d rfl (fun W6 A d => Wa (lr (Wm (Wm (bS hm fun B i5 hm => ?_))))))
 refine VE (Im d (bM _) call182 (fun _ _ _ _ => (JR c1 L a2 _ _ (h5.mono (Pl.mono _) d.kV) i5)) (fun W9 l1 g4 l0 d a5 af ae h4 => ?_) (L0 := []))
 obtain ⟨N, q, e0, f9, e1, g0, e2, g1, e3, g2, e4, g3, Q, c0, rfl, h6, h7, h8, h9, i0⟩ := h4
 replace c0 := c0.symm; subst c0
 replace d := d.perm (Tb (Tb (Tb (Tr (Tr (Tr (Tr (Tr Tn))))))))
 refine Wa (lr (Wa (lS (Wf pt (VB d (Mt (Mt (Mt (Ma (Ma (Ma (Ma (Ma Mh)))))))) rfl rfl eP (V (nn bJ rfl g) (Wm ?_)))))))
 refine ln (nm (fun i E W => ∃ D I G s P, (E 19 = .int .i64 (i : Nat) ∧ E 18 = .int .i64 (k.kR.length : Nat)) ∧ lz g4 s ∧ ST false nl w W s ((N, Ob #[(.pointer (some ⟨q, 0, none⟩))] 171) :: ((q, Ob #[e0, e1, e2, e3, e4, (.int .i64 B.2.2.2.2.2.1)] 294) :: ((Q, Ob #[(.string B.2.2.2.2.2.2)] 9) :: ((A, Ol O 110) :: (G ++ (f9 ++ (g0 ++ (g1 ++ (g2 ++ (g3 ++ P)))))))))) ∧ E 3 = (.pointer (some ⟨A, 0, none⟩)) ∧ E 7 = (.func (.func 287) #[] #[(.pointer (some ⟨N, 0, none⟩)), (.pointer (some ⟨Q, 0, none⟩))]) ∧ E 8 = D ∧ E 17 = c8 ∧ lD 53 kN 9 D I G ∧ rV k B (k.kR.drop i) I = some r) k.kR.length g.len ⟨(.slice none 0 0), ([]), [], g4, _, ⟨rfl, rfl⟩, (lz.refl _), (d.kM (Kb (Kb (Kb (Sb (Pr (Pr (Pr (Pr (Pr Pz))))) St))))), rfl, rfl, rfl, rfl, (lD.nil _ _ _), hm⟩ dc dc dc (fun _ _ _ h => by obtain ⟨_, _, _, _, _, aa, _⟩ := h; exact aa) ?_ ?_)
 ·let b6 : Value := (.func (.func 287) #[] #[(.pointer (some ⟨N, 0, none⟩)), (.pointer (some ⟨Q, 0, none⟩))])
  rintro d8 E W f0 ⟨D, I, G, s, P, ⟨F, eN⟩, u, d, Y, Z, a3, a4, M, j⟩
  obtain ⟨a, i6, f8, f7, c6⟩ := mT f0
  rw [f8] at j
  refine bg (VQ (nX (i := (d8 : Int)) (x0 := a) lm.out bJ cR a4 F (g.mono ll.mono (a5.trans u)) (bA _) f7) (fun k1 ⟨_, ⟨k4, k5, rfl, f5, f6⟩, f1⟩ => V (kQ rfl (lR d.has f1 jw cR)) (VE (lZ d eF (fun i9 d0 d => ?_)))))
  obtain ⟨b2, b7, rfl⟩ := f5.form
  obtain ⟨b3, b9, rfl⟩ := f6.form
  let a0 := (C3 a.Signed.kJ.Kind a.Signed.kJ.Head.kK a.Signed.kJ.Head.kP a.Signed.kJ.lH a.Signed.kJ.B.kK a.Signed.kJ.B.kP a.Signed.kJ.C.kK a.Signed.kJ.C.kP a.Signed.kJ.lM b2 a.Signed.Tag.length b7 a.kO.Op a.kO.K a.kO.kI.kK a.kO.kI.kP b3 a.kO.Kids.length b9)
  refine VO (lA (.agg a0.toArray) (a0.toArray) d rfl rfl cR oc nb rfl (fun j0 d => lr (V (kQ Y (kX d.has (Mt (Mt (Mt (Mt Mh)))) O rfl fC eA)) (Wf xG (Wf zD (VA d Mh (kN a.Signed.kJ) cN aW (bS j fun c f2 j => ?_)))))))
  let e5 : Value := (.string (((c.1).kI).kP))
  let d1 : Value := (.string (((c.1).kI).kK))
  refine VE (eD d (bM _) call106 (fun hh => (Mz k c8 (.slice A3 k.lC.length c4) a.Signed.kJ _ _ hh (g.mono ll.mono (a5.trans u)) (J.mono mr.mono (a5.trans u)) f2)) ?_ (L0 := []))
  rintro _ k6 c3 i8 d a9 ab ⟨k8, a6, rfl, c7⟩
  obtain rfl := a6.symm
  refine Wm (Wx rfl (Wx rfl (VE (lZ d bE (fun j4 k0 d => ?_)))))
  obtain ⟨T, U, rfl⟩ := c7.form
  let b8 : Value := (.slice T ((c.1).Kids).length U)
  refine VO (lA (.agg #[(.int .i64 ((c.1).Op)), (.int .i64 ((c.1).K)), d1, e5, b8]) (#[(.int .i64 ((c.1).Op)), (.int .i64 ((c.1).K)), d1, e5, b8]) d rfl rfl aC oc nb rfl (fun j5 d => Wa (lr (Wm (Wi rfl (Wm (LJ j (fun d9 E W => ∃ c9, ST false nl w W c3 ((d0, Ol a0 138) :: ((N, Ob #[(.pointer (some ⟨q, 0, none⟩))] 171) :: ((q, Ob #[e0, e1, e2, e3, e4, (.int .i64 B.2.2.2.2.2.1)] 294) :: ((Q, Ob #[(.string B.2.2.2.2.2.2)] 9) :: ((A, Ol O 110) :: (G ++ (f9 ++ (g0 ++ (g1 ++ (g2 ++ (g3 ++ c9))))))))))) ∧ E 3 = (.pointer (some ⟨A, 0, none⟩)) ∧ E 7 = b6 ∧ E 8 = D ∧ E 10 = (.pointer (some ⟨d0, 0, none⟩)) ∧ E 17 = c8 ∧ E 18 = (.int .i64 (k.kR.length : Int)) ∧ E 19 = (.int .i64 (d8 : Int)) ∧ E 37 = (.bool d9)) 4 ?_ (fun d9 z b0 => ?_))))))))
  ·rintro k7 E W ⟨c9, d, d2, d3, d4, h2, d5, d6, d7, h3⟩ y
   refine ln (CI y h3 (fun e8 y => ?_) (fun e8 y => ?_))
   ·refine lh (Wh d4 (V (lg xG h2) (Wf zD (VA d Mh (kN a.Signed.kJ) cN aW (VE (lO (cs := (kN a.Signed.kJ).toArray) d (ot rfl) (nZ bF aW dT) (fun j6 h1 d => ?_)))))))
    replace d := d.perm (Nr (Qb (Qb (Qb (Qb (Qb (Qb Qz)))))) Nz)
    refine bS y fun i1 e9 y => VE (rM (enc := kN) (v := D) (vs := (.slice (some ⟨h1, 0, none⟩) 1 1)) (R := G) d np dc qQ bF rD.1 rD.2.1 rfl rD.2.2.1 rD.2.2.2 rfl rfl M (Sl.lit (enc := kN) (l := [a.Signed.kJ]) np rfl nb rfl (d.at_ (Ma Mh))) e9 (fun j7 i2 g7 d e7 => Wa (lY (me (li ?_)))))
    replace d := d.kM (Kr (Db (Db St)))
    exact ⟨d7, i2, i1, g7, c3, _, ⟨rfl, d6⟩, (u.trans a9), (d.kM (Sb (Pr Pz) (Sb (Pr Pz) (Sb (Pr Pz) (Sb (Pr Pz) St))))), d2, d3, rfl, d5, e7, (by rw [c6]; exact y)⟩
   refine nt (me (li ?_))
   replace d := d.kM (Db St)
   exact ⟨d7, D, I, G, c3, _, ⟨rfl, d6⟩, (u.trans a9), (d.kM St), d2, d3, d4, d5, M, (by rw [c6]; exact y)⟩
  refine bC z (fun t z => ?_) (fun t z => ?_)
  ·refine ug t (kQ rfl (kX d.has Mh [(.int .i64 ((c.1).Op)), (.int .i64 ((c.1).K)), d1, e5, b8] rfl aS aC)) (ug t (kZ Z) (bS z fun k2 f3 z => zG t (Eg d call183 (Dd c.1 b8 b6 (fun (x : kI) => qN x B.1 B.2.1 B.2.2.1 B.2.2.2.1 B.2.2.2.2.1 B.2.2.2.2.2.1 B.2.2.2.2.2.2) _ _ (c7.mono kT.mono d.kV) ⟨287, #[], #[(.pointer (some ⟨N, 0, none⟩)), (.pointer (some ⟨Q, 0, none⟩))], rfl, call287, fun W x r n hm => (G5 x N q e0 B.1 e1 B.2.1 e2 B.2.2.1 e3 B.2.2.2.1 e4 B.2.2.2.2.1 B.2.2.2.2.2.1 Q B.2.2.2.2.2.2 r W (h6.at (fun b o m => n _ _ ((fun b o m => d.at_ (Mt (Mt (Mt (Mt (Mt (Mt (Ma (Ml m))))))))) b o m))) (h7.sl np (fun b o m => n _ _ ((fun b o m => d.at_ (Mt (Mt (Mt (Mt (Mt (Mt (Ma (Ma (Ml m)))))))))) b o m))) (h8.at (fun b o m => n _ _ ((fun b o m => d.at_ (Mt (Mt (Mt (Mt (Mt (Mt (Ma (Ma (Ma (Ml m))))))))))) b o m))) (h9.at (fun b o m => n _ _ ((fun b o m => d.at_ (Mt (Mt (Mt (Mt (Mt (Mt (Ma (Ma (Ma (Ma (Ml m)))))))))))) b o m))) ((i0.Ej yT).mono (Pl.mono _) (nv (fun b o m => n _ _ ((fun b o m => d.at_ (Mt (Mt (Mt (Mt (Mt (Mt (Ma (Ma (Ma (Ma (Ma (Ml m))))))))))))) b o m)))) (At.of (n _ _ (d.at_ (Mt (Mt (Mt Mh))))) _ rfl) (At.of (n _ _ (d.at_ (Mt (Mt Mh)))) _ rfl) (At.of (n _ _ (d.at_ (Mt (Mt (Mt (Mt Mh)))))) _ rfl) hm).nB⟩ f3) (fun j8 d => V (mh (cB t) rfl) ?_))))
   obtain rfl := sj z
   exact b0 _ _ ⟨_, (d.kM (Db St)), Y, Z, a3, rfl, a4, eN, F, rfl⟩
  refine un t (un t (un t (V (mg (cB t) rfl) ?_)))
  obtain rfl := sj z
  exact b0 _ _ ⟨_, (d.kM (Db St)), Y, Z, a3, rfl, a4, eN, F, rfl⟩
 rintro E W ⟨D, I, G, s, P, ⟨F, eN⟩, u, d, Y, Z, a3, a4, M, j⟩
 rw [bD] at j
 refine li ?_
 replace d := d.kM (Db (Db (Db (Db (Kr (Dr (Dr (Dr (Dr (Dr St))))))))))
 refine sg (Wh a3 (bS j fun k3 f4 j => VE (zK d call116 (Md D I _ _ (M.sl np (fun b o m => d.at_ (Ml m))) f4) (fun j9 i3 k9 g8 d i4 ad c5 => Wa (ln ?_)))))
 replace d := d.kM (Kr (Dr St))
 refine ma ?_
 obtain rfl := sj j
 exact mS (v := i3) rfl rfl ⟨_, g8, rfl, d.sU (fun p m => (Ml m)) c5.nd, c5⟩
theorem FQ (g : lT) (D K : Value) (i : lT) (G M : Value) (r : ((List kJ) × (List kJ) × Int)) (w : World) (x : Sl lm 15 (hp w) D g.kR) (I : Sl lX 8 (hp w) K g.lC) (y : Sl lm 15 (hp w) G i.kR) (J : Sl lX 8 (hp w) M i.lC) (hm : wG g i = some r) :
  mU false Tryz.prog 79 [(.agg #[(.string g.Name), D, K]), (.agg #[(.string i.Name), G, M])] w [] (fun v L1 W' => ∃ y1 S2 y4 S5, v = (.tuple #[y1, y4, (.int .i64 (r.2.2))]) ∧ L1 = (S2 ++ (S5 ++ [])) ∧ lD 53 kN 9 y1 r.1 S2 ∧ lD 53 kN 9 y4 r.2.1 S5) := by
 refine BG 41 func79 rfl (fun d => sg ?_)
 obtain ⟨A1, c2, rfl⟩ := x.form
 obtain ⟨A3, c4, rfl⟩ := I.form
 let q := (C6 g.Name A1 g.kR.length c2 A3 g.lC.length c4)
 refine VE (mx d rfl (fun W6 p d => ?_))
 obtain ⟨A7, c8, rfl⟩ := y.form
 obtain ⟨A9, L, rfl⟩ := J.form
 let a0 := (C6 i.Name A7 i.kR.length c8 A9 i.lC.length L)
 refine VE (mx d rfl (fun f8 n d => Wa (Wa (Wa (lr (Wa (Wa (lr (Wa ?_)))))))))
 refine ln (sf (mR (oG (fun m E W => ∃ t a4 N u a5 Q H a9 b9, lz (hp w) a9 ∧ ST false nl w W a9 ((n, Ol a0 110) :: ((p, Ol q 110) :: (Q ++ (N ++ b9)))) ∧ E 2 = (.pointer (some ⟨p, 0, none⟩)) ∧ E 3 = (.pointer (some ⟨n, 0, none⟩)) ∧ E 7 = t ∧ E 8 = u ∧ E 9 = (.int .i64 H) ∧ lD 53 kN 9 t a4 N ∧ lD 53 kN 9 u a5 Q ∧ qm g i m a4 a5 H = some r) lE ⟨(.slice none 0 0), ([]), [], (.slice none 0 0), ([]), [], 0, (hp w), _, (lz.refl _), (d.kM St), rfl, rfl, rfl, rfl, rfl, (lD.nil _ _ _), (lD.nil _ _ _), hm⟩ ?_)))
 rintro m E W ⟨t, a4, N, u, a5, Q, H, a9, b9, j, d, T, U, Y, Z, c9, a2, a3, c⟩
 cases m with
 | zero => rw [qm] at c; cases c
 | succ e6 =>
  refine lj (mR (lj ?_))
  replace d := d.drew
  have h := d.has.kM (Kb (Kb Sn))
  refine mA h lL (XH 0 rfl h (fun _ l => kQ T (kX l (Mt Mh) q rfl fC eA)) (X 1 rfl h (kZ Z) (X 2 rfl h (lg Ft U) (XH 3 rfl h (fun _ l => kQ rfl (lB l Mh rfl cO)) (XH 5 rfl h (fun _ l => kQ U (kX l Mh a0 rfl fC eA)) (X 6 rfl h (kZ Y) (X 7 rfl h (lg Ft T) (XH 8 rfl h (fun _ l => kQ rfl (lB l (Mt Mh) rfl cO)) (bS c fun e7 d7 c => XE 4 rfl (zK d call80 (EI g (.slice A1 g.kR.length c2) (.slice A3 g.lC.length c4) u a5 i.Name _ _ (x.mono ll.mono (j.trans d.kV)) (I.mono mr.mono (j.trans d.kV)) (a3.sl np (fun b o F => d.at_ (Mt (Mt (Ml F))))) d7) (fun f4 d2 f7 c1 d k s R => ?_)))))))))))
  have h := d.has.sW k (Dr (Kb (Kb Sn)))
  refine ⟨h, (bS c fun e8 d8 c => XE 9 rfl (zK d call80 (EI i (.slice A7 i.kR.length c8) (.slice A9 i.lC.length L) t a4 g.Name _ _ (y.mono ll.mono ((j.trans k).trans d.kV)) (J.mono mr.mono ((j.trans k).trans d.kV)) (a2.sl np (fun b o F => d.at_ (Ma (Mt (Mt (Ma (Ml F))))))) d8) (fun f5 d3 d4 c3 d O A b2 => ?_)))⟩
  have h := d.has.sW (k.trans O) (Dr (Dr (Kb (Kb Sn))))
  refine ⟨h, (X 10 rfl h (oM rfl) (X 11 rfl h (oM rfl) (mH kr (li (lj (sg (Wm (V (rY bF rfl R) (Wh Y (V (rY bF rfl a2) (Wi rfl (Wm (LJ c (fun d1 E W => ∃ c0, ST false nl w W d4 ((n, Ol a0 110) :: ((p, Ol q 110) :: (c3 ++ (c1 ++ (Q ++ (N ++ c0)))))) ∧ E 2 = (.pointer (some ⟨p, 0, none⟩)) ∧ E 3 = (.pointer (some ⟨n, 0, none⟩)) ∧ E 7 = t ∧ E 8 = u ∧ E 9 = (.int .i64 H) ∧ E 10 = d2 ∧ E 11 = d3 ∧ E 35 = (.bool d1)) 6 ?_ (fun d1 B P => ?_))))))))))))))⟩
  ·rintro f6 E W ⟨c0, d, d9, e0, e1, e2, d0, e3, e4, e5⟩ z
   refine ln (CI z e5 (fun d6 z => ?_) (fun d6 z => ?_))
   ·refine sg (Wh e1 (Wh e2 (Wh d0 (Wa (Wa (Wa (ln ?_)))))))
    replace d := d.kM (Db (Db (Dr (Dr St))))
    refine ma (mV (qI (mV (mV (qI (mV ?_))))))
    obtain rfl := sj z
    exact O4 (v0 := t) (v1 := u) (v2 := (.int .i64 H)) rfl rfl rfl rfl ⟨_, _, rfl, (d.Nq (Sr (Qr Qz) (Kr Sn))), t, N, u, Q, rfl, rfl, a2, a3⟩
   refine kn ?_
   replace d := d.kM (Kb (Kb (Kr (Kr (Dr (Dr St))))))
   exact lh (Wh e3 (Wh e4 (Wa (Wa (lY (me (li (lh (Wh d0 (Wi rfl (Wa (ln ⟨e6, bL _, d2, e7, c1, d3, e8, c3, (IntKind.i64.wrap (H + 1)), d4, _, ((j.trans k).trans O), (d.kM St), d9, e0, rfl, rfl, rfl, R, b2, z⟩))))))))))))
  refine bC B (fun a B => ?_) (fun a B => ?_)
  ·refine ug a (kZ rfl) (ug a (rY bF rfl b2) (ug a (kZ Z) (ug a (rY bF rfl a3) (ug a (lW rfl rfl rfl) (V (mh (cB a) rfl) ?_)))))
   obtain rfl := sj B
   exact P _ _ ⟨_, (d.kM (Sb (Pr (Pr Pz)) (Sb (Pr (Pr Pz)) St))), T, U, Y, Z, c9, rfl, rfl, rfl⟩
  refine un a (un a (un a (un a (un a (V (mg (cB a) rfl) ?_)))))
  obtain rfl := sj B
  exact P _ _ ⟨_, (d.kM (Sb (Pr (Pr Pz)) (Sb (Pr (Pr Pz)) St))), T, U, Y, Z, c9, rfl, rfl, rfl⟩
theorem IN (k : lT) (j B : Value) (t : lT) (a c : Value) (r : ((List kJ) × (List (kI × (List (ByteArray × Bool)))) × (List kJ) × (List (kI × (List kJ))) × (List (ByteArray × (List kJ))) × (List lf) × Int × ByteArray)) (w : World) (g : Sl lm 15 (hp w) j k.kR) (y : Sl lX 8 (hp w) B k.lC) (i : Sl lm 15 (hp w) a t.kR) (z : Sl lX 8 (hp w) c t.lC) (hm : AJ k t = some r) :
  mU false Tryz.prog 194 [(.agg #[(.string k.Name), j, B]), (.agg #[(.string t.Name), a, c])] w [] (fun v L1 W' => ∃ A S2 m l E S7 F M a2 N a3 Q a4 T Y, v = (.tuple #[A, (.func (.func 293) #[] #[(.pointer (some ⟨m, 0, none⟩)), (.pointer (some ⟨Y, 0, none⟩))])]) ∧ L1 = ((m, Ob #[(.pointer (some ⟨l, 0, none⟩))] 171) :: ((l, Ob #[E, F, a2, a3, a4, (.int .i64 (r.2.2.2.2.2.2.1))] 294) :: ((Y, Ob #[(.string (r.2.2.2.2.2.2.2)), a, c] 110) :: (S2 ++ (S7 ++ (M ++ (N ++ (Q ++ (T ++ []))))))))) ∧ lD 53 kN 9 A r.1 S2 ∧ mW (fun (x : kI) => (.agg (kW x).toArray)) (mL Value.string (fun (x : Bool) => (Value.bool x))) E r.2.1 S7 ∧ lD 53 kN 9 F r.2.2.1 M ∧ mW (fun (x : kI) => (.agg (kW x).toArray)) (lD 53 kN 9) a2 r.2.2.2.1 N ∧ mW Value.string (lD 53 kN 9) a3 r.2.2.2.2.1 Q ∧ rp 38 mY 3 a4 r.2.2.2.2.2.1 T) := by
 refine BG 21 func194 rfl (fun d => sg ?_)
 obtain ⟨A1, c2, rfl⟩ := g.form
 obtain ⟨A3, n, rfl⟩ := y.form
 refine VE (mx d rfl (fun W6 l d => ?_))
 obtain ⟨A7, p, rfl⟩ := i.form
 obtain ⟨A9, I, rfl⟩ := z.form
 refine VE (mx d rfl (fun f4 U d => Wa (Wa (lr (VA d (Mt Mh) (C6 k.Name A1 k.kR.length c2 A3 k.lC.length n) fC eA (VA d Mh (C6 t.Name A7 t.kR.length p A9 t.lC.length I) fC eA (bS hm fun d7 P hm => ?_)))))))
 refine VE (Im d (bM _) call79 (fun _ _ _ _ => (FQ k (.slice A1 k.kR.length c2) (.slice A3 k.lC.length n) t (.slice A7 t.kR.length p) (.slice A9 t.lC.length I) _ _ (g.mono ll.mono d.kV) (y.mono mr.mono d.kV) (i.mono ll.mono d.kV) (z.mono mr.mono d.kV) P)) (fun f5 g0 g3 f1 d e6 q h L => ?_) (L0 := []))
 obtain ⟨g2, f3, K, c9, D, rfl, f0, J⟩ := L
 replace D := D.symm; subst D
 replace d := d.perm (Tr (Tr Tn))
 refine Wm (Wx rfl (Wx rfl (Wx rfl (Wa (Wa (Wa (ln ?_)))))))
 replace d := d.kM (Dr (Kr (Kb (Db St))))
 refine sg (Wm (bS hm fun f9 R hm => ?_))
 refine VE (Im d (bM _) call117 (fun _ _ _ _ => (Hi K d7.2.1 _ _ (J.sl np (fun b o hq => d.at_ (Ml hq))) R)) (fun f6 g1 g4 f2 d e7 s h O => ?_) (L0 := []))
 obtain ⟨H, d9, d0, e0, d1, e1, d2, e2, d3, e3, d4, G, rfl, W, c1, c3, c5, c6⟩ := O
 replace G := G.symm; subst G
 replace d := d.perm (Tb (Tr (Tr (Tr (Tr (Tr Tn))))))
 refine VE (lZ d zeroValue171 (fun f7 Z d => VO (lA (.pointer (some ⟨H, 0, none⟩)) (#[(.pointer (some ⟨H, 0, none⟩))]) d rfl rfl sizeOf171 oc nb rfl (fun f8 d => lr (Wm (V (wI (by exact xR rfl rfl) rfl) (Wa (Wa (lt ?_)))))))))
 obtain rfl := sj hm
 exact GL (v := K) (u := (.func (.func 293) #[] #[(.pointer (some ⟨Z, 0, none⟩)), (.pointer (some ⟨U, 0, none⟩))])) rfl rfl rfl ⟨_, _, rfl, (d.Nq (Kb (Kb (Sb (Pr (Pr (Pr (Pr (Pr (Pr Pz)))))) (Sr (Qr (Qr (Qr (Qr (Qr Qz))))) (Kr (Kr (Kr (Kr (Kr Sn)))))))))), K, c9, Z, H, d9, d0, e0, d1, e1, d2, e2, d3, e3, d4, U, rfl, rfl, J, W, c1, c3, c5, c6⟩
theorem F5 (Z : kI) (d I : Nat) (u : Value) (G : List (kI × (List (ByteArray × Bool)))) (a : Value) (k : List kJ) (j : Value) (B : List (kI × (List kJ))) (c : Value) (t : List (ByteArray × (List kJ))) (i : Value) (z : List lf) (Q : Int) (a2 : Nat) (g : ByteArray) (D : Value) (J : List kY) (H : Value) (N : List nS) (r : Bool) (w : World) (Y : sG (fun (x : kI) => (.agg (kW x).toArray)) (mL Value.string (fun (x : Bool) => (Value.bool x))) (hp w) u G) (K : Sl (Pl kN) 9 (hp w) a k) (U : sG (fun (x : kI) => (.agg (kW x).toArray)) (lD 53 kN 9) (hp w) j B) (M : sG Value.string (lD 53 kN 9) (hp w) c t) (T : Sl (Pl mY) 3 (hp w) i z) (a3 : At (hp w) (.pointer (some ⟨I, 0, none⟩)) [u, a, j, c, i, (.int .i64 Q)]) (a4 : At (hp w) (.pointer (some ⟨d, 0, none⟩)) [(.pointer (some ⟨I, 0, none⟩))]) (l : Sl lm 15 (hp w) D J) (m : Sl lX 8 (hp w) H N) (a5 : At (hp w) (.pointer (some ⟨a2, 0, none⟩)) [(.string g), D, H]) (hm : wi Z G k B t z Q g J N = some r) :
  mi true Tryz.prog 293 [(.agg (kW Z).toArray), (.pointer (some ⟨d, 0, none⟩)), (.pointer (some ⟨a2, 0, none⟩))] w (.bool r) := by
 refine cG 10 func293 rfl (fun b => sg (VE (mx b rfl (fun W2 n b => Wa (lr (V (kQ rfl (vv b.has (y := (.pointer (some ⟨I, 0, none⟩))) a4 isAgg171)) (VA b Mh (kW Z) bY bG (VQ (uf [(.string g)] Ft rfl a5 rfl) (fun p h => V (kQ rfl (vv b.has (y := (.string g)) h cO)) (bS hm fun q a9 hm => VE (Eg b call149 (BN I u G a k j B c t i z Q Z g _ _ (Y.mono b.kV) (K.mono (Pl.mono _) b.kV) (U.mono b.kV) (M.mono b.kV) (T.mono (Pl.mono _) b.kV) (a3.mono b.kV) a9) (fun W8 b => ?_))))))))))))
 refine Wa (ln ?_)
 exact ma (rQ hm b)
theorem zt (y : lT) (t D : Value) (c : lT) (u G : Value) (i : Formula) (H : Value) (r : Bool) (w : World) (k : Sl lm 15 (hp w) t y.kR) (z : Sl lX 8 (hp w) D y.lC) (g : Sl lm 15 (hp w) u c.kR) (j : Sl lX 8 (hp w) G c.lC) (B : Sl kL 5 (hp w) H i.Kids) (hm : qO y c i = some r) :
  mi false Tryz.prog 93 [(.agg #[(.string y.Name), t, D]), (.agg #[(.string c.Name), u, G]), (.agg #[(.int .i64 i.Op), (.int .i64 i.K), (.string i.kI.kK), (.string i.kI.kP), H])] w (.bool r) := by
 refine cG 18 func93 rfl (fun d => sg ?_)
 obtain ⟨A1, c2, rfl⟩ := k.form
 obtain ⟨A3, n, rfl⟩ := z.form
 refine VE (mx d rfl (fun W6 b5 d => ?_))
 obtain ⟨U, Z, rfl⟩ := g.form
 obtain ⟨Y, K, rfl⟩ := j.form
 refine VE (mx d rfl (fun d4 d8 d => ?_))
 obtain ⟨M, T, rfl⟩ := B.form
 refine VE (mx d rfl (fun d5 d9 d => Wa (lr (VA d (Mt (Mt Mh)) (C6 y.Name A1 y.kR.length c2 A3 y.lC.length n) fC eA (VA d (Mt Mh) (C6 c.Name U c.kR.length Z Y c.lC.length K) fC eA (bS hm fun a s hm => ?_))))))
 refine VE (Im d (bM _) call194 (fun _ _ _ _ => (IN y (.slice A1 y.kR.length c2) (.slice A3 y.lC.length n) c (.slice U c.kR.length Z) (.slice Y c.lC.length K) _ _ (k.mono ll.mono d.kV) (z.mono mr.mono d.kV) (g.mono ll.mono d.kV) (j.mono mr.mono d.kV) s)) (fun d6 e1 e3 c6 d I p m q => ?_) (L0 := []))
 obtain ⟨e2, c7, N, O, P, c9, R, d0, c0, d1, c1, d2, c3, d3, Q, J, rfl, c5, v, A, E, F, L⟩ := q
 replace J := J.symm; subst J
 replace d := d.perm (Tb (Tb (Tb (Tr (Tr (Tr (Tr (Tr (Tr Tn)))))))))
 refine Wm (Wx rfl (Wx rfl (Wa (Wa (ln ?_)))))
 replace d := d.kM (Kb (Kb (Kb (Dr (Kr (Kr (Kr (Kr (Kr (Kb (Db (Db St))))))))))))
 refine sg (VA d (Mt (Mt (Mt (Ma (Ma (Ma (Ma (Ma Mh)))))))) (C2 i.Op i.K i.kI.kK i.kI.kP M i.Kids.length T) aS aC (Wm (bS hm fun e0 a9 hm => VE (Eg d call183 (Dd i (.slice M i.Kids.length T) (.func (.func 293) #[] #[(.pointer (some ⟨N, 0, none⟩)), (.pointer (some ⟨Q, 0, none⟩))]) (fun (x : kI) => wi x a.2.1 a.2.2.1 a.2.2.2.1 a.2.2.2.2.1 a.2.2.2.2.2.1 a.2.2.2.2.2.2.1 a.2.2.2.2.2.2.2 c.kR c.lC) _ _ (B.mono kT.mono (I.trans d.kV)) ⟨293, #[], #[(.pointer (some ⟨N, 0, none⟩)), (.pointer (some ⟨Q, 0, none⟩))], rfl, call293, fun W x r l hm => (F5 x N O P a.2.1 R a.2.2.1 c0 a.2.2.2.1 c1 a.2.2.2.2.1 c3 a.2.2.2.2.2.1 a.2.2.2.2.2.2.1 Q a.2.2.2.2.2.2.2 (.slice U c.kR.length Z) c.kR (.slice Y c.lC.length K) c.lC r W (v.at (fun b o h => l _ _ ((fun b o h => d.at_ (Mt (Mt (Mt (Ml h))))) b o h))) (A.sl np (fun b o h => l _ _ ((fun b o h => d.at_ (Mt (Mt (Mt (Ma (Ml h)))))) b o h))) (E.at (fun b o h => l _ _ ((fun b o h => d.at_ (Mt (Mt (Mt (Ma (Ma (Ml h))))))) b o h))) (F.at (fun b o h => l _ _ ((fun b o h => d.at_ (Mt (Mt (Mt (Ma (Ma (Ma (Ml h)))))))) b o h))) ((L.Ej yT).mono (Pl.mono _) (nv (fun b o h => l _ _ ((fun b o h => d.at_ (Mt (Mt (Mt (Ma (Ma (Ma (Ma (Ml h))))))))) b o h)))) (At.of (l _ _ (d.at_ (Mt Mh))) _ rfl) (At.of (l _ _ (d.at_ Mh)) _ rfl) (g.mono ll.mono ((I.trans d.kV).trans l)) (j.mono mr.mono ((I.trans d.kV).trans l)) (At.of (l _ _ (d.at_ (Mt (Mt Mh)))) _ rfl) hm).nB⟩ a9) (fun d7 d => Wa (ln ?_))))))
 exact ma (rQ hm d)
theorem uj (a : mj) (x z i u j B : Value) (r : Bool) (w : World) (t : Sl lm 15 (hp w) x a.kK.kR) (y : Sl lX 8 (hp w) z a.kK.lC) (c : Sl lm 15 (hp w) i a.Client.kR) (k : Sl lX 8 (hp w) u a.Client.lC) (g : Sl kL 5 (hp w) j a.Formula.Kids) (D : Sl pq 2 (hp w) B a.Keys) (hm : qo a = some r) :
  mi false Tryz.prog 188 [(.agg #[(.string a.kK.Name), x, z, (.string a.Client.Name), i, u, (.int .i64 a.Formula.Op), (.int .i64 a.Formula.K), (.string a.Formula.kI.kK), (.string a.Formula.kI.kP), j, (.int .i64 a.pQ), (.int .i64 a.mX.qu), (.int .i64 a.mX.qv), (.int .i64 a.nw), (.int .i64 a.oB), (.int .i64 a.nU), B])] w (.bool r) := by
 refine cG 10 func188 rfl (fun b => sg ?_)
 obtain ⟨H, N, rfl⟩ := t.form
 obtain ⟨I, Q, rfl⟩ := y.form
 obtain ⟨J, T, rfl⟩ := c.form
 obtain ⟨K, U, rfl⟩ := k.form
 obtain ⟨M, G, rfl⟩ := g.form
 obtain ⟨Z, d, rfl⟩ := D.form
 refine VE (mx b rfl (fun a2 a4 b => Wa (lr (Wf xz (VA b Mh (C6 a.kK.Name H a.kK.kR.length N I a.kK.lC.length Q) fC eA (Wf vI (VA b Mh (C6 a.Client.Name J a.Client.kR.length T K a.Client.lC.length U) fC eA (Wf Fj (VA b Mh (C2 a.Formula.Op a.Formula.K a.Formula.kI.kK a.Formula.kI.kP M a.Formula.Kids.length G) aS aC (bS hm fun a5 Y hm => VE (Eg b call93 (zt a.kK (.slice H a.kK.kR.length N) (.slice I a.kK.lC.length Q) a.Client (.slice J a.Client.kR.length T) (.slice K a.Client.lC.length U) a.Formula (.slice M a.Formula.Kids.length G) _ _ (t.mono ll.mono b.kV) (y.mono mr.mono b.kV) (c.mono ll.mono b.kV) (k.mono mr.mono b.kV) (g.mono kT.mono b.kV) Y) (fun a3 b => Wa ?_))))))))))))
 refine ln ?_
 exact ma (rQ hm b)
theorem wU (u : Nat) (a : mj) (j k c i g t : Value) (I : Int) (r : Nat) (w : World) {x : lG} (M : oW x ((u, Ob #[(.string a.kK.Name), j, k, (.string a.Client.Name), c, i, (.int .i64 a.Formula.Op), (.int .i64 a.Formula.K), (.string a.Formula.kI.kK), (.string a.Formula.kI.kP), g, (.int .i64 a.pQ), (.int .i64 a.mX.qu), (.int .i64 a.mX.qv), (.int .i64 a.nw), (.int .i64 a.oB), (.int .i64 a.nU), t] 116) :: []) w) (D : Sl lm 15 x j a.kK.kR) (G : Sl lX 8 x k a.kK.lC) (y : Sl lm 15 x c a.Client.kR) (B : Sl lX 8 x i a.Client.lC) (z : Sl kL 5 x g a.Formula.Kids) (H : Sl pq 2 x t a.Keys) (hm : pj a I = some r) :
  mE true Tryz.prog 189 [(.pointer (some ⟨u, 0, none⟩)), (.int .i64 I)] w x ((u, Ob #[(.string a.kK.Name), j, k, (.string a.Client.Name), c, i, (.int .i64 a.Formula.Op), (.int .i64 a.Formula.K), (.string a.Formula.kI.kK), (.string a.Formula.kI.kP), g, (.int .i64 a.pQ), (.int .i64 a.mX.qu), (.int .i64 a.mX.qv), (.int .i64 a.nw), (.int .i64 a.oB), (.int .i64 a.nU), t] 116) :: []) (fun v K N => v = (.pointer (some ⟨u, r, none⟩)) ∧ K = ((u, Ob #[(.string a.kK.Name), j, k, (.string a.Client.Name), c, i, (.int .i64 a.Formula.Op), (.int .i64 a.Formula.K), (.string a.Formula.kI.kK), (.string a.Formula.kI.kP), g, (.int .i64 a.pQ), (.int .i64 a.mX.qu), (.int .i64 a.mX.qv), (.int .i64 a.nw), (.int .i64 a.oB), (.int .i64 a.nU), t] 116) :: []) ∧ (r = 0 ∨ r = 3)) := by
 refine vd M 13 func189 rfl (fun b => sg (Wa (lS (Wm (Wi rfl (ln (CI hm rfl (fun J hm => ?_) (fun J hm => ?_))))))))
 ·refine sg (Wm (Wn (Wf xz (Wa (lt (mV ?_))))))
  obtain rfl := sj hm
  exact mS (v := (.pointer (some ⟨u, 0, none⟩))) rfl rfl ⟨_, _, _, rfl, (b.ny (Kb Sn)), (lz.refl _), Lo.refl, (ST.mf b (nL.mem (Kb Sn))), rfl, rfl, (.inl rfl)⟩
 refine kg (Wm (Wn (Wf vI (Wa (lt ?_)))))
 obtain rfl := sj hm
 exact mS (v := (.pointer (some ⟨u, 3, none⟩))) rfl rfl ⟨_, _, _, rfl, (b.ny (Kb Sn)), (lz.refl _), Lo.refl, (ST.mf b (nL.mem (Kb Sn))), rfl, rfl, (.inr rfl)⟩
theorem yj (c : Value) (u r : List kY) (w : World) {j : lG} (I : oW j [] w) (a : Sl lm 15 j c u) (hm : pL u = some r) :
  mE true Tryz.prog 186 [c] w j [] (fun v G J => ∃ z t, v = z ∧ G = (t ++ []) ∧ lN 138 lm 15 J z r t) := by
 unfold pL at hm
 refine vd I 8 func186 rfl (fun b => sg (Wa (lS (Wm ?_))))
 obtain ⟨D, Q, rfl⟩ := a.form
 refine V (Aq bJ rfl rfl) (ln ?_)
 rcases D with _ | M
 ·have y := a.isNil
  replace hm : some [] = some r := by rw [y] at hm; simpa [nE, maxLen] using hm
  refine tg (rfl) (sg (Wa (lt (mV ?_))))
  obtain rfl := sj hm
  refine mS (v := (.slice none 0 0)) rfl rfl ?_
  replace b := b.OJ
  exact ⟨_, _, _, rfl, (b.ny (Kr Sn)), (lz.refl _), Lo.refl, (ST.mf b (nL.mem (Kr Sn))), (.slice none 0 0), [], rfl, rfl, (lN.nil _ _ _ _)⟩
 ·refine qR (rfl) (kg (VE (lO (cs := #[]) b vm (Bp [] bJ cR eF dc rfl (by simp) rfl rfl) (fun N H b => Wm (bS hm fun T x hm => VE (vW (B := [(H, Ob #[] 138)]) ll b dc bJ Bh.1 Bh.2.1 rfl Bh.2.2.1 Bh.2.2.2 rfl rfl (lN.lit ll (l := []) .nil rfl nb rfl) (Du.sl ll a b.kV) x (fun K g k b i => Wa (lt ?_))))))))
  obtain rfl := sj hm
  exact mS (v := g) rfl rfl ⟨_, _, _, rfl, (b.ny (Kr Sn)), (lz.refl _), Lo.refl, (ST.mf b (nL.mem (Kr Sn))), g, k, rfl, rfl, i⟩
theorem xW (k : Value) (B : List kY) (t : LO) (D G : Int) (r : List kY) (w : World) {μ0 : lG} (q : oW μ0 (t ++ []) w) (c : lN 138 lm 15 μ0 k B t) (hm : pw B D G = some r) :
  mE true Tryz.prog 191 [k, (.int .i64 D), (.int .i64 G)] w μ0 (t ++ []) (fun v L1 μ1 => ∃ p, v = p ∧ L1 = [] ∧ Sl lm 15 μ1 p (r)) := by
 refine vd q 33 func191 rfl (fun d => sg (Wa (lr (Wm (Wm (Wm (Wm (V (vr bJ rfl c) (bS hm fun _ y hm => VQ (NC (a := D) (b := G) (m := (B.length : Int)) bJ cR c rfl rfl rfl rfl (Bx y).1 (Bx y).2.1 (Bx y).2.2.1 (Bx y).2.2.2) (fun v1 O => ?_))))))))))
 refine lS (Wm (Wm (Wi rfl (ln (CI hm rfl (fun a4 hm => ?_) (fun a4 hm => ?_))))))
 ·refine sg (Wm (Wa (lt (mV ?_))))
  obtain rfl := sj hm
  refine mS (v := k) rfl rfl ?_
  obtain ⟨s, d, Q, n, a5⟩ := ST.xn ll d c
  exact ⟨_, _, _, rfl, (d.ny Sn), Q, n, (ST.mf d (nL.mem Sn)), k, rfl, rfl, a5⟩
 refine kg (Wm (V (vr bJ rfl c) (Wa (ln (lj ?_)))))
 replace d := d.drew
 have h := d.has.kM Sn
 refine mA h lL (X 0 rfl h (kZ rfl) (X 1 rfl h (kZ rfl) (bS hm fun _ I hm => XQ 2 rfl h (DP (i := D) bJ cR rfl rfl c (wq I) (vZ I)) (fun R T => X 3 rfl h (kZ rfl) (X 4 rfl h (kZ rfl) (bS hm fun _ J hm => XQ 5 rfl h (zk (i := G) bJ cR rfl rfl c (wq J) (vZ J)) (fun W U => bS hm fun P H hm => XE 6 rfl (Iz (i := (Int.toNat D)) (j := (Int.toNat G)) d c T dc bJ Bh.1 Bh.2.2.1 (Bx H).1 (Bx H).2 U rfl rfl (fun F M A d u x => ?_)))))))))
 have h := d.has.kM Sn
 refine ⟨h, (X 7 rfl h (oM rfl) (mH kr (li (sg (Wm (Wm (V (vr bJ rfl x) (Wm (bS hm fun _ g hm => VQ (L5 (a := ((B.take (Int.toNat D) ++ B.drop (Int.toNat G)).length : Int)) (b := (B.length : Int)) bJ cR dc u x rfl rfl rfl (Bx g).1 (Bx g).2.1 (Bx g).2.2.1 (Bx g).2.2.2) (fun b9 Y => VO (Bt (z := (⟨(⟨Re, []⟩ : Signed), K9⟩ : kY)) (zs := C8) ll d u (lm.mk ⟨(.slice none 0 0), (.slice none 0 0), rfl, (Sl.nil _ _ _), (Sl.nil _ _ _)⟩) bJ eF Y rfl rfl (fun L E d N => ln ?_))))))))))))⟩
 refine sg (Wm (Wa (lt ?_)))
 obtain rfl := sj hm
 refine mS (v := M) rfl rfl ?_
 obtain ⟨c0, d, K, l, Z⟩ := ST.xn ll d (lN.Of dc u x N (by have := Bx g; rw [uR _ _ _ (by omega)]; omega))
 exact ⟨_, _, _, rfl, (d.ny Sn), K, l, (ST.mf d (nL.mem Sn)), M, rfl, rfl, Z⟩
set_option maxHeartbeats 1000000 in
theorem xi (a : mj) (a4 a5 Y a3 Z c7 : Value) (a1 a2 : Int) (r : mj) (w : World) {μ0 : lG} (h0 : oW μ0 [] w) (i : Sl lm 15 μ0 a4 a.kK.kR) (t : Sl lX 8 μ0 a5 a.kK.lC) (c : Sl lm 15 μ0 Y a.Client.kR) (k : Sl lX 8 μ0 a3 a.Client.lC) (j : Sl kL 5 μ0 Z a.Formula.Kids) (I : Sl pq 2 μ0 c7 a.Keys) (hm : sa a a1 a2 = some r) :
  mE true Tryz.prog 88 [(.agg #[(.string a.kK.Name), a4, a5, (.string a.Client.Name), Y, a3, (.int .i64 a.Formula.Op), (.int .i64 a.Formula.K), (.string a.Formula.kI.kK), (.string a.Formula.kI.kP), Z, (.int .i64 a.pQ), (.int .i64 a.mX.qu), (.int .i64 a.mX.qv), (.int .i64 a.nw), (.int .i64 a.oB), (.int .i64 a.nU), c7]), (.int .i64 a1), (.int .i64 a2)] w μ0 [] (fun v L1 μ1 => ∃ y1 y3 y5 y7 y9 g9, v = (.agg #[(.string (((r).kK).Name)), y1, y3, (.string (((r).Client).Name)), y5, y7, (.int .i64 (((r).Formula).Op)), (.int .i64 (((r).Formula).K)), (.string ((((r).Formula).kI).kK)), (.string ((((r).Formula).kI).kP)), y9, (.int .i64 ((r).pQ)), (.int .i64 (((r).mX).qu)), (.int .i64 (((r).mX).qv)), (.int .i64 ((r).nw)), (.int .i64 ((r).oB)), (.int .i64 ((r).nU)), g9]) ∧ L1 = [] ∧ Sl lm 15 μ1 y1 (((r).kK).kR) ∧ Sl lX 8 μ1 y3 (((r).kK).lC) ∧ Sl lm 15 μ1 y5 (((r).Client).kR) ∧ Sl lX 8 μ1 y7 (((r).Client).lC) ∧ Sl kL 5 μ1 y9 (((r).Formula).Kids) ∧ Sl pq 2 μ1 g9 ((r).Keys)) := by
 refine vd h0 42 func88 rfl (fun b => sg ?_)
 obtain ⟨M, Q, rfl⟩ := i.form
 let c8 : Value := (.slice M a.kK.kR.length Q)
 obtain ⟨z, G, rfl⟩ := t.form
 let d6 : Value := (.slice z a.kK.lC.length G)
 obtain ⟨N, T, rfl⟩ := c.form
 let c4 : Value := (.slice N a.Client.kR.length T)
 obtain ⟨B, H, rfl⟩ := k.form
 let d3 : Value := (.slice B a.Client.lC.length H)
 obtain ⟨D, x, rfl⟩ := j.form
 let c6 : Value := (.slice D a.Formula.Kids.length x)
 obtain ⟨u, y, rfl⟩ := I.form
 let e6 : Value := (.slice u a.Keys.length y)
 let a0 := (C1 a.kK.Name M a.kK.kR.length Q z a.kK.lC.length G a.Client.Name N a.Client.kR.length T B a.Client.lC.length H a.Formula.Op a.Formula.K a.Formula.kI.kK a.Formula.kI.kP D a.Formula.Kids.length x a.pQ a.mX.qu a.mX.qv a.nw a.oB a.nU u a.Keys.length y)
 refine VE (mx b rfl (fun l7 l b => VE (lZ b eO (fun l8 d0 b => lS (Wm (Wi rfl (Wm (LJ hm (fun e9 E W => ∃ f6, ST true (keys []) w W μ0 ((d0, Ol C4 116) :: ((l, Ol a0 116) :: f6)) ∧ E 1 = (.int .i64 a1) ∧ E 2 = (.int .i64 a2) ∧ E 3 = (.pointer (some ⟨l, 0, none⟩)) ∧ E 6 = (.pointer (some ⟨d0, 0, none⟩)) ∧ E 13 = (.bool e9)) 3 ?_ (fun e9 b9 d8 => ?_)))))))))
 ·let f0 : Value := (.pointer (some ⟨l, 0, none⟩))
  rintro n0 E W ⟨f6, b, i7, n, d1, d2, i8⟩ U
  refine ln (CI U i8 (fun h6 U => ?_) (fun h6 U => ?_))
  ·refine sg (V (kQ d1 (kX b.has (Mt Mh) a0 rfl cZ bX)) (VO (lA (.agg a0.toArray) (a0.toArray) b d2 rfl bX oc nb rfl (fun l9 b => ln ?_))))
   replace b := b.kM (Kb (Db St))
   refine ma (mV ?_)
   obtain rfl := sj U
   exact oI (v := (.agg a0.toArray)) rfl d2 (kX b.has Mh a0 rfl cZ bX) ⟨_, _, _, rfl, (b.ny Sn), (lz.refl _), Lo.refl, (ST.mf b (nL.mem Sn)), c8, d6, c4, d3, c6, e6, rfl, rfl, i, t, c, k, j, I⟩
  refine kg (Wh i7 (bS U fun g7 h9 U => ?_))
  refine VE (eD b (Cb (Pb Pz) Cn) call189 (fun m => (wU l a c8 d6 c4 d3 c6 e6 a1 _ _ m (i.mono ll.mono (lz.refl _)) (t.mono mr.mono (lz.refl _)) (c.mono ll.mono (lz.refl _)) (k.mono mr.mono (lz.refl _)) (j.mono kT.mono (lz.refl _)) (I.mono qX.mono (lz.refl _)) h9)) ?_ (ha := Pv d1 rfl))
  rintro _ m7 h1 l4 b g d ⟨d9, rfl, i2⟩
  obtain rfl := d9.symm
  replace b := b.perm (Tb Tn)
  rcases i2 with p | q
  ·replace U := Mq (show (g7 == 0) = true by rw [p]; rfl) U
   refine V (oM (bI (fun (o : Nat) => Value.pointer (some ⟨l, o, none⟩)) p)) (lS (Wh n (Wi rfl (Wm (LJ U (fun g8 E W => ∃ f7, ST true (keys []) w W h1 ((l, Ol a0 116) :: ((d0, Ol C4 116) :: f7)) ∧ E 2 = (.int .i64 a2) ∧ E 3 = f0 ∧ E 6 = (.pointer (some ⟨d0, 0, none⟩)) ∧ E 7 = f0 ∧ E 27 = (.bool g8)) 8 ?_ (fun g8 c9 e5 => ?_))))))
   ·rintro n1 E W ⟨f7, b, f9, g0, e2, g1, i9⟩ h
    refine ln (CI h i9 (fun h7 h => ?_) (fun h7 h => ?_))
    ·refine sg (V (kQ g0 (kX b.has Mh a0 rfl cZ bX)) ?_)
     replace b := b.perm (Nb (Pb Pz) Nz)
     refine VO (lA (.agg a0.toArray) (a0.toArray) b e2 rfl bX oc nb rfl (fun m1 b => ln ?_))
     replace b := b.kM (Kb (Db St))
     refine ma (mV ?_)
     obtain rfl := sj h
     exact oI (v := (.agg a0.toArray)) rfl e2 (kX b.has Mh a0 rfl cZ bX) ⟨_, _, _, rfl, (b.ny Sn), g, d, (ST.mf b (nL.mem Sn)), c8, d6, c4, d3, c6, e6, rfl, rfl, (i.mono ll.mono g), (t.mono mr.mono g), (c.mono ll.mono g), (k.mono mr.mono g), (j.mono kT.mono g), (I.mono qX.mono g)⟩
    refine kg (Wh g1 (Wh g1 (Wn (Wf pt (VB b Mh rfl rfl eP (bS h fun j3 i0 h => ?_))))))
    refine VE (eD b (bM _) call186 (fun m => (yj c8 a.kK.kR _ _ m (i.mono ll.mono g) i0)) ?_ (L0 := []))
    rintro _ m8 n4 l5 b P aa ⟨j7, i6, e0, rfl, i3⟩
    obtain rfl := e0.symm
    replace b := b.perm (Tr Tn)
    refine Wh f9 (Wh f9 (Wi rfl (bS h fun c5 i1 h => ?_)))
    refine VE (eD b (Cr Qz Cn) call191 (fun m => (xW j7 j3 i6 a2 (IntKind.i64.wrap (a2 + 1)) _ _ m i3 i1)) ?_)
    rintro _ m9 n5 l6 b R ab ⟨n3, e1, rfl, e7⟩
    obtain rfl := e1.symm
    refine Wn (Wf pt ?_)
    obtain ⟨c0, c1, rfl⟩ := e7.form
    let b8 := (C1 a.kK.Name c0 c5.length c1 z a.kK.lC.length G a.Client.Name N a.Client.kR.length T B a.Client.lC.length H a.Formula.Op a.Formula.K a.Formula.kI.kK a.Formula.kI.kP D a.Formula.Kids.length x a.pQ a.mX.qu a.mX.qv a.nw a.oB a.nU u a.Keys.length y)
    refine VO (lA (.slice c0 c5.length c1) (b8.toArray) b rfl rfl kk oc nb rfl (fun m4 b => lr (V (kQ g0 (kX b.has Mh b8 rfl cZ bX)) ?_)))
    replace b := b.perm (Nb (Pb Pz) Nz)
    refine VO (lA (.agg b8.toArray) (b8.toArray) b e2 rfl bX oc nb rfl (fun m5 b => ln ?_))
    replace b := b.kM (Kb (Db St))
    refine ma ?_
    obtain rfl := sj h
    exact oI (v := (.agg b8.toArray)) rfl e2 (kX b.has Mh b8 rfl cZ bX) ⟨_, _, _, rfl, (b.ny Sn), ((g.trans P).trans R), ((d.trans aa).trans ab), (ST.mf b (nL.mem Sn)), (.slice c0 c5.length c1), d6, c4, d3, c6, e6, rfl, rfl, e7, (t.mono mr.mono ((g.trans P).trans R)), (c.mono ll.mono ((g.trans P).trans R)), (k.mono mr.mono ((g.trans P).trans R)), (j.mono kT.mono ((g.trans P).trans R)), (I.mono qX.mono ((g.trans P).trans R))⟩
   refine bC c9 (fun J c9 => ?_) (fun J c9 => ?_)
   ·refine un J (un J (un J (un J (un J (un J (un J (V (mh (cB J) rfl) ?_)))))))
    obtain rfl := sj c9
    exact e5 _ _ ⟨_, (b.kM St), n, d1, d2, rfl, rfl⟩
   refine ug J (kZ n) (ug J (kZ rfl) (ug J (nu rfl) (ug J (lg pt rfl) (ug J (kQ rfl (lB b.has Mh rfl eP)) (ug J (nn bJ rfl i) (ug J (lW rfl rfl rfl) (V (mg (cB J) rfl) ?_)))))))
   obtain rfl := sj c9
   exact e5 _ _ ⟨_, (b.kM St), n, d1, d2, rfl, rfl⟩
  replace U := Mu (show (g7 == 0) = false by rw [q]; rfl) U
  refine V (oM (bI (fun (o : Nat) => Value.pointer (some ⟨l, o, none⟩)) q)) (lS (Wh n (Wi rfl (Wm (LJ U (fun e8 E W => ∃ f8, ST true (keys []) w W h1 ((l, Ol a0 116) :: ((d0, Ol C4 116) :: f8)) ∧ E 2 = (.int .i64 a2) ∧ E 3 = f0 ∧ E 6 = (.pointer (some ⟨d0, 0, none⟩)) ∧ E 7 = (.pointer (some ⟨l, 3, none⟩)) ∧ E 27 = (.bool e8)) 8 ?_ (fun e8 b7 d7 => ?_))))))
  ·rintro n2 E W ⟨f8, b, g2, g3, e3, g4, j0⟩ a9
   refine ln (CI a9 j0 (fun h8 a9 => ?_) (fun h8 a9 => ?_))
   ·refine sg (V (kQ g3 (kX b.has Mh a0 rfl cZ bX)) ?_)
    replace b := b.perm (Nb (Pb Pz) Nz)
    refine VO (lA (.agg a0.toArray) (a0.toArray) b e3 rfl bX oc nb rfl (fun m6 b => ln ?_))
    replace b := b.kM (Kb (Db St))
    refine ma (mV ?_)
    obtain rfl := sj a9
    exact oI (v := (.agg a0.toArray)) rfl e3 (kX b.has Mh a0 rfl cZ bX) ⟨_, _, _, rfl, (b.ny Sn), g, d, (ST.mf b (nL.mem Sn)), c8, d6, c4, d3, c6, e6, rfl, rfl, (i.mono ll.mono g), (t.mono mr.mono g), (c.mono ll.mono g), (k.mono mr.mono g), (j.mono kT.mono g), (I.mono qX.mono g)⟩
   refine kg (Wh g4 (Wh g4 (Wn (Wf pt (VB b Mh rfl rfl eP (bS a9 fun i4 f3 a9 => ?_))))))
   refine VE (eD b (bM _) call186 (fun m => (yj c4 a.Client.kR _ _ m (c.mono ll.mono g) f3)) ?_ (L0 := []))
   rintro _ k9 l2 k2 b L A ⟨i5, h2, d4, rfl, f5⟩
   obtain rfl := d4.symm
   replace b := b.perm (Tr Tn)
   refine Wh g2 (Wh g2 (Wi rfl (bS a9 fun b3 f4 a9 => ?_)))
   refine VE (eD b (Cr Qz Cn) call191 (fun m => (xW i5 i4 h2 a2 (IntKind.i64.wrap (a2 + 1)) _ _ m f5 f4)) ?_)
   rintro _ l0 l3 k3 b O F ⟨l1, d5, rfl, e4⟩
   obtain rfl := d5.symm
   refine Wn (Wf pt ?_)
   obtain ⟨b0, b2, rfl⟩ := e4.form
   let c2 := (C1 a.kK.Name M a.kK.kR.length Q z a.kK.lC.length G a.Client.Name b0 b3.length b2 B a.Client.lC.length H a.Formula.Op a.Formula.K a.Formula.kI.kK a.Formula.kI.kP D a.Formula.Kids.length x a.pQ a.mX.qu a.mX.qv a.nw a.oB a.nU u a.Keys.length y)
   refine VO (lA (.slice b0 b3.length b2) (c2.toArray) b rfl rfl kk oc nb rfl (fun k6 b => lr (V (kQ g3 (kX b.has Mh c2 rfl cZ bX)) ?_)))
   replace b := b.perm (Nb (Pb Pz) Nz)
   refine VO (lA (.agg c2.toArray) (c2.toArray) b e3 rfl bX oc nb rfl (fun k7 b => ln ?_))
   replace b := b.kM (Kb (Db St))
   refine ma ?_
   obtain rfl := sj a9
   exact oI (v := (.agg c2.toArray)) rfl e3 (kX b.has Mh c2 rfl cZ bX) ⟨_, _, _, rfl, (b.ny Sn), ((g.trans L).trans O), ((d.trans A).trans F), (ST.mf b (nL.mem Sn)), c8, d6, (.slice b0 b3.length b2), d3, c6, e6, rfl, rfl, (i.mono ll.mono ((g.trans L).trans O)), (t.mono mr.mono ((g.trans L).trans O)), e4, (k.mono mr.mono ((g.trans L).trans O)), (j.mono kT.mono ((g.trans L).trans O)), (I.mono qX.mono ((g.trans L).trans O))⟩
  refine bC b7 (fun K b7 => ?_) (fun K b7 => ?_)
  ·refine un K (un K (un K (un K (un K (un K (un K (V (mh (cB K) rfl) ?_)))))))
   obtain rfl := sj b7
   exact d7 _ _ ⟨_, (b.kM St), n, d1, d2, rfl, rfl⟩
  refine ug K (kZ n) (ug K (kZ rfl) (ug K (nu rfl) (ug K (lg pt rfl) (ug K (kQ rfl (lB b.has Mh rfl eP)) (ug K (nn bJ rfl c) (ug K (lW rfl rfl rfl) (V (mg (cB K) rfl) ?_)))))))
  obtain rfl := sj b7
  exact d7 _ _ ⟨_, (b.kM St), n, d1, d2, rfl, rfl⟩
 refine bC b9 (fun s b9 => ?_) (fun s b9 => ?_)
 ·refine un s (un s (V (mh (cB s) rfl) ?_))
  obtain rfl := sj b9
  exact d8 _ _ ⟨_, (b.kM St), rfl, rfl, rfl, rfl, rfl⟩
 refine ug s (kZ rfl) (ug s (lW rfl rfl rfl) (V (mg (cB s) rfl) ?_))
 obtain rfl := sj b9
 exact d8 _ _ ⟨_, (b.kM St), rfl, rfl, rfl, rfl, rfl⟩
set_option maxHeartbeats 1000000 in
theorem zN (a : mj) (N Q J M K d6 : Value) (r : List mM) (w : World) (k : Sl lm 15 (hp w) N a.kK.kR) (D : Sl lX 8 (hp w) Q a.kK.lC) (j : Sl lm 15 (hp w) J a.Client.kR) (z : Sl lX 8 (hp w) M a.Client.lC) (y : Sl kL 5 (hp w) K a.Formula.Kids) (I : Sl pq 2 (hp w) d6 a.Keys) (hm : sT a = some r) :
  pd false Tryz.prog 83 [(.agg #[(.string a.kK.Name), N, Q, (.string a.Client.Name), J, M, (.int .i64 a.Formula.Op), (.int .i64 a.Formula.K), (.string a.Formula.kI.kK), (.string a.Formula.kI.kP), K, (.int .i64 a.pQ), (.int .i64 a.mX.qu), (.int .i64 a.mX.qv), (.int .i64 a.nw), (.int .i64 a.oB), (.int .i64 a.nU), d6])] w 114 nC 2 r := by
 refine BG 36 func83 rfl (fun b => sg ?_)
 obtain ⟨A1, c2, rfl⟩ := k.form
 let c7 : Value := (.slice A1 a.kK.kR.length c2)
 obtain ⟨A3, c4, rfl⟩ := D.form
 let d1 : Value := (.slice A3 a.kK.lC.length c4)
 obtain ⟨A5, c6, rfl⟩ := j.form
 let c5 : Value := (.slice A5 a.Client.kR.length c6)
 obtain ⟨A7, c8, rfl⟩ := z.form
 let c9 : Value := (.slice A7 a.Client.lC.length c8)
 obtain ⟨A9, Y, rfl⟩ := y.form
 let d0 : Value := (.slice A9 a.Formula.Kids.length Y)
 obtain ⟨T, Z, rfl⟩ := I.form
 let d2 : Value := (.slice T a.Keys.length Z)
 let a0 := (C1 a.kK.Name A1 a.kK.kR.length c2 A3 a.kK.lC.length c4 a.Client.Name A5 a.Client.kR.length c6 A7 a.Client.lC.length c8 a.Formula.Op a.Formula.K a.Formula.kI.kK a.Formula.kI.kP A9 a.Formula.Kids.length Y a.pQ a.mX.qu a.mX.qv a.nw a.oB a.nU T a.Keys.length Z)
 refine VE (mx b rfl (fun q9 U b => Wa (lS (VA b Mh a0 cZ bX (bS hm fun r1 o4 hm => VE (Eg b call188 (uj a c7 d1 c5 c9 d0 d2 _ _ (k.mono ll.mono b.kV) (D.mono mr.mono b.kV) (j.mono ll.mono b.kV) (z.mono mr.mono b.kV) (y.mono kT.mono b.kV) (I.mono qX.mono b.kV) o4) (fun r0 b => V (qp rfl) (ln (CI hm rfl (fun o3 hm => ?_) (fun o3 hm => ?_))))))))))
 ·refine sg (Wa (ln ?_))
  replace b := b.kM (Db St)
  refine ma (mV ?_)
  obtain rfl := sj hm
  exact mS (v := (.slice none 0 0)) rfl rfl ⟨_, [], rfl, b.sU (fun p hq => by cases hq) (by simp), lD.nil _ _ _⟩
 let b8 : Value := (.pointer (some ⟨U, 0, none⟩))
 refine kg (Wa (lS (Wm (ln (mR (oG (fun m E W => ∃ P b7 O g f9 g2, lz (hp w) f9 ∧ ST false nl w W f9 ((U, Ol a0 116) :: (O ++ g2)) ∧ E 1 = b8 ∧ E 3 = P ∧ E 9 = (.int .i64 g) ∧ lD 114 nC 2 P b7 O ∧ pO a m b7 g = some r) lE ⟨(.slice none 0 0), ([]), [], 0, (hp w), _, (lz.refl _), (b.kM St), rfl, rfl, rfl, (lD.nil _ _ _), hm⟩ ?_))))))
 rintro m E W ⟨P, b7, O, g, f9, g2, c, b, f5, f6, d9, b4, B⟩
 cases m with
 | zero => rw [pO] at B; cases B
 | succ g7 =>
  refine sg (V (lW d9 rfl rfl) (ln (lj (CI B rfl (fun h8 B => ?_) (fun h8 B => ?_)))))
  ·refine kn (lj (bg (Wh d9 (Wa (lr (Wm (bS B fun g8 i9 B => ?_)))))))
   refine VE (eD b (Cb Pz Cn) call189 (fun hh => mE.nB (wU U a c7 d1 c5 c9 d0 d2 g _ _ hh (k.mono ll.mono c) (D.mono mr.mono c) (j.mono ll.mono c) (z.mono mr.mono c) (y.mono kT.mono c) (I.mono qX.mono c) i9)) ?_ (ha := Pv f5 rfl))
   rintro _ q3 a9 o9 b x aa ⟨e8, rfl, k0⟩
   obtain rfl := e8.symm
   replace b := b.perm (Tb Tn)
   rcases k0 with d | n
   ·replace B := Mq (show (g8 == 0) = true by rw [d]; rfl) B
    refine V (nu (bI (fun (o : Nat) => Value.pointer (some ⟨U, o, none⟩)) d)) (Wf pt (VB b Mh rfl rfl eP (V (nn bJ rfl k) (Wm (ln (sf (CJ B (fun f7 E W => ∃ e4 d7 e6 g3, lz a9 e6 ∧ ST false nl w W e6 ((U, Ol a0 116) :: (d7 ++ g3)) ∧ E 1 = b8 ∧ E 3 = e4 ∧ E 9 = (.int .i64 g) ∧ lD 114 nC 2 e4 f7 d7) (fun f7 i6 => ?_) ?_)))))))
    ·refine nm (fun i E W => ∃ a5 b9 s c1 f3, (E 18 = .int .i64 (i : Nat) ∧ E 17 = .int .i64 (a.kK.kR.length : Nat)) ∧ lz a9 c1 ∧ ST false nl w W c1 ((U, Ol a0 116) :: (s ++ f3)) ∧ E 1 = b8 ∧ E 3 = a5 ∧ E 4 = (.int .i64 g) ∧ E 9 = (.int .i64 g) ∧ lD 114 nC 2 a5 b9 s ∧ qG a g (a.kK.kR.drop i) i b9 = some f7) a.kK.kR.length k.len ⟨P, b7, O, a9, _, ⟨rfl, rfl⟩, (lz.refl _), (b.kM St), f5, f6, rfl, d9, b4, i6⟩ dc dc dc (fun _ _ _ h => by obtain ⟨_, _, _, _, _, F, _⟩ := h; exact F) ?_ ?_
     ·rintro a3 E W i3 ⟨a5, b9, s, c1, f3, ⟨q, L⟩, G, b, b0, e0, b1, e1, b5, t⟩
      obtain ⟨q6, o7, j8, o5, g0⟩ := mT i3
      rw [j8] at t
      refine bg (Wh q (Wa (lr (V (kQ b0 (kX b.has Mh a0 rfl cZ bX)) (Wh b1 (Wm (bS t fun m7 j0 t => ?_)))))))
      refine VE (eD b (bM _) call88 (fun hh => mE.nB (xi a c7 d1 c5 c9 d0 d2 g (a3 : Int) _ _ hh (k.mono ll.mono ((c.trans x).trans G)) (D.mono mr.mono ((c.trans x).trans G)) (j.mono ll.mono ((c.trans x).trans G)) (z.mono mr.mono ((c.trans x).trans G)) (y.mono kT.mono ((c.trans x).trans G)) (I.mono qX.mono ((c.trans x).trans G)) j0)) ?_ (L0 := []))
      let d4 := (⟨g, (a3 : Int)⟩ : mM)
      rintro _ q4 g9 p0 b f1 ab ⟨n1, n2, n3, n4, n5, n6, e9, rfl, k1, k2, k3, k4, k5, k6⟩
      obtain rfl := e9.symm
      refine bS t fun q1 j3 t => VE (Eg b call188 (uj m7 n1 n2 n3 n4 n5 n6 _ _ (k1.mono ll.mono b.kV) (k2.mono mr.mono b.kV) (k3.mono ll.mono b.kV) (k4.mono mr.mono b.kV) (k5.mono kT.mono b.kV) (k6.mono qX.mono b.kV) j3) (fun p4 b => V (qp rfl) (ln (CI t rfl (fun h9 t => ?_) (fun h9 t => ?_)))))
      ·refine lh (Wh e0 (Wh b1 (Wm (V (ns (v := (.agg (nC (d4)).toArray)) (pE rfl rfl) (DM ji fH fK kr)) (VE (lO (cs := (nC (d4)).toArray) b (ot rfl) (nZ fN jM ji) (fun p5 l5 b => ?_)))))))
       replace b := b.perm (Nr (Qb (Qb Qz)) Nz)
       refine bS t fun m4 i0 t => VE (rM (enc := nC) (v := a5) (vs := (.slice (some ⟨l5, 0, none⟩) 1 1)) (R := s) b xL dc DQ fN yW.1 yW.2.1 rfl yW.2.2.1 yW.2.2.2 rfl rfl b5 (Sl.lit (enc := nC) (l := [d4]) xL rfl nb rfl (b.at_ (Ma Mh))) i0 (fun p6 m9 l3 b h6 => Wa (lY (me (li ?_)))))
       replace b := b.kM (Kr (Db St))
       exact ⟨q, m9, m4, l3, g9, _, ⟨rfl, L⟩, (G.trans f1), (b.kM (Sb (Pr Pz) St)), b0, rfl, b1, e1, h6, (by rw [g0]; exact t)⟩
      exact nt (me (li ⟨q, a5, b9, s, g9, _, ⟨rfl, L⟩, (G.trans f1), (b.kM St), b0, e0, b1, e1, b5, (by rw [g0]; exact t)⟩))
     rintro E W ⟨a5, b9, s, c1, f3, ⟨q, L⟩, G, b, b0, e0, b1, e1, b5, t⟩
     rw [bD] at t
     refine li ?_
     obtain rfl := sj t
     exact ⟨a5, s, c1, _, G, (b.kM St), b0, e0, e1, b5⟩
    rintro m3 E W ⟨e4, d7, e6, g3, h1, b, l7, l8, l9, j6⟩ i5
    exact me (li (lh (V (lW l9 rfl rfl) (Wm (ln ⟨g7, bL _, e4, m3, d7, (IntKind.i64.wrap (g + 1)), e6, _, ((c.trans x).trans h1), (b.kM St), l7, l8, rfl, j6, i5⟩)))))
   replace B := Mu (show (g8 == 0) = false by rw [n]; rfl) B
   refine V (nu (bI (fun (o : Nat) => Value.pointer (some ⟨U, o, none⟩)) n)) (Wf pt (VB b Mh rfl rfl eP (V (nn bJ rfl j) (Wm (ln (sf (CJ B (fun f8 E W => ∃ e5 d8 e7 g4, lz a9 e7 ∧ ST false nl w W e7 ((U, Ol a0 116) :: (d8 ++ g4)) ∧ E 1 = b8 ∧ E 3 = e5 ∧ E 9 = (.int .i64 g) ∧ lD 114 nC 2 e5 f8 d8) (fun f8 i8 => ?_) ?_)))))))
   ·refine nm (fun i E W => ∃ A c0 a2 c3 f4, (E 18 = .int .i64 (i : Nat) ∧ E 17 = .int .i64 (a.Client.kR.length : Nat)) ∧ lz a9 c3 ∧ ST false nl w W c3 ((U, Ol a0 116) :: (a2 ++ f4)) ∧ E 1 = b8 ∧ E 3 = A ∧ E 4 = (.int .i64 g) ∧ E 9 = (.int .i64 g) ∧ lD 114 nC 2 A c0 a2 ∧ qD a g (a.Client.kR.drop i) i c0 = some f8) a.Client.kR.length j.len ⟨P, b7, O, a9, _, ⟨rfl, rfl⟩, (lz.refl _), (b.kM St), f5, f6, rfl, d9, b4, i8⟩ dc dc dc (fun _ _ _ h => by obtain ⟨_, _, _, _, _, F, _⟩ := h; exact F) ?_ ?_
    ·rintro a4 E W i4 ⟨A, c0, a2, c3, f4, ⟨q, L⟩, H, b, b2, e2, b3, e3, b6, u⟩
     let d3 := (⟨g, (a4 : Int)⟩ : mM)
     obtain ⟨q7, o8, j9, o6, g1⟩ := mT i4
     rw [j9] at u
     refine bg (Wh q (Wa (lr (V (kQ b2 (kX b.has Mh a0 rfl cZ bX)) (Wh b3 (Wm (bS u fun m8 j4 u => ?_)))))))
     refine VE (eD b (bM _) call88 (fun hh => mE.nB (xi a c7 d1 c5 c9 d0 d2 g (a4 : Int) _ _ hh (k.mono ll.mono ((c.trans x).trans H)) (D.mono mr.mono ((c.trans x).trans H)) (j.mono ll.mono ((c.trans x).trans H)) (z.mono mr.mono ((c.trans x).trans H)) (y.mono kT.mono ((c.trans x).trans H)) (I.mono qX.mono ((c.trans x).trans H)) j4)) ?_ (L0 := []))
     rintro _ q5 h0 p1 b f2 ad ⟨n7, n8, n9, o0, o1, o2, f0, rfl, k7, k8, k9, l0, l1, l2⟩
     obtain rfl := f0.symm
     refine bS u fun q2 j5 u => VE (Eg b call188 (uj m8 n7 n8 n9 o0 o1 o2 _ _ (k7.mono ll.mono b.kV) (k8.mono mr.mono b.kV) (k9.mono ll.mono b.kV) (l0.mono mr.mono b.kV) (l1.mono kT.mono b.kV) (l2.mono qX.mono b.kV) j5) (fun p8 b => V (qp rfl) (ln (CI u rfl (fun i1 u => ?_) (fun i1 u => ?_)))))
     ·refine lh (Wh e2 (Wh b3 (Wm (V (ns (v := (.agg (nC (d3)).toArray)) (pE rfl rfl) (DM ji fH fK kr)) (VE (lO (cs := (nC (d3)).toArray) b (ot rfl) (nZ fN jM ji) (fun p9 l6 b => ?_)))))))
      replace b := b.perm (Nr (Qb (Qb Qz)) Nz)
      refine bS u fun m6 i2 u => VE (rM (enc := nC) (v := A) (vs := (.slice (some ⟨l6, 0, none⟩) 1 1)) (R := a2) b xL dc DQ fN yW.1 yW.2.1 rfl yW.2.2.1 yW.2.2.2 rfl rfl b6 (Sl.lit (enc := nC) (l := [d3]) xL rfl nb rfl (b.at_ (Ma Mh))) i2 (fun q0 n0 l4 b h7 => Wa (lY (me (li ?_)))))
      replace b := b.kM (Kr (Db St))
      exact ⟨q, n0, m6, l4, h0, _, ⟨rfl, L⟩, (H.trans f2), (b.kM (Sb (Pr Pz) St)), b2, rfl, b3, e3, h7, (by rw [g1]; exact u)⟩
     exact nt (me (li ⟨q, A, c0, a2, h0, _, ⟨rfl, L⟩, (H.trans f2), (b.kM St), b2, e2, b3, e3, b6, (by rw [g1]; exact u)⟩))
    rintro E W ⟨A, c0, a2, c3, f4, ⟨q, L⟩, H, b, b2, e2, b3, e3, b6, u⟩
    rw [bD] at u
    refine li ?_
    obtain rfl := sj u
    exact ⟨A, a2, c3, _, H, (b.kM St), b2, e2, e3, b6⟩
   rintro m5 E W ⟨e5, d8, e7, g4, h2, b, m0, m1, m2, j7⟩ i7
   exact me (li (lh (V (lW m2 rfl rfl) (Wm (ln ⟨g7, bL _, e5, m5, d8, (IntKind.i64.wrap (g + 1)), e7, _, ((c.trans x).trans h2), (b.kM St), m0, m1, rfl, j7, i7⟩)))))
  refine og (nT (nT (su (li ?_))))
  replace b := b.kM (Db St)
  refine sg (Wh f6 (Wa (lt ?_)))
  obtain rfl := sj B
  exact mS (v := P) rfl rfl ⟨_, O, rfl, b.sU (fun p hq => (Ml hq)) b4.nd, b4⟩
set_option maxHeartbeats 1000000 in
theorem Da (g : mj) (a9 e6 a4 a8 a5 m4 : Value) (r : (mj × Bool)) (w : World) {μ0 : lG} (h0 : oW μ0 [] w) (z : Sl lm 15 μ0 a9 g.kK.kR) (B : Sl lX 8 μ0 e6 g.kK.lC) (j : Sl lm 15 μ0 a4 g.Client.kR) (y : Sl lX 8 μ0 a8 g.Client.lC) (t : Sl kL 5 μ0 a5 g.Formula.Kids) (a2 : Sl pq 2 μ0 m4 g.Keys) (hm : uq g = some r) :
  mE false Tryz.prog 90 [(.agg #[(.string g.kK.Name), a9, e6, (.string g.Client.Name), a4, a8, (.int .i64 g.Formula.Op), (.int .i64 g.Formula.K), (.string g.Formula.kI.kK), (.string g.Formula.kI.kP), a5, (.int .i64 g.pQ), (.int .i64 g.mX.qu), (.int .i64 g.mX.qv), (.int .i64 g.nw), (.int .i64 g.oB), (.int .i64 g.nU), m4])] w μ0 [] (fun v L1 μ1 => ∃ y1 y3 y5 y7 y9 bx, v = (.tuple #[(.agg #[(.string (((r.1).kK).Name)), y1, y3, (.string (((r.1).Client).Name)), y5, y7, (.int .i64 (((r.1).Formula).Op)), (.int .i64 (((r.1).Formula).K)), (.string ((((r.1).Formula).kI).kK)), (.string ((((r.1).Formula).kI).kP)), y9, (.int .i64 ((r.1).pQ)), (.int .i64 (((r.1).mX).qu)), (.int .i64 (((r.1).mX).qv)), (.int .i64 ((r.1).nw)), (.int .i64 ((r.1).oB)), (.int .i64 ((r.1).nU)), bx]), (.bool (r.2))]) ∧ L1 = [] ∧ Sl lm 15 μ1 y1 (((r.1).kK).kR) ∧ Sl lX 8 μ1 y3 (((r.1).kK).lC) ∧ Sl lm 15 μ1 y5 (((r.1).Client).kR) ∧ Sl lX 8 μ1 y7 (((r.1).Client).lC) ∧ Sl kL 5 μ1 y9 (((r.1).Formula).Kids) ∧ Sl pq 2 μ1 bx ((r.1).Keys)) := by
 refine vd h0 38 func90 rfl (fun b => sg ?_)
 obtain ⟨A1, c2, rfl⟩ := z.form
 let cg : Value := (.slice A1 g.kK.kR.length c2)
 obtain ⟨A3, c4, rfl⟩ := B.form
 let ct : Value := (.slice A3 g.kK.lC.length c4)
 obtain ⟨A5, c6, rfl⟩ := j.form
 let ce : Value := (.slice A5 g.Client.kR.length c6)
 obtain ⟨A7, c8, rfl⟩ := y.form
 let ch : Value := (.slice A7 g.Client.lC.length c8)
 obtain ⟨A9, g7, rfl⟩ := t.form
 let cf : Value := (.slice A9 g.Formula.Kids.length g7)
 obtain ⟨g4, g8, rfl⟩ := a2.form
 let cv : Value := (.slice g4 g.Keys.length g8)
 let a0 := (C1 g.kK.Name A1 g.kK.kR.length c2 A3 g.kK.lC.length c4 g.Client.Name A5 g.Client.kR.length c6 A7 g.Client.lC.length c8 g.Formula.Op g.Formula.K g.Formula.kI.kK g.Formula.kI.kP A9 g.Formula.Kids.length g7 g.pQ g.mX.qu g.mX.qv g.nw g.oB g.nU g4 g.Keys.length g8)
 refine VE (mx b rfl (fun ef p b => VE (lZ b eO (fun eg h9 b => Wa (lS (VA b (Mt Mh) a0 cZ bX (bS hm fun ek ca hm => VE (Eg b call188 (uj g cg ct ce ch cf cv _ _ (z.mono ll.mono b.kV) (B.mono mr.mono b.kV) (j.mono ll.mono b.kV) (y.mono mr.mono b.kV) (t.mono kT.mono b.kV) (a2.mono qX.mono b.kV) ca) (fun eh b => V (qp rfl) (ln (CI hm rfl (fun bz hm => ?_) (fun bz hm => ?_))))))))))))
 ·refine sg (VA b (Mt Mh) a0 cZ bX (VO (lA (.agg a0.toArray) (a0.toArray) b rfl rfl bX oc nb rfl (fun ei b => Wa (ln ?_)))))
  replace b := b.kM (Kb (Db St))
  refine ma (mV ?_)
  obtain rfl := sj hm
  exact uS (v0 := (.agg a0.toArray)) (v1 := (.bool false)) rfl rfl (kX b.has Mh a0 rfl cZ bX) rfl ⟨_, _, _, rfl, (b.ny Sn), (lz.refl _), Lo.refl, (ST.mf b (nL.mem Sn)), cg, ct, ce, ch, cf, cv, rfl, rfl, z, B, j, y, t, a2⟩
 refine kS (VE (lO (cs := #[(.int .i64 1), (.int .i64 0)]) b (pE rfl rfl) (nZ gP fK zeroValue3) (fun ej i0 b => V (Ab gP rfl) (Wm (ln (mR (Ij 3 (Bl (sg (Wi rfl ?_))))))))))
 refine ln (lj (tg rfl (kn (lj (bg (V (A4 (i := 0) gP fK rfl rfl dc dc rfl) (VB b Mh rfl rfl cV (Wa (ln ?_)))))))))
 refine sg (Wm (bS hm fun df t5 hm => ?_))
 refine VE (eD b (Cb (Pb (Pb Pz)) Cn) call189 (fun hh => mE.nB (wU p g cg ct ce ch cf cv 1 _ _ hh (z.mono ll.mono (lz.refl _)) (B.mono mr.mono (lz.refl _)) (j.mono ll.mono (lz.refl _)) (y.mono mr.mono (lz.refl _)) (t.mono kT.mono (lz.refl _)) (a2.mono qX.mono (lz.refl _)) t5)) ?_)
 rintro _ dj t4 ci b T s ⟨q8, rfl, cb⟩
 obtain rfl := q8.symm
 replace b := b.perm (Tb Tn)
 refine V (nu (bI (fun (o : Nat) => Value.pointer (some ⟨p, o, none⟩)) (jz (t5.symm.trans rfl)))) (Wf pt (VB b Mh rfl rfl eP (V (nn bJ rfl j) (Wi rfl (Wa (ln (sf (mR (oG (fun m E W => ∃ h7 f4 e0 e7 e1 h2 f5 e2 h3 e3 h4 f6 f7 P e4 h5 f8 R f9 g0 g1 e5 h6 H u4, lz t4 H ∧ Lo (keys []) w t4 H ∧ ST false (keys []) w W H ((p, Ob #[(.string f4), e0, e1, (.string f5), e2, e3, (.int .i64 f6), (.int .i64 f7), (.string P.kK), (.string P.kP), e4, (.int .i64 f8), (.int .i64 R.qu), (.int .i64 R.qv), (.int .i64 f9), (.int .i64 g0), (.int .i64 g1), e5] 116) :: ((i0, Ob #[(.int .i64 1), (.int .i64 0)] 3) :: ((h9, Ol C4 116) :: u4))) ∧ E 1 = (.pointer (some ⟨p, 0, none⟩)) ∧ E 2 = (.pointer (some ⟨h9, 0, none⟩)) ∧ E 5 = (.int .i64 1) ∧ E 6 = (.int .i64 h7) ∧ E 12 = (.slice (some ⟨i0, 0, none⟩) 2 2) ∧ E 13 = (.int .i64 2) ∧ E 14 = (.int .i64 0) ∧ Sl lm 15 H e0 e7 ∧ Sl lX 8 H e1 h2 ∧ Sl lm 15 H e2 h3 ∧ Sl lX 8 H e3 h4 ∧ Sl kL 5 H e4 h5 ∧ Sl pq 2 H e5 h6 ∧ qy m h7 f4 e7 h2 f5 h3 h4 f6 f7 P h5 f8 R f9 g0 g1 h6 = some r) lE ⟨(IntKind.i64.wrap ((g.Client.kR.length : Int) - 1)), g.kK.Name, cg, g.kK.kR, ct, g.kK.lC, g.Client.Name, ce, g.Client.kR, ch, g.Client.lC, g.Formula.Op, g.Formula.K, g.Formula.kI, cf, g.Formula.Kids, g.pQ, g.mX, g.nw, g.oB, g.nU, cv, g.Keys, t4, _, (lz.refl _), Lo.refl, (b.kM St), rfl, rfl, rfl, rfl, rfl, rfl, rfl, (z.mono ll.mono T), (B.mono mr.mono T), (j.mono ll.mono T), (y.mono mr.mono T), (t.mono kT.mono T), (a2.mono qX.mono T), hm⟩ ?_)))))))))
 let cn : Value := (.pointer (some ⟨h9, 0, none⟩))
 let cm : Value := (.pointer (some ⟨p, 0, none⟩))
 let cd : Value := (.slice (some ⟨i0, 0, none⟩) 2 2)
 let v9 := (#[(.int .i64 1), (.int .i64 0)] : Array Value)
 rintro m E W ⟨h7, f4, e0, e7, e1, h2, f5, e2, h3, e3, h4, f6, f7, P, e4, h5, f8, R, f9, g0, g1, e5, h6, H, u4, s4, d, b, h1, s6, s7, m5, m6, m7, s8, g9, j6, j7, j8, j9, k0, G⟩
 let w0 := (⟨(⟨f4, e7, h2⟩ : lT), (⟨f5, h3, h4⟩ : lT), (⟨f6, f7, P, h5⟩ : Formula), f8, R, f9, g0, g1, h6⟩ : mj)
 cases m with
 | zero => rw [qy] at G; cases G
 | succ aw =>
  refine lj (sg (Wh m5 (Wi rfl (ln (CI G rfl (fun w2 G => ?_) (fun w2 G => ?_))))))
  ·refine kn (lj (CJ G (fun u E W => ∃ n5 n6 n7 n8 n9 o0 N u5, lz H N ∧ Lo (keys []) w H N ∧ ST false (keys []) w W N ((p, Ob #[(.string u.1), n5, n6, (.string u.2.2.2.1), n7, n8, (.int .i64 u.2.2.2.2.2.2.1), (.int .i64 u.2.2.2.2.2.2.2.1), (.string u.2.2.2.2.2.2.2.2.1.kK), (.string u.2.2.2.2.2.2.2.2.1.kP), n9, (.int .i64 u.2.2.2.2.2.2.2.2.2.2.1), (.int .i64 u.2.2.2.2.2.2.2.2.2.2.2.1.qu), (.int .i64 u.2.2.2.2.2.2.2.2.2.2.2.1.qv), (.int .i64 u.2.2.2.2.2.2.2.2.2.2.2.2.1), (.int .i64 u.2.2.2.2.2.2.2.2.2.2.2.2.2.1), (.int .i64 u.2.2.2.2.2.2.2.2.2.2.2.2.2.2.1), o0] 116) :: ((i0, Obj.cells v9 3 (0, 0)) :: ((h9, Ol C4 116) :: u5))) ∧ E 1 = cm ∧ E 2 = cn ∧ E 5 = (.int .i64 1) ∧ E 6 = (.int .i64 h7) ∧ E 12 = cd ∧ E 13 = (.int .i64 2) ∧ E 14 = (.int .i64 0) ∧ Sl lm 15 N n5 u.2.1 ∧ Sl lX 8 N n6 u.2.2.1 ∧ Sl lm 15 N n7 u.2.2.2.2.1 ∧ Sl lX 8 N n8 u.2.2.2.2.2.1 ∧ Sl kL 5 N n9 u.2.2.2.2.2.2.2.2.2.1 ∧ Sl pq 2 N o0 u.2.2.2.2.2.2.2.2.2.2.2.2.2.2.2) (fun u K => ?_) ?_))
   ·refine bg (V (kQ h1 (kX b.has Mh [(.string f4), e0, e1, (.string f5), e2, e3, (.int .i64 f6), (.int .i64 f7), (.string P.kK), (.string P.kP), e4, (.int .i64 f8), (.int .i64 R.qu), (.int .i64 R.qv), (.int .i64 f9), (.int .i64 g0), (.int .i64 g1), e5] rfl cZ bX)) (Wh s7 (Wh m5 (bS K fun a x0 K => ?_))))
    let ew : Value := (.int .i64 ((a).pQ))
    let eu : Value := (.int .i64 ((a).oB))
    let es : Value := (.int .i64 ((a).nU))
    let er : Value := (.int .i64 ((a).nw))
    let el : Value := (.string (((a).kK).Name))
    let ed : Value := (.int .i64 (((a).mX).qv))
    let ec : Value := (.int .i64 (((a).mX).qu))
    let eb : Value := (.int .i64 (((a).Formula).K))
    let ea : Value := (.string (((a).Client).Name))
    let dd : Value := (.int .i64 (((a).Formula).Op))
    let w1 := (((a).Formula).kI)
    let fb : Value := (.string (w1.kP))
    let fa : Value := (.string (w1.kK))
    refine VE (eD b (bM _) call88 (fun hh => mE.nB (xi w0 e0 e1 e2 e3 e4 e5 1 h7 _ _ hh (g9.mono ll.mono (lz.refl _)) (j6.mono mr.mono (lz.refl _)) (j7.mono ll.mono (lz.refl _)) (j8.mono mr.mono (lz.refl _)) (j9.mono kT.mono (lz.refl _)) (k0.mono qX.mono (lz.refl _)) x0)) ?_ (L0 := []))
    rintro _ dk v2 cj b I h ⟨dn, dp, dq, dr, ds, dt, q9, rfl, r2, r3, r4, r5, r6, r7⟩
    obtain rfl := q9.symm
    refine VE (lZ b eO (fun co da b => ?_))
    obtain ⟨b0, c7, rfl⟩ := r2.form
    let p7 : Value := (.slice b0 (((a).kK).kR).length c7)
    obtain ⟨b1, c9, rfl⟩ := r3.form
    let q1 : Value := (.slice b1 (((a).kK).lC).length c9)
    obtain ⟨b2, d0, rfl⟩ := r4.form
    let p3 : Value := (.slice b2 (((a).Client).kR).length d0)
    obtain ⟨b3, d1, rfl⟩ := r5.form
    let p8 : Value := (.slice b3 (((a).Client).lC).length d1)
    obtain ⟨b4, d2, rfl⟩ := r6.form
    let p4 : Value := (.slice b4 (((a).Formula).Kids).length d2)
    obtain ⟨b5, d3, rfl⟩ := r7.form
    let v7 : Value := (.slice b5 ((a).Keys).length d3)
    let g6 := (#[el, p7, q1, ea, p3, p8, dd, eb, fa, fb, p4, ew, ec, ed, er, eu, es, v7])
    let b8 : Value := (.agg #[el, p7, q1, ea, p3, p8, dd, eb, fa, fb, p4, ew, ec, ed, er, eu, es, v7])
    refine VO (lA b8 g6 b rfl rfl bX oc nb rfl (fun cp b => lr (VA b Mh [el, p7, q1, ea, p3, p8, dd, eb, fa, fb, p4, ew, ec, ed, er, eu, es, v7] cZ bX (bS K fun dg x1 K => VE (Eg b call188 (uj a p7 q1 p3 p8 p4 v7 _ _ (r2.mono ll.mono b.kV) (r3.mono mr.mono b.kV) (r4.mono ll.mono b.kV) (r5.mono mr.mono b.kV) (r6.mono kT.mono b.kV) (r7.mono qX.mono b.kV) x1) (fun cq b => ln (CI K rfl (fun w3 K => ?_) (fun w3 K => ?_))))))))
    ·refine lh (VA b Mh [el, p7, q1, ea, p3, p8, dd, eb, fa, fb, p4, ew, ec, ed, er, eu, es, v7] cZ bX ?_)
     replace b := b.perm (Nb (Pb Pz) Nz)
     refine VO (lA b8 g6 b h1 rfl bX oc nb rfl (fun cr b => lY (me (li ?_))))
     obtain rfl := sj K
     exact ⟨p7, q1, p3, p8, p4, v7, v2, _, I, h, (b.kM (Kb (Db St))), h1, s6, s7, m5, m6, m7, s8, r2, r3, r4, r5, r6, r7⟩
    refine nt (me (li ?_))
    obtain rfl := sj K
    exact ⟨e0, e1, e2, e3, e4, e5, v2, _, I, h, (b.kM (Db St)), h1, s6, s7, m5, m6, m7, s8, (g9.mono ll.mono I), (j6.mono mr.mono I), (j7.mono ll.mono I), (j8.mono mr.mono I), (j9.mono kT.mono I), (k0.mono qX.mono I)⟩
   rintro ⟨az, ai, aj, ba, ak, al, bc, bd, be, am, bf, bh, bi, bj, bk, an⟩ E W ⟨n5, n6, n7, n8, n9, o0, N, u5, v4, A, b, z1, z2, z3, z4, z5, z6, z7, x4, x5, x6, x7, x8, x9⟩ w6
   exact lh (Wh z4 (Wi rfl (Wa (ln ⟨aw, bL _, (IntKind.i64.wrap (h7 - 1)), az, n5, ai, n6, aj, ba, n7, ak, n8, al, bc, bd, be, n9, am, bf, bh, bi, bj, bk, o0, an, N, _, (s4.trans v4), (d.trans A), (b.kM St), z1, z2, z3, rfl, z5, z6, z7, x4, x5, x6, x7, x8, x9, w6⟩))))
  refine og (nT (nT (su (li (me (li (lh (V (lW s8 rfl rfl) (Wm (ln (Bl (sg (V (lW rfl m7 rfl) (lY ?_))))))))))))))
  refine li (lj (tg rfl (kn (lj (bg (V (A4 (i := 1) gP fK m6 rfl dc dc rfl) (VB b (Mt Mh) rfl rfl cV (Wa (ln (lj ?_))))))))))
  refine lh (Wm (bS G fun dh t6 G => ?_))
  refine VE (eD b (Cb Pz Cn) call189 (fun hh => mE.nB (wU p w0 e0 e1 e2 e3 e4 e5 0 _ _ hh (g9.mono ll.mono (lz.refl _)) (j6.mono mr.mono (lz.refl _)) (j7.mono ll.mono (lz.refl _)) (j8.mono mr.mono (lz.refl _)) (j9.mono kT.mono (lz.refl _)) (k0.mono qX.mono (lz.refl _)) t6)) ?_ (ha := Pv h1 rfl))
  rintro _ dl m3 ck b U F ⟨r0, rfl, cc⟩
  obtain rfl := r0.symm
  replace b := b.perm (Tb Tn)
  refine V (nu (bI (fun (o : Nat) => Value.pointer (some ⟨p, o, none⟩)) (jz (t6.symm.trans rfl)))) (Wf pt (VB b Mh rfl rfl eP (V (nn bJ rfl g9) (Wi rfl (Wa (ln (sf (CJ G (fun k E W => ∃ o1 o2 o3 o4 o5 o6 q u6, lz m3 q ∧ Lo (keys []) w m3 q ∧ ST false (keys []) w W q ((p, Ob #[(.string k.1), o1, o2, (.string k.2.2.2.1), o3, o4, (.int .i64 k.2.2.2.2.2.2.1), (.int .i64 k.2.2.2.2.2.2.2.1), (.string k.2.2.2.2.2.2.2.2.1.kK), (.string k.2.2.2.2.2.2.2.2.1.kP), o5, (.int .i64 k.2.2.2.2.2.2.2.2.2.2.1), (.int .i64 k.2.2.2.2.2.2.2.2.2.2.2.1.qu), (.int .i64 k.2.2.2.2.2.2.2.2.2.2.2.1.qv), (.int .i64 k.2.2.2.2.2.2.2.2.2.2.2.2.1), (.int .i64 k.2.2.2.2.2.2.2.2.2.2.2.2.2.1), (.int .i64 k.2.2.2.2.2.2.2.2.2.2.2.2.2.2.1), o6] 116) :: ((i0, Obj.cells v9 3 (0, 0)) :: ((h9, Ol C4 116) :: u6))) ∧ E 1 = cm ∧ E 2 = cn ∧ E 12 = cd ∧ E 13 = (.int .i64 2) ∧ E 14 = (.int .i64 1) ∧ Sl lm 15 q o1 k.2.1 ∧ Sl lX 8 q o2 k.2.2.1 ∧ Sl lm 15 q o3 k.2.2.2.2.1 ∧ Sl lX 8 q o4 k.2.2.2.2.2.1 ∧ Sl kL 5 q o5 k.2.2.2.2.2.2.2.2.2.1 ∧ Sl pq 2 q o6 k.2.2.2.2.2.2.2.2.2.2.2.2.2.2.2) (fun k w8 => ?_) ?_))))))))
  ·refine mR (oG (fun m E W => ∃ h8 l5 e8 m9 e9 n0 l6 f0 n1 f1 n2 l7 l8 g2 f2 n3 l9 g3 m0 m1 m2 f3 n4 D u7, lz m3 D ∧ Lo (keys []) w m3 D ∧ ST false (keys []) w W D ((p, Ob #[(.string l5), e8, e9, (.string l6), f0, f1, (.int .i64 l7), (.int .i64 l8), (.string g2.kK), (.string g2.kP), f2, (.int .i64 l9), (.int .i64 g3.qu), (.int .i64 g3.qv), (.int .i64 m0), (.int .i64 m1), (.int .i64 m2), f3] 116) :: ((i0, Obj.cells v9 3 (0, 0)) :: ((h9, Ol C4 116) :: u7))) ∧ E 1 = cm ∧ E 2 = cn ∧ E 5 = (.int .i64 0) ∧ E 6 = (.int .i64 h8) ∧ E 12 = cd ∧ E 13 = (.int .i64 2) ∧ E 14 = (.int .i64 1) ∧ Sl lm 15 D e8 m9 ∧ Sl lX 8 D e9 n0 ∧ Sl lm 15 D f0 n1 ∧ Sl lX 8 D f1 n2 ∧ Sl kL 5 D f2 n3 ∧ Sl pq 2 D f3 n4 ∧ qF m h8 l5 m9 n0 l6 n1 n2 l7 l8 g2 n3 l9 g3 m0 m1 m2 n4 = some k) lE ⟨(IntKind.i64.wrap ((e7.length : Int) - 1)), f4, e0, e7, e1, h2, f5, e2, h3, e3, h4, f6, f7, P, e4, h5, f8, R, f9, g0, g1, e5, h6, m3, _, (lz.refl _), Lo.refl, (b.kM St), h1, s6, rfl, rfl, m6, m7, rfl, (g9.mono ll.mono U), (j6.mono mr.mono U), (j7.mono ll.mono U), (j8.mono mr.mono U), (j9.mono kT.mono U), (k0.mono qX.mono U), w8⟩ ?_)
   rintro m E W ⟨h8, l5, e8, m9, e9, n0, l6, f0, n1, f1, n2, l7, l8, g2, f2, n3, l9, g3, m0, m1, m2, f3, n4, D, u7, s5, l, b, j5, s9, t0, m8, t1, t2, t3, q2, q3, q4, q5, q6, q7, a3⟩
   cases m with
   | zero => rw [qF] at a3; cases a3
   | succ ay =>
    refine lj (sg (Wh m8 (Wi rfl (ln (CI a3 rfl (fun w4 a3 => ?_) (fun w4 a3 => ?_))))))
    ·refine kn (lj (CJ a3 (fun x E W => ∃ o7 o8 o9 p0 p1 p2 Q u8, lz D Q ∧ Lo (keys []) w D Q ∧ ST false (keys []) w W Q ((p, Ob #[(.string x.1), o7, o8, (.string x.2.2.2.1), o9, p0, (.int .i64 x.2.2.2.2.2.2.1), (.int .i64 x.2.2.2.2.2.2.2.1), (.string x.2.2.2.2.2.2.2.2.1.kK), (.string x.2.2.2.2.2.2.2.2.1.kP), p1, (.int .i64 x.2.2.2.2.2.2.2.2.2.2.1), (.int .i64 x.2.2.2.2.2.2.2.2.2.2.2.1.qu), (.int .i64 x.2.2.2.2.2.2.2.2.2.2.2.1.qv), (.int .i64 x.2.2.2.2.2.2.2.2.2.2.2.2.1), (.int .i64 x.2.2.2.2.2.2.2.2.2.2.2.2.2.1), (.int .i64 x.2.2.2.2.2.2.2.2.2.2.2.2.2.2.1), p2] 116) :: ((i0, Obj.cells v9 3 (0, 0)) :: ((h9, Ol C4 116) :: u8))) ∧ E 1 = cm ∧ E 2 = cn ∧ E 5 = (.int .i64 0) ∧ E 6 = (.int .i64 h8) ∧ E 12 = cd ∧ E 13 = (.int .i64 2) ∧ E 14 = (.int .i64 1) ∧ Sl lm 15 Q o7 x.2.1 ∧ Sl lX 8 Q o8 x.2.2.1 ∧ Sl lm 15 Q o9 x.2.2.2.2.1 ∧ Sl lX 8 Q p0 x.2.2.2.2.2.1 ∧ Sl kL 5 Q p1 x.2.2.2.2.2.2.2.2.2.1 ∧ Sl pq 2 Q p2 x.2.2.2.2.2.2.2.2.2.2.2.2.2.2.2) (fun x M => ?_) ?_))
     ·refine bg (V (kQ j5 (kX b.has Mh [(.string l5), e8, e9, (.string l6), f0, f1, (.int .i64 l7), (.int .i64 l8), (.string g2.kK), (.string g2.kP), f2, (.int .i64 l9), (.int .i64 g3.qu), (.int .i64 g3.qv), (.int .i64 m0), (.int .i64 m1), (.int .i64 m2), f3] rfl cZ bX)) (Wh t0 (Wh m8 (bS M fun c x2 M => ?_))))
      let ez : Value := (.int .i64 ((c).pQ))
      let ey : Value := (.int .i64 ((c).oB))
      let ev : Value := (.int .i64 ((c).nU))
      let et : Value := (.int .i64 ((c).nw))
      let eq : Value := (.string (((c).kK).Name))
      let ep : Value := (.int .i64 (((c).mX).qv))
      let eo : Value := (.int .i64 (((c).mX).qu))
      let en : Value := (.int .i64 (((c).Formula).K))
      let em : Value := (.string (((c).Client).Name))
      let ee : Value := (.int .i64 (((c).Formula).Op))
      let bb := (((c).Formula).kI)
      let fd : Value := (.string (bb.kP))
      let fc : Value := (.string (bb.kK))
      refine VE (eD b (bM _) call88 (fun hh => mE.nB (xi (⟨(⟨l5, m9, n0⟩ : lT), (⟨l6, n1, n2⟩ : lT), (⟨l7, l8, g2, n3⟩ : Formula), l9, g3, m0, m1, m2, n4⟩ : mj) e8 e9 f0 f1 f2 f3 0 h8 _ _ hh (q2.mono ll.mono (lz.refl _)) (q3.mono mr.mono (lz.refl _)) (q4.mono ll.mono (lz.refl _)) (q5.mono mr.mono (lz.refl _)) (q6.mono kT.mono (lz.refl _)) (q7.mono qX.mono (lz.refl _)) x2)) ?_ (L0 := []))
      rintro _ dm v3 cl b J n ⟨du, dv, dw, dx, dy, dz, r1, rfl, r8, r9, s0, s1, s2, s3⟩
      obtain rfl := r1.symm
      refine VE (lZ b eO (fun cw db b => ?_))
      obtain ⟨b6, d4, rfl⟩ := r8.form
      let p9 : Value := (.slice b6 (((c).kK).kR).length d4)
      obtain ⟨b7, d5, rfl⟩ := r9.form
      let u3 : Value := (.slice b7 (((c).kK).lC).length d5)
      obtain ⟨b9, d6, rfl⟩ := s0.form
      let p5 : Value := (.slice b9 (((c).Client).kR).length d6)
      obtain ⟨c0, d7, rfl⟩ := s1.form
      let q0 : Value := (.slice c0 (((c).Client).lC).length d7)
      obtain ⟨c1, d8, rfl⟩ := s2.form
      let p6 : Value := (.slice c1 (((c).Formula).Kids).length d8)
      obtain ⟨c3, d9, rfl⟩ := s3.form
      let v8 : Value := (.slice c3 ((c).Keys).length d9)
      let j1 := (#[eq, p9, u3, em, p5, q0, ee, en, fc, fd, p6, ez, eo, ep, et, ey, ev, v8])
      let g5 : Value := (.agg #[eq, p9, u3, em, p5, q0, ee, en, fc, fd, p6, ez, eo, ep, et, ey, ev, v8])
      refine VO (lA g5 j1 b rfl rfl bX oc nb rfl (fun cx b => lr (VA b Mh [eq, p9, u3, em, p5, q0, ee, en, fc, fd, p6, ez, eo, ep, et, ey, ev, v8] cZ bX (bS M fun di x3 M => VE (Eg b call188 (uj c p9 u3 p5 q0 p6 v8 _ _ (r8.mono ll.mono b.kV) (r9.mono mr.mono b.kV) (s0.mono ll.mono b.kV) (s1.mono mr.mono b.kV) (s2.mono kT.mono b.kV) (s3.mono qX.mono b.kV) x3) (fun cy b => ln (CI M rfl (fun w5 M => ?_) (fun w5 M => ?_))))))))
      ·refine lh (VA b Mh [eq, p9, u3, em, p5, q0, ee, en, fc, fd, p6, ez, eo, ep, et, ey, ev, v8] cZ bX ?_)
       replace b := b.perm (Nb (Pb Pz) Nz)
       refine VO (lA g5 j1 b j5 rfl bX oc nb rfl (fun cz b => lY (me (li ?_))))
       obtain rfl := sj M
       exact ⟨p9, u3, p5, q0, p6, v8, v3, _, J, n, (b.kM (Kb (Db St))), j5, s9, t0, m8, t1, t2, t3, r8, r9, s0, s1, s2, s3⟩
      refine nt (me (li ?_))
      obtain rfl := sj M
      exact ⟨e8, e9, f0, f1, f2, f3, v3, _, J, n, (b.kM (Db St)), j5, s9, t0, m8, t1, t2, t3, (q2.mono ll.mono J), (q3.mono mr.mono J), (q4.mono ll.mono J), (q5.mono mr.mono J), (q6.mono kT.mono J), (q7.mono qX.mono J)⟩
     rintro ⟨bl, ao, ap, bn, aq, ar, bo, bp, bq, au, bs, bt, bu, bv, bw, av⟩ E W ⟨o7, o8, o9, p0, p1, p2, Q, u8, v6, O, b, ab, ac, ad, ae, af, ag, ah, y0, y2, y4, y6, y8, z0⟩ w9
     exact lh (Wh ae (Wi rfl (Wa (ln ⟨ay, bL _, (IntKind.i64.wrap (h8 - 1)), bl, o7, ao, o8, ap, bn, o9, aq, p0, ar, bo, bp, bq, p1, au, bs, bt, bu, bv, bw, p2, av, Q, _, (s5.trans v6), (l.trans O), (b.kM St), ab, ac, ad, rfl, af, ag, ah, y0, y2, y4, y6, y8, z0, w9⟩))))
    refine og (nT (nT (su (li ?_))))
    obtain rfl := sj a3
    exact ⟨e8, e9, f0, f1, f2, f3, D, _, s5, l, (b.kM St), j5, s9, t1, t2, t3, q2, q3, q4, q5, q6, q7⟩
  rintro ⟨k7, k1, k2, k8, k3, k4, k9, l0, Y, k5, l1, Z, l2, l3, l4, k6⟩ E W ⟨o1, o2, o3, o4, o5, o6, q, u6, v5, L, b, z8, u9, de, z9, aa, t7, t8, t9, u0, u1, u2⟩ w7
  refine me (li (lh (V (lW aa rfl rfl) (Wm (ln (Bl (sg (V (lW rfl z9 rfl) (ln (lj (qR rfl ?_)))))))))))
  refine og (nT (nT (su (li ?_))))
  replace b := b.kM (Kb (Db St))
  refine sg (V (kQ z8 (kX b.has Mh [(.string k7), o1, o2, (.string k8), o3, o4, (.int .i64 k9), (.int .i64 l0), (.string Y.kK), (.string Y.kP), o5, (.int .i64 l1), (.int .i64 Z.qu), (.int .i64 Z.qv), (.int .i64 l2), (.int .i64 l3), (.int .i64 l4), o6] rfl cZ bX)) ?_)
  obtain ⟨i1, i7, rfl⟩ := t7.form
  obtain ⟨i2, i8, rfl⟩ := t8.form
  obtain ⟨i3, i9, rfl⟩ := t9.form
  obtain ⟨i4, j0, rfl⟩ := u0.form
  obtain ⟨i5, j3, rfl⟩ := u1.form
  obtain ⟨i6, j4, rfl⟩ := u2.form
  let j2 := (C1 k7 i1 k1.length i7 i2 k2.length i8 k8 i3 k3.length i9 i4 k4.length j0 k9 l0 Y.kK Y.kP i5 k5.length j3 l1 Z.qu Z.qv l2 l3 l4 i6 k6.length j4)
  replace b := b.perm (Nb (Pb Pz) Nz)
  refine VO (lA (.agg j2.toArray) (j2.toArray) b u9 rfl bX oc nb rfl (fun cu b => Wa (ln ?_)))
  replace b := b.kM (Kb (Db St))
  refine ma ?_
  obtain rfl := sj w7
  exact uS (v0 := (.agg j2.toArray)) (v1 := (.bool true)) rfl u9 (kX b.has Mh j2 rfl cZ bX) rfl ⟨_, _, _, rfl, (b.ny Sn), (((T.trans s4).trans U).trans v5), (((s.trans d).trans F).trans L), (ST.mf b (nL.mem Sn)), (.slice i1 k1.length i7), (.slice i2 k2.length i8), (.slice i3 k3.length i9), (.slice i4 k4.length j0), (.slice i5 k5.length j3), (.slice i6 k6.length j4), rfl, rfl, t7, t8, t9, u0, u1, u2⟩
theorem Eo (a : mj) (u y g t i B : Value) (r : Int) (w : World) (k : Sl lm 15 (hp w) u a.kK.kR) (x : Sl lX 8 (hp w) y a.kK.lC) (c : Sl lm 15 (hp w) g a.Client.kR) (j : Sl lX 8 (hp w) t a.Client.lC) (z : Sl kL 5 (hp w) i a.Formula.Kids) (D : Sl pq 2 (hp w) B a.Keys) (hm : tN a = some r) :
  mi false Tryz.prog 85 [(.agg #[(.string a.kK.Name), u, y, (.string a.Client.Name), g, t, (.int .i64 a.Formula.Op), (.int .i64 a.Formula.K), (.string a.Formula.kI.kK), (.string a.Formula.kI.kP), i, (.int .i64 a.pQ), (.int .i64 a.mX.qu), (.int .i64 a.mX.qv), (.int .i64 a.nw), (.int .i64 a.oB), (.int .i64 a.nU), B])] w (.int .i64 r) := by
 refine cG 20 func85 rfl (fun b => sg ?_)
 obtain ⟨H, M, rfl⟩ := k.form
 obtain ⟨I, N, rfl⟩ := x.form
 obtain ⟨J, Q, rfl⟩ := c.form
 obtain ⟨K, T, rfl⟩ := j.form
 obtain ⟨A9, a3, rfl⟩ := z.form
 obtain ⟨a2, a4, rfl⟩ := D.form
 refine VE (mx b rfl (fun p s b => Wa (lr (Wf xz (VA b Mh (C6 a.kK.Name H a.kK.kR.length M I a.kK.lC.length N) fC eA (Wf vI (VA b Mh (C6 a.Client.Name J a.Client.kR.length Q K a.Client.lC.length T) fC eA (bS hm fun v Y hm => ?_))))))))
 refine VE (Im b (bM _) call79 (fun _ _ _ _ => (FQ a.kK (.slice H a.kK.kR.length M) (.slice I a.kK.lC.length N) a.Client (.slice J a.Client.kR.length Q) (.slice K a.Client.lC.length T) _ _ (k.mono ll.mono b.kV) (x.mono mr.mono b.kV) (c.mono ll.mono b.kV) (j.mono mr.mono b.kV) Y)) (fun q A L m b a5 h d U => ?_) (L0 := []))
 obtain ⟨E, n, F, a9, G, rfl, Z, l⟩ := U
 replace G := G.symm; subst G
 replace b := b.perm (Tr (Tr Tn))
 refine Wm (Wx rfl (Wx rfl (Wx rfl (Wa (Wa (Wa (ln ?_)))))))
 replace b := b.kM (Kr (Kr (Db St)))
 refine sg (Wm (V (rY bF rfl Z) (Wm (V (rY bF rfl l) (Wi rfl (Wa (ln ?_)))))))
 exact ma (rQ hm b)
set_option maxHeartbeats 1000000 in
theorem IH (r : Bool) (w : World) (hm : wA  = some r) :
  mi false Tryz.prog 82 [] w (.bool r) := by
 let gx : Value := (.agg (kN Di).toArray)
 let bb := (⟨1, (⟨K7.kK, K5⟩ : kI), K3, K0, K0, zS⟩ : kJ)
 refine cG 82 func82 rfl (fun d => sg (Wa (lr (V (ns (v := (.agg (kW K7).toArray)) (pE rfl rfl) (mP iA dN (Ot _ dN) kr)) (V (ns (v := gx) (BX rfl rfl rfl) (mP dT dW (Rx _ dW) kr)) (VE (lZ d dT (fun W2 b1 d => VO (lA gx ((kN Di).toArray) d rfl rfl aW (qQ Di) nb rfl (fun W3 d => ln (lj ?_)))))))))))
 refine lh (VA d Mh (kN Di) cN aW (VE (lZ d dT (fun W5 b4 d => VO (lA gx ((kN Di).toArray) d rfl rfl aW (qQ Di) nb rfl (fun W6 d => lr (Wf vn (Wf xm (VO (lA (.string K5) ((kN bb).toArray) d rfl rfl jf (OP K5) nb rfl (fun W7 d => lr ?_)))))))))))
 refine Wa (ln (lj ?_))
 replace d := d.drew
 have m := d.has.kM (Kb (Kb Sn))
 refine mA m lL (X 0 rfl m (ns (v := (.agg TJ.toArray)) (ot rfl) (mP jL dR (Gx _ dR) kr)) (X 1 rfl m (kZ rfl) (XH 2 rfl m (fun _ q => kQ rfl (kX q (Mt Mh) (kN Di) rfl cN aW)) (X 4 rfl m (kZ rfl) (XH 5 rfl m (fun _ q => kQ rfl (kX q Mh (kN bb) rfl cN aW)) (X 9 rfl m (lg vn rfl) (XH 10 rfl m (fun _ q => kQ rfl (kX q (Mt Mh) (kW K7) rfl bY bG)) (X 11 rfl m (ns (v := (.agg TP.toArray)) (pE rfl rfl) (mP bE bZ (yn _ bZ) kr)) (PJ hm (fun x E W => ∃ R n2 n3 p4 p3 n4 n5 n6 n7 n8 n9 o0 o1 o2 s s5, lz (hp w) s ∧ ST false nl w W s ((R, Ob #[(.string x.2.2.2.2.2.2.2.2.2.2.2.2.2.2.2.2.1), n7, n8, (.string x.2.2.2.2.2.2.2.2.2.2.2.2.2.2.2.2.2.2.2.1), n9, o0, (.int .i64 x.2.2.2.2.2.2.2.2.2.2.2.2.2.2.2.2.2.2.2.2.2.2.1), (.int .i64 x.2.2.2.2.2.2.2.2.2.2.2.2.2.2.2.2.2.2.2.2.2.2.2.1), (.string x.2.2.2.2.2.2.2.2.2.2.2.2.2.2.2.2.2.2.2.2.2.2.2.2.1.kK), (.string x.2.2.2.2.2.2.2.2.2.2.2.2.2.2.2.2.2.2.2.2.2.2.2.2.1.kP), o1, (.int .i64 x.2.2.2.2.2.2.2.2.2.2.2.2.2.2.2.2.2.2.2.2.2.2.2.2.2.2.1), (.int .i64 x.2.2.2.2.2.2.2.2.2.2.2.2.2.2.2.2.2.2.2.2.2.2.2.2.2.2.2.1.qu), (.int .i64 x.2.2.2.2.2.2.2.2.2.2.2.2.2.2.2.2.2.2.2.2.2.2.2.2.2.2.2.1.qv), (.int .i64 x.2.2.2.2.2.2.2.2.2.2.2.2.2.2.2.2.2.2.2.2.2.2.2.2.2.2.2.2.1), (.int .i64 x.2.2.2.2.2.2.2.2.2.2.2.2.2.2.2.2.2.2.2.2.2.2.2.2.2.2.2.2.2.1), (.int .i64 x.2.2.2.2.2.2.2.2.2.2.2.2.2.2.2.2.2.2.2.2.2.2.2.2.2.2.2.2.2.2.1), o2] 116) :: ((b4, Ol (kN bb) 53) :: ((b1, Ol (kN Di) 53) :: (p3 ++ s5)))) ∧ E 1 = (.pointer (some ⟨b1, 0, none⟩)) ∧ E 4 = (.pointer (some ⟨R, 0, none⟩)) ∧ E 25 = (.agg #[(.string x.1), n2, n3, (.string x.2.2.2.1), p4, n4, (.int .i64 x.2.2.2.2.2.2.1), (.int .i64 x.2.2.2.2.2.2.2.1), (.string x.2.2.2.2.2.2.2.2.1.kK), (.string x.2.2.2.2.2.2.2.2.1.kP), n5, (.int .i64 x.2.2.2.2.2.2.2.2.2.2.1), (.int .i64 x.2.2.2.2.2.2.2.2.2.2.2.1.qu), (.int .i64 x.2.2.2.2.2.2.2.2.2.2.2.1.qv), (.int .i64 x.2.2.2.2.2.2.2.2.2.2.2.2.1), (.int .i64 x.2.2.2.2.2.2.2.2.2.2.2.2.2.1), (.int .i64 x.2.2.2.2.2.2.2.2.2.2.2.2.2.2.1), n6]) ∧ Sl lm 15 s n2 x.2.1 ∧ Fr w.heap.size n2 ∧ Sl lX 8 s n3 x.2.2.1 ∧ Fr w.heap.size n3 ∧ lN 138 lm 15 s p4 x.2.2.2.2.1 p3 ∧ Sl lX 8 s n4 x.2.2.2.2.2.1 ∧ Fr w.heap.size n4 ∧ Sl kL 5 s n5 x.2.2.2.2.2.2.2.2.2.1 ∧ Fr w.heap.size n5 ∧ Sl pq 2 s n6 x.2.2.2.2.2.2.2.2.2.2.2.2.2.2.2.1 ∧ Fr w.heap.size n6 ∧ Sl lm 15 s n7 x.2.2.2.2.2.2.2.2.2.2.2.2.2.2.2.2.2.1 ∧ Fr w.heap.size n7 ∧ Sl lX 8 s n8 x.2.2.2.2.2.2.2.2.2.2.2.2.2.2.2.2.2.2.1 ∧ Fr w.heap.size n8 ∧ Sl lm 15 s n9 x.2.2.2.2.2.2.2.2.2.2.2.2.2.2.2.2.2.2.2.2.1 ∧ Fr w.heap.size n9 ∧ Sl lX 8 s o0 x.2.2.2.2.2.2.2.2.2.2.2.2.2.2.2.2.2.2.2.2.2.1 ∧ Fr w.heap.size o0 ∧ Sl kL 5 s o1 x.2.2.2.2.2.2.2.2.2.2.2.2.2.2.2.2.2.2.2.2.2.2.2.2.2.1 ∧ Fr w.heap.size o1 ∧ Sl pq 2 s o2 x.2.2.2.2.2.2.2.2.2.2.2.2.2.2.2.2.2.2.2.2.2.2.2.2.2.2.2.2.2.2.2 ∧ Fr w.heap.size o2) (bm 15 16383) 1 ?_ (fun x J j7 => ?_))))))))))
 ·let hc : Value := (.pointer (some ⟨b1, 0, none⟩))
  let et := ((kN Di).toArray : Array Value)
  rintro ⟨b6, K, M, b7, N, Q, b9, c0, z, T, c1, B, c2, c3, c4, U, ea, dq, dr, eb, ds, dt, ec, ed, ee, du, ef, eg, eh, ei, ej, dv⟩ E W ⟨R, n2, n3, p4, p3, n4, n5, n6, n7, n8, n9, o0, o1, o2, s, s5, o4, d, s6, l0, y4, k0, av, k1, aw, k8, k2, ay, k3, az, k4, ba, bk, bc, bl, bd, bn, be, bo, bf, bp, bh, bq, bi⟩ j9
  let fg : Value := (.pointer (some ⟨R, 0, none⟩))
  let dd := (⟨(⟨b6, K, M⟩ : lT), (⟨b7, N, Q⟩ : lT), (⟨b9, c0, z, T⟩ : Formula), c1, B, c2, c3, c4, U⟩ : mj)
  obtain ⟨a2, a8, rfl⟩ := k0.form
  let hg : Value := (.slice a2 K.length a8)
  obtain ⟨a3, a9, rfl⟩ := k1.form
  let hh : Value := (.slice a3 M.length a9)
  obtain ⟨a4, b0, rfl⟩ := k8.form
  let hi : Value := (.slice a4 N.length b0)
  obtain ⟨a5, b2, rfl⟩ := k2.form
  let hj : Value := (.slice a5 Q.length b2)
  obtain ⟨a6, b3, rfl⟩ := k3.form
  let hk : Value := (.slice a6 T.length b3)
  obtain ⟨a7, b5, rfl⟩ := k4.form
  let hl : Value := (.slice a7 U.length b5)
  let g5 := (C1 b6 a2 K.length a8 a3 M.length a9 b7 a4 N.length b0 a5 Q.length b2 b9 c0 z.kK z.kP a6 T.length b3 c1 B.qu B.qv c2 c3 c4 a7 U.length b5)
  refine XO 14 rfl (lA (.agg g5.toArray) (g5.toArray) d l0 y4 bX oc nb rfl (fun dj d => ?_))
  have m := d.has.sW o4 (Db (Kb (Kb Sn)))
  refine ⟨m, (mH kr (li ?_))⟩
  replace d := d.kM (Kb (Db St))
  refine sg (V (kQ l0 (kX d.has Mh g5 rfl cZ bX)) (bS j9 fun dw x7 j9 => VE (zK d call83 (zN dd hg hh hi hj hk hl _ _ (k0.mono ll.mono d.kV) (k1.mono mr.mono d.kV) (k8.sl ll d.kV (fun b o hq => d.at_ (Mt (Mt (Ml hq))))) (k2.mono mr.mono d.kV) (k3.mono kT.mono d.kV) (k4.mono qX.mono d.kV) x7) (fun dk dx er j8 d D hA m9 => Wa (lr (V (kQ l0 (kX d.has (Ma Mh) g5 rfl cZ bX)) ?_))))))
  replace d := d.perm (Nr (Qr (Qb (Qb Qz))) Nz)
  have bj := (k8.mono ll D).Q6 d (fun p hq => (Ml hq))
  obtain ⟨es, d, H, hB, n0⟩ := ST.xn ll d (k8.mono ll D)
  refine bS j9 fun g x8 j9 => ?_
  let hd : Value := (.int .i64 ((g.1).pQ))
  let hb : Value := (.int .i64 ((g.1).oB))
  let ha : Value := (.int .i64 ((g.1).nU))
  let gz : Value := (.int .i64 ((g.1).nw))
  let gv : Value := (.string (((g.1).kK).Name))
  let gu : Value := (.int .i64 (((g.1).mX).qv))
  let gt : Value := (.int .i64 (((g.1).mX).qu))
  let gs : Value := (.int .i64 (((g.1).Formula).K))
  let gr : Value := (.string (((g.1).Client).Name))
  let gl : Value := (.int .i64 (((g.1).Formula).Op))
  let fn := (((g.1).Formula).kI)
  let ic : Value := (.string (fn.kP))
  let hx : Value := (.string (fn.kK))
  refine VE (Li d (bM _) call90 (fun hH F n L => (Da dd hg hh hi hj hk hl _ _ ⟨hH, F, n⟩ (k0.mono ll.mono (D.trans H)) (k1.mono mr.mono (D.trans H)) (n0.mono ll.mono (lz.refl _)) (k2.mono mr.mono (D.trans H)) (k3.mono kT.mono (D.trans H)) (k4.mono qX.mono (D.trans H)) x8)) (fun dl dy f5 di d O hC x6 => ?_) (L0 := []))
  obtain ⟨ek, el, em, en, eo, ep, n1, rfl, r0, r1, k9, r2, r3, r4⟩ := x6
  replace n1 := n1.symm; subst n1
  replace d := d.perm Tn
  refine Wm (Wx rfl (Wx rfl (VE (lZ d eO (fun dm d0 d => ?_)))))
  let fs : Value := (.pointer (some ⟨d0, 0, none⟩))
  obtain ⟨d1, d7, rfl⟩ := r0.form
  let fh : Value := (.slice d1 (((g.1).kK).kR).length d7)
  obtain ⟨d2, d8, rfl⟩ := r1.form
  let fj : Value := (.slice d2 (((g.1).kK).lC).length d8)
  obtain ⟨d3, d9, rfl⟩ := k9.form
  let fc : Value := (.slice d3 (((g.1).Client).kR).length d9)
  obtain ⟨d4, e0, rfl⟩ := r2.form
  let fi : Value := (.slice d4 (((g.1).Client).lC).length e0)
  obtain ⟨d5, e1, rfl⟩ := r3.form
  let fd : Value := (.slice d5 (((g.1).Formula).Kids).length e1)
  obtain ⟨d6, e2, rfl⟩ := r4.form
  let ft : Value := (.slice d6 ((g.1).Keys).length e2)
  let b8 := (#[gv, fh, fj, gr, fc, fi, gl, gs, hx, ic, fd, hd, gt, gu, gz, hb, ha, ft] : Array Value)
  refine VO (lA (.agg #[gv, fh, fj, gr, fc, fi, gl, gs, hx, ic, fd, hd, gt, gu, gz, hb, ha, ft]) (#[gv, fh, fj, gr, fc, fi, gl, gs, hx, ic, fd, hd, gt, gu, gz, hb, ha, ft]) d rfl rfl bX oc nb rfl (fun dn d => Wa (ln (lj ?_))))
  replace d := d.drew
  have m := d.has.kM (Kb (Kr (Kb (Kb Sn))))
  refine mA m lL (X 0 rfl m (kZ rfl) (X 1 rfl m (rY fN rfl m9) (X 2 rfl m (lW rfl rfl rfl) (X 3 rfl m (kZ rfl) (PJ j9 (fun s1 E W => ∃ p5, ST false nl w W f5 ((d0, Obj.cells b8 116 (0, 0)) :: ((R, Ol g5 116) :: ((b1, Obj.cells et 53 (0, 0)) :: (j8 ++ p5)))) ∧ E 1 = hc ∧ E 4 = fg ∧ E 6 = fs ∧ E 7 = (.bool g.2) ∧ E 42 = (.bool s1)) (bm 50 1023) 40 ?_ (fun s1 e7 m5 => ?_))))))
  ·rintro cg E W ⟨p5, d, q2, q3, q4, w4, w5⟩ t3
   have m := d.has.kM (Kb (Sr (Qb (Qb Qz)) (Kb (Kb Sn))))
   refine X 10 rfl m (kZ w5) (PJ t3 (fun s0 E W => ∃ p6, ST false nl w W f5 ((d0, Obj.cells b8 116 (0, 0)) :: ((R, Ol g5 116) :: ((b1, Obj.cells et 53 (0, 0)) :: (j8 ++ p6)))) ∧ E 1 = hc ∧ E 4 = fg ∧ E 6 = fs ∧ E 45 = (.bool s0)) (bm 50 8191) 37 ?_ (fun s0 f4 m4 => ?_))
   ·rintro ch E W ⟨p6, d, q5, q6, m6, w6⟩ t4
    have m := d.has.kM (Kb (Sr (Qb (Qb Qz)) (Kb (Kb Sn))))
    refine X 13 rfl m (kZ w6) (PJ t4 (fun r9 E W => ∃ p7, ST false nl w W f5 ((d0, Obj.cells b8 116 (0, 0)) :: ((R, Ol g5 116) :: ((b1, Obj.cells et 53 (0, 0)) :: (j8 ++ p7)))) ∧ E 1 = hc ∧ E 4 = fg ∧ E 6 = fs ∧ E 52 = (.bool r9)) (bm 50 1048575) 30 ?_ (fun r9 f3 m3 => ?_))
    ·rintro ci E W ⟨p7, d, w7, q7, m7, w8⟩ t5
     have m := d.has.kM (Kb (Sr (Qb (Qb Qz)) (Kb (Kb Sn))))
     refine X 20 rfl m (kZ w8) (PJ t5 (fun r8 E W => ∃ p8, ST false nl w W f5 ((d0, Obj.cells b8 116 (0, 0)) :: ((R, Ol g5 116) :: ((b1, Obj.cells et 53 (0, 0)) :: (j8 ++ p8)))) ∧ E 4 = fg ∧ E 6 = fs ∧ E 63 = (.bool r8)) (bm 50 2147483647) 19 ?_ (fun r8 e6 m2 => ?_))
     ·rintro cj E W ⟨p8, d, m8, q8, w9⟩ t6
      have m := d.has.kM (Kb (Sr (Qb (Qb Qz)) (Kb (Kb Sn))))
      refine X 31 rfl m (kZ w9) (PJ t6 (fun r7 E W => ∃ p9, ST false nl w W f5 ((d0, Obj.cells b8 116 (0, 0)) :: ((R, Ol g5 116) :: ((b1, Obj.cells et 53 (0, 0)) :: (j8 ++ p9)))) ∧ E 4 = fg ∧ E 6 = fs ∧ E 68 = (.bool r7)) (bm 50 68719476735) 14 ?_ (fun r7 e5 m1 => ?_))
      ·rintro ck E W ⟨p9, d, q9, x1, x2⟩ t7
       have m := d.has.kM (Kb (Sr (Qb (Qb Qz)) (Kb (Kb Sn))))
       refine X 36 rfl m (kZ x2) (PJ t7 (fun r6 E W => ∃ q0, ST false nl w W f5 ((d0, Obj.cells b8 116 (0, 0)) :: ((R, Ol g5 116) :: ((b1, Obj.cells et 53 (0, 0)) :: (j8 ++ q0)))) ∧ E 4 = fg ∧ E 73 = (.bool r6)) (bm 50 2199023255551) 9 ?_ (fun r6 e4 m0 => ?_))
       ·rintro cl E W ⟨q0, d, x3, x4⟩ t8
        have m := d.has.kM (Kb (Sr (Qb (Qb Qz)) (Kb (Kb Sn))))
        refine X 41 rfl m (kZ x4) (PJ t8 (fun r5 E W => ∃ o3 q1, lz f5 o3 ∧ ST false nl w W o3 ((d0, Obj.cells b8 116 (0, 0)) :: ((R, Ol g5 116) :: ((b1, Obj.cells et 53 (0, 0)) :: (j8 ++ q1)))) ∧ E 81 = (.bool r5)) (bm 50 562949953421311) 1 ?_ (fun r5 e3 l9 => ?_))
        ·rintro cm E W ⟨o3, q1, s4, d, x5⟩ t9
         have m := d.has.sW s4 (Kb (Sr (Qb (Qb Qz)) (Kb (Kb Sn))))
         refine X 49 rfl m (oM x5) (mH kr (li ?_))
         exact ma (rQ t9 d)
        refine bC e3 (fun G e3 => ?_) (fun G e3 => ?_)
        ·refine te 42 rfl rfl (cB G) m (fun _ q => kQ x3 (kX q (Mt (Ma Mh)) g5 rfl cZ bX)) (bS e3 fun x9 u4 e3 => ?_)
         refine It 43 rfl rfl (cB G) (Li d (bM _) call88 (fun hH F n L => mE.nB (xi dd hg hh hi hj hk hl 1 0 _ _ ⟨hH, F, n⟩ (k0.mono ll.mono ((D.trans H).trans O)) (k1.mono mr.mono ((D.trans H).trans O)) (n0.mono ll.mono O) (k2.mono mr.mono ((D.trans H).trans O)) (k3.mono kT.mono ((D.trans H).trans O)) (k4.mono qX.mono ((D.trans H).trans O)) u4)) (fun z8 bz y1 z2 d l8 aE s7 => ?_) (L0 := []))
         obtain ⟨cn, co, cp, cq, cr, ct, l1, rfl, v2, v3, o6, v4, v5, v6⟩ := s7
         replace l1 := l1.symm; subst l1
         replace d := d.perm Tn
         have m := d.has.sW l8 (Kb (Sr (Qb (Qb Qz)) (Kb (Kb Sn))))
         refine ⟨m, ?_⟩
         obtain ⟨y7, ao, rfl⟩ := v2.form
         obtain ⟨y8, ap, rfl⟩ := v3.form
         obtain ⟨v7, w3, rfl⟩ := o6.form
         obtain ⟨y9, aq, rfl⟩ := v4.form
         obtain ⟨z0, ar, rfl⟩ := v5.form
         obtain ⟨z1, au, rfl⟩ := v6.form
         refine Xg 44 rfl rfl (cB G) m (NU (k := 3) dZ rfl fC eA rfl rfl) (Xg 45 rfl rfl (cB G) m (NK (v := (.slice v7 (((x9).Client).kR).length w3)) dR rfl eP rfl rfl) (Xg 46 rfl rfl (cB G) m (nn bJ rfl o6) (Xg 47 rfl rfl (cB G) m (lW rfl rfl rfl) (X 48 rfl m (mh (cB G) rfl) ?_))))
         obtain rfl := sj e3
         refine oa kr (l9 _ _ ⟨y1, _, l8, (d.kM St), rfl⟩)
        refine Xn 42 rfl rfl (cB G) m (Xn 43 rfl rfl (cB G) m (Xn 44 rfl rfl (cB G) m (Xn 45 rfl rfl (cB G) m (Xn 46 rfl rfl (cB G) m (Xn 47 rfl rfl (cB G) m (X 48 rfl m (mg (cB G) rfl) ?_))))))
        obtain rfl := sj e3
        refine oa kr (l9 _ _ ⟨f5, _, (lz.refl _), (d.kM St), rfl⟩)
       refine bC e4 (fun c9 e4 => ?_) (fun c9 e4 => ?_)
       ·refine te 37 rfl rfl (cB c9) m (fun _ q => kQ x1 (kX q Mh [gv, fh, fj, gr, fc, fi, gl, gs, hx, ic, fd, hd, gt, gu, gz, hb, ha, ft] rfl cZ bX)) (bS e4 fun bw u5 e4 => It 38 rfl rfl (cB c9) (Eg d call85 (Eo g.1 fh fj fc fi fd ft _ _ (r0.mono ll.mono d.kV) (r1.mono mr.mono d.kV) (k9.mono ll.mono d.kV) (r2.mono mr.mono d.kV) (r3.mono kT.mono d.kV) (r4.mono qX.mono d.kV) u5) (fun z9 d => ?_)))
        have m := d.has.kM (Kb (Sr (Qb (Qb Qz)) (Kb (Kb Sn))))
        refine ⟨m, (Xg 39 rfl rfl (cB c9) m (lW rfl rfl rfl) (X 40 rfl m (mh (cB c9) rfl) ?_))⟩
        obtain rfl := sj e4
        refine oa kr (m0 _ _ ⟨_, (d.kM St), q9, rfl⟩)
       refine Xn 37 rfl rfl (cB c9) m (Xn 38 rfl rfl (cB c9) m (Xn 39 rfl rfl (cB c9) m (X 40 rfl m (mg (cB c9) rfl) ?_)))
       obtain rfl := sj e4
       refine oa kr (m0 _ _ ⟨_, (d.kM St), q9, rfl⟩)
      refine bC e5 (fun c8 e5 => ?_) (fun c8 e5 => ?_)
      ·refine te 32 rfl rfl (cB c8) m (fun _ q => kQ m8 (kX q (Mt (Ma Mh)) g5 rfl cZ bX)) (bS e5 fun bx u6 e5 => It 33 rfl rfl (cB c8) (Eg d call85 (Eo dd hg hh hi hj hk hl _ _ (k0.mono ll.mono (((D.trans H).trans O).trans d.kV)) (k1.mono mr.mono (((D.trans H).trans O).trans d.kV)) (n0.mono ll.mono (O.trans d.kV)) (k2.mono mr.mono (((D.trans H).trans O).trans d.kV)) (k3.mono kT.mono (((D.trans H).trans O).trans d.kV)) (k4.mono qX.mono (((D.trans H).trans O).trans d.kV)) u6) (fun aa d => ?_)))
       have m := d.has.kM (Kb (Sr (Qb (Qb Qz)) (Kb (Kb Sn))))
       refine ⟨m, (Xg 34 rfl rfl (cB c8) m (lW rfl rfl rfl) (X 35 rfl m (mh (cB c8) rfl) ?_))⟩
       obtain rfl := sj e5
       refine oa kr (m1 _ _ ⟨_, (d.kM St), m8, q8, rfl⟩)
      refine Xn 32 rfl rfl (cB c8) m (Xn 33 rfl rfl (cB c8) m (Xn 34 rfl rfl (cB c8) m (X 35 rfl m (mg (cB c8) rfl) ?_)))
      obtain rfl := sj e5
      refine oa kr (m1 _ _ ⟨_, (d.kM St), m8, q8, rfl⟩)
     refine bC e6 (fun y e6 => ?_) (fun y e6 => ?_)
     ·refine Xg 21 rfl rfl (cB y) m (lg vI m7) (Xg 22 rfl rfl (cB y) m (lg pt rfl) (te 23 rfl rfl (cB y) m (fun _ q => kQ rfl (lB q Mh rfl eP)) (bS e6 fun P o5 e6 => rJ 24 rfl kr (.inr ⟨20, true, 53, rfl, rfl, by decide, (cB y)⟩) rfl dc (fun _ _ h => h) m (nX (i := 0) (x0 := P) lm.out bJ cR rfl rfl k9 (lK o5) (lI o5)) (fun bs ⟨_, ⟨y0, ca, rfl, y5, y6⟩, u0⟩ => rJ 25 rfl kr (.inr ⟨20, true, 53, rfl, rfl, by decide, (cB y)⟩) rfl dc (fun _ _ h => h) m (uf [(.int .i64 P.Signed.kJ.Kind), (.string P.Signed.kJ.Head.kK), (.string P.Signed.kJ.Head.kP), (.string P.Signed.kJ.lH), (.string P.Signed.kJ.B.kK), (.string P.Signed.kJ.B.kP), (.string P.Signed.kJ.C.kK), (.string P.Signed.kJ.C.kP), (.string P.Signed.kJ.lM), y0] xG rfl u0 rfl) (fun bt u1 => rJ 26 rfl kr (.inr ⟨20, true, 53, rfl, rfl, by decide, (cB y)⟩) rfl dc (fun _ _ h => h) m (uf (kN P.Signed.kJ) zD rfl u1 rfl) (fun bu u2 => te 27 rfl rfl (cB y) m (fun _ q => kQ rfl (lR q u2 cN aW)) (te 28 rfl rfl (cB y) m (fun _ q => kQ w7 (kX q (Mt (Ma (Mt Mh))) (kN Di) rfl cN aW)) (Xg 29 rfl rfl (cB y) m (A6 rfl rfl (ue iM) (xN (yK _ P.Signed.kJ Di))) (X 30 rfl m (mh (cB y) rfl) ?_)))))))))
      obtain rfl := sj e6
      refine oa kr (m2 _ _ ⟨_, (d.kM St), q7, m7, rfl⟩)
     refine Xn 21 rfl rfl (cB y) m (Xn 22 rfl rfl (cB y) m (Xn 23 rfl rfl (cB y) m (Xn 24 rfl rfl (cB y) m (Xn 25 rfl rfl (cB y) m (Xn 26 rfl rfl (cB y) m (Xn 27 rfl rfl (cB y) m (Xn 28 rfl rfl (cB y) m (Xn 29 rfl rfl (cB y) m (X 30 rfl m (mg (cB y) rfl) ?_)))))))))
     obtain rfl := sj e6
     refine oa kr (m2 _ _ ⟨_, (d.kM St), q7, m7, rfl⟩)
    refine bC f3 (fun Z f3 => ?_) (fun Z f3 => ?_)
    ·refine Xg 14 rfl rfl (cB Z) m (lg vI m6) (Xg 15 rfl rfl (cB Z) m (lg pt rfl) (te 16 rfl rfl (cB Z) m (fun _ q => kQ rfl (lB q Mh rfl eP)) (Xg 17 rfl rfl (cB Z) m (nn bJ rfl k9) (Xg 18 rfl rfl (cB Z) m (lW rfl rfl rfl) (X 19 rfl m (mh (cB Z) rfl) ?_)))))
     obtain rfl := sj f3
     refine oa kr (m3 _ _ ⟨_, (d.kM St), q5, q6, m6, rfl⟩)
    refine Xn 14 rfl rfl (cB Z) m (Xn 15 rfl rfl (cB Z) m (Xn 16 rfl rfl (cB Z) m (Xn 17 rfl rfl (cB Z) m (Xn 18 rfl rfl (cB Z) m (X 19 rfl m (mg (cB Z) rfl) ?_)))))
    obtain rfl := sj f3
    refine oa kr (m3 _ _ ⟨_, (d.kM St), q5, q6, m6, rfl⟩)
   refine bC f4 (fun f2 f4 => ?_) (fun f2 f4 => ?_)
   ·refine Xg 11 rfl rfl (cB f2) m (kZ w4) (X 12 rfl m (mh (cB f2) rfl) ?_)
    obtain rfl := sj f4
    refine oa kr (m4 _ _ ⟨_, (d.kM St), q2, q3, q4, rfl⟩)
   refine Xn 11 rfl rfl (cB f2) m (X 12 rfl m (mg (cB f2) rfl) ?_)
   obtain rfl := sj f4
   refine oa kr (m4 _ _ ⟨_, (d.kM St), q2, q3, q4, rfl⟩)
  refine bC e7 (fun Y e7 => ?_) (fun Y e7 => ?_)
  ·refine Xg 4 rfl rfl (cB Y) m (kZ rfl) (bS e7 fun s2 l7 e7 => rJ 5 rfl kr (.inr ⟨3, true, 36, rfl, rfl, by decide, (cB Y)⟩) rfl dc (fun _ _ h => h) m (th (i := 0) (x0 := s2) fN jM rfl rfl m9 (lK l7) (lI l7)) (fun bv u3 => te 6 rfl rfl (cB Y) m (fun _ q => kQ rfl (xr q (fun p hq => (Mt (Ml hq))) m9 xL u3 (lI l7) isAgg114 jM)) (Xg 7 rfl rfl (cB Y) m (ns (v := (.agg (nC (⟨1, 0⟩ : mM)).toArray)) (pE rfl rfl) (DM ji fH fK kr)) (Xg 8 rfl rfl (cB Y) m (A6 rfl rfl (ue eqGuardType114) (xN (Ky _ s2 (⟨1, 0⟩ : mM)))) (X 9 rfl m (mh (cB Y) rfl) ?_)))))
   obtain rfl := sj e7
   refine oa kr (m5 _ _ ⟨_, (d.kM (Kb (Sb (Pr Pz) (Sb (Pr Pz) St)))), s6, l0, rfl, rfl, rfl⟩)
  refine Xn 4 rfl rfl (cB Y) m (Xn 5 rfl rfl (cB Y) m (Xn 6 rfl rfl (cB Y) m (Xn 7 rfl rfl (cB Y) m (Xn 8 rfl rfl (cB Y) m (X 9 rfl m (mg (cB Y) rfl) ?_)))))
  obtain rfl := sj e7
  refine oa kr (m5 _ _ ⟨_, (d.kM (Kb (Sb (Pr Pz) (Sb (Pr Pz) St)))), s6, l0, rfl, rfl, rfl⟩)
 refine BD 3 13 rfl rfl kr (.inl rfl) (.inl rfl) rfl rfl dc dc ?_ ?_
 ·refine bS J fun a u7 J => ?_
  let fb := (((a).Signed).Tag)
  let ev := (((a).kO).Kids)
  let eq : Value := (.int .i64 (((a).kO).K))
  let dz : Value := (.int .i64 (((a).kO).Op))
  let dp := (((a).kO).kI)
  let fp : Value := (.string (dp.kP))
  let fm : Value := (.string (dp.kK))
  let g6 := (((a).Signed).kJ)
  let fu : Value := (.string (g6.lH))
  let fl : Value := (.string (g6.lM))
  let fk : Value := (.int .i64 (g6.Kind))
  let ff : Value := (.string ((g6.C).kP))
  let fe : Value := (.string ((g6.B).kP))
  let fa : Value := (.string ((g6.C).kK))
  let ez : Value := (.string ((g6.B).kK))
  let ey : Value := (.string ((g6.Head).kP))
  let eu : Value := (.string ((g6.Head).kK))
  refine Gr (args := [gx]) (caps := #[]) [] _ d (bM _) rfl call187 (by exact wk rfl) (fun hH F n L => mE.nB (uF Di _ _ ⟨hH, F, n⟩  u7)) (fun ab cb dg z3 d I cS s8 => ?_)
  obtain ⟨cu, cv, l2, rfl, f0, f1⟩ := s8
  replace l2 := l2.symm; subst l2
  replace d := d.perm Tn
  have m := d.has.sW I (Kb (Kb Sn))
  refine ⟨m, (BD 6 13 rfl rfl kr (.inl rfl) (.inl rfl) rfl rfl dc dc ?_ ?_)⟩
  ·refine bS J fun c u8 J => ?_
   let fv := (((c).kO).Kids)
   let fq : Value := (.int .i64 (((c).kO).K))
   let fo : Value := (.int .i64 (((c).kO).Op))
   let ew := (((c).kO).kI)
   let gw : Value := (.string (ew.kP))
   let gp : Value := (.string (ew.kK))
   let j1 := (((c).Signed).kJ)
   let gy : Value := (.string (j1.lH))
   let go : Value := (.string (j1.lM))
   let gk : Value := (.int .i64 (j1.Kind))
   let gj : Value := (.string ((j1.C).kP))
   let gi : Value := (.string ((j1.B).kP))
   let gh : Value := (.string ((j1.C).kK))
   let gg : Value := (.string ((j1.B).kK))
   let fz : Value := (.string ((j1.Head).kP))
   let fw : Value := (.string ((j1.Head).kK))
   refine Gr (args := [(.agg (kN bb).toArray)]) (caps := #[]) [] _ d (bM _) rfl call187 (by exact wk rfl) (fun hH F n L => mE.nB (uF bb _ _ ⟨hH, F, n⟩  u8)) (fun ac cc s3 z4 d a0 eI s9 => ?_)
   obtain ⟨cw, cx, l3, rfl, k5, k6⟩ := s9
   replace l3 := l3.symm; subst l3
   replace d := d.perm Tn
   have m := d.has.sW (I.trans a0) (Kb (Kb Sn))
   refine ⟨m, (BD 7 13 rfl rfl kr (.inl rfl) (.inl rfl) rfl rfl dc dc ?_ ?_)⟩
   ·obtain ⟨f6, h8, rfl⟩ := f0.form
    let hn : Value := (.slice f6 fb.length h8)
    obtain ⟨f7, h9, rfl⟩ := f1.form
    let ho : Value := (.slice f7 ev.length h9)
    obtain ⟨f8, i0, rfl⟩ := k5.form
    let ge : Value := (.slice f8 (((c).Signed).Tag).length i0)
    obtain ⟨f9, i1, rfl⟩ := k6.form
    let hr : Value := (.slice f9 fv.length i1)
    refine lO (cs := #[fk, eu, ey, fu, ez, fe, fa, ff, fl, hn, dz, eq, fm, fp, ho, gk, fw, fz, gy, gg, gi, gh, gj, go, ge, fo, fq, gp, gw, hr]) d (pE rfl rfl) (nZ bJ cR eF) (fun ad h4 d => ?_)
    have m := d.has.sW (I.trans a0) (Db (Kb (Kb Sn)))
    refine ⟨m, (X 8 rfl m (ns (v := (.agg (Pt h4).toArray)) (pE rfl rfl) (mP jL dR (Gx _ dR) kr)) (X 12 rfl m (ns (v := (.agg (C9 h4).toArray)) (BX rfl rfl rfl) (mP eO dZ (IS _ dZ) kr)) (XE 13 rfl (lZ d eO (fun ae v9 d => ?_)))))⟩
    have m := d.has.sW (I.trans a0) (Db (Db (Kb (Kb Sn))))
    refine ⟨m, ?_⟩
    obtain rfl := sj J
    replace d := d.perm (Nb (Pb Pz) Nz)
    replace d := d.AN
    refine oa kr (j7 _ _ ⟨v9, (.slice none 0 0), (.slice none 0 0), (.slice (some ⟨h4, 0, none⟩) 2 2), [(h4, Ob #[fk, eu, ey, fu, ez, fe, fa, ff, fl, hn, dz, eq, fm, fp, ho, gk, fw, fz, gy, gg, gi, gh, gj, go, ge, fo, fq, gp, gw, hr] 138)], (.slice none 0 0), (.slice none 0 0), (.slice none 0 0), (.slice none 0 0), (.slice none 0 0), (.slice none 0 0), (.slice none 0 0), (.slice none 0 0), (.slice none 0 0), s3, _, (I.trans a0), (d.kM (Sb (Pr Pz) (Sb (Pr Pz) (Sb (Pr Pz) St)))), rfl, rfl, rfl, (Sl.nil _ _ _), (Fr.nil _), (Sl.nil _ _ _), (Fr.nil _), (lN.lit ll (l := [a, c]) (.cons (ys := [fk, eu, ey, fu, ez, fe, fa, ff, fl, hn, dz, eq, fm, fp, ho]) (lm.mk ⟨hn, ho, rfl, (f0.mono (Pl.mono _) a0), (f1.mono kT.mono a0)⟩) (.cons (ys := [gk, fw, fz, gy, gg, gi, gh, gj, go, ge, fo, fq, gp, gw, hr]) (lm.mk ⟨ge, hr, rfl, k5, k6⟩) .nil)) rfl nb rfl), (Sl.nil _ _ _), (Fr.nil _), (Sl.nil _ _ _), (Fr.nil _), (Sl.nil _ _ _), (Fr.nil _), (Sl.nil _ _ _), (Fr.nil _), (Sl.nil _ _ _), (Fr.nil _), (Sl.nil _ _ _), (Fr.nil _), (Sl.nil _ _ _), (Fr.nil _), (Sl.nil _ _ _), (Fr.nil _), (Sl.nil _ _ _), (Fr.nil _)⟩)
   ·refine lZ d eO (fun af w0 d => ?_)
    have m := d.has.sW (I.trans a0) (Db (Kb (Kb Sn)))
    refine ⟨m, ?_⟩
    obtain ⟨g0, i2, rfl⟩ := f0.form
    let hs : Value := (.slice g0 fb.length i2)
    obtain ⟨g1, i3, rfl⟩ := f1.form
    let ht : Value := (.slice g1 ev.length i3)
    obtain ⟨g2, i4, rfl⟩ := k5.form
    let gf : Value := (.slice g2 (((c).Signed).Tag).length i4)
    obtain ⟨g3, i5, rfl⟩ := k6.form
    let hu : Value := (.slice g3 fv.length i5)
    refine XE 7 rfl (lO (cs := #[fk, eu, ey, fu, ez, fe, fa, ff, fl, hs, dz, eq, fm, fp, ht, gk, fw, fz, gy, gg, gi, gh, gj, go, gf, fo, fq, gp, gw, hu]) d (pE rfl rfl) (nZ bJ cR eF) (fun ag h5 d => ?_))
    have m := d.has.sW (I.trans a0) (Db (Db (Kb (Kb Sn))))
    refine ⟨m, (X 8 rfl m (ns (v := (.agg (Pt h5).toArray)) (pE rfl rfl) (mP jL dR (Gx _ dR) kr)) (X 12 rfl m (ns (v := (.agg (C9 h5).toArray)) (BX rfl rfl rfl) (mP eO dZ (IS _ dZ) kr)) ?_))⟩
    obtain rfl := sj J
    replace d := d.AN
    refine oa kr (j7 _ _ ⟨w0, (.slice none 0 0), (.slice none 0 0), (.slice (some ⟨h5, 0, none⟩) 2 2), [(h5, Ob #[fk, eu, ey, fu, ez, fe, fa, ff, fl, hs, dz, eq, fm, fp, ht, gk, fw, fz, gy, gg, gi, gh, gj, go, gf, fo, fq, gp, gw, hu] 138)], (.slice none 0 0), (.slice none 0 0), (.slice none 0 0), (.slice none 0 0), (.slice none 0 0), (.slice none 0 0), (.slice none 0 0), (.slice none 0 0), (.slice none 0 0), s3, _, (I.trans a0), (d.kM (Sb (Pr Pz) (Sb (Pr Pz) (Sb (Pr Pz) St)))), rfl, rfl, rfl, (Sl.nil _ _ _), (Fr.nil _), (Sl.nil _ _ _), (Fr.nil _), (lN.lit ll (l := [a, c]) (.cons (ys := [fk, eu, ey, fu, ez, fe, fa, ff, fl, hs, dz, eq, fm, fp, ht]) (lm.mk ⟨hs, ht, rfl, (f0.mono (Pl.mono _) a0), (f1.mono kT.mono a0)⟩) (.cons (ys := [gk, fw, fz, gy, gg, gi, gh, gj, go, gf, fo, fq, gp, gw, hu]) (lm.mk ⟨gf, hu, rfl, k5, k6⟩) .nil)) rfl nb rfl), (Sl.nil _ _ _), (Fr.nil _), (Sl.nil _ _ _), (Fr.nil _), (Sl.nil _ _ _), (Fr.nil _), (Sl.nil _ _ _), (Fr.nil _), (Sl.nil _ _ _), (Fr.nil _), (Sl.nil _ _ _), (Fr.nil _), (Sl.nil _ _ _), (Fr.nil _), (Sl.nil _ _ _), (Fr.nil _), (Sl.nil _ _ _), (Fr.nil _)⟩)
  ·refine lZ d eO (fun ah w1 d => ?_)
   have m := d.has.sW I (Db (Kb (Kb Sn)))
   refine ⟨m, (bS J fun j u9 J => ?_)⟩
   let ib : Value := (.int .i64 (((j).kO).K))
   let hy : Value := (.int .i64 (((j).kO).Op))
   let gq := (((j).kO).kI)
   let v8 := (((j).Signed).kJ)
   let iq : Value := (.string ((v8.C).kK))
   let ip : Value := (.string ((v8.B).kK))
   let ij : Value := (.string ((v8.Head).kP))
   let ig : Value := (.string ((v8.Head).kK))
   refine XE 6 rfl (Li d (bM _) call187 (fun hH F n L => mE.nB (uF bb _ _ ⟨hH, F, n⟩  u9)) (fun ai cd y2 z5 d e8 eN t0 => ?_) (L0 := []))
   obtain ⟨cy, cz, l4, rfl, o7, o8⟩ := t0
   replace l4 := l4.symm; subst l4
   replace d := d.perm Tn
   have m := d.has.sW (I.trans e8) (Db (Kb (Kb Sn)))
   refine ⟨m, ?_⟩
   obtain ⟨g4, i6, rfl⟩ := f0.form
   let he : Value := (.slice g4 fb.length i6)
   obtain ⟨g7, i7, rfl⟩ := f1.form
   let hf : Value := (.slice g7 ev.length i7)
   obtain ⟨g8, i8, rfl⟩ := o7.form
   let gd : Value := (.slice g8 (((j).Signed).Tag).length i8)
   obtain ⟨g9, i9, rfl⟩ := o8.form
   let ga : Value := (.slice g9 (((j).kO).Kids).length i9)
   refine XE 7 rfl (lO (cs := #[fk, eu, ey, fu, ez, fe, fa, ff, fl, he, dz, eq, fm, fp, hf, (.int .i64 (v8.Kind)), ig, ij, (.string (v8.lH)), ip, (.string ((v8.B).kP)), iq, (.string ((v8.C).kP)), (.string (v8.lM)), gd, hy, ib, (.string (gq.kK)), (.string (gq.kP)), ga]) d (pE rfl rfl) (nZ bJ cR eF) (fun aj h6 d => ?_))
   have m := d.has.sW (I.trans e8) (Db (Db (Kb (Kb Sn))))
   refine ⟨m, (X 8 rfl m (ns (v := (.agg (Pt h6).toArray)) (pE rfl rfl) (mP jL dR (Gx _ dR) kr)) (X 12 rfl m (ns (v := (.agg (C9 h6).toArray)) (BX rfl rfl rfl) (mP eO dZ (IS _ dZ) kr)) ?_))⟩
   obtain rfl := sj J
   replace d := d.AN
   refine oa kr (j7 _ _ ⟨w1, (.slice none 0 0), (.slice none 0 0), (.slice (some ⟨h6, 0, none⟩) 2 2), [(h6, Ob #[fk, eu, ey, fu, ez, fe, fa, ff, fl, he, dz, eq, fm, fp, hf, (.int .i64 (v8.Kind)), ig, ij, (.string (v8.lH)), ip, (.string ((v8.B).kP)), iq, (.string ((v8.C).kP)), (.string (v8.lM)), gd, hy, ib, (.string (gq.kK)), (.string (gq.kP)), ga] 138)], (.slice none 0 0), (.slice none 0 0), (.slice none 0 0), (.slice none 0 0), (.slice none 0 0), (.slice none 0 0), (.slice none 0 0), (.slice none 0 0), (.slice none 0 0), y2, _, (I.trans e8), (d.kM (Sb (Pr Pz) (Sb (Pr Pz) (Sb (Pr Pz) St)))), rfl, rfl, rfl, (Sl.nil _ _ _), (Fr.nil _), (Sl.nil _ _ _), (Fr.nil _), (lN.lit ll (l := [a, j]) (.cons (ys := [fk, eu, ey, fu, ez, fe, fa, ff, fl, he, dz, eq, fm, fp, hf]) (lm.mk ⟨he, hf, rfl, (f0.mono (Pl.mono _) e8), (f1.mono kT.mono e8)⟩) (.cons (ys := [(.int .i64 (v8.Kind)), ig, ij, (.string (v8.lH)), ip, (.string ((v8.B).kP)), iq, (.string ((v8.C).kP)), (.string (v8.lM)), gd, hy, ib, (.string (gq.kK)), (.string (gq.kP)), ga]) (lm.mk ⟨gd, ga, rfl, o7, o8⟩) .nil)) rfl nb rfl), (Sl.nil _ _ _), (Fr.nil _), (Sl.nil _ _ _), (Fr.nil _), (Sl.nil _ _ _), (Fr.nil _), (Sl.nil _ _ _), (Fr.nil _), (Sl.nil _ _ _), (Fr.nil _), (Sl.nil _ _ _), (Fr.nil _), (Sl.nil _ _ _), (Fr.nil _), (Sl.nil _ _ _), (Fr.nil _), (Sl.nil _ _ _), (Fr.nil _)⟩)
 ·refine lZ d eO (fun ak w2 d => ?_)
  have m := d.has.kM (Db (Kb (Kb Sn)))
  refine ⟨m, (bS J fun t v0 J => ?_)⟩
  let hz : Value := (.int .i64 (((t).kO).K))
  let hv : Value := (.int .i64 (((t).kO).Op))
  let gm := (((t).kO).kI)
  let j2 := (((t).Signed).kJ)
  let it : Value := (.string ((j2.C).kP))
  let ir : Value := (.string ((j2.B).kP))
  let il : Value := (.string ((j2.C).kK))
  let ik : Value := (.string ((j2.B).kK))
  let ih : Value := (.string ((j2.Head).kP))
  let id : Value := (.string ((j2.Head).kK))
  refine XE 3 rfl (Li d (bM _) call187 (fun hH F n L => mE.nB (uF Di _ _ ⟨hH, F, n⟩  v0)) (fun al ce dh z6 d j6 eR t1 => ?_) (L0 := []))
  obtain ⟨da, db, l5, rfl, o9, p0⟩ := t1
  replace l5 := l5.symm; subst l5
  replace d := d.perm Tn
  have m := d.has.sW j6 (Db (Kb (Kb Sn)))
  refine ⟨m, (bS J fun u v1 J => ?_)⟩
  let ia : Value := (.int .i64 (((u).kO).K))
  let hw : Value := (.int .i64 (((u).kO).Op))
  let gn := (((u).kO).kI)
  let A := (((u).Signed).kJ)
  let iv : Value := (.string ((A.C).kP))
  let iu : Value := (.string ((A.B).kP))
  let io : Value := (.string ((A.C).kK))
  let im : Value := (.string ((A.B).kK))
  let ii : Value := (.string ((A.Head).kP))
  let ie : Value := (.string ((A.Head).kK))
  refine XE 6 rfl (Li d (bM _) call187 (fun hH F n L => mE.nB (uF bb _ _ ⟨hH, F, n⟩  v1)) (fun am cf y3 z7 d e9 gR t2 => ?_) (L0 := []))
  obtain ⟨de, df, l6, rfl, p1, p2⟩ := t2
  replace l6 := l6.symm; subst l6
  replace d := d.perm Tn
  have m := d.has.sW (j6.trans e9) (Db (Kb (Kb Sn)))
  refine ⟨m, ?_⟩
  obtain ⟨h0, j0, rfl⟩ := o9.form
  let gb : Value := (.slice h0 (((t).Signed).Tag).length j0)
  obtain ⟨h1, j3, rfl⟩ := p0.form
  let fx : Value := (.slice h1 (((t).kO).Kids).length j3)
  obtain ⟨h2, j4, rfl⟩ := p1.form
  let gc : Value := (.slice h2 (((u).Signed).Tag).length j4)
  obtain ⟨h3, j5, rfl⟩ := p2.form
  let fy : Value := (.slice h3 (((u).kO).Kids).length j5)
  refine XE 7 rfl (lO (cs := #[(.int .i64 (j2.Kind)), id, ih, (.string (j2.lH)), ik, ir, il, it, (.string (j2.lM)), gb, hv, hz, (.string (gm.kK)), (.string (gm.kP)), fx, (.int .i64 (A.Kind)), ie, ii, (.string (A.lH)), im, iu, io, iv, (.string (A.lM)), gc, hw, ia, (.string (gn.kK)), (.string (gn.kP)), fy]) d (pE rfl rfl) (nZ bJ cR eF) (fun an h7 d => ?_))
  have m := d.has.sW (j6.trans e9) (Db (Db (Kb (Kb Sn))))
  refine ⟨m, (X 8 rfl m (ns (v := (.agg (Pt h7).toArray)) (pE rfl rfl) (mP jL dR (Gx _ dR) kr)) (X 12 rfl m (ns (v := (.agg (C9 h7).toArray)) (BX rfl rfl rfl) (mP eO dZ (IS _ dZ) kr)) ?_))⟩
  obtain rfl := sj J
  replace d := d.AN
  refine oa kr (j7 _ _ ⟨w2, (.slice none 0 0), (.slice none 0 0), (.slice (some ⟨h7, 0, none⟩) 2 2), [(h7, Ob #[(.int .i64 (j2.Kind)), id, ih, (.string (j2.lH)), ik, ir, il, it, (.string (j2.lM)), gb, hv, hz, (.string (gm.kK)), (.string (gm.kP)), fx, (.int .i64 (A.Kind)), ie, ii, (.string (A.lH)), im, iu, io, iv, (.string (A.lM)), gc, hw, ia, (.string (gn.kK)), (.string (gn.kP)), fy] 138)], (.slice none 0 0), (.slice none 0 0), (.slice none 0 0), (.slice none 0 0), (.slice none 0 0), (.slice none 0 0), (.slice none 0 0), (.slice none 0 0), (.slice none 0 0), y3, _, (j6.trans e9), (d.kM (Sb (Pr Pz) (Sb (Pr Pz) (Sb (Pr Pz) St)))), rfl, rfl, rfl, (Sl.nil _ _ _), (Fr.nil _), (Sl.nil _ _ _), (Fr.nil _), (lN.lit ll (l := [t, u]) (.cons (ys := [(.int .i64 (j2.Kind)), id, ih, (.string (j2.lH)), ik, ir, il, it, (.string (j2.lM)), gb, hv, hz, (.string (gm.kK)), (.string (gm.kP)), fx]) (lm.mk ⟨gb, fx, rfl, (o9.mono (Pl.mono _) e9), (p0.mono kT.mono e9)⟩) (.cons (ys := [(.int .i64 (A.Kind)), ie, ii, (.string (A.lH)), im, iu, io, iv, (.string (A.lM)), gc, hw, ia, (.string (gn.kK)), (.string (gn.kP)), fy]) (lm.mk ⟨gc, fy, rfl, p1, p2⟩) .nil)) rfl nb rfl), (Sl.nil _ _ _), (Fr.nil _), (Sl.nil _ _ _), (Fr.nil _), (Sl.nil _ _ _), (Fr.nil _), (Sl.nil _ _ _), (Fr.nil _), (Sl.nil _ _ _), (Fr.nil _), (Sl.nil _ _ _), (Fr.nil _), (Sl.nil _ _ _), (Fr.nil _), (Sl.nil _ _ _), (Fr.nil _), (Sl.nil _ _ _), (Fr.nil _)⟩)
theorem Ek (k : Value) (u : List kJ) (r : Int) (w : World) (j : Sl (Pl kN) 9 (hp w) k u) (hm : wx u = some r) :
  mi true Tryz.prog 21 [k] w (.int .i64 r) := by
 refine cG 54 func21 rfl (fun b => sg (Wa (lr (Wa (lS (Wm ?_))))))
 refine V (nn bF rfl j) (Wm (ln (nm (fun i E W => ∃ g t, (E 8 = .int .i64 (i : Nat) ∧ E 7 = .int .i64 (u.length : Nat)) ∧ ST true nl w W (hp w) t ∧ E 3 = (.int .i64 g) ∧ E 6 = k ∧ sM (u.drop i) g = some r) u.length j.len ⟨0, _, ⟨rfl, rfl⟩, (b.kM St), rfl, rfl, hm⟩ dc dc dc (fun _ _ _ h => by obtain ⟨_, _, l, _⟩ := h; exact l) ?_ ?_)))
 ·rintro I E W z ⟨g, t, ⟨d, m⟩, b, x, y, c⟩
  obtain ⟨a, J, G, D, H⟩ := mT z
  rw [G] at c
  refine bg (VQ (vt (enc := kN) (i := (I : Int)) (x0 := a) bF aW y d j (bA _) D) (fun Q B => V (kQ rfl (lR b.has B cN aW)) (VE (lZ b dT (fun K N b => VO (lA (.agg (kN a).toArray) ((kN a).toArray) b rfl rfl aW (qQ a) nb rfl (fun M b => ln (lh (Wh x (Wf vn (Wf wv (VB b Mh rfl rfl cO (V (qz cC rfl) ?_)))))))))))))
  refine Wi rfl (Wf vn (Wf xm (VB b Mh rfl rfl cO (V (qz cC rfl) (Wi rfl (Wf Dk (VB b Mh rfl rfl cO (V (qz cC rfl) (Wi rfl (Wf qV (Wf wv (VB b Mh rfl rfl cO (V (qz cC rfl) (Wi rfl ?_))))))))))))))
  refine Wf qV (Wf xm (VB b Mh rfl rfl cO (V (qz cC rfl) (Wi rfl (Wf zr (Wf wv (VB b Mh rfl rfl cO (V (qz cC rfl) (Wi rfl (Wf zr (Wf xm (VB b Mh rfl rfl cO (V (qz cC rfl) (Wi rfl ?_))))))))))))))
  refine Wf Ay (VB b Mh rfl rfl cO (V (qz cC rfl) (Wi rfl (Wi rfl (Wa (lY (me (li ?_))))))))
  replace b := b.kM (Db St)
  exact ⟨d, (IntKind.i64.wrap (g + (IntKind.i64.wrap ((IntKind.i64.wrap ((IntKind.i64.wrap ((IntKind.i64.wrap ((IntKind.i64.wrap ((IntKind.i64.wrap ((IntKind.i64.wrap ((IntKind.i64.wrap (20 + (a.Head.kK.size : Int))) + (a.Head.kP.size : Int))) + (a.lH.size : Int))) + (a.B.kK.size : Int))) + (a.B.kP.size : Int))) + (a.C.kK.size : Int))) + (a.C.kP.size : Int))) + (a.lM.size : Int))))), _, ⟨rfl, m⟩, (b.kM St), rfl, y, (by rw [H]; exact c)⟩
 rintro E W ⟨g, t, ⟨d, m⟩, b, x, y, c⟩
 rw [bD] at c
 exact li (sg (Wh x (Wa (lt (rQ c b)))))
theorem yl (H : Value) (Q : List Key) (u : Value) (J : List Signed) (r : Int) (w : World) (B : Sl pq 2 (hp w) H Q) (D : Sl ub 10 (hp w) u J) (hm : uU Q J = some r) :
  mi true Tryz.prog 35 [H, u] w (.int .i64 r) := by
 refine cG 45 func35 rfl (fun b => sg (Wa (lr (Wa (lS (Wm ?_))))))
 refine V (nn underlying49 rfl B) (Wm (ln (nm (fun i E W => ∃ t N, (E 12 = .int .i64 (i : Nat) ∧ E 11 = .int .i64 (Q.length : Nat)) ∧ ST true nl w W (hp w) N ∧ E 1 = u ∧ E 5 = (.int .i64 t) ∧ E 10 = H ∧ rz J (Q.drop i) t = some r) Q.length B.len ⟨0, _, ⟨rfl, rfl⟩, (b.kM St), rfl, rfl, rfl, hm⟩ dc dc dc (fun _ _ _ h => by obtain ⟨_, _, n, _⟩ := h; exact n) ?_ ?_)))
 ·rintro c3 E W b5 ⟨t, N, ⟨m, p⟩, b, U, Y, Z, g⟩
  obtain ⟨k, d4, b9, b7, c0⟩ := mT b5
  rw [b9] at g
  refine bg (VQ (nX (i := (c3 : Int)) (x0 := k) pq.out underlying49 sizeOf196 Z m B (bA _) b7) (fun d8 ⟨_, ⟨d9, rfl, a2⟩, b6⟩ => V (kQ rfl (lR b.has b6 isAgg196 sizeOf196)) (VE (lZ b zeroValue196 (fun d5 d7 b => ?_)))))
  obtain ⟨s, v, rfl⟩ := a2.form
  refine VO (lA (.agg #[(.string k.lH), (.slice s k.Key.length v)]) (#[(.string k.lH), (.slice s k.Key.length v)]) b rfl rfl sizeOf196 oc nb rfl (fun d6 b => ln (lh (Wh Y (Wf PR (VB b Mh rfl rfl cO (V (qz cC rfl) (Wi rfl (Wf Qf (VB b Mh rfl rfl isAgg54 (V (nn dO rfl a2) (Wi rfl (Wi rfl (Wa ?_))))))))))))))
  refine lY (me (li ?_))
  replace b := b.kM (Db St)
  exact ⟨m, (IntKind.i64.wrap (t + (IntKind.i64.wrap ((IntKind.i64.wrap (10 + (k.lH.size : Int))) + (k.Key.length : Int))))), _, ⟨rfl, p⟩, (b.kM St), U, rfl, Z, (by rw [c0]; exact g)⟩
 rintro E W ⟨t, N, ⟨m, p⟩, b, U, Y, Z, g⟩
 rw [bD] at g
 refine li (lj (sg (Wh U (V (nn kq rfl D) (Wm (ln (CJ g (fun G E W => ∃ M, ST true nl w W (hp w) M ∧ E 5 = (.int .i64 G)) (fun G a5 => ?_) ?_)))))))
 ·refine nm (fun i E W => ∃ j x, (E 29 = .int .i64 (i : Nat) ∧ E 28 = .int .i64 (J.length : Nat)) ∧ ST true nl w W (hp w) x ∧ E 5 = (.int .i64 j) ∧ E 27 = u ∧ sR (J.drop i) j = some G) J.length D.len ⟨t, _, ⟨rfl, rfl⟩, (b.kM St), Y, rfl, a5⟩ dc dc dc (fun _ _ _ h => by obtain ⟨_, _, n, _⟩ := h; exact n) ?_ ?_
  ·rintro c1 E W a3 ⟨j, x, ⟨m, p⟩, b, y, z, c⟩
   obtain ⟨a, c4, a9, L, O⟩ := mT a3
   rw [a9] at c
   refine bg (VQ (nX (i := (c1 : Int)) (x0 := a) ub.out kq kj z m D (bA _) L) (fun d0 ⟨_, ⟨d1, rfl, I⟩, A⟩ => V (kQ rfl (lR b.has A isAgg56 kj)) (VE (lZ b kA (fun c5 c9 b => ?_)))))
   obtain ⟨K, T, rfl⟩ := I.form
   let a0 := (C5 a.kJ.Kind a.kJ.Head.kK a.kJ.Head.kP a.kJ.lH a.kJ.B.kK a.kJ.B.kP a.kJ.C.kK a.kJ.C.kP a.kJ.lM K a.Tag.length T)
   refine VO (lA (.agg a0.toArray) (a0.toArray) b rfl rfl kj oc nb rfl (fun c6 b => ln ?_))
   replace b := b.drew
   have d := b.has.kM (Kb Sn)
   refine mA d lL (X 0 rfl d (kZ y) (X 1 rfl d (lg zD rfl) (XH 2 rfl d (fun _ q => kQ rfl (kX q Mh (kN a.kJ) rfl cN aW)) (X 5 rfl d (lg Rz rfl) (XH 6 rfl d (fun _ q => kQ rfl (lB q Mh rfl isAgg54)) (X 7 rfl d (nn dO rfl I) (XE 3 rfl (lO (cs := (kN a.kJ).toArray) b (ot rfl) (nZ bF aW dT) (fun c7 P b => ?_)))))))))
   have d := b.has.kM (Db (Kb Sn))
   refine ⟨d, (bS c fun c2 F c => XE 4 rfl (Eg b call21 (Ek (.slice (some ⟨P, 0, none⟩) 1 1) ([a.kJ]) _ _ (Sl.lit (enc := kN) (l := [a.kJ]) np rfl nb rfl (b.at_ Mh)) F) (fun c8 b => ?_)))⟩
   have d := b.has.kM (Db (Kb Sn))
   refine ⟨d, (X 8 rfl d (lW rfl rfl rfl) (X 9 rfl d (lW rfl rfl rfl) (X 10 rfl d (oM rfl) (mH kr (me (li ?_))))))⟩
   replace b := b.kM (Db (Db St))
   exact ⟨m, (IntKind.i64.wrap (j + (IntKind.i64.wrap (c2 + (a.Tag.length : Int))))), _, ⟨rfl, p⟩, (b.kM St), rfl, z, (by rw [O]; exact c)⟩
  rintro E W ⟨j, x, ⟨m, p⟩, b, y, z, c⟩
  rw [bD] at c
  refine li ?_
  obtain rfl := sj c
  exact ⟨_, (b.kM St), y⟩
 rintro d3 E W ⟨M, b, R⟩ a4
 exact sg (Wh R (Wa (lt (rQ a4 b))))
theorem Fb (I : (List Formula) → Option Int) (N : ∀ (j : Value) (u : List Formula) (r : Int) (w : World) (t : Sl kL 5 (hp w) j u), I u = some r → mi false Tryz.prog 173 [j] w (.int .i64 r)) (j : Value) (u : List Formula) (r : Int) (w : World) (t : Sl kL 5 (hp w) j u) (hm : xh I u = some r) :
  mi false Tryz.prog 173 [j] w (.int .i64 r) := by
 refine cG 31 func173 rfl (fun l => sg (Wa (lr (Wa (lS (Wm ?_))))))
 refine V (nn aF rfl t) (Wm (ln (nm (fun i E W => ∃ x z, (E 8 = .int .i64 (i : Nat) ∧ E 7 = .int .i64 (u.length : Nat)) ∧ ST false nl w W (hp w) z ∧ E 3 = (.int .i64 x) ∧ E 6 = j ∧ sQ I (u.drop i) x = some r) u.length t.len ⟨0, _, ⟨rfl, rfl⟩, (l.kM St), rfl, rfl, hm⟩ dc dc dc (fun _ _ _ h => by obtain ⟨_, _, p, _⟩ := h; exact p) ?_ ?_)))
 ·rintro Z E W M ⟨x, z, ⟨n, s⟩, l, D, G, g⟩
  obtain ⟨c, L, T, Q, U⟩ := mT M
  let a0 := ((c.kI.kK.size : Int) + (c.kI.kP.size : Int))
  rw [T] at g
  refine bg (VQ (nX (i := (Z : Int)) (x0 := c) kL.out aF aC G n t (bA _) Q) (fun a5 ⟨_, ⟨F, rfl, H⟩, J⟩ => V (kQ rfl (lR l.has J aS aC)) (VE (lZ l bE (fun A a4 l => ?_)))))
  obtain ⟨y, B, rfl⟩ := H.form
  let q := (C2 c.Op c.K c.kI.kK c.kI.kP y c.Kids.length B)
  refine VO (lA (.agg q.toArray) (q.toArray) l rfl rfl aC oc nb rfl (fun a2 l => ln ?_))
  replace l := l.drew
  have d := l.has.kM (Kb Sn)
  refine mA d lL (X 0 rfl d (kZ D) (X 1 rfl d (lg xJ rfl) (X 2 rfl d (lg wv rfl) (XH 3 rfl d (fun _ m => kQ rfl (lB m Mh rfl cO)) (X 4 rfl d (qz cC rfl) (X 5 rfl d (lg xJ rfl) (X 6 rfl d (lg xm rfl) (XH 7 rfl d (fun _ m => kQ rfl (lB m Mh rfl cO)) (X 8 rfl d (qz cC rfl) (X 9 rfl d (lW rfl rfl rfl) (X 10 rfl d (Mm (k := .i64) (a := (IntKind.i64.wrap a0)) (b := 16) (v := (.int .i64 (IntKind.i64.wrap (Int.tdiv (IntKind.i64.wrap a0) 16)))) rfl rfl dc rfl) (X 11 rfl d (lW rfl rfl rfl) (X 12 rfl d (lg se rfl) (XH 13 rfl d (fun _ m => kQ rfl (lB m Mh rfl fR)) ?_))))))))))))))
  refine bS g fun Y K g => XE 14 rfl (Eg l call173 (N (.slice y c.Kids.length B) c.Kids _ _ (H.mono kT.mono l.kV) K) (fun a3 l => ?_))
  have d := l.has.kM (Kb Sn)
  refine ⟨d, (X 15 rfl d (lW rfl rfl rfl) (X 16 rfl d (lW rfl rfl rfl) (X 17 rfl d (oM rfl) (mH kr (me (li ?_))))))⟩
  replace l := l.kM (Db St)
  exact ⟨n, (IntKind.i64.wrap (x + (IntKind.i64.wrap ((IntKind.i64.wrap (1 + (IntKind.i64.wrap (Int.tdiv (IntKind.i64.wrap a0) 16)))) + Y)))), _, ⟨rfl, s⟩, (l.kM St), rfl, G, (by rw [U]; exact g)⟩
 rintro E W ⟨x, z, ⟨n, s⟩, l, D, G, g⟩
 rw [bD] at g
 exact li (sg (Wh D (Wa (lt (rQ g l)))))
theorem yA : ∀ (n : Nat) (a : Value) (c : List Formula) (r : Int) (w : World) (g : Sl kL 5 (hp w) a c) (_ : pH n c = some r),
  mi false Tryz.prog 173 [a] w (.int .i64 r)
 | 0 => by intros; rename_i h; simp only [pH] at h; cases h
 | n + 1 => Fb (pH n) (yA n)
set_option maxHeartbeats 1000000 in
theorem wz (x : lT) (J N : Value) (r : Int) (w : World) (y : Sl lm 15 (hp w) J x.kR) (G : Sl lX 8 (hp w) N x.lC) (hm : wD x = some r) :
  mi false Tryz.prog 102 [(.agg #[(.string x.Name), J, N])] w (.int .i64 r) := by
 refine cG 61 func102 rfl (fun d => sg ?_)
 obtain ⟨A1, c2, rfl⟩ := y.form
 obtain ⟨A3, c4, rfl⟩ := G.form
 let g6 := (C6 x.Name A1 x.kR.length c2 A3 x.lC.length c4)
 refine VE (mx d rfl (fun W6 L d => Wa (lr (Wf Ft (VB d Mh rfl rfl cO (V (qz cC rfl) (Wa (lS ?_))))))))
 refine Wf pt (VB d Mh rfl rfl eP (V (nn bJ rfl y) (Wm (ln (nm (fun i E W => ∃ I R, (E 14 = .int .i64 (i : Nat) ∧ E 13 = .int .i64 (x.kR.length : Nat)) ∧ ST false nl w W (hp w) ((L, Ol g6 110) :: R) ∧ E 1 = (.pointer (some ⟨L, 0, none⟩)) ∧ E 3 = (.int .i64 I) ∧ E 12 = (.slice A1 x.kR.length c2) ∧ sO x (x.kR.drop i) I = some r) x.kR.length y.len ⟨(x.Name.size : Int), _, ⟨rfl, rfl⟩, (d.kM St), rfl, rfl, rfl, hm⟩ dc dc dc (fun _ _ _ h => by obtain ⟨_, _, v, _⟩ := h; exact v) ?_ ?_)))))
 ·rintro d5 E W e1 ⟨I, R, ⟨q, A⟩, d, U, M, Y, H⟩
  obtain ⟨a, h9, e9, e8, f0⟩ := mT e1
  rw [e9] at H
  refine bg (VQ (nX (i := (d5 : Int)) (x0 := a) lm.out bJ cR Y q y (bA _) e8) (fun j4 ⟨_, ⟨j8, j9, rfl, Q, T⟩, e2⟩ => V (kQ rfl (lR d.has e2 jw cR)) (VE (lZ d eF (fun i0 f4 d => ?_)))))
  obtain ⟨t, u, rfl⟩ := Q.form
  let g5 : Value := (.slice t a.Signed.Tag.length u)
  let b8 := (C5 a.Signed.kJ.Kind a.Signed.kJ.Head.kK a.Signed.kJ.Head.kP a.Signed.kJ.lH a.Signed.kJ.B.kK a.Signed.kJ.B.kP a.Signed.kJ.C.kK a.Signed.kJ.C.kP a.Signed.kJ.lM t a.Signed.Tag.length u)
  obtain ⟨g, j, rfl⟩ := T.form
  let d9 : Value := (.slice g a.kO.Kids.length j)
  let s := (C2 a.kO.Op a.kO.K a.kO.kI.kK a.kO.kI.kP g a.kO.Kids.length j)
  let a0 := (C3 a.Signed.kJ.Kind a.Signed.kJ.Head.kK a.Signed.kJ.Head.kP a.Signed.kJ.lH a.Signed.kJ.B.kK a.Signed.kJ.B.kP a.Signed.kJ.C.kK a.Signed.kJ.C.kP a.Signed.kJ.lM t a.Signed.Tag.length u a.kO.Op a.kO.K a.kO.kI.kK a.kO.kI.kP g a.kO.Kids.length j)
  refine VO (lA (.agg a0.toArray) (a0.toArray) d rfl rfl cR oc nb rfl (fun i1 d => ln ?_))
  replace d := d.drew
  have m := d.has.kM (Kb Sn)
  refine mA m lL (X 0 rfl m (kZ M) (X 1 rfl m (lg xG rfl) (XH 2 rfl m (fun _ p => kQ rfl (kX p Mh b8 rfl isAgg56 kj)) (X 5 rfl m (lg KI rfl) (XH 6 rfl m (fun _ p => kQ rfl (kX p Mh s rfl aS aC)) (PJ H (fun b4 E W => ∃ F b2 b9, ST false nl w W (hp w) ((f4, Ol a0 138) :: ((L, Ol g6 110) :: (b2 ++ b9))) ∧ E 1 = (.pointer (some ⟨L, 0, none⟩)) ∧ E 3 = (.int .i64 I) ∧ E 12 = (.slice A1 x.kR.length c2) ∧ E 13 = (.int .i64 (x.kR.length : Int)) ∧ E 14 = (.int .i64 (d5 : Int)) ∧ E 18 = (.int .i64 I) ∧ E 22 = (.int .i64 b4.1) ∧ E 25 = F ∧ lN 113 kL 5 (hp w) F b4.2 b2) (bm 13 255) 5 ?_ (fun b4 z Z => ?_)))))))
  ·rintro ⟨g7, g3⟩ E W ⟨F, b2, b9, d, f6, j3, f7, f8, f9, g0, g1, g2, e7⟩ O
   refine bS O fun g4 e3 O => XE 8 rfl (Eg d call173 ((yA lE) F g3 _ _ (e7.sl kT d.kV (fun b o n => d.at_ (Mt (Mt (Ml n))))) e3) (fun i2 d => ?_) (ha := Tk g2))
   have m := d.has.kM (Kb Sn)
   refine ⟨m, (X 9 rfl m (lW rfl rfl rfl) (X 10 rfl m (lW g1 rfl rfl) (X 11 rfl m (lW g0 rfl rfl) (X 12 rfl m (oM rfl) (mH kr (me (li ?_)))))))⟩
   replace d := d.kM (Db (Kb (Dr St)))
   exact ⟨f9, (IntKind.i64.wrap (I + (IntKind.i64.wrap (g7 + (IntKind.i64.wrap (20 * g4)))))), _, ⟨rfl, f8⟩, (d.kM St), f6, rfl, f7, (by rw [f0]; exact O)⟩
  refine BD 3 7 rfl rfl kr (.inl rfl) (.inl rfl) rfl rfl dc dc ?_ ?_
  ·refine lO (cs := b8.toArray) d (ot rfl) (nZ kq kj kA) (fun i3 b3 d => ?_)
   let d8 : Value := (.slice (some ⟨b3, 0, none⟩) 1 1)
   have m := d.has.kM (Db (Kb Sn))
   refine ⟨m, (BD 4 7 rfl rfl kr (.inl rfl) (.inl rfl) rfl rfl dc dc ?_ ?_)⟩
   ·refine bS z fun j5 e4 z => Fq (args := [(.slice none 0 0), d8]) d rfl call35 (by exact xR rfl rfl) (mi.nB (yl (.slice none 0 0) ([]) d8 ([a.Signed]) _ _ (Sl.nil _ _ _) ((lN.lit Bf (l := [a.Signed]) (.cons (ys := C5 a.Signed.kJ.Kind a.Signed.kJ.Head.kK a.Signed.kJ.Head.kP a.Signed.kJ.lH a.Signed.kJ.B.kK a.Signed.kJ.B.kP a.Signed.kJ.C.kK a.Signed.kJ.C.kP a.Signed.kJ.lM t a.Signed.Tag.length u) (ub.mk ⟨g5, rfl, Q⟩) .nil) rfl nb rfl).sl Bf d.kV (fun b o n => (by rw [cJ] at n; cases n; exact d.at_ Mh))) e4)) (fun i4 d => ?_)
    have m := d.has.kM (Db (Kb Sn))
    refine ⟨m, (XE 7 rfl (lO (cs := s.toArray) d (ot rfl) (nZ aF aC bE) (fun i5 c0 d => ?_)))⟩
    have m := d.has.kM (Db (Db (Kb Sn)))
    refine ⟨m, ?_⟩
    obtain rfl := sj z
    replace d := d.AN
    refine oa kr (Z _ _ ⟨(.slice (some ⟨c0, 0, none⟩) 1 1), [(c0, Ol s 113)], _, (d.kM (Sb (Pr (Pb Pz)) (Sb (Pr (Pb Pz)) (Kr (Db St))))), U, M, Y, A, q, rfl, rfl, rfl, (lN.lit kT (l := [a.kO]) (.cons (ys := C2 a.kO.Op a.kO.K a.kO.kI.kK a.kO.kI.kP g a.kO.Kids.length j) (kL.mk ⟨d9, rfl, T⟩) .nil) rfl nb rfl)⟩)
   ·refine lO (cs := s.toArray) d (ot rfl) (nZ aF aC bE) (fun i6 c1 d => ?_)
    have m := d.has.kM (Db (Db (Kb Sn)))
    refine ⟨m, (bS z fun j6 e5 z => XE 4 rfl (Eg d call35 (mi.nB (yl (.slice none 0 0) ([]) d8 ([a.Signed]) _ _ (Sl.nil _ _ _) ((lN.lit Bf (l := [a.Signed]) (.cons (ys := C5 a.Signed.kJ.Kind a.Signed.kJ.Head.kK a.Signed.kJ.Head.kP a.Signed.kJ.lH a.Signed.kJ.B.kK a.Signed.kJ.B.kP a.Signed.kJ.C.kK a.Signed.kJ.C.kP a.Signed.kJ.lM t a.Signed.Tag.length u) (ub.mk ⟨g5, rfl, Q⟩) .nil) rfl nb rfl).sl Bf d.kV (fun b o n => (by rw [cJ] at n; cases n; exact d.at_ (Mt Mh)))) e5)) (fun i7 d => ?_)))⟩
    have m := d.has.kM (Db (Db (Kb Sn)))
    refine ⟨m, ?_⟩
    obtain rfl := sj z
    replace d := d.AN
    refine oa kr (Z _ _ ⟨(.slice (some ⟨c1, 0, none⟩) 1 1), [(c1, Ol s 113)], _, (d.kM (Sb (Pr (Pb Pz)) (Sb (Pr (Pb Pz)) (Kr (Db St))))), U, M, Y, A, q, rfl, rfl, rfl, (lN.lit kT (l := [a.kO]) (.cons (ys := C2 a.kO.Op a.kO.K a.kO.kI.kK a.kO.kI.kP g a.kO.Kids.length j) (kL.mk ⟨d9, rfl, T⟩) .nil) rfl nb rfl)⟩)
  ·refine lO (cs := s.toArray) d (ot rfl) (nZ aF aC bE) (fun i8 c3 d => ?_)
   have m := d.has.kM (Db (Kb Sn))
   refine ⟨m, (XE 3 rfl (lO (cs := b8.toArray) d (ot rfl) (nZ kq kj kA) (fun i9 f5 d => ?_)))⟩
   have m := d.has.kM (Db (Db (Kb Sn)))
   refine ⟨m, (bS z fun j7 e6 z => XE 4 rfl (Eg d call35 (mi.nB (yl (.slice none 0 0) ([]) (.slice (some ⟨f5, 0, none⟩) 1 1) ([a.Signed]) _ _ (Sl.nil _ _ _) ((lN.lit Bf (l := [a.Signed]) (.cons (ys := C5 a.Signed.kJ.Kind a.Signed.kJ.Head.kK a.Signed.kJ.Head.kP a.Signed.kJ.lH a.Signed.kJ.B.kK a.Signed.kJ.B.kP a.Signed.kJ.C.kK a.Signed.kJ.C.kP a.Signed.kJ.lM t a.Signed.Tag.length u) (ub.mk ⟨g5, rfl, Q⟩) .nil) rfl nb rfl).sl Bf d.kV (fun b o n => (by rw [cJ] at n; cases n; exact d.at_ Mh))) e6)) (fun j0 d => ?_)))⟩
   have m := d.has.kM (Db (Db (Kb Sn)))
   refine ⟨m, ?_⟩
   obtain rfl := sj z
   replace d := d.perm (Nb (Pb Pz) Nz)
   replace d := d.AN
   refine oa kr (Z _ _ ⟨(.slice (some ⟨c3, 0, none⟩) 1 1), [(c3, Ol s 113)], _, (d.kM (Sb (Pr (Pb Pz)) (Sb (Pr (Pb Pz)) (Kr (Db St))))), U, M, Y, A, q, rfl, rfl, rfl, (lN.lit kT (l := [a.kO]) (.cons (ys := C2 a.kO.Op a.kO.K a.kO.kI.kK a.kO.kI.kP g a.kO.Kids.length j) (kL.mk ⟨d9, rfl, T⟩) .nil) rfl nb rfl)⟩)
 rintro E W ⟨I, R, ⟨q, A⟩, d, U, M, Y, H⟩
 rw [bD] at H
 refine li (lj (sg (V (lg LB U) (VB d Mh rfl rfl isAgg108 (V (nn dS rfl G) (Wm (ln ?_)))))))
 replace d := d.kM (Db St)
 refine CJ H (fun P E W => ∃ b6, ST false nl w W (hp w) b6 ∧ E 3 = (.int .i64 P)) (fun P c8 => ?_) ?_
 ·refine nm (fun i E W => ∃ K a2, (E 34 = .int .i64 (i : Nat) ∧ E 33 = .int .i64 (x.lC.length : Nat)) ∧ ST false nl w W (hp w) a2 ∧ E 3 = (.int .i64 K) ∧ E 32 = (.slice A3 x.lC.length c4) ∧ sS (x.lC.drop i) K = some P) x.lC.length G.len ⟨I, _, ⟨rfl, rfl⟩, (d.kM St), M, rfl, c8⟩ dc dc dc (fun _ _ _ h => by obtain ⟨_, _, v, _⟩ := h; exact v) ?_ ?_
  ·rintro f1 E W c6 ⟨K, a2, ⟨q, A⟩, d, a4, a5, k⟩
   obtain ⟨c, g8, d3, d2, d4⟩ := mT c6
   rw [d3] at k
   refine bg (VQ (nX (i := (f1 : Int)) (x0 := c) lX.out dS eY a5 q G (bA _) d2) (fun h5 ⟨_, ⟨h6, h7, rfl, a9, b0⟩, c9⟩ => V (kQ rfl (lR d.has c9 kF eY)) (VE (lZ d jK (fun g9 h4 d => ?_)))))
   obtain ⟨B, D, rfl⟩ := a9.form
   let d6 := (C2 c.kO.Op c.kO.K c.kO.kI.kK c.kO.kI.kP B c.kO.Kids.length D)
   obtain ⟨a1, a3, rfl⟩ := b0.form
   let c5 := (R5 c.kI.kK c.kI.kP c.kO.Op c.kO.K c.kO.kI.kK c.kO.kI.kP B c.kO.Kids.length D a1 c.nM.length a3)
   refine VO (lA (.agg c5.toArray) (c5.toArray) d rfl rfl eY oc nb rfl (fun h0 d => ln ?_))
   replace d := d.drew
   have m := d.has.kM (Kb Sn)
   refine mA m lL (X 0 rfl m (kZ a4) (X 1 rfl m (lg KV rfl) (X 2 rfl m (lg wv rfl) (XH 3 rfl m (fun _ p => kQ rfl (lB p Mh rfl cO)) (X 4 rfl m (qz cC rfl) (X 5 rfl m (lg KV rfl) (X 6 rfl m (lg xm rfl) (XH 7 rfl m (fun _ p => kQ rfl (lB p Mh rfl cO)) (X 8 rfl m (qz cC rfl) (X 9 rfl m (lW rfl rfl rfl) (X 10 rfl m (lg LC rfl) (XH 11 rfl m (fun _ p => kQ rfl (kX p Mh d6 rfl aS aC)) (X 16 rfl m (lg KN rfl) (XH 17 rfl m (fun _ p => kQ rfl (lB p Mh rfl isAgg22)) ?_))))))))))))))
   refine XE 12 rfl (lO (cs := d6.toArray) d (ot rfl) (nZ aF aC bE) (fun h1 d7 d => ?_))
   have m := d.has.kM (Db (Kb Sn))
   refine ⟨m, (bS k fun f2 d0 k => XE 13 rfl (Eg d call173 ((yA lE) (.slice (some ⟨d7, 0, none⟩) 1 1) ([c.kO]) _ _ ((lN.lit kT (l := [c.kO]) (.cons (ys := C2 c.kO.Op c.kO.K c.kO.kI.kK c.kO.kI.kP B c.kO.Kids.length D) (kL.mk ⟨(.slice B c.kO.Kids.length D), rfl, a9⟩) .nil) rfl nb rfl).sl kT d.kV (fun b o n => (by rw [cJ] at n; cases n; exact d.at_ Mh))) d0) (fun h2 d => ?_)))⟩
   have m := d.has.kM (Db (Kb Sn))
   refine ⟨m, (X 14 rfl m (lW rfl rfl rfl) (X 15 rfl m (lW rfl rfl rfl) (bS k fun f3 d1 k => XE 18 rfl (Eg d call21 (mi.nB (Ek (.slice a1 c.nM.length a3) c.nM _ _ (b0.mono (Pl.mono _) d.kV) d1)) (fun h3 d => ?_)))))⟩
   have m := d.has.kM (Db (Kb Sn))
   refine ⟨m, (X 19 rfl m (lW rfl rfl rfl) (X 20 rfl m (lW rfl rfl rfl) (X 21 rfl m (oM rfl) (mH kr (me (li ?_))))))⟩
   replace d := d.kM (Db (Db St))
   exact ⟨q, (IntKind.i64.wrap (K + (IntKind.i64.wrap ((IntKind.i64.wrap ((IntKind.i64.wrap ((c.kI.kK.size : Int) + (c.kI.kP.size : Int))) + (IntKind.i64.wrap (20 * f2)))) + f3)))), _, ⟨rfl, A⟩, (d.kM St), rfl, a5, (by rw [d4]; exact k)⟩
  rintro E W ⟨K, a2, ⟨q, A⟩, d, a4, a5, k⟩
  rw [bD] at k
  refine li ?_
  obtain rfl := sj k
  exact ⟨_, (d.kM St), a4⟩
 rintro h8 E W ⟨b6, d, e0⟩ c7
 exact sg (Wh e0 (Wa (lt (rQ c7 d))))
theorem IM (a : mj) (B D x z y J : Value) (r : Int) (w : World) (t : Sl lm 15 (hp w) B a.kK.kR) (u : Sl lX 8 (hp w) D a.kK.lC) (c : Sl lm 15 (hp w) x a.Client.kR) (i : Sl lX 8 (hp w) z a.Client.lC) (g : Sl kL 5 (hp w) y a.Formula.Kids) (I : Sl pq 2 (hp w) J a.Keys) (hm : yz a = some r) :
  mi false Tryz.prog 73 [(.agg #[(.string a.kK.Name), B, D, (.string a.Client.Name), x, z, (.int .i64 a.Formula.Op), (.int .i64 a.Formula.K), (.string a.Formula.kI.kK), (.string a.Formula.kI.kP), y, (.int .i64 a.pQ), (.int .i64 a.mX.qu), (.int .i64 a.mX.qv), (.int .i64 a.nw), (.int .i64 a.oB), (.int .i64 a.nU), J])] w (.int .i64 r) := by
 refine cG 20 func73 rfl (fun d => sg ?_)
 obtain ⟨A1, c2, rfl⟩ := t.form
 obtain ⟨A3, n, rfl⟩ := u.form
 let a3 := (C6 a.kK.Name A1 a.kK.kR.length c2 A3 a.kK.lC.length n)
 obtain ⟨N, U, rfl⟩ := c.form
 let a5 : Value := (.slice N a.Client.kR.length U)
 obtain ⟨Q, Y, rfl⟩ := i.form
 let b8 : Value := (.slice Q a.Client.lC.length Y)
 let a4 := (C6 a.Client.Name N a.Client.kR.length U Q a.Client.lC.length Y)
 obtain ⟨G, k, rfl⟩ := g.form
 let q : Value := (.slice G a.Formula.Kids.length k)
 let a0 := (C2 a.Formula.Op a.Formula.K a.Formula.kI.kK a.Formula.kI.kP G a.Formula.Kids.length k)
 obtain ⟨p, a2, rfl⟩ := I.form
 refine VE (mx d rfl (fun e8 c7 d => Wa (ln (lj ?_))))
 replace d := d.drew
 have h := d.has.kM (Kb Sn)
 refine mA h lL (X 0 rfl h (lg xz rfl) (XH 1 rfl h (fun _ m => kQ rfl (kX m Mh a3 rfl fC eA)) (X 3 rfl h (lg vI rfl) (XH 4 rfl h (fun _ m => kQ rfl (kX m Mh a4 rfl fC eA)) (X 7 rfl h (lg Fj rfl) (XH 8 rfl h (fun _ m => kQ rfl (kX m Mh a0 rfl aS aC)) (X 13 rfl h (lg Qe rfl) (XH 14 rfl h (fun _ m => kQ rfl (lB m Mh rfl isAgg49)) (PJ hm (fun Z E W => ∃ M T s, ST false nl w W (hp w) ((c7, Ol (C1 a.kK.Name A1 a.kK.kR.length c2 A3 a.kK.lC.length n a.Client.Name N a.Client.kR.length U Q a.Client.lC.length Y a.Formula.Op a.Formula.K a.Formula.kI.kK a.Formula.kI.kP G a.Formula.Kids.length k a.pQ a.mX.qu a.mX.qv a.nw a.oB a.nU p a.Keys.length a2) 116) :: (T ++ s)) ∧ E 2 = (.int .i64 0) ∧ E 9 = (.int .i64 Z.1) ∧ E 12 = M ∧ E 17 = (.slice p a.Keys.length a2) ∧ lN 113 kL 5 (hp w) M Z.2 T) (bm 18 25599) 6 ?_ (fun Z j K => ?_))))))))))
 ·rintro ⟨e7, c5⟩ E W ⟨M, T, s, d, d9, c0, c1, c3, b9⟩ H
  refine bS H fun e0 F H => XE 10 rfl (Eg d call173 ((yA lE) M c5 _ _ (b9.sl kT d.kV (fun b o hq => d.at_ (Mt (Ml hq)))) F) (fun c9 d => ?_) (ha := Tk c1))
  have h := d.has.kM (Kb Sn)
  refine ⟨h, (X 11 rfl h (lW rfl rfl rfl) (X 12 rfl h (lW c0 rfl rfl) (bS H fun e1 L H => XE 15 rfl (Eg d call35 (mi.nB (yl (.slice p a.Keys.length a2) a.Keys (.slice none 0 0) ([]) _ _ (I.mono qX.mono d.kV) (Sl.nil _ _ _) L)) (fun d0 d => ?_) (ha := Pv c3 rfl)))))⟩
  have h := d.has.kM (Kb Sn)
  refine ⟨h, (X 16 rfl h (lW rfl rfl rfl) (X 17 rfl h (oM rfl) (mH kr (li ?_))))⟩
  exact ma (rQ H d)
 refine BD 2 9 rfl rfl kr (.inl rfl) (.inl rfl) rfl rfl dc dc ?_ ?_
 ·refine bS j fun e2 O j => Fq (args := [(.agg a3.toArray)]) d rfl call102 (by exact wk rfl) (wz a.kK (.slice A1 a.kK.kR.length c2) (.slice A3 a.kK.lC.length n) _ _ (t.mono ll.mono d.kV) (u.mono mr.mono d.kV) O) (fun d1 d => ?_)
  have h := d.has.kM (Kb Sn)
  refine ⟨h, (BD 5 9 rfl rfl kr (.inl rfl) (.inl rfl) rfl rfl dc dc ?_ ?_)⟩
  ·refine bS j fun e3 P j => Fq (args := [(.agg a4.toArray)]) d rfl call102 (by exact wk rfl) (wz a.Client a5 b8 _ _ (c.mono ll.mono d.kV) (i.mono mr.mono d.kV) P) (fun d2 d => ?_)
   have h := d.has.kM (Kb Sn)
   refine ⟨h, (X 6 rfl h (lW rfl rfl rfl) (XE 9 rfl (lO (cs := a0.toArray) d (ot rfl) (nZ aF aC bE) (fun d3 v d => ?_))))⟩
   have h := d.has.kM (Db (Kb Sn))
   refine ⟨h, ?_⟩
   obtain rfl := sj j
   replace d := d.AN
   refine oa kr (K _ _ ⟨(.slice (some ⟨v, 0, none⟩) 1 1), [(v, Ol a0 113)], _, (d.kM (Sb (Pr Pz) St)), rfl, rfl, rfl, rfl, (lN.lit kT (l := [a.Formula]) (.cons (ys := C2 a.Formula.Op a.Formula.K a.Formula.kI.kK a.Formula.kI.kP G a.Formula.Kids.length k) (kL.mk ⟨q, rfl, g⟩) .nil) rfl nb rfl)⟩)
  ·refine lO (cs := a0.toArray) d (ot rfl) (nZ aF aC bE) (fun d4 a9 d => ?_)
   have h := d.has.kM (Db (Kb Sn))
   refine ⟨h, (bS j fun e4 R j => XE 5 rfl (Eg d call102 (wz a.Client a5 b8 _ _ (c.mono ll.mono d.kV) (i.mono mr.mono d.kV) R) (fun d5 d => ?_)))⟩
   have h := d.has.kM (Db (Kb Sn))
   refine ⟨h, (X 6 rfl h (lW rfl rfl rfl) ?_)⟩
   obtain rfl := sj j
   replace d := d.AN
   refine oa kr (K _ _ ⟨(.slice (some ⟨a9, 0, none⟩) 1 1), [(a9, Ol a0 113)], _, (d.kM (Sb (Pr Pz) St)), rfl, rfl, rfl, rfl, (lN.lit kT (l := [a.Formula]) (.cons (ys := C2 a.Formula.Op a.Formula.K a.Formula.kI.kK a.Formula.kI.kP G a.Formula.Kids.length k) (kL.mk ⟨q, rfl, g⟩) .nil) rfl nb rfl)⟩)
 ·refine lO (cs := a0.toArray) d (ot rfl) (nZ aF aC bE) (fun d6 A d => ?_)
  have h := d.has.kM (Db (Kb Sn))
  refine ⟨h, (bS j fun e5 b6 j => XE 2 rfl (Eg d call102 (wz a.kK (.slice A1 a.kK.kR.length c2) (.slice A3 a.kK.lC.length n) _ _ (t.mono ll.mono d.kV) (u.mono mr.mono d.kV) b6) (fun d7 d => ?_)))⟩
  have h := d.has.kM (Db (Kb Sn))
  refine ⟨h, (bS j fun e6 b7 j => XE 5 rfl (Eg d call102 (wz a.Client a5 b8 _ _ (c.mono ll.mono d.kV) (i.mono mr.mono d.kV) b7) (fun d8 d => ?_)))⟩
  have h := d.has.kM (Db (Kb Sn))
  refine ⟨h, (X 6 rfl h (lW rfl rfl rfl) ?_)⟩
  obtain rfl := sj j
  replace d := d.AN
  refine oa kr (K _ _ ⟨(.slice (some ⟨A, 0, none⟩) 1 1), [(A, Ol a0 113)], _, (d.kM (Sb (Pr Pz) St)), rfl, rfl, rfl, rfl, (lN.lit kT (l := [a.Formula]) (.cons (ys := C2 a.Formula.Op a.Formula.K a.Formula.kI.kK a.Formula.kI.kP G a.Formula.Kids.length k) (kL.mk ⟨q, rfl, g⟩) .nil) rfl nb rfl)⟩)
set_option maxHeartbeats 1000000 in
theorem EH (g : mj) (c0 d0 a6 b9 a7 g1 : Value) (r : Bool) (w : World) (G : Sl lm 15 (hp w) c0 g.kK.kR) (K : Sl lX 8 (hp w) d0 g.kK.lC) (D : Sl lm 15 (hp w) a6 g.Client.kR) (J : Sl lX 8 (hp w) b9 g.Client.lC) (I : Sl kL 5 (hp w) a7 g.Formula.Kids) (c9 : Sl pq 2 (hp w) g1 g.Keys) (hm : uZ g = some r) :
  mi false Tryz.prog 15 [(.agg #[(.string g.kK.Name), c0, d0, (.string g.Client.Name), a6, b9, (.int .i64 g.Formula.Op), (.int .i64 g.Formula.K), (.string g.Formula.kI.kK), (.string g.Formula.kI.kP), a7, (.int .i64 g.pQ), (.int .i64 g.mX.qu), (.int .i64 g.mX.qv), (.int .i64 g.nw), (.int .i64 g.oB), (.int .i64 g.nU), g1])] w (.bool r) := by
 refine cG 128 func15 rfl (fun d => sg ?_)
 obtain ⟨A1, c2, rfl⟩ := G.form
 let bq : Value := (.slice A1 g.kK.kR.length c2)
 obtain ⟨A3, c4, rfl⟩ := K.form
 let bx : Value := (.slice A3 g.kK.lC.length c4)
 obtain ⟨A5, c6, rfl⟩ := D.form
 let bp : Value := (.slice A5 g.Client.kR.length c6)
 obtain ⟨A7, c8, rfl⟩ := J.form
 let bw : Value := (.slice A7 g.Client.lC.length c8)
 obtain ⟨A9, a5, rfl⟩ := I.form
 let bu : Value := (.slice A9 g.Formula.Kids.length a5)
 obtain ⟨c1, c7, rfl⟩ := c9.form
 let ci : Value := (.slice c1 g.Keys.length c7)
 let b8 := (C1 g.kK.Name A1 g.kK.kR.length c2 A3 g.kK.lC.length c4 g.Client.Name A5 g.Client.kR.length c6 A7 g.Client.lC.length c8 g.Formula.Op g.Formula.K g.Formula.kI.kK g.Formula.kI.kP A9 g.Formula.Kids.length a5 g.pQ g.mX.qu g.mX.qv g.nw g.oB g.nU c1 g.Keys.length c7)
 refine VE (mx d rfl (fun aq A d => Wa (lS (bS hm fun bd v8 hm => VE (Eg d call82 (IH  _ _  v8) (fun ar d => V (qp rfl) (ln (CI hm rfl (fun v5 hm => ?_) (fun v5 hm => ?_)))))))))
 ·refine sg (Wa (ln ?_))
  replace d := d.kM (Db St)
  refine ma (mV ?_)
  obtain rfl := sj hm
  exact rP d
 refine kS (VA d Mh b8 cZ bX (bS hm fun be v9 hm => VE (Eg d call73 (IM g bq bx bp bw bu ci _ _ (G.mono ll.mono d.kV) (K.mono mr.mono d.kV) (D.mono ll.mono d.kV) (J.mono mr.mono d.kV) (I.mono kT.mono d.kV) (c9.mono qX.mono d.kV) v9) (fun au d => Wi rfl (ln (CI hm rfl (fun v6 hm => ?_) (fun v6 hm => ?_)))))))
 ·refine sg (Wa (ln ?_))
  replace d := d.kM (Db St)
  refine ma (mV ?_)
  obtain rfl := sj hm
  exact rP d
 refine kg (VA d Mh b8 cZ bX (bS hm fun c w0 hm => ?_))
 let cg := (((c.1).kK).kR)
 let cf := (((c.1).Client).kR)
 let cc : Value := (.int .i64 ((c.1).pQ))
 let ca : Value := (.int .i64 ((c.1).oB))
 let bz : Value := (.int .i64 ((c.1).nU))
 let bv : Value := (.int .i64 ((c.1).nw))
 let bt : Value := (.int .i64 (((c.1).mX).qv))
 let bs : Value := (.int .i64 (((c.1).mX).qu))
 let bb : Value := (.string (((c.1).kK).Name))
 let av : Value := (.int .i64 (((c.1).Formula).K))
 let v4 : Value := (.string (((c.1).Client).Name))
 let u5 : Value := (.int .i64 (((c.1).Formula).Op))
 let e9 := (((c.1).Formula).kI)
 let cd : Value := (.string (e9.kP))
 let cb : Value := (.string (e9.kK))
 refine VE (eD d (bM _) call90 (fun hh => (Da g bq bx bp bw bu ci _ _ hh (G.mono ll.mono (lz.refl _)) (K.mono mr.mono (lz.refl _)) (D.mono ll.mono (lz.refl _)) (J.mono mr.mono (lz.refl _)) (I.mono kT.mono (lz.refl _)) (c9.mono qX.mono (lz.refl _)) w0)) ?_ (L0 := []))
 rintro _ bh s1 ap d Q cm ⟨bi, bj, bk, bl, bn, bo, l8, rfl, f1, l9, f2, m0, m1, s0⟩
 obtain rfl := l8.symm
 refine Wm (Wx rfl (Wx rfl (VE (lZ d eO (fun aw a4 d => ?_)))))
 obtain ⟨T, Y, rfl⟩ := f1.form
 let d7 : Value := (.slice T cg.length Y)
 obtain ⟨a8, b1, rfl⟩ := l9.form
 let e7 : Value := (.slice a8 (((c.1).kK).lC).length b1)
 obtain ⟨U, Z, rfl⟩ := f2.form
 let d6 : Value := (.slice U cf.length Z)
 obtain ⟨a9, b2, rfl⟩ := m0.form
 let e6 : Value := (.slice a9 (((c.1).Client).lC).length b2)
 obtain ⟨b0, b3, rfl⟩ := m1.form
 let R : Value := (.slice b0 (((c.1).Formula).Kids).length b3)
 obtain ⟨d3, d4, rfl⟩ := s0.form
 let j2 : Value := (.slice d3 ((c.1).Keys).length d4)
 refine VO (lA (.agg #[bb, d7, e7, v4, d6, e6, u5, av, cb, cd, R, cc, bs, bt, bv, ca, bz, j2]) (#[bb, d7, e7, v4, d6, e6, u5, av, cb, cd, R, cc, bs, bt, bv, ca, bz, j2]) d rfl rfl bX oc nb rfl (fun ay d => Wa (lS (Wm (V (qp rfl) (ln (CI hm rfl (fun v7 hm => ?_) (fun v7 hm => ?_))))))))
 ·refine sg (Wf xz (VA d (Mt Mh) (C6 g.kK.Name A1 g.kK.kR.length c2 A3 g.kK.lC.length c4) fC eA (Wf vI (VA d (Mt Mh) (C6 g.Client.Name A5 g.Client.kR.length c6 A7 g.Client.lC.length c8) fC eA (Wf Fj (VA d (Mt Mh) (C2 g.Formula.Op g.Formula.K g.Formula.kI.kK g.Formula.kI.kP A9 g.Formula.Kids.length a5) aS aC (bS hm fun bf w1 hm => VE (Eg d call93 (zt g.kK bq bx g.Client bp bw g.Formula bu _ _ (G.mono ll.mono (Q.trans d.kV)) (K.mono mr.mono (Q.trans d.kV)) (D.mono ll.mono (Q.trans d.kV)) (J.mono mr.mono (Q.trans d.kV)) (I.mono kT.mono (Q.trans d.kV)) w1) (fun az d => V (qp rfl) (Wa (ln ?_)))))))))))
  replace d := d.kM (Db (Db St))
  refine ma (mV ?_)
  obtain rfl := sj hm
  exact rP d
 refine kg (VE (lZ d zeroValue135 (fun ba F d => lS (Wf xz (Wf pt (VB d (Mt Mh) rfl rfl eP (Wf vI (Wf pt ?_))))))))
 refine VB d (Mt Mh) rfl rfl eP (VE (lO (cs := #[d7, d6]) d (pE rfl rfl) (nZ jZ kk zeroValue107) (fun bc h6 d => V (Ab jZ rfl) (Wm (ln (mR (Ij 3 (Bl (sg (Wi rfl (ln (lj (tg rfl ?_)))))))))))))
 refine kn (lj (bg (Wm (V (A4 (i := 0) jZ kk rfl rfl dc dc rfl) (VB d Mh rfl rfl eP (Wa (Wa (lr ?_))))))))
 refine Wm (VE (B7 (P := Tryz.prog) (fun (x : kJ) => (.agg (kN x).toArray)) (fun (x : Bool) => (Value.bool x)) d (fun aa al u7 d n8 => V (rj (i := 0) iN jt rfl rfl dc dc) ?_)))
 obtain ⟨b7, rfl⟩ := n8.form
 replace d := d.perm (Nb (Pr (Pb Pz)) Nz)
 refine VO (lA (.map (some b7)) (#[(.map (some b7)), (.map none)]) d rfl rfl jt oc nb rfl (fun ab d => lr (Wm (V (nn bJ rfl f1) (Wm (ln (sf (nm (fun i E W => ∃ f9 d1 l2, (E 51 = .int .i64 (i : Nat) ∧ E 50 = .int .i64 (cg.length : Nat)) ∧ ST false nl w W s1 ((F, Ob #[(.map (some b7)), (.map none)] 135) :: ((h6, Ob #[d7, d6] 107) :: ((a4, Ob #[bb, d7, e7, v4, d6, e6, u5, av, cb, cd, R, cc, bs, bt, bv, ca, bz, j2] 116) :: ((A, Ol b8 116) :: (d1 ++ l2))))) ∧ E 1 = (.pointer (some ⟨A, 0, none⟩)) ∧ E 3 = (.pointer (some ⟨a4, 0, none⟩)) ∧ E 5 = (.pointer (some ⟨F, 0, none⟩)) ∧ E 6 = (.int .i64 0) ∧ E 39 = (.slice (some ⟨h6, 0, none⟩) 2 2) ∧ E 40 = (.int .i64 2) ∧ E 41 = (.int .i64 0) ∧ E 49 = d7 ∧ mL (fun (x : kJ) => (.agg (kN x).toArray)) (fun (x : Bool) => (Value.bool x)) (.map (some b7)) f9 d1 ∧ pY c g (cg.drop i) f9 = some r) cg.length f1.len ⟨([]), u7, _, ⟨rfl, rfl⟩, (d.kM (Kb (Sb (Pr Pz) (Sb (Pr Pz) (Sb (Pr Pz) St))))), rfl, rfl, rfl, rfl, rfl, rfl, rfl, rfl, n8, hm⟩ dc dc dc (fun _ _ _ h => by obtain ⟨_, _, _, s, _⟩ := h; exact s) ?_ ?_))))))))
 ·rintro w2 E W t3 ⟨f9, d1, l2, ⟨q, L⟩, d, l3, l4, h1, l5, k0, k1, l6, l7, k3, d5⟩
  obtain ⟨B, z9, u0, t9, u1⟩ := mT t3
  rw [u0] at d5
  refine bg (VQ (nX (i := (w2 : Int)) (x0 := B) lm.out bJ cR l7 q f1 (bA _) t9) (fun ak ⟨_, ⟨am, an, rfl, t6, t7⟩, t4⟩ => V (kQ rfl (lR d.has t4 jw cR)) (VE (lZ d eF (fun ac ai d => ?_)))))
  obtain ⟨o6, o9, rfl⟩ := t6.form
  obtain ⟨o7, p0, rfl⟩ := t7.form
  let d8 := (C3 B.Signed.kJ.Kind B.Signed.kJ.Head.kK B.Signed.kJ.Head.kP B.Signed.kJ.lH B.Signed.kJ.B.kK B.Signed.kJ.B.kP B.Signed.kJ.C.kK B.Signed.kJ.C.kP B.Signed.kJ.lM o6 B.Signed.Tag.length o9 B.kO.Op B.kO.K B.kO.kI.kK B.kO.kI.kP o7 B.kO.Kids.length p0)
  refine VO (lA (.agg d8.toArray) (d8.toArray) d rfl rfl cR oc nb rfl (fun ad d => ln ?_))
  replace d := d.drew
  have l := d.has.kM (Kb (Kb Sn))
  refine mA l lL (X 0 rfl l (kZ l5) (X 1 rfl l (rj (i := 0) iN jt h1 rfl dc dc) (XH 2 rfl l (fun _ m => kQ rfl (lB m (Mt Mh) rfl isAgg134)) (X 3 rfl l (lg xG rfl) (X 4 rfl l (lg zD rfl) (XH 5 rfl l (fun _ m => kQ rfl (kX m Mh (kN B.Signed.kJ) rfl cN aW)) ?_))))))
  replace d := d.perm (Nr (Qb (Qb (Qb (Qb (Qb Qz))))) Nz)
  refine XO 6 rfl (FG (k := B.Signed.kJ) (v := true) (vf := (fun (x : Bool) => (Value.bool x)))  LH kd d k3 rfl rfl rfl (fun ae u8 d t2 => ?_))
  have l := d.has.kM (Dr (Kb (Kb Sn)))
  refine ⟨l, (mH kr (me (li ?_)))⟩
  replace d := d.kM (Kr (Db St))
  exact ⟨q, (oy lV f9 B.Signed.kJ true), u8, _, ⟨rfl, L⟩, (d.kM (Sb (Pr Pz) (Sb (Pr Pz) (Sb (Pr Pz) (Sb (Pr Pz) St))))), l3, l4, h1, l5, k0, k1, l6, l7, t2, (by rw [u1]; exact d5)⟩
 rintro E W ⟨f9, d1, l2, ⟨q, L⟩, d, l3, l4, h1, l5, k0, k1, l6, l7, k3, d5⟩
 rw [bD] at d5
 refine li (me (li (lh (V (lW l6 rfl rfl) (Wm (ln (Bl (sg (V (lW rfl k1 rfl) (ln (lj ?_)))))))))))
 refine tg rfl (kn (lj (bg (Wm (V (A4 (i := 1) jZ kk k0 rfl dc dc rfl) (VB d (Mt Mh) rfl rfl eP (Wa (Wa (ln (lj ?_))))))))))
 refine lh (Wm (VE (B7 (P := Tryz.prog) (fun (x : kJ) => (.agg (kN x).toArray)) (fun (x : Bool) => (Value.bool x)) d (fun af ao u9 d n9 => V (rj (i := 1) iN jt h1 rfl dc dc) ?_))))
 obtain ⟨d2, rfl⟩ := n9.form
 let e8 := (#[(.map (some b7)), (.map (some d2))] : Array Value)
 replace d := d.perm (Nb (Pr Pz) Nz)
 let a0 := (#[bb, d7, e7, v4, d6, e6, u5, av, cb, cd, R, cc, bs, bt, bv, ca, bz, j2] : Array Value)
 let g5 : Value := (.pointer (some ⟨a4, 0, none⟩))
 let g6 : Value := (.pointer (some ⟨A, 0, none⟩))
 let j1 : Value := (.pointer (some ⟨F, 0, none⟩))
 refine VO (lA (.map (some d2)) (#[(.map (some b7)), (.map (some d2))]) d rfl rfl jt oc nb rfl (fun ag d => lr (Wm (V (nn bJ rfl f2) (Wm (ln (sf (CJ d5 (fun k4 E W => ∃ f0 o8, ST false nl w W s1 ((F, Obj.cells e8 135 (0, 0)) :: ((h6, Ob #[d7, d6] 107) :: ((a4, Obj.cells a0 116 (0, 0)) :: ((A, Ol b8 116) :: (f0 ++ (d1 ++ o8)))))) ∧ E 1 = g6 ∧ E 3 = g5 ∧ E 5 = j1 ∧ E 39 = (.slice (some ⟨h6, 0, none⟩) 2 2) ∧ E 40 = (.int .i64 2) ∧ E 41 = (.int .i64 1) ∧ mL (fun (x : kJ) => (.agg (kN x).toArray)) (fun (x : Bool) => (Value.bool x)) (.map (some d2)) k4 f0) (fun k4 q2 => ?_) ?_))))))))
 ·refine nm (fun i E W => ∃ f7 f3 i1, (E 51 = .int .i64 (i : Nat) ∧ E 50 = .int .i64 (cf.length : Nat)) ∧ ST false nl w W s1 ((F, Obj.cells e8 135 (0, 0)) :: ((h6, Ob #[d7, d6] 107) :: ((a4, Obj.cells a0 116 (0, 0)) :: ((A, Ol b8 116) :: (f3 ++ (d1 ++ i1)))))) ∧ E 1 = g6 ∧ E 3 = g5 ∧ E 5 = j1 ∧ E 6 = (.int .i64 1) ∧ E 39 = (.slice (some ⟨h6, 0, none⟩) 2 2) ∧ E 40 = (.int .i64 2) ∧ E 41 = (.int .i64 1) ∧ E 49 = d6 ∧ mL (fun (x : kJ) => (.agg (kN x).toArray)) (fun (x : Bool) => (Value.bool x)) (.map (some d2)) f7 f3 ∧ pZ (cf.drop i) f7 = some k4) cf.length f2.len ⟨([]), u9, _, ⟨rfl, rfl⟩, (d.kM (Kb (Sb (Pr Pz) (Sb (Pr Pz) (Sb (Pr Pz) St))))), l3, l4, h1, rfl, k0, k1, rfl, rfl, n9, q2⟩ dc dc dc (fun _ _ _ h => by obtain ⟨_, _, _, s, _⟩ := h; exact s) ?_ ?_
  ·rintro u2 E W p7 ⟨f7, f3, i1, ⟨q, L⟩, d, j3, j4, g7, j5, j6, j7, j8, j9, h5, b6⟩
   obtain ⟨y, w9, r8, r7, r9⟩ := mT p7
   rw [r8] at b6
   refine bg (VQ (nX (i := (u2 : Int)) (x0 := y) lm.out bJ cR j9 q f2 (bA _) r7) (fun y8 ⟨_, ⟨z4, z5, rfl, r3, r4⟩, r0⟩ => V (kQ rfl (lR d.has r0 jw cR)) (VE (lZ d eF (fun x6 x9 d => ?_)))))
   obtain ⟨m2, m9, rfl⟩ := r3.form
   obtain ⟨m3, n0, rfl⟩ := r4.form
   let d9 := (C3 y.Signed.kJ.Kind y.Signed.kJ.Head.kK y.Signed.kJ.Head.kP y.Signed.kJ.lH y.Signed.kJ.B.kK y.Signed.kJ.B.kP y.Signed.kJ.C.kK y.Signed.kJ.C.kP y.Signed.kJ.lM m2 y.Signed.Tag.length m9 y.kO.Op y.kO.K y.kO.kI.kK y.kO.kI.kP m3 y.kO.Kids.length n0)
   refine VO (lA (.agg d9.toArray) (d9.toArray) d rfl rfl cR oc nb rfl (fun x7 d => ln ?_))
   replace d := d.drew
   have l := d.has.kM (Kb (Kb Sn))
   refine mA l lL (X 0 rfl l (kZ j5) (X 1 rfl l (rj (i := 1) iN jt g7 rfl dc dc) (XH 2 rfl l (fun _ m => kQ rfl (lB m (Mt Mh) rfl isAgg134)) (X 3 rfl l (lg xG rfl) (X 4 rfl l (lg zD rfl) (XH 5 rfl l (fun _ m => kQ rfl (kX m Mh (kN y.Signed.kJ) rfl cN aW)) ?_))))))
   replace d := d.perm (Nr (Qb (Qb (Qb (Qb (Qb Qz))))) Nz)
   refine XO 6 rfl (FG (k := y.Signed.kJ) (v := true) (vf := (fun (x : Bool) => (Value.bool x)))  LH kd d h5 rfl rfl rfl (fun x8 s2 d p3 => ?_))
   have l := d.has.kM (Dr (Kb (Kb Sn)))
   refine ⟨l, (mH kr (me (li ?_)))⟩
   replace d := d.kM (Kr (Db St))
   exact ⟨q, (oy lV f7 y.Signed.kJ true), s2, _, ⟨rfl, L⟩, (d.kM (Sb (Pr Pz) (Sb (Pr Pz) (Sb (Pr Pz) (Sb (Pr Pz) St))))), j3, j4, g7, j5, j6, j7, j8, j9, p3, (by rw [r9]; exact b6)⟩
  rintro E W ⟨f7, f3, i1, ⟨q, L⟩, d, j3, j4, g7, j5, j6, j7, j8, j9, h5, b6⟩
  rw [bD] at b6
  refine li ?_
  obtain rfl := sj b6
  exact ⟨f3, _, (d.kM St), j3, j4, g7, j6, j7, j8, h5⟩
 rintro w3 E W ⟨f0, o8, d, p1, v0, v1, aj, v2, v3, t8⟩ k2
 refine me (li (lh (V (lW v3 rfl rfl) (Wm (ln (Bl (sg (V (lW rfl v2 rfl) (ln (lj (qR rfl ?_)))))))))))
 refine og (nT (nT (su (li ?_))))
 replace d := d.kM (Kb (Db St))
 refine lj (sg (V (kQ p1 (kX d.has (Mt (Mt Mh)) b8 rfl cZ bX)) (bS k2 fun g0 t5 k2 => VE (zK d call83 (zN g bq bx bp bw bu ci _ _ (G.mono ll.mono (Q.trans d.kV)) (K.mono mr.mono (Q.trans d.kV)) (D.mono ll.mono (Q.trans d.kV)) (J.mono mr.mono (Q.trans d.kV)) (I.mono kT.mono (Q.trans d.kV)) (c9.mono qX.mono (Q.trans d.kV)) t5) (fun ah k5 O i2 d N ck g8 => V (rY fN rfl g8) (Wm (ln (Tf k2 (fun o1 E W => ∃ m4, ST false nl w W O ((a4, Obj.cells a0 116 (0, 0)) :: m4) ∧ E 3 = g5) (fun o1 p9 h3 => ?_) ?_))))))))
 ·let ch : Value := (.int .i64 (g0.length : Int))
  refine nm (fun i E W => ∃ i0, (E 66 = .int .i64 (i : Nat) ∧ E 65 = .int .i64 (g0.length : Nat)) ∧ ST false nl w W O ((F, Obj.cells e8 135 (0, 0)) :: ((a4, Obj.cells a0 116 (0, 0)) :: ((A, Ol b8 116) :: (i2 ++ (f0 ++ (d1 ++ i0)))))) ∧ E 1 = g6 ∧ E 3 = g5 ∧ E 5 = j1 ∧ E 64 = k5 ∧ pe g f9 w3 (g0.drop i) = some o1) g0.length g8.len ⟨_, ⟨rfl, rfl⟩, (d.kM (Sb (Pr Pz) (Sb (Pr Pz) (Sb (Pr Pz) St)))), p1, v0, v1, rfl, p9⟩ dc dc dc (fun _ _ _ h => by obtain ⟨_, s, _⟩ := h; exact s) ?_ ?_
  ·rintro g9 E W p6 ⟨i0, ⟨q, L⟩, d, f5, g2, i3, g3, b5⟩
   let cj : Value := (.int .i64 (g9 : Int))
   obtain ⟨a3, w8, r5, k9, r6⟩ := mT p6
   let ce := ((nC a3).toArray : Array Value)
   rw [r5] at b5
   refine bg (VQ (th (i := (g9 : Int)) (x0 := a3) fN jM g3 q g8 (bA _) k9) (fun y1 q3 => V (kQ rfl (xr d.has (fun p hq => (Mt (Mt (Mt (Ml hq))))) g8 xL q3 k9 isAgg114 jM)) (VE (lZ d ji (fun x4 f4 d => VO (lA (.agg (nC a3).toArray) ((nC a3).toArray) d rfl rfl jM (DQ a3) nb rfl (fun x5 d => lr (V (lg xz f5) (Wf pt (VB d (Mt (Mt (Mt Mh))) rfl rfl eP (Wa ?_)))))))))))
   refine ln (lj (CJ b5 (fun o4 E W => ∃ h0 m6, ST false nl w W O ((f4, Obj.cells ce 114 (0, 0)) :: ((F, Obj.cells e8 135 (0, 0)) :: ((a4, Obj.cells a0 116 (0, 0)) :: ((A, Ol b8 116) :: (i2 ++ (f0 ++ (d1 ++ m6))))))) ∧ E 1 = g6 ∧ E 3 = g5 ∧ E 5 = j1 ∧ E 11 = (.pointer (some ⟨f4, 0, none⟩)) ∧ E 12 = h0 ∧ E 64 = k5 ∧ E 65 = ch ∧ E 66 = cj ∧ Sl lm 15 O h0 o4) (fun o4 e2 => ?_) ?_))
   ·refine sg (V (rj (i := 0) fH fK rfl rfl dc dc) (VB d Mh rfl rfl cV (Wi rfl (ln (CI e2 rfl (fun p5 e2 => ?_) (fun p5 e2 => ?_))))))
    ·refine lh (V (lg vI f5) (Wf pt (VB d (Mt (Mt (Mt Mh))) rfl rfl eP (Wa (ln ?_)))))
     obtain rfl := sj e2
     exact ⟨bp, _, (d.kM St), f5, g2, i3, rfl, rfl, g3, L, q, (D.mono ll.mono (Q.trans N))⟩
    refine kn ?_
    obtain rfl := sj e2
    exact ⟨bq, _, (d.kM St), f5, g2, i3, rfl, rfl, g3, L, q, (G.mono ll.mono (Q.trans N))⟩
   rintro y0 E W ⟨h0, m6, d, n1, n2, n3, g4, i4, n4, n5, n6, h4⟩ q0
   refine lj ?_
   replace d := d.drew
   have l := d.has.kM (Kb (Kb (Db (Db (Dr (Kr (Kr Sn)))))))
   refine mA l lL (X 0 rfl l (rj (i := 1) fH fK g4 rfl dc dc) (XH 1 rfl l (fun _ m => kQ rfl (lB m Mh rfl cV)) (X 2 rfl l (lW rfl rfl rfl) (X 3 rfl l (kZ rfl) (PJ q0 (fun o3 E W => ∃ m7, ST false nl w W O ((f4, Obj.cells ce 114 (0, 0)) :: ((F, Obj.cells e8 135 (0, 0)) :: ((a4, Obj.cells a0 116 (0, 0)) :: ((A, Ol b8 116) :: (i2 ++ (f0 ++ (d1 ++ m7))))))) ∧ E 1 = g6 ∧ E 3 = g5 ∧ E 5 = j1 ∧ E 11 = (.pointer (some ⟨f4, 0, none⟩)) ∧ E 12 = h0 ∧ E 64 = k5 ∧ E 65 = ch ∧ E 66 = cj ∧ E 88 = (.bool o3)) (bm 26 1023) 16 ?_ (fun o3 e1 h9 => ?_))))))
   ·rintro z7 E W ⟨m7, d, i5, i6, f6, i7, n7, i8, i9, j0, s4⟩ q1
    have l := d.has.kM (Kb (Kb (Db (Db (Dr (Kr (Kr Sn)))))))
    refine X 10 rfl l (kZ s4) (PJ q1 (fun o2 E W => ∃ m8, ST false nl w W O ((f4, Obj.cells ce 114 (0, 0)) :: ((F, Obj.cells e8 135 (0, 0)) :: ((a4, Obj.cells a0 116 (0, 0)) :: ((A, Ol b8 116) :: (i2 ++ (f0 ++ (d1 ++ m8))))))) ∧ E 1 = g6 ∧ E 3 = g5 ∧ E 5 = j1 ∧ E 64 = k5 ∧ E 65 = ch ∧ E 66 = cj ∧ E 104 = (.bool o2)) (bm 26 67108863) 0 ?_ (fun o2 H f8 => ?_))
    ·rintro z8 E W ⟨m8, d, s5, s6, s7, s8, s9, t0, t1⟩ e0
     refine mH kr (li ?_)
     replace d := d.kM (Db St)
     refine CI e0 t1 (fun p4 e0 => ?_) (fun p4 e0 => ?_)
     ·refine sg (Wa (ln ?_))
      replace d := d.kM (Db (Db (Db (Dr (Dr (Dr St))))))
      refine ma (qI (mV (qI (mV ?_))))
      obtain rfl := sj e0
      replace h3 : some false = some r := h3
      obtain rfl := sj h3
      exact rP d
     exact nt (me (li ⟨t0, _, ⟨rfl, s9⟩, (d.kM St), s5, s6, s7, s8, (by rw [r6]; exact e0)⟩))
    refine bC H (fun t H => ?_) (fun t H => ?_)
    ·refine Xn 11 rfl rfl (cB t) l (Xn 12 rfl rfl (cB t) l (Xn 13 rfl rfl (cB t) l (Xn 14 rfl rfl (cB t) l (Xn 15 rfl rfl (cB t) l (Xn 16 rfl rfl (cB t) l (Xn 17 rfl rfl (cB t) l (Xn 18 rfl rfl (cB t) l (Xn 19 rfl rfl (cB t) l (Xn 20 rfl rfl (cB t) l (Xn 21 rfl rfl (cB t) l (Xn 22 rfl rfl (cB t) l (Xn 23 rfl rfl (cB t) l (Xn 24 rfl rfl (cB t) l (X 25 rfl l (mh (cB t) rfl) ?_))))))))))))))
     obtain rfl := sj H
     refine oa kr (f8 _ _ ⟨_, (d.kM St), i5, i6, f6, i8, i9, j0, rfl⟩)
    refine Xg 11 rfl rfl (cB t) l (rj (i := 0) fH fK i7 rfl dc dc) (te 12 rfl rfl (cB t) l (fun _ m => kQ rfl (lB m Mh rfl cV)) (Xg 13 rfl rfl (cB t) l (Mm (k := .i64) (a := a3.qu) (b := 1) (v := (.int .i64 (IntKind.i64.wrap (BitVec.ofInt (IntKind.bits .i64) a3.qu &&& BitVec.ofInt (IntKind.bits .i64) 1).toNat))) rfl rfl dc rfl) (bC H (fun k7 H => ?_) (fun k7 H => ?_))))
    ·refine Xg 14 rfl rfl (cB t) l (rj (i := 0) iN jt f6 (SY (j := 0) k7 rfl) dc dc) (te 15 rfl rfl (cB t) l (fun _ m => kQ rfl (lB m (Mt Mh) rfl isAgg134)) (Xg 16 rfl rfl (cB t) l (kZ n7) (Xg 17 rfl rfl (cB t) l (rj (i := 1) fH fK i7 rfl dc dc) (te 18 rfl rfl (cB t) l (fun _ m => kQ rfl (lB m Mh rfl cV)) (bS H fun n l0 H => rJ 19 rfl kr (.inr ⟨10, false, 89, rfl, rfl, by decide, (cB t)⟩) rfl dc (fun _ _ h => h) l (nX (i := a3.qv) (x0 := n) lm.out bJ cR rfl rfl h4 (lK l0) (lI l0)) (fun y2 ⟨_, ⟨u3, z2, rfl, w4, w5⟩, q4⟩ => rJ 20 rfl kr (.inr ⟨10, false, 89, rfl, rfl, by decide, (cB t)⟩) rfl dc (fun _ _ h => h) l (uf [(.int .i64 n.Signed.kJ.Kind), (.string n.Signed.kJ.Head.kK), (.string n.Signed.kJ.Head.kP), (.string n.Signed.kJ.lH), (.string n.Signed.kJ.B.kK), (.string n.Signed.kJ.B.kP), (.string n.Signed.kJ.C.kK), (.string n.Signed.kJ.C.kP), (.string n.Signed.kJ.lM), u3] xG rfl q4 rfl) (fun y3 q5 => rJ 21 rfl kr (.inr ⟨10, false, 89, rfl, rfl, by decide, (cB t)⟩) rfl dc (fun _ _ h => h) l (uf (kN n.Signed.kJ) zD rfl q5 rfl) (fun y4 q6 => te 22 rfl rfl (cB t) l (fun _ m => kQ rfl (lR m q6 cN aW)) (te 23 rfl rfl (cB t) l (fun _ m => xe (k := n.Signed.kJ) (z := false) (vf := (fun (x : Bool) => (Value.bool x))) LH kd js rfl rfl (k3.at (fun b o hq => m.2 b o (Mt (Mt (Ma (Ml hq))))))) (Xg 24 rfl rfl (cB t) l (qp rfl) (X 25 rfl l (mg (cB t) rfl) ?_)))))))))))
     obtain rfl := sj H
     refine oa kr (f8 _ _ ⟨_, (d.kM St), i5, i6, f6, i8, i9, j0, rfl⟩)
    refine bC H (fun k8 H => ?_) (fun k8 H => ?_)
    ·refine Xg 14 rfl rfl (cB t) l (rj (i := 1) iN jt f6 (SY (j := 1) k8 rfl) dc dc) (te 15 rfl rfl (cB t) l (fun _ m => kQ rfl (lB m (Mt Mh) rfl isAgg134)) (Xg 16 rfl rfl (cB t) l (kZ n7) (Xg 17 rfl rfl (cB t) l (rj (i := 1) fH fK i7 rfl dc dc) (te 18 rfl rfl (cB t) l (fun _ m => kQ rfl (lB m Mh rfl cV)) (bS H fun a2 l1 H => rJ 19 rfl kr (.inr ⟨10, false, 89, rfl, rfl, by decide, (cB t)⟩) rfl dc (fun _ _ h => h) l (nX (i := a3.qv) (x0 := a2) lm.out bJ cR rfl rfl h4 (lK l1) (lI l1)) (fun y5 ⟨_, ⟨u4, z3, rfl, w6, w7⟩, q7⟩ => rJ 20 rfl kr (.inr ⟨10, false, 89, rfl, rfl, by decide, (cB t)⟩) rfl dc (fun _ _ h => h) l (uf [(.int .i64 a2.Signed.kJ.Kind), (.string a2.Signed.kJ.Head.kK), (.string a2.Signed.kJ.Head.kP), (.string a2.Signed.kJ.lH), (.string a2.Signed.kJ.B.kK), (.string a2.Signed.kJ.B.kP), (.string a2.Signed.kJ.C.kK), (.string a2.Signed.kJ.C.kP), (.string a2.Signed.kJ.lM), u4] xG rfl q7 rfl) (fun y6 q8 => rJ 21 rfl kr (.inr ⟨10, false, 89, rfl, rfl, by decide, (cB t)⟩) rfl dc (fun _ _ h => h) l (uf (kN a2.Signed.kJ) zD rfl q8 rfl) (fun y7 q9 => te 22 rfl rfl (cB t) l (fun _ m => kQ rfl (lR m q9 cN aW)) (te 23 rfl rfl (cB t) l (fun _ m => xe (k := a2.Signed.kJ) (z := false) (vf := (fun (x : Bool) => (Value.bool x))) LH kd js rfl rfl (t8.at (fun b o hq => m.2 b o (Mt (Mt (Ml hq)))))) (Xg 24 rfl rfl (cB t) l (qp rfl) (X 25 rfl l (mg (cB t) rfl) ?_)))))))))))
     obtain rfl := sj H
     refine oa kr (f8 _ _ ⟨_, (d.kM St), i5, i6, f6, i8, i9, j0, rfl⟩)
    cases H
   refine bC e1 (fun M e1 => ?_) (fun M e1 => ?_)
   ·refine Xn 4 rfl rfl (cB M) l (Xn 5 rfl rfl (cB M) l (Xn 6 rfl rfl (cB M) l (Xn 7 rfl rfl (cB M) l (Xn 8 rfl rfl (cB M) l (X 9 rfl l (mh (cB M) rfl) ?_)))))
    obtain rfl := sj e1
    refine oa kr (h9 _ _ ⟨_, (d.kM St), n1, n2, n3, g4, i4, n4, n5, n6, rfl⟩)
   refine Xg 4 rfl rfl (cB M) l (rj (i := 1) fH fK g4 rfl dc dc) (te 5 rfl rfl (cB M) l (fun _ m => kQ rfl (lB m Mh rfl cV)) (Xg 6 rfl rfl (cB M) l (kZ i4) (Xg 7 rfl rfl (cB M) l (nn bJ rfl h4) (Xg 8 rfl rfl (cB M) l (lW rfl rfl rfl) (X 9 rfl l (mg (cB M) rfl) ?_)))))
   obtain rfl := sj e1
   refine oa kr (h9 _ _ ⟨_, (d.kM St), n1, n2, n3, g4, i4, n4, n5, n6, rfl⟩)
  rintro E W ⟨i0, ⟨q, L⟩, d, f5, g2, i3, g3, b5⟩
  rw [bD] at b5
  refine li ?_
  obtain rfl := sj b5
  exact ⟨_, rfl, _, (d.kM (Db (Kb (Db (Dr (Dr (Dr St))))))), g2⟩
 rintro ⟨⟩ E W ⟨m4, d, e4⟩ h2
 refine lj ?_
 replace d := d.drew
 have l := d.has.kM (Kb Sn)
 refine mA l lL (X 0 rfl l (lg xz e4) (XH 1 rfl l (fun _ m => kQ rfl (kX m Mh [bb, d7, e7] rfl fC eA)) (X 2 rfl l (lg vI e4) (XH 3 rfl l (fun _ m => kQ rfl (kX m Mh [v4, d6, e6] rfl fC eA)) (X 4 rfl l (lg Fj e4) (XH 5 rfl l (fun _ m => kQ rfl (kX m Mh [u5, av, cb, cd, R] rfl aS aC)) (bS h2 fun y9 r1 h2 => XE 6 rfl (Eg d call93 (zt ((c.1).kK) d7 e7 ((c.1).Client) d6 e6 ((c.1).Formula) R _ _ (f1.mono ll.mono (N.trans d.kV)) (l9.mono mr.mono (N.trans d.kV)) (f2.mono ll.mono (N.trans d.kV)) (m0.mono mr.mono (N.trans d.kV)) (m1.mono kT.mono (N.trans d.kV)) r1) (fun x2 d => ?_)))))))))
 have l := d.has.kM (Kb Sn)
 refine ⟨l, (X 7 rfl l (kZ rfl) (PJ h2 (fun o0 E W => ∃ k6 m5, lz O k6 ∧ ST false nl w W k6 ((a4, Obj.cells a0 116 (0, 0)) :: m5) ∧ E 127 = (.bool o0)) (bm 23 4194303) 1 ?_ (fun o0 b4 h8 => ?_)))⟩
 ·rintro z6 E W ⟨k6, m5, o5, d, s3⟩ p8
  have l := d.has.sW o5 (Kb Sn)
  refine X 22 rfl l (oM s3) (mH kr (li ?_))
  exact ma (rQ p8 d)
 refine bC b4 (fun u b4 => ?_) (fun u b4 => ?_)
 ·refine te 8 rfl rfl (cB u) l (fun _ m => kQ e4 (kX m Mh [bb, d7, e7, v4, d6, e6, u5, av, cb, cd, R, cc, bs, bt, bv, ca, bz, j2] rfl cZ bX)) (Xg 11 rfl rfl (cB u) l (lg xz e4) (Xg 12 rfl rfl (cB u) l (lg pt rfl) (te 13 rfl rfl (cB u) l (fun _ m => kQ rfl (lB m Mh rfl eP)) (Xg 14 rfl rfl (cB u) l (nn bJ rfl f1) (Xg 15 rfl rfl (cB u) l (lg vI e4) (Xg 16 rfl rfl (cB u) l (lg pt rfl) (te 17 rfl rfl (cB u) l (fun _ m => kQ rfl (lB m Mh rfl eP)) (Xg 18 rfl rfl (cB u) l (nn bJ rfl f2) (Xg 19 rfl rfl (cB u) l (lW rfl rfl rfl) (bS b4 fun z0 r2 b4 => It 9 rfl rfl (cB u) (zK d call83 (zN c.1 d7 e7 d6 e6 R j2 _ _ (f1.mono ll.mono (N.trans d.kV)) (l9.mono mr.mono (N.trans d.kV)) (f2.mono ll.mono (N.trans d.kV)) (m0.mono mr.mono (N.trans d.kV)) (m1.mono kT.mono (N.trans d.kV)) (s0.mono qX.mono (N.trans d.kV)) r2) (fun x3 z1 u6 x1 d h7 aE p2 => ?_))))))))))))
  have l := d.has.sW h7 (Dr (Kb Sn))
  refine ⟨l, (Xg 10 rfl rfl (cB u) l (rY fN rfl p2) (Xg 20 rfl rfl (cB u) l (lW rfl rfl rfl) (X 21 rfl l (mh (cB u) rfl) ?_)))⟩
  obtain rfl := sj b4
  refine oa kr (h8 _ _ ⟨u6, _, h7, (d.kM (Dr St)), rfl⟩)
 refine Xn 8 rfl rfl (cB u) l (Xn 9 rfl rfl (cB u) l (Xn 10 rfl rfl (cB u) l (Xn 11 rfl rfl (cB u) l (Xn 12 rfl rfl (cB u) l (Xn 13 rfl rfl (cB u) l (Xn 14 rfl rfl (cB u) l (Xn 15 rfl rfl (cB u) l (Xn 16 rfl rfl (cB u) l (Xn 17 rfl rfl (cB u) l (Xn 18 rfl rfl (cB u) l (Xn 19 rfl rfl (cB u) l (Xn 20 rfl rfl (cB u) l (X 21 rfl l (mg (cB u) rfl) ?_)))))))))))))
 obtain rfl := sj b4
 refine oa kr (h8 _ _ ⟨O, _, (lz.refl _), (d.kM St), rfl⟩)
end Go.Proofs.YtmlncblocfcmiaaGreat
