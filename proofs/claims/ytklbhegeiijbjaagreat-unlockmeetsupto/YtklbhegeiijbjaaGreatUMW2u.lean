/- a part of a proof of UnlockMeets -/
import Derived.Test.YtklbhegeiijbjaaGreatUMW1u
set_option linter.all false
namespace Go.Proofs.YtklbhegeiijbjaaGreat
open Go.IntKind renaming wrap → wi0
open Go.Proofs.Tryz renaming prog → pg0
open Go.RowKit
set_option maxRecDepth 10000
open Tryz
theorem ui (j : Nat) (a0 : lh) (c : Int) (K : Value) (a2 : List Formula) (r : (Formula × lh)) (w : World) {μ0 : kL} (h0 : nN μ0 ((j, Ol (mi a0) 249) :: []) w) (b5 : Sl kf 5 μ0 K a2) (hm : oG a0 c a2 = some r) :
  mj false pg0 248 [(.pointer (some ⟨j, 0, none⟩)), (.int .i64 c), K] w μ0 ((j, Ol (mi a0) 249) :: []) (fun v L1 μ1 => ∃ y1, v = (.agg #[(.int .i64 ((r.1).Op)), (.int .i64 ((r.1).K)), (.string (((r.1).kd).kj)), (.string (((r.1).kd).kq)), y1]) ∧ L1 = ((j, Ol (mi (r.2)) 249) :: []) ∧ Sl kf 5 μ1 y1 ((r.1).Kids)) := by
 refine vt h0 37 func248 rfl (fun b => sg (VE (ll b bK (fun W2 P b => lr (Wm (Wi rfl (VE (ll b zeroValue3 (fun W4 q b => VO (kJ (.int .i64 (wi0 .i64 (5 - c))) (#[(.int .i64 (wi0 .i64 (5 - c)))]) b rfl rfl iz (E5 _ (wi0 .i64 (5 - c))) nb rfl (fun W5 b => ln (kA ?_))))))))))))
 let m := (wi0 .i64 (5 - c))
 let p : Value := (.agg (RW m).toArray)
 refine kB (Wm (Wm (bS hm fun r6 d1 hm => ?_)))
 refine VE (eD b (bI _) call289 (fun n => mj.lZ (IW c K a2 _ _ n (b5.mono kz.mono (kH.refl _)) d1)) ?_ (L0 := []))
 rintro _ f4 aa e2 b B d ⟨O, H, rfl, a3⟩
 obtain rfl := H.symm
 refine Wa (lS (Wm (V (qv (by exact sW rfl) rfl) (bS hm fun f3 c1 hm => VE (Eg b call194 (vg O r6 (.func (.func 290) #[] #[(.pointer (some ⟨q, 0, none⟩))]) (fun (x : Formula) => qU x m) _ _ (a3.mono kz.mono b.kw) ⟨290, #[], #[(.pointer (some ⟨q, 0, none⟩))], rfl, call290, fun W x vs r R s hm => by obtain ⟨_, rfl, U⟩ := s; obtain ⟨F, rfl, A⟩ := U.out; exact (AQ x F q m r W A (At.of (R _ _ (b.at_ Mh)) _ rfl) hm).lZ⟩ c1) (fun e5 b => ln (CI hm rfl (fun b6 hm => ?_) (fun b6 hm => ?_))))))))
 ·refine sg (VB b Mh rfl rfl dz (V (mK (v := p) (nh rfl) (me bK cD (Ar _ cD) kr)) ?_))
  replace b := b.perm (Nb (Pb Pz) Nz)
  refine VO (kJ p ((RW m).toArray) b rfl rfl aD oc nb rfl (fun e6 b => ln ?_))
  replace b := b.kh (Kb (Db St))
  refine kM (kU ?_)
  obtain rfl := sj hm
  exact qh (v := p) rfl rfl (kx b.has Mh (RW m) rfl bA aD) ⟨_, _, _, rfl, (b.mI (Db (Kb Sn))), B, d, (ST.lO b (nm.mem (Db (Kb Sn)))), (.slice none 0 0), rfl, rfl, (Sl.nil _ _ _)⟩
 refine kn ?_
 replace b := b.kh (Db St)
 refine sg (Wm (bS hm fun d2 c2 hm => ?_))
 refine VE (eD b (bI _) call288 (fun n => (CQ O r6 _ _ n (a3.mono kz.mono (kH.refl _)) c2)) ?_ (L0 := []))
 rintro _ f5 f9 e3 b N h ⟨d5, c7, I, rfl, c4⟩
 obtain rfl := I.symm
 replace b := b.perm (Tr Tn)
 refine bS hm fun z c3 hm => ?_
 refine VE (eD b (Cr Qz Cn) call291 (fun n => (zK d5 d2 c7 (.func (.func 292) #[] #[]) (fun (x : (Formula × Formula)) => oC kT x.1 x.2) _ _ n c4 ⟨292, #[], #[], rfl, call292, fun W x vs r R s hm => by obtain ⟨_, _, rfl, U, d0⟩ := s; obtain ⟨F, rfl, A⟩ := U.out; obtain ⟨t0, rfl, j0⟩ := d0.out; exact (CX kT) x.1 F x.2 t0 r W A j0 hm⟩ c3)) ?_)
 rintro _ f6 d7 e4 b Q l ⟨d6, J, rfl, y⟩
 obtain rfl := J.symm
 refine Wa (ln (kA (CJ hm (fun L E W => ∃ a5, ST false (keys ((j, Ol (mi a0) 249) :: [])) w W d7 ((P, Ol C5 58) :: ((j, Ol (mi L) 249) :: a5)) ∧ E 1 = (.int .i64 c) ∧ E 6 = (.pointer (some ⟨P, 0, none⟩)) ∧ E 8 = d6) (fun L u => ?_) ?_)))
 ·refine sg (Wm (V (lT aF rfl y) (Wi rfl (ln (CI u rfl (fun b9 u => ?_) (fun b9 u => ?_))))))
  ·refine kB (Wm (Wn (Wf KZ ?_)))
   replace b := b.perm (Nb (Pb Pz) Nz)
   refine VO (kJ (.int .i64 12) ((mi (⟨12⟩ : lh)).toArray) b rfl rfl sizeOf40 (E5 _ 12) nb rfl (fun f1 b => ln ?_))
   obtain rfl := sj u
   exact ⟨_, (b.kh (Sb (Pb Pz) St)), rfl, rfl, rfl⟩
  refine kn ?_
  obtain rfl := sj u
  exact ⟨_, (b.kh St), rfl, rfl, rfl⟩
 rintro f8 E W ⟨a5, b, c9, M, T⟩ g
 refine kA (sg (Wh T (V (lT aF rfl y) (Wi rfl (ln (CI g rfl (fun b7 g => ?_) (fun b7 g => ?_)))))))
 ·refine sg (Wh T (bS g fun a Z g => VQ (nM (i := 0) (x0 := a) kf.out aF aD rfl rfl y (kI Z) (kF Z)) (fun f2 ⟨_, ⟨f7, rfl, Y⟩, c0⟩ => V (kl rfl (kO b.has c0 bA aD)) ?_)))
  obtain ⟨D, G, rfl⟩ := Y.form
  let a4 := (C1 a.Op a.K a.kd.kj a.kd.kq D a.Kids.length G)
  refine VO (kJ (.agg a4.toArray) (a4.toArray) b M rfl aD oc nb rfl (fun e9 b => lt (kU ?_)))
  obtain rfl := sj g
  exact qh (v := (.agg a4.toArray)) rfl M (kx b.has Mh a4 rfl bA aD) ⟨_, _, _, rfl, (b.mI (Db (Kb Sn))), ((B.trans N).trans Q), ((d.trans h).trans l), (ST.lO b (nm.mem (Db (Kb Sn)))), (.slice D a.Kids.length G), rfl, rfl, Y⟩
 refine kg (Wh c9 (Wh T ?_))
 obtain ⟨k, t, rfl⟩ := y.form
 let a9 : Value := (.slice k z.length t)
 let o : Value := (.agg #[(.int .i64 c), (.int .i64 0), (.string zS), (.string zS), a9])
 refine V (mK (v := o) (oP rfl rfl) (me bK cD (Ar _ cD) kr)) (VO (kJ o (#[(.int .i64 c), (.int .i64 0), (.string zS), (.string zS), a9]) b M rfl aD oc nb rfl (fun f0 b => lt ?_)))
 obtain rfl := sj g
 exact qh (v := o) rfl M (kx b.has Mh [(.int .i64 c), (.int .i64 0), (.string zS), (.string zS), a9] rfl bA aD) ⟨_, _, _, rfl, (b.mI (Db (Kb Sn))), ((B.trans N).trans Q), ((d.trans h).trans l), (ST.lO b (nm.mem (Db (Kb Sn)))), a9, rfl, rfl, y⟩
theorem AL (G : Nat) (a0 : lh) (a1 : Int) (c2 : Value) (a2 : List Formula) (r : (Formula × lh)) (w : World) {μ0 : kL} (h0 : nN μ0 ((G, Ol (mi a0) 249) :: []) w) (c1 : Sl kf 5 μ0 c2 a2) (hm : qV a0 a1 a2 = some r) :
  mj false pg0 247 [(.pointer (some ⟨G, 0, none⟩)), (.int .i64 a1), c2] w μ0 ((G, Ol (mi a0) 249) :: []) (fun v L1 μ1 => ∃ y1, v = (.agg #[(.int .i64 ((r.1).Op)), (.int .i64 ((r.1).K)), (.string (((r.1).kd).kj)), (.string (((r.1).kd).kq)), y1]) ∧ L1 = ((G, Ol (mi (r.2)) 249) :: []) ∧ Sl kf 5 μ1 y1 ((r.1).Kids)) := by
 let j8 := ((mi a0).toArray : Array Value)
 refine vt h0 58 func247 rfl (fun b => sg (VE (ll b bK (fun W2 b1 b => lr (Wa (lS (Wm ?_)))))))
 refine V (lT aF rfl c1) (Wm (ln (lu (fun i E W => ∃ x K J N c0, (E 12 = .int .i64 (i : Nat) ∧ E 11 = .int .i64 (a2.length : Nat)) ∧ ST false (keys ((G, Obj.cells j8 249 (0, 0)) :: [])) w W μ0 ((b1, Ol C5 58) :: ((G, Obj.cells j8 249 (0, 0)) :: (N ++ c0))) ∧ E 0 = (.pointer (some ⟨G, 0, none⟩)) ∧ E 1 = (.int .i64 x) ∧ E 6 = (.pointer (some ⟨b1, 0, none⟩)) ∧ E 7 = K ∧ E 10 = c2 ∧ lC 58 kf 5 μ0 K J N ∧ mU a0 (a2.drop i) x J = some r) a2.length c1.len ⟨a1, (.slice none 0 0), ([]), [], _, ⟨rfl, rfl⟩, (b.kh St), rfl, rfl, rfl, rfl, rfl, (lC.nil _ _ _ _), hm⟩ dc dc dc (fun _ _ _ h => by obtain ⟨_, _, _, _, _, aa, _⟩ := h; exact aa) ?_ ?_)))
 ·rintro h2 E W f2 ⟨x, K, J, N, c0, ⟨P, eN⟩, b, U, H, u, I, O, D, a⟩
  obtain ⟨c, h8, g8, g7, b7⟩ := lc f2
  rw [g8] at a
  refine bg (VQ (nM (i := (h2 : Int)) (x0 := c) kf.out aF aD O P c1 (aH _) g7) (fun k7 ⟨_, ⟨l0, rfl, Y⟩, f3⟩ => V (kl rfl (kO b.has f3 bA aD)) (VE (ll b bK (fun i6 k4 b => ?_)))))
  obtain ⟨y, z, rfl⟩ := Y.form
  let j6 : Value := (.slice y c.Kids.length z)
  let b8 := (C1 c.Op c.K c.kd.kj c.kd.kq y c.Kids.length z)
  refine VO (kJ (.agg b8.toArray) (b8.toArray) b rfl rfl aD oc nb rfl (fun i7 b => ln (bg (VA b Mh b8 bA aD (bS a fun k8 f4 a => VE (Eg b call285 (kN.lZ (zL c j6 2 _ _ (Y.mono kz.mono b.kw) f4)) (fun i8 b => Wa (ln (CI a rfl (fun e5 a => ?_) (fun e5 a => ?_))))))))))
  ·refine kB (Wh H (Wi rfl (Wa (kQ (kY (kY (ku ?_)))))))
   replace b := b.kh (Db St)
   exact ⟨P, (wi0 .i64 (x - 1)), K, J, N, _, ⟨rfl, eN⟩, (b.kh St), U, rfl, u, I, O, D, (by rw [b7]; exact a)⟩
  refine sg (VA b Mh b8 bA aD (bS a fun k9 f5 a => VE (Eg b call285 (kN.lZ (zL c j6 3 _ _ (Y.mono kz.mono b.kw) f5)) (fun i9 b => V (nT rfl) (Wa (ln (CI a rfl (fun e6 a => ?_) (fun e6 a => ?_))))))))
  ·refine kB (Wh I (VA b Mh b8 bA aD (VE (kV (cs := b8.toArray) b (nh rfl) (nc aF aD bK) (fun j0 k5 b => ?_)))))
   replace b := b.perm (Nr (Qb (Qb (Qb (Qb Qz)))) Nz)
   refine bS a fun h3 e7 a => VE (vK (B := N) kz b dc aF pt.1 pt.2.1 rfl pt.2.2.1 pt.2.2.2 rfl rfl D (Dc.lit kz (l := [c]) (.cons (ys := C1 c.Op c.K c.kd.kj c.kd.kq y c.Kids.length z) (kf.mk ⟨j6, rfl, Y⟩) .nil) rfl nb (b.at_ (Ma Mh))) e7 (fun j3 h4 g9 b e4 => Wa (kQ (kY (kY (ku ?_))))))
   replace b := b.kh (Kr (Db (Db St)))
   exact ⟨P, x, h4, h3, g9, _, ⟨rfl, eN⟩, (b.kh (Sb (Pr Pz) (Sb (Pr Pz) St))), U, H, u, rfl, O, e4, (by rw [b7]; exact a)⟩
  refine lE (kY (kY (ku ?_)))
  replace b := b.kh (Db St)
  exact ⟨P, x, K, J, N, _, ⟨rfl, eN⟩, (b.kh St), U, H, u, I, O, D, (by rw [b7]; exact a)⟩
 rintro E W ⟨x, K, J, N, c0, ⟨P, eN⟩, b, U, H, u, I, O, D, a⟩
 rw [aI] at a
 refine ku (kA (bg (Wh H (Wi rfl (Wa (ln (CI a rfl (fun e8 a => ?_) (fun e8 a => ?_))))))))
 ·refine sg (bS a fun g f6 a => ?_)
  let j2 : Value := (.string (((g).kd).kq))
  let h9 : Value := (.string (((g).kd).kj))
  refine VE (eD b (bI _) call286 (fun d => mj.lZ (GH  _ _ d  f6)) ?_ (L0 := []))
  rintro _ l1 m2 i0 b c9 m ⟨l6, b2, rfl, c3⟩
  obtain rfl := b2.symm
  obtain ⟨Z, a6, rfl⟩ := c3.form
  let g5 : Value := (.slice Z ((g).Kids).length a6)
  let e0 : Value := (.agg #[(.int .i64 ((g).Op)), (.int .i64 ((g).K)), h9, j2, g5])
  refine VO (kJ e0 (#[(.int .i64 ((g).Op)), (.int .i64 ((g).K)), h9, j2, g5]) b u rfl aD oc nb rfl (fun j5 b => ln ?_))
  replace b := b.kh (Kb (Kb (Dr St)))
  refine kM (mB (kU ?_))
  obtain rfl := sj a
  exact qh (v := e0) rfl u (kx b.has Mh [(.int .i64 ((g).Op)), (.int .i64 ((g).K)), h9, j2, g5] rfl bA aD) ⟨_, _, _, rfl, (b.mI (Db (Kb Sn))), c9, m, (ST.lO b (nm.mem (Db (Kb Sn)))), g5, rfl, rfl, c3⟩
 refine sg (Wh H (Wh I (V (xq aF rfl D) (Wi rfl (Wa (ln (CI a rfl (fun e9 a => ?_) (fun e9 a => ?_))))))))
 ·refine sg (bS a fun j f7 a => ?_)
  let j4 : Value := (.string (((j).kd).kq))
  let j1 : Value := (.string (((j).kd).kj))
  refine VE (eD b (bI _) call287 (fun d => mj.lZ (HC  _ _ d  f7)) ?_ (L0 := []))
  rintro _ l2 m3 i1 b d0 n ⟨l7, b3, rfl, c4⟩
  obtain rfl := b3.symm
  obtain ⟨a3, a7, rfl⟩ := c4.form
  let e3 : Value := (.slice a3 ((j).Kids).length a7)
  let d9 : Value := (.agg #[(.int .i64 ((j).Op)), (.int .i64 ((j).K)), j1, j4, e3])
  refine VO (kJ d9 (#[(.int .i64 ((j).Op)), (.int .i64 ((j).K)), j1, j4, e3]) b u rfl aD oc nb rfl (fun j7 b => ln ?_))
  replace b := b.kh (Kb (Kb (Dr St)))
  refine kM (mB (kU ?_))
  obtain rfl := sj a
  exact qh (v := d9) rfl u (kx b.has Mh [(.int .i64 ((j).Op)), (.int .i64 ((j).K)), j1, j4, e3] rfl bA aD) ⟨_, _, _, rfl, (b.mI (Db (Kb Sn))), d0, n, (ST.lO b (nm.mem (Db (Kb Sn)))), e3, rfl, rfl, c4⟩
 refine sg (Wh H (Wh I (V (xq aF rfl D) (Wi rfl (Wa (ln (CI a rfl (fun f0 a => ?_) (fun f0 a => ?_))))))))
 ·refine sg (Wh U (Wh I ?_))
  replace b := b.perm (Nr (Qb (Qb Qz)) Nz)
  obtain ⟨m4, b, d1, o, g1⟩ := ST.xR kz b D
  refine bS a fun k f8 a => ?_
  let h6 : Value := (.string (((k.1).kd).kq))
  let h1 : Value := (.string (((k.1).kd).kj))
  refine VE (eD b (Cb (Pb Pz) Cn) call248 (fun d => (ui G a0 2 K J _ _ d (g1.mono kz.mono (kH.refl _)) f8)) ?_)
  rintro _ l3 m5 i2 b d2 p ⟨l8, b4, rfl, c5⟩
  obtain rfl := b4.symm
  replace b := b.perm (Tb Tn)
  obtain ⟨a4, a8, rfl⟩ := c5.form
  let R : Value := (.slice a4 ((k.1).Kids).length a8)
  let c8 : Value := (.agg #[(.int .i64 ((k.1).Op)), (.int .i64 ((k.1).K)), h1, h6, R])
  replace b := b.perm (Nb (Pb Pz) Nz)
  refine VO (kJ c8 (#[(.int .i64 ((k.1).Op)), (.int .i64 ((k.1).K)), h1, h6, R]) b u rfl aD oc nb rfl (fun j9 b => lt (mB (kU ?_))))
  obtain rfl := sj a
  exact qh (v := c8) rfl u (kx b.has Mh [(.int .i64 ((k.1).Op)), (.int .i64 ((k.1).K)), h1, h6, R] rfl bA aD) ⟨_, _, _, rfl, (b.mI (Db (Kb Sn))), (d1.trans d2), (o.trans p), (ST.lO b (nm.mem (Db (Kb Sn)))), R, rfl, rfl, c5⟩
 refine sg (Wh H (Wi rfl (Wa (ln (CI a rfl (fun f1 a => ?_) (fun f1 a => ?_))))))
 ·refine sg (Wh U (Wh I ?_))
  replace b := b.perm (Nr (Qb (Qb Qz)) Nz)
  obtain ⟨m6, b, d3, q, g2⟩ := ST.xR kz b D
  refine bS a fun t f9 a => ?_
  let h7 : Value := (.string (((t.1).kd).kq))
  let h5 : Value := (.string (((t.1).kd).kj))
  refine VE (eD b (Cb (Pb Pz) Cn) call248 (fun d => (ui G a0 3 K J _ _ d (g2.mono kz.mono (kH.refl _)) f9)) ?_)
  rintro _ l4 m7 i3 b d4 s ⟨l9, b5, rfl, c6⟩
  obtain rfl := b5.symm
  replace b := b.perm (Tb Tn)
  obtain ⟨a5, a9, rfl⟩ := c6.form
  let e2 : Value := (.slice a5 ((t.1).Kids).length a9)
  let d8 : Value := (.agg #[(.int .i64 ((t.1).Op)), (.int .i64 ((t.1).K)), h5, h7, e2])
  replace b := b.perm (Nb (Pb Pz) Nz)
  refine VO (kJ d8 (#[(.int .i64 ((t.1).Op)), (.int .i64 ((t.1).K)), h5, h7, e2]) b u rfl aD oc nb rfl (fun k1 b => lt (mB (kU ?_))))
  obtain rfl := sj a
  exact qh (v := d8) rfl u (kx b.has Mh [(.int .i64 ((t.1).Op)), (.int .i64 ((t.1).K)), h5, h7, e2] rfl bA aD) ⟨_, _, _, rfl, (b.mI (Db (Kb Sn))), (d3.trans d4), (q.trans s), (ST.lO b (nm.mem (Db (Kb Sn)))), e2, rfl, rfl, c6⟩
 refine lE (kY (ku (sg (Wh H (Wh I ?_)))))
 replace b := b.perm (Nr (Qb (Qb Qz)) Nz)
 obtain ⟨m8, b, d5, A, g3⟩ := ST.xR kz b D
 refine bS a fun T g0 a => ?_
 refine VE (eD b (bI _) call288 (fun d => (CQ K J _ _ d (g3.mono kz.mono (kH.refl _)) g0)) ?_ (L0 := []))
 rintro _ l5 m9 i4 b d6 F ⟨m0, i5, b6, rfl, c7⟩
 obtain rfl := b6.symm
 replace b := b.perm (Tr Tn)
 obtain ⟨M, Q, rfl⟩ := c7.form
 let g6 : Value := (.slice M T.length Q)
 let b9 : Value := (.agg #[(.int .i64 4), (.int .i64 x), (.string zS), (.string zS), g6])
 refine V (mK (v := b9) (Hx rfl rfl rfl) (me bK cD (Ar _ cD) kr)) ?_
 replace b := b.perm (Nb (Pr Pz) Nz)
 refine VO (kJ b9 (#[(.int .i64 4), (.int .i64 x), (.string zS), (.string zS), g6]) b u rfl aD oc nb rfl (fun k3 b => lt ?_))
 obtain rfl := sj a
 refine qh (v := b9) rfl u (kx b.has Mh [(.int .i64 4), (.int .i64 x), (.string zS), (.string zS), g6] rfl bA aD) ?_
 replace b := b.perm (Nr (Qb Qz) Nz)
 obtain ⟨n0, b, d7, L, g4⟩ := ST.xR kz b c7
 exact ⟨_, _, _, rfl, (b.mI (Db (Kb Sn))), ((d5.trans d6).trans d7), ((A.trans F).trans L), (ST.lO b (nm.mem (Db (Kb Sn)))), g6, rfl, rfl, g4⟩
theorem zV (c9 : lh → Formula → Option (Formula × lh)) (e9 : ∀ (u : Nat) (a0 : lh) (a : Formula) (y : Value) (r : (Formula × lh)) (w : World) {μ0 : kL} (h0 : nN μ0 ((u, Ol (mi a0) 249) :: []) w) (x : Sl kf 5 μ0 y a.Kids), c9 a0 a = some r → mj false pg0 191 [(.pointer (some ⟨u, 0, none⟩)), (.agg #[(.int .i64 a.Op), (.int .i64 a.K), (.string a.kd.kj), (.string a.kd.kq), y])] w μ0 ((u, Ol (mi a0) 249) :: []) (fun v L1 μ1 => ∃ F, v = (.agg #[(.int .i64 ((r.1).Op)), (.int .i64 ((r.1).K)), (.string (((r.1).kd).kj)), (.string (((r.1).kd).kq)), F]) ∧ L1 = ((u, Ol (mi (r.2)) 249) :: []) ∧ Sl kf 5 μ1 F ((r.1).Kids))) (u : Nat) (a0 : lh) (a : Formula) (y : Value) (r : (Formula × lh)) (w : World) {μ0 : kL} (h0 : nN μ0 ((u, Ol (mi a0) 249) :: []) w) (x : Sl kf 5 μ0 y a.Kids) (hm : sr c9 a0 a = some r) :
  mj false pg0 191 [(.pointer (some ⟨u, 0, none⟩)), (.agg #[(.int .i64 a.Op), (.int .i64 a.K), (.string a.kd.kj), (.string a.kd.kq), y])] w μ0 ((u, Ol (mi a0) 249) :: []) (fun v L1 μ1 => ∃ F, v = (.agg #[(.int .i64 ((r.1).Op)), (.int .i64 ((r.1).K)), (.string (((r.1).kd).kj)), (.string (((r.1).kd).kq)), F]) ∧ L1 = ((u, Ol (mi (r.2)) 249) :: []) ∧ Sl kf 5 μ1 F ((r.1).Kids)) := by
 let d0 := ((u, Ol (mi a0) 249) :: [])
 refine vt h0 39 func191 rfl (fun b => sg ?_)
 obtain ⟨A1, c2, rfl⟩ := x.form
 let s := (C1 a.Op a.K a.kd.kj a.kd.kq A1 a.Kids.length c2)
 refine VE (kX b rfl (fun W4 b3 b => VE (ll b bK (fun W6 b5 b => lS (Wf uf (VB b (Mt Mh) rfl rfl dz (Wi rfl (ln (CI hm rfl (fun f8 hm => ?_) (fun f8 hm => ?_))))))))))
 ·refine sg (VA b (Mt Mh) s bA aD (VO (kJ (.agg s.toArray) (s.toArray) b rfl rfl aD oc nb rfl (fun W8 b => ln ?_))))
  replace b := b.kh (Kb (Db St))
  refine kM (kU ?_)
  obtain rfl := sj hm
  exact qh (v := (.agg s.toArray)) rfl rfl (kx b.has Mh s rfl bA aD) ⟨_, _, _, rfl, (b.mI (Db (Kb Sn))), (kH.refl _), Lo.refl, (ST.lO b (nm.mem (Db (Kb Sn)))), (.slice A1 a.Kids.length c2), rfl, rfl, x⟩
 refine kg (Wa (lS (Wf sK (VB b (Mt Mh) rfl rfl fl (V (lT aF rfl x) (Wm (kQ ?_)))))))
 refine ku (lu (fun i E W => ∃ I H T D J R, (E 15 = .int .i64 (i : Nat) ∧ E 14 = .int .i64 (a.Kids.length : Nat)) ∧ kH μ0 J ∧ Lo (keys d0) w μ0 J ∧ ST false (keys d0) w W J ((u, Ol (mi D) 249) :: ((b5, Ol C5 58) :: ((b3, Ol s 58) :: (T ++ R)))) ∧ E 0 = (.pointer (some ⟨u, 0, none⟩)) ∧ E 3 = (.pointer (some ⟨b3, 0, none⟩)) ∧ E 4 = (.pointer (some ⟨b5, 0, none⟩)) ∧ E 5 = I ∧ E 13 = (.slice A1 a.Kids.length c2) ∧ lC 58 kf 5 J I H T ∧ nX c9 a (a.Kids.drop i) H D = some r) a.Kids.length x.len ⟨(.slice none 0 0), ([]), [], a0, μ0, _, ⟨rfl, rfl⟩, (kH.refl _), Lo.refl, (b.kh (Sb (Pb (Pb Pz)) St)), rfl, rfl, rfl, rfl, rfl, (lC.nil _ _ _ _), hm⟩ dc dc dc (fun _ _ _ h => by obtain ⟨_, _, _, _, _, _, aa, _⟩ := h; exact aa) ?_ ?_)
 ·rintro f0 E W d7 ⟨I, H, T, D, J, R, ⟨eI, eN⟩, z, d, b, a2, a3, G, O, b9, K, c⟩
  obtain ⟨t, f9, e5, e4, e6⟩ := lc d7
  rw [e5] at c
  refine bg (VQ (nM (i := (f0 : Int)) (x0 := t) kf.out aF aD b9 eI (x.mono kz.mono z) (aH _) e4) (fun h7 ⟨_, ⟨h8, rfl, c0⟩, d8⟩ => V (kl rfl (kO b.has d8 bA aD)) (VE (ll b bK (fun g3 h5 b => ?_)))))
  obtain ⟨a7, a9, rfl⟩ := c0.form
  let P := (C1 t.Op t.K t.kd.kj t.kd.kq a7 t.Kids.length a9)
  refine VO (kJ (.agg P.toArray) (P.toArray) b rfl rfl aD oc nb rfl (fun g4 b => ln (kB (Wh O (Wh a2 (VA b Mh P bA aD (bS c fun g d9 c => ?_)))))))
  refine VE (eD b (Cb (Pb Pz) Cn) call191 (fun A => (e9 u D t (.slice a7 t.Kids.length a9) _ _ A (c0.mono kz.mono (kH.refl _)) d9)) ?_)
  rintro _ h9 f4 g0 b b6 m ⟨i2, b1, rfl, c1⟩
  obtain rfl := b1.symm
  replace b := b.perm (Tb Tn)
  obtain ⟨M, U, rfl⟩ := c1.form
  let d1 : Value := (.slice M ((g.1).Kids).length U)
  refine VE (kV (cs := #[(.int .i64 ((g.1).Op)), (.int .i64 ((g.1).K)), (.string (((g.1).kd).kj)), (.string (((g.1).kd).kq)), d1]) b (nh rfl) (nc aF aD bK) (fun g8 h6 b => ?_))
  replace b := b.perm (Nr (Qb (Qb (Qb (Qb (Qb Qz))))) Nz)
  refine bS c fun f1 d5 c => VE (vK (B := T) kz b dc aF pt.1 pt.2.1 rfl pt.2.2.1 pt.2.2.2 rfl rfl (K.mono kz b6) (Dc.lit kz (l := [g.1]) (.cons (ys := [(.int .i64 ((g.1).Op)), (.int .i64 ((g.1).K)), (.string (((g.1).kd).kj)), (.string (((g.1).kd).kq)), d1]) (kf.mk ⟨d1, rfl, c1⟩) .nil) rfl nb (b.at_ (Ma Mh))) d5 (fun g9 f2 e8 b d4 => Wa (kQ (kY (ku ?_)))))
  replace b := b.kh (Kr (Db (Kb (Db St))))
  exact ⟨eI, f2, f1, e8, g.2, f4, _, ⟨rfl, eN⟩, (z.trans b6), (d.trans m), (b.kh (Sb (Pr Pz) (Sb (Pr Pz) (Sb (Pr Pz) St)))), a2, a3, G, rfl, b9, d4, (by rw [e6]; exact c)⟩
 rintro E W ⟨I, H, T, D, J, R, ⟨eI, eN⟩, z, d, b, a2, a3, G, O, b9, K, c⟩
 rw [aI] at c
 refine ku (kA (sg (V (ky uf a3) (VB b (Mt (Mt Mh)) rfl rfl dz (Wi rfl (ln (CI c rfl (fun d6 c => ?_) (fun d6 c => ?_))))))))
 ·refine sg (Wh a2 (V (ky zf a3) (VB b (Mt (Mt Mh)) rfl rfl dz (Wh O ?_))))
  replace b := b.perm (Nr (Qb (Qb (Qb Qz))) Nz)
  obtain ⟨i5, b, c5, n, e2⟩ := ST.xR kz b K
  refine bS c fun j e0 c => ?_
  let f3 : Value := (.string (((j.1).kd).kq))
  let d3 : Value := (.string (((j.1).kd).kj))
  refine VE (eD b (Cb Pz Cn) call247 (fun A => (AL u D a.K I H _ _ A (e2.mono kz.mono (kH.refl _)) e0)) ?_)
  rintro _ i0 i6 g1 b c6 o ⟨i3, b2, rfl, c3⟩
  obtain rfl := b2.symm
  replace b := b.perm (Tb Tn)
  obtain ⟨N, Y, rfl⟩ := c3.form
  let b8 : Value := (.slice N ((j.1).Kids).length Y)
  let a5 : Value := (.agg #[(.int .i64 ((j.1).Op)), (.int .i64 ((j.1).K)), d3, f3, b8])
  replace b := b.perm (Nb (Pb Pz) Nz)
  refine VO (kJ a5 (#[(.int .i64 ((j.1).Op)), (.int .i64 ((j.1).K)), d3, f3, b8]) b G rfl aD oc nb rfl (fun h2 b => ln ?_))
  replace b := b.kh (Kb (Kb (Db St)))
  refine kM (kU ?_)
  obtain rfl := sj c
  exact qh (v := a5) rfl G (kx b.has Mh [(.int .i64 ((j.1).Op)), (.int .i64 ((j.1).K)), d3, f3, b8] rfl bA aD) ⟨_, _, _, rfl, (b.mI (Db (Kb Sn))), ((z.trans c5).trans c6), ((d.trans n).trans o), (ST.lO b (nm.mem (Db (Kb Sn)))), b8, rfl, rfl, c3⟩
 refine kg (Wh a2 (V (ky uf a3) (VB b (Mt (Mt Mh)) rfl rfl dz (Wh O ?_))))
 replace b := b.perm (Nr (Qb (Qb (Qb Qz))) Nz)
 obtain ⟨i7, b, c7, p, e3⟩ := ST.xR kz b K
 refine bS c fun k e1 c => ?_
 let f5 : Value := (.int .i64 ((k.1).Op))
 let e7 : Value := (.string (((k.1).kd).kq))
 let d2 : Value := (.string (((k.1).kd).kj))
 refine VE (eD b (Cb Pz Cn) call248 (fun A => (ui u D a.Op I H _ _ A (e3.mono kz.mono (kH.refl _)) e1)) ?_)
 rintro _ i1 i8 g2 b c8 q ⟨i4, b4, rfl, c4⟩
 obtain rfl := b4.symm
 replace b := b.perm (Tb Tn)
 obtain ⟨Q, Z, rfl⟩ := c4.form
 let L : Value := (.slice Q ((k.1).Kids).length Z)
 let a4 : Value := (.agg #[f5, (.int .i64 ((k.1).K)), d2, e7, L])
 replace b := b.perm (Nb (Pb Pz) Nz)
 refine VO (kJ a4 (#[f5, (.int .i64 ((k.1).K)), d2, e7, L]) b G rfl aD oc nb rfl (fun h4 b => ln ?_))
 replace b := b.kh (Kb (Kb (Db St)))
 refine kM ?_
 obtain rfl := sj c
 exact qh (v := a4) rfl G (kx b.has Mh [f5, (.int .i64 ((k.1).K)), d2, e7, L] rfl bA aD) ⟨_, _, _, rfl, (b.mI (Db (Kb Sn))), ((z.trans c7).trans c8), ((d.trans p).trans q), (ST.lO b (nm.mem (Db (Kb Sn)))), L, rfl, rfl, c4⟩
theorem xN : ∀ (n : Nat) (c : Nat) (j : lh) (g : Formula) (a : Value) (r : (Formula × lh)) (w : World) {k : kL} (y : nN k ((c, Ol (mi j) 249) :: []) w) (i : Sl kf 5 k a g.Kids) (_ : nC n j g = some r),
  mj false pg0 191 [(.pointer (some ⟨c, 0, none⟩)), (.agg #[(.int .i64 g.Op), (.int .i64 g.K), (.string g.kd.kj), (.string g.kd.kq), a])] w k ((c, Ol (mi j) 249) :: []) (fun v u x => ∃ t, v = (.agg #[(.int .i64 ((r.1).Op)), (.int .i64 ((r.1).K)), (.string (((r.1).kd).kj)), (.string (((r.1).kd).kq)), t]) ∧ u = ((c, Ol (mi (r.2)) 249) :: []) ∧ Sl kf 5 x t ((r.1).Kids))
 | 0 => by intros; rename_i h; simp only [nC] at h; cases h
 | n + 1 => zV (nC n) (xN n)
theorem FQ (c : Formula) (u : Value) (r : (Formula × Int)) (w : World) {Z : kL} (s : nN Z [] w) (k : Sl kf 5 Z u c.Kids) (hm : yd c = some r) :
  mj false pg0 132 [(.agg #[(.int .i64 c.Op), (.int .i64 c.K), (.string c.kd.kj), (.string c.kd.kq), u])] w Z [] (fun v L1 μ1 => ∃ p, v = (.tuple #[(.agg #[(.int .i64 ((r.1).Op)), (.int .i64 ((r.1).K)), (.string (((r.1).kd).kj)), (.string (((r.1).kd).kq)), p]), (.int .i64 (r.2))]) ∧ L1 = [] ∧ Sl kf 5 μ1 p ((r.1).Kids)) := by
 refine vt s 27 func132 rfl (fun b => sg ?_)
 obtain ⟨H, I, rfl⟩ := k.form
 let n := (C1 c.Op c.K c.kd.kj c.kd.kq H c.Kids.length I)
 refine VE (kX b rfl (fun W4 F b => VE (ll b bK (fun W6 o b => Wa (lS (VA b (Mt Mh) n bA aD (bS hm fun r7 a5 hm => VE (Eg b call72 (uN c (.slice H c.Kids.length I) _ _ (k.mono kz.mono b.kw) a5) (fun W9 b => V (nT rfl) (ln (CI hm rfl (fun Q hm => ?_) (fun Q hm => ?_))))))))))))
 ·refine sg (V (mK (v := (.agg C5.toArray)) uw (me bK cD (Ar _ cD) kr)) (VO (kJ (.agg C5.toArray) (C5.toArray) b rfl rfl aD oc nb rfl (fun O b => Wa (ln ?_)))))
  replace b := b.kh (Kb (Db St))
  refine kM (kU ?_)
  obtain rfl := sj hm
  exact wI (v0 := (.agg C5.toArray)) (v1 := (.int .i64 11)) rfl rfl (kx b.has Mh C5 rfl bA aD) rfl ⟨_, _, _, rfl, (b.mI Sn), (kH.refl _), Lo.refl, (ST.lO b (nm.mem Sn)), (.slice none 0 0), rfl, rfl, (Sl.nil _ _ _)⟩
 refine kg (V (mK (v := (.agg (mi K6).toArray)) uw (me zeroValue249 jD (Sx _ jD) kr)) (VE (kX b rfl (fun P q b => Wa (lr (Wm (VA b (Mt (Mt Mh)) n bA aD (bS hm fun a U hm => ?_))))))))
 let m : Value := (.int .i64 ((a.1).K))
 let l : Value := (.int .i64 ((a.1).Op))
 let h : Value := (.string (((a.1).kd).kq))
 let a2 : Value := (.string (((a.1).kd).kj))
 refine VE (eD b (Cb Pz Cn) call191 (fun A => ((xN kT) q K6 c (.slice H c.Kids.length I) _ _ A (k.mono kz.mono (kH.refl _)) U)) ?_)
 rintro _ c7 a9 L b D d ⟨c9, y, rfl, z⟩
 obtain rfl := y.symm
 replace b := b.perm (Tb Tn)
 refine VE (ll b bK (fun R K b => ?_))
 obtain ⟨i, j, rfl⟩ := z.form
 let a0 : Value := (.slice i ((a.1).Kids).length j)
 let N : Value := (.agg #[l, m, a2, h, a0])
 refine VO (kJ N (#[l, m, a2, h, a0]) b rfl rfl aD oc nb rfl (fun c1 b => ln ?_))
 replace b := b.kh (Kb (Kb (Kb (Db St))))
 refine kA (sg (Wm (Wn (Wf KZ (VB b (Mt Mh) rfl rfl isAgg40 (Wi rfl (Wm (LJ hm (fun M E W => ∃ J, ST false (keys []) w W a9 ((K, Ob #[l, m, a2, h, a0] 58) :: ((o, Ol C5 58) :: J)) ∧ E 2 = (.pointer (some ⟨o, 0, none⟩)) ∧ E 5 = (.pointer (some ⟨K, 0, none⟩)) ∧ E 24 = (.bool M)) 4 ?_ (fun M t G => ?_)))))))))
 ·rintro c8 E W ⟨J, b, B, a3, a4⟩ x
  refine ln (CI x a4 (fun T x => ?_) (fun T x => ?_))
  ·refine sg (V (mK (v := (.agg C5.toArray)) uw (me bK cD (Ar _ cD) kr)) ?_)
   replace b := b.perm (Nb (Pb Pz) Nz)
   refine VO (kJ (.agg C5.toArray) (C5.toArray) b B rfl aD oc nb rfl (fun c3 b => Wa (ln ?_)))
   replace b := b.kh (Kb (Db St))
   refine kM (kU ?_)
   obtain rfl := sj x
   exact wI (v0 := (.agg C5.toArray)) (v1 := (.int .i64 12)) rfl B (kx b.has Mh C5 rfl bA aD) rfl ⟨_, _, _, rfl, (b.mI Sn), D, d, (ST.lO b (nm.mem Sn)), (.slice none 0 0), rfl, rfl, (Sl.nil _ _ _)⟩
  refine kg (V (kl a3 (kx b.has Mh [l, m, a2, h, a0] rfl bA aD)) ?_)
  replace b := b.perm (Nb (Pb Pz) Nz)
  refine VO (kJ N (#[l, m, a2, h, a0]) b B rfl aD oc nb rfl (fun c4 b => Wa (ln ?_)))
  replace b := b.kh (Kb (Db St))
  refine kM ?_
  obtain rfl := sj x
  exact wI (v0 := N) (v1 := (.int .i64 0)) rfl B (kx b.has Mh [l, m, a2, h, a0] rfl bA aD) rfl ⟨_, _, _, rfl, (b.mI Sn), D, d, (ST.lO b (nm.mem Sn)), a0, rfl, rfl, z⟩
 refine bC t (fun g t => ?_) (fun g t => ?_)
 ·refine un g (un g (un g (V (lg (cB g) rfl) ?_)))
  obtain rfl := sj t
  exact G _ _ ⟨_, (b.kh (Kb (Db St))), rfl, rfl, rfl⟩
 refine ug g (kl rfl (kx b.has Mh [l, m, a2, h, a0] rfl bA aD)) (bS t fun c6 Y t => vn g (Eg b call72 (uN a.1 a0 _ _ (z.mono kz.mono b.kw) Y) (fun c5 b => ug g (nT rfl) (V (li (cB g) rfl) ?_))))
 obtain rfl := sj t
 exact G _ _ ⟨_, (b.kh (Kb (Db St))), rfl, rfl, rfl⟩
theorem IN (a : Formula) (k : Value) (c : Formula) (t : Value) (r : (Formula × Int)) (w : World) {N : kL} (p : nN N [] w) (i : Sl kf 5 N k a.Kids) (j : Sl kf 5 N t c.Kids) (hm : yk a c = some r) :
  mj false pg0 133 [(.agg #[(.int .i64 a.Op), (.int .i64 a.K), (.string a.kd.kj), (.string a.kd.kq), k]), (.agg #[(.int .i64 c.Op), (.int .i64 c.K), (.string c.kd.kj), (.string c.kd.kq), t])] w N [] (fun v Z μ1 => ∃ Y, v = (.tuple #[(.agg #[(.int .i64 ((r.1).Op)), (.int .i64 ((r.1).K)), (.string (((r.1).kd).kj)), (.string (((r.1).kd).kq)), Y]), (.int .i64 (r.2))]) ∧ Z = [] ∧ Sl kf 5 μ1 Y ((r.1).Kids)) := by
 refine vt p 13 func133 rfl (fun b => sg ?_)
 obtain ⟨u, z, rfl⟩ := i.form
 let a3 : Value := (.slice u a.Kids.length z)
 refine VE (kX b rfl (fun W4 O b => ?_))
 obtain ⟨y, G, rfl⟩ := j.form
 let n : Value := (.slice y c.Kids.length G)
 refine VE (kX b rfl (fun W8 P b => VE (ll b bK (fun a5 R b => Wa (lr (VA b (Mt (Mt Mh)) (C1 a.Op a.K a.kd.kj a.kd.kq u a.Kids.length z) bA aD (VA b (Mt Mh) (C1 c.Op c.K c.kd.kj c.kd.kq y c.Kids.length G) bA aD (VE (kV (cs := #[(.int .i64 a.Op), (.int .i64 a.K), (.string a.kd.kj), (.string a.kd.kq), a3, (.int .i64 c.Op), (.int .i64 c.K), (.string c.kd.kj), (.string c.kd.kq), n]) b (oP rfl rfl) (nc aF aD bK) (fun s I b => V (mK (v := (.agg #[(.int .i64 2), (.int .i64 0), (.string zS), (.string zS), (.slice (some ⟨I, 0, none⟩) 2 2)])) (oP rfl rfl) (me bK cD (Ar _ cD) kr)) ?_))))))))))
 obtain ⟨F, b, K, d, U⟩ := ST.xR (B := [(I, Ob #[(.int .i64 a.Op), (.int .i64 a.K), (.string a.kd.kj), (.string a.kd.kq), a3, (.int .i64 c.Op), (.int .i64 c.K), (.string c.kd.kj), (.string c.kd.kq), n] 58)]) kz b (lC.lit kz (l := [a, c]) (.cons (ys := C1 a.Op a.K a.kd.kj a.kd.kq u a.Kids.length z) (kf.mk ⟨a3, rfl, i⟩) (.cons (ys := C1 c.Op c.K c.kd.kj c.kd.kq y c.Kids.length G) (kf.mk ⟨n, rfl, j⟩) .nil)) rfl nb rfl)
 refine bS hm fun g T hm => ?_
 let o : Value := (.int .i64 ((g.1).Op))
 let a2 : Value := (.string (((g.1).kd).kq))
 let m : Value := (.string (((g.1).kd).kj))
 refine VE (eD b (bI _) call132 (fun q => (FQ (⟨2, 0, K0, [a, c]⟩ : Formula) (.slice (some ⟨I, 0, none⟩) 2 2) _ _ q (U.mono kz.mono (kH.refl _)) T)) ?_ (L0 := []))
 rintro _ a9 L a4 b M h ⟨E, H, rfl, J⟩
 obtain rfl := H.symm
 refine Wx rfl (Wx rfl ?_)
 obtain ⟨x, D, rfl⟩ := J.form
 let a0 : Value := (.slice x ((g.1).Kids).length D)
 let Q : Value := (.agg #[o, (.int .i64 ((g.1).K)), m, a2, a0])
 refine VO (kJ Q (#[o, (.int .i64 ((g.1).K)), m, a2, a0]) b rfl rfl aD oc nb rfl (fun A b => Wa (ln ?_)))
 replace b := b.kh (Kb (Db (Db St)))
 refine kM ?_
 obtain rfl := sj hm
 exact wI (v0 := Q) (v1 := (.int .i64 g.2)) rfl rfl (kx b.has Mh [o, (.int .i64 ((g.1).K)), m, a2, a0] rfl bA aD) rfl ⟨_, _, _, rfl, (b.mI Sn), (K.trans M), (d.trans h), (ST.lO b (nm.mem Sn)), a0, rfl, rfl, J⟩
theorem KG (d1 : Value) (a0 : List Formula) (r : (Formula × Int)) (w : World) {μ0 : kL} (h0 : nN μ0 [] w) (c7 : Sl kf 5 μ0 d1 a0) (hm : wF a0 = some r) :
  mj false pg0 71 [d1] w μ0 [] (fun v L1 μ1 => ∃ y1, v = (.tuple #[(.agg #[(.int .i64 ((r.1).Op)), (.int .i64 ((r.1).K)), (.string (((r.1).kd).kj)), (.string (((r.1).kd).kq)), y1]), (.int .i64 (r.2))]) ∧ L1 = [] ∧ Sl kf 5 μ1 y1 ((r.1).Kids)) := by
 let R := (a0.drop (Int.toNat 1))
 refine vt h0 36 func71 rfl (fun b => sg (VE (ll b bK (fun W2 s b => Wa (lr (Wm (bS hm fun x6 e3 hm => VQ (nM (i := 0) (x0 := x6) kf.out aF aD rfl rfl c7 (kI e3) (kF e3)) (fun p3 ⟨_, ⟨v8, rfl, f2⟩, f1⟩ => V (kl rfl (kO b.has f1 bA aD)) (bS hm fun j e6 hm => ?_)))))))))
 refine VE (eD b (bI _) call132 (fun hh => (FQ x6 v8 _ _ hh (f2.mono kz.mono (kH.refl _)) e6)) ?_ (L0 := []))
 rintro _ i4 a9 i0 b a4 m ⟨i5, b6, rfl, d0⟩
 obtain rfl := b6.symm
 refine Wm (Wx rfl (Wx rfl (VE (ll b bK (fun i2 A b => ?_)))))
 obtain ⟨c2, c5, rfl⟩ := d0.form
 let d2 : Value := (.slice c2 ((j.1).Kids).length c5)
 refine VO (kJ (.agg #[(.int .i64 ((j.1).Op)), (.int .i64 ((j.1).K)), (.string (((j.1).kd).kj)), (.string (((j.1).kd).kq)), d2]) (#[(.int .i64 ((j.1).Op)), (.int .i64 ((j.1).K)), (.string (((j.1).kd).kj)), (.string (((j.1).kd).kq)), d2]) b rfl rfl aD oc nb rfl (fun i3 b => Wa (lS (Wm (bS hm fun _ c8 hm => VQ (FN (i := 1) aF aD rfl rfl (c7.mono kz.mono a4) (qm c8) (qf c8)) (fun f3 P => V (lT aF rfl P.1) (Wm (ln (CJ hm (fun u E W => ∃ p U c3, kH a9 U ∧ Lo (keys []) w a9 U ∧ ST false (keys []) w W U ((A, Ob #[(.int .i64 u.2.1), (.int .i64 u.2.2.1), (.string u.2.2.2.1.kj), (.string u.2.2.2.1.kq), p] 58) :: ((s, Ol C5 58) :: c3)) ∧ E 2 = (.pointer (some ⟨s, 0, none⟩)) ∧ E 4 = (.pointer (some ⟨A, 0, none⟩)) ∧ E 5 = (.int .i64 u.1) ∧ Sl kf 5 U p u.2.2.2.2) (fun u d7 => ?_) ?_)))))))))
 ·refine lu (fun i E W => ∃ q G H y x N z L, (E 18 = .int .i64 (i : Nat) ∧ E 17 = .int .i64 (R.length : Nat)) ∧ kH a9 z ∧ Lo (keys []) w a9 z ∧ ST false (keys []) w W z ((A, Ob #[(.int .i64 G), (.int .i64 H), (.string y.kj), (.string y.kq), x] 58) :: ((s, Ol C5 58) :: L)) ∧ E 2 = (.pointer (some ⟨s, 0, none⟩)) ∧ E 4 = (.pointer (some ⟨A, 0, none⟩)) ∧ E 5 = (.int .i64 q) ∧ E 16 = f3 ∧ Sl kf 5 z x N ∧ tQ (R.drop i) q G H y N = some u) R.length P.1.len ⟨j.2, ((j.1).Op), ((j.1).K), ((j.1).kd), d2, ((j.1).Kids), a9, _, ⟨rfl, rfl⟩, (kH.refl _), Lo.refl, (b.kh St), rfl, rfl, rfl, rfl, d0, d7⟩ dc dc dc (fun _ _ _ h => by obtain ⟨_, _, _, _, _, _, _, _, aa, _⟩ := h; exact aa) ?_ ?_
  ·rintro e7 E W d6 ⟨q, G, H, y, x, N, z, L, ⟨eI, eN⟩, t, d, b, a2, D, a3, O, I, c⟩
   obtain ⟨a, f6, e1, e0, e2⟩ := lc d6
   rw [e1] at c
   refine bg (VQ (nM (i := (e7 : Int)) (x0 := a) kf.out aF aD O eI (P.1.mono kz.mono t) (aH _) e0) (fun h1 ⟨_, ⟨h4, rfl, c0⟩, d8⟩ => V (kl rfl (kO b.has d8 bA aD)) (VE (ll b bK (fun g2 g8 b => ?_)))))
   obtain ⟨Y, Z, rfl⟩ := c0.form
   let b8 := (C1 a.Op a.K a.kd.kj a.kd.kq Y a.Kids.length Z)
   refine VO (kJ (.agg b8.toArray) (b8.toArray) b rfl rfl aD oc nb rfl (fun g3 b => lS (Wh a3 (Wi rfl (ln (CI c rfl (fun d5 c => ?_) (fun d5 c => ?_)))))))
   ·refine nf (mO (Sf (by simp) (mO (pZ (ku ?_)))))
    obtain rfl := sj c
    exact ⟨x, z, _, t, d, (b.kh (Db St)), a2, D, a3, I⟩
   refine kn (kB (V (kl D (kx b.has (Mt Mh) [(.int .i64 G), (.int .i64 H), (.string y.kj), (.string y.kq), x] rfl bA aD)) (VA b Mh b8 bA aD (bS c fun g d9 c => ?_))))
   refine VE (eD b (bI _) call133 (fun hh => (IN (⟨G, H, y, N⟩ : Formula) x a (.slice Y a.Kids.length Z) _ _ hh (I.mono kz.mono (kH.refl _)) (c0.mono kz.mono (kH.refl _)) d9)) ?_ (L0 := []))
   rintro _ h5 f0 f9 b c9 n ⟨h8, a5, rfl, c1⟩
   obtain rfl := a5.symm
   refine Wm (Wx rfl (Wx rfl ?_))
   obtain ⟨b0, b3, rfl⟩ := c1.form
   let d3 : Value := (.slice b0 ((g.1).Kids).length b3)
   replace b := b.perm (Nb (Pb Pz) Nz)
   refine VO (kJ (.agg #[(.int .i64 ((g.1).Op)), (.int .i64 ((g.1).K)), (.string (((g.1).kd).kj)), (.string (((g.1).kd).kq)), d3]) (#[(.int .i64 ((g.1).Op)), (.int .i64 ((g.1).K)), (.string (((g.1).kd).kj)), (.string (((g.1).kd).kq)), d3]) b D rfl aD oc nb rfl (fun g7 b => Wa (kQ (kY (ku ?_)))))
   replace b := b.kh (Kb (Db St))
   exact ⟨eI, g.2, ((g.1).Op), ((g.1).K), ((g.1).kd), d3, ((g.1).Kids), f0, _, ⟨rfl, eN⟩, (t.trans c9), (d.trans n), (b.kh St), a2, D, rfl, O, c1, (by rw [e2]; exact c)⟩
  rintro E W ⟨q, G, H, y, x, N, z, L, ⟨eI, eN⟩, t, d, b, a2, D, a3, O, I, c⟩
  rw [aI] at c
  refine ku ?_
  obtain rfl := sj c
  exact ⟨x, z, _, t, d, (b.kh St), a2, D, a3, I⟩
 rintro ⟨e8, Q, T, k, M⟩ E W ⟨p, U, c3, a8, l, b, o, e4, c6, b9⟩ B
 refine kA (sg (Wh c6 (Wi rfl (ln (CI B rfl (fun d4 B => ?_) (fun d4 B => ?_))))))
 ·refine sg (V (mK (v := (.agg C5.toArray)) uw (me bK cD (Ar _ cD) kr)) (Wh c6 ?_))
  replace b := b.perm (Nb (Pb Pz) Nz)
  refine VO (kJ (.agg C5.toArray) (C5.toArray) b o rfl aD oc nb rfl (fun g0 b => Wa (ln ?_)))
  replace b := b.kh (Kb (Db St))
  refine kM (kU ?_)
  obtain rfl := sj B
  exact wI (v0 := (.agg C5.toArray)) (v1 := (.int .i64 e8)) rfl o (kx b.has Mh C5 rfl bA aD) rfl ⟨_, _, _, rfl, (b.mI Sn), (a4.trans a8), (m.trans l), (ST.lO b (nm.mem Sn)), (.slice none 0 0), rfl, rfl, (Sl.nil _ _ _)⟩
 refine kg (V (kl e4 (kx b.has Mh [(.int .i64 Q), (.int .i64 T), (.string k.kj), (.string k.kq), p] rfl bA aD)) ?_)
 obtain ⟨J, K, rfl⟩ := b9.form
 let F := (C1 Q T k.kj k.kq J M.length K)
 replace b := b.perm (Nb (Pb Pz) Nz)
 refine VO (kJ (.agg F.toArray) (F.toArray) b o rfl aD oc nb rfl (fun g1 b => Wa (ln ?_)))
 replace b := b.kh (Kb (Db St))
 refine kM ?_
 obtain rfl := sj B
 exact wI (v0 := (.agg F.toArray)) (v1 := (.int .i64 0)) rfl o (kx b.has Mh F rfl bA aD) rfl ⟨_, _, _, rfl, (b.mI Sn), (a4.trans a8), (m.trans l), (ST.lO b (nm.mem Sn)), (.slice J M.length K), rfl, rfl, b9⟩
theorem MF (k : lD) (G H : Value) (o : ke) (r : (Formula × Int)) (w : World) {μ0 : kL} (h0 : nN μ0 [] w) (t : Sl mh 15 μ0 G k.kZ) (y : Sl mN 8 μ0 H k.mu) (hm : AV k o = some r) :
  mj false pg0 23 [(.agg #[(.string k.Name), G, H]), (.agg (km o).toArray)] w μ0 [] (fun v L1 μ1 => ∃ y1, v = (.tuple #[(.agg #[(.int .i64 ((r.1).Op)), (.int .i64 ((r.1).K)), (.string (((r.1).kd).kj)), (.string (((r.1).kd).kq)), y1]), (.int .i64 (r.2))]) ∧ L1 = [] ∧ Sl kf 5 μ1 y1 ((r.1).Kids)) := by
 refine vt h0 41 func23 rfl (fun b => sg ?_)
 obtain ⟨A1, c2, rfl⟩ := t.form
 obtain ⟨A3, O, rfl⟩ := y.form
 let f5 := (C3 k.Name A1 k.kZ.length c2 A3 k.mu.length O)
 refine VE (kX b rfl (fun W6 b5 b => VE (kX b rfl (fun W8 b7 b => VE (ll b bK (fun i4 b9 b => Wa (lr (VA b (Mt (Mt Mh)) f5 dV dB (VA b (Mt Mh) (km o) cE aT (bS hm fun a e7 hm => ?_))))))))))
 let b8 : Value := (.int .i64 (((a.1).kv).K))
 let p : Value := (.int .i64 (((a.1).kv).Op))
 let b1 := (((a.1).kv).kd)
 let q : Value := (.string (b1.kq))
 let d8 : Value := (.string (b1.kj))
 let a0 := (((a.1).Signed).ke)
 refine VE (eD b (bI _) call69 (fun s => (Kq k (.slice A1 k.kZ.length c2) (.slice A3 k.mu.length O) o _ _ s (t.mono mG.mono (kH.refl _)) (y.mono pe.mono (kH.refl _)) e7)) ?_ (L0 := []))
 rintro _ j4 j8 i2 b I d ⟨j6, j7, a5, rfl, e9, c5⟩
 obtain rfl := a5.symm
 refine Wm (Wx rfl (Wx rfl (VE (ll b gD (fun i6 j3 b => ?_)))))
 obtain ⟨d9, e1, rfl⟩ := e9.form
 let f8 : Value := (.slice d9 (((a.1).Signed).Tag).length e1)
 obtain ⟨z, D, rfl⟩ := c5.form
 let a2 : Value := (.slice z (((a.1).kv).Kids).length D)
 refine VO (kJ (.agg #[(.int .i64 (a0.Kind)), (.string ((a0.Head).kj)), (.string ((a0.Head).kq)), (.string (a0.kR)), (.string ((a0.B).kj)), (.string ((a0.B).kq)), (.string ((a0.C).kj)), (.string ((a0.C).kq)), (.string (a0.lj)), f8, p, b8, d8, q, a2]) (#[(.int .i64 (a0.Kind)), (.string ((a0.Head).kj)), (.string ((a0.Head).kq)), (.string (a0.kR)), (.string ((a0.B).kj)), (.string ((a0.B).kq)), (.string ((a0.C).kj)), (.string ((a0.C).kq)), (.string (a0.lj)), f8, p, b8, d8, q, a2]) b rfl rfl eU oc nb rfl (fun i7 b => Wa (lS (Wm (V (nT rfl) (ln (CI hm rfl (fun e6 hm => ?_) (fun e6 hm => ?_))))))))
 ·refine sg (V (mK (v := (.agg C5.toArray)) uw (me bK cD (Ar _ cD) kr)) ?_)
  replace b := b.perm (Nb (Pb Pz) Nz)
  refine VO (kJ (.agg C5.toArray) (C5.toArray) b rfl rfl aD oc nb rfl (fun i8 b => Wa (ln ?_)))
  replace b := b.kh (Kb (Db (Db (Db St))))
  refine kM (kU ?_)
  obtain rfl := sj hm
  exact wI (v0 := (.agg C5.toArray)) (v1 := (.int .i64 42)) rfl rfl (kx b.has Mh C5 rfl bA aD) rfl ⟨_, _, _, rfl, (b.mI Sn), I, d, (ST.lO b (nm.mem Sn)), (.slice none 0 0), rfl, rfl, (Sl.nil _ _ _)⟩
 refine kg (Wf NS (VA b Mh [p, b8, d8, q, a2] bA aD (VE (kV (cs := #[p, b8, d8, q, a2]) b (nh rfl) (nc aF aD bK) (fun i9 e0 b => Wa (ln ?_))))))
 replace b := b.kh (Kb (Db St))
 refine kA (sg (VA b (Mt (Mt (Mt Mh))) f5 dV dB (VA b (Mt (Mt Mh)) (km o) cE aT (bS hm fun P e8 hm => ?_))))
 refine VE (eD b (bI _) call70 (fun s => (IX k (.slice A1 k.kZ.length c2) (.slice A3 k.mu.length O) o _ _ s (t.mono mG.mono I) (y.mono pe.mono I) e8)) ?_ (L0 := []))
 rintro _ j5 e2 i3 b a8 A ⟨f6, a6, rfl, L⟩
 obtain rfl := a6.symm
 refine V (lT dR rfl L) (Wm (ln ?_))
 replace b := b.kh (Kb (Kb (Db (Db St))))
 replace b := b.J2
 refine lu (fun i E W => ∃ Q N K Z, (E 27 = .int .i64 (i : Nat) ∧ E 26 = .int .i64 (P.length : Nat)) ∧ ST false (keys []) w W e2 ((b9, Ol C5 58) :: (K ++ Z)) ∧ E 4 = (.pointer (some ⟨b9, 0, none⟩)) ∧ E 8 = Q ∧ E 25 = f6 ∧ lC 58 kf 5 e2 Q N K ∧ uJ (P.drop i) N = some r) P.length L.len ⟨(.slice (some ⟨e0, 0, none⟩) 1 1), ([(a.1).kv]), [(e0, Ob #[p, b8, d8, q, a2] 58)], _, ⟨rfl, rfl⟩, (b.kh (Sb (Pr Pz) St)), rfl, rfl, rfl, (lC.lit kz (l := [(a.1).kv]) (.cons (ys := [p, b8, d8, q, a2]) (kf.mk ⟨a2, rfl, (c5.mono kz.mono a8)⟩) .nil) rfl nb rfl), hm⟩ dc dc dc (fun _ _ _ h => by obtain ⟨_, _, _, _, aa, _⟩ := h; exact aa) ?_ ?_
 ·rintro f0 E W d0 ⟨Q, N, K, Z, ⟨R, eN⟩, b, T, a3, a4, U, j⟩
  obtain ⟨c, f7, d6, d5, d7⟩ := lc d0
  rw [d6] at j
  refine bg (VQ (nM (i := (f0 : Int)) (x0 := c) mN.out dR eE a4 R L (aH _) d5) (fun h2 ⟨_, ⟨h5, h6, rfl, a9, d3⟩, d1⟩ => V (kl rfl (kO b.has d1 isAgg87 eE)) (VE (ll b jo (fun g0 g8 b => ?_)))))
  obtain ⟨u, x, rfl⟩ := a9.form
  let c7 := (C1 c.kv.Op c.kv.K c.kv.kd.kj c.kv.kd.kq u c.kv.Kids.length x)
  obtain ⟨b2, b6, rfl⟩ := d3.form
  let c0 := (C7 c.kd.kj c.kd.kq c.kv.Op c.kv.K c.kv.kd.kj c.kv.kd.kq u c.kv.Kids.length x b2 c.nv.length b6)
  refine VO (kJ (.agg c0.toArray) (c0.toArray) b rfl rfl eE oc nb rfl (fun g1 b => ln (kB (Wh a3 (Wf Oc (VA b Mh c7 bA aD (VE (kV (cs := c7.toArray) b (nh rfl) (nc aF aD bK) (fun g2 g9 b => ?_)))))))))
  replace b := b.perm (Nr (Qb (Qb (Qb Qz))) Nz)
  refine bS j fun f1 c9 j => VE (vK (B := K) kz b dc aF pt.1 pt.2.1 rfl pt.2.2.1 pt.2.2.2 rfl rfl U (Dc.lit kz (l := [c.kv]) (.cons (ys := C1 c.kv.Op c.kv.K c.kv.kd.kj c.kv.kd.kq u c.kv.Kids.length x) (kf.mk ⟨(.slice u c.kv.Kids.length x), rfl, a9⟩) .nil) rfl nb (b.at_ (Ma Mh))) c9 (fun g3 f2 e3 b c8 => Wa (kQ (kY (ku ?_)))))
  replace b := b.kh (Kr (Db (Db St)))
  exact ⟨R, f2, f1, e3, _, ⟨rfl, eN⟩, (b.kh (Sb (Pr Pz) St)), T, rfl, a4, c8, (by rw [d7]; exact j)⟩
 rintro E W ⟨Q, N, K, Z, ⟨R, eN⟩, b, T, a3, a4, U, j⟩
 rw [aI] at j
 refine ku (sg (Wh a3 ?_))
 replace b := b.perm (Nr (Qb Qz) Nz)
 obtain ⟨i0, b, c1, m, d4⟩ := ST.xR kz b U
 refine bS j fun g d2 j => ?_
 let g4 : Value := (.int .i64 ((g.1).Op))
 let f4 : Value := (.string (((g.1).kd).kq))
 let f3 : Value := (.string (((g.1).kd).kj))
 refine VE (eD b (bI _) call71 (fun s => (KG Q N _ _ s (d4.mono kz.mono (kH.refl _)) d2)) ?_ (L0 := []))
 rintro _ h7 i1 f9 b c3 n ⟨h8, Y, rfl, b0⟩
 obtain rfl := Y.symm
 refine Wx rfl (Wx rfl ?_)
 obtain ⟨J, M, rfl⟩ := b0.form
 let F : Value := (.slice J ((g.1).Kids).length M)
 let b4 : Value := (.agg #[g4, (.int .i64 ((g.1).K)), f3, f4, F])
 refine VO (kJ b4 (#[g4, (.int .i64 ((g.1).K)), f3, f4, F]) b T rfl aD oc nb rfl (fun g7 b => Wa (lt ?_)))
 obtain rfl := sj j
 exact wI (v0 := b4) (v1 := (.int .i64 g.2)) rfl T (kx b.has Mh [g4, (.int .i64 ((g.1).K)), f3, f4, F] rfl bA aD) rfl ⟨_, _, _, rfl, (b.mI Sn), (((I.trans a8).trans c1).trans c3), (((d.trans A).trans m).trans n), (ST.lO b (nm.mem Sn)), F, rfl, rfl, b0⟩
theorem DA (Q : Formula → (kd → Option Bool) → Option Bool) (a5 : ∀ (g : Formula) (k : Value) (t : Value) (J : kd → Option Bool) (r : Bool) (w : World) (c : Sl kf 5 (hp w) k g.Kids) (K : te pg0 t (hp w) (fun (x : kd) => [(.agg (ki x).toArray)]) (fun (r : Bool) => (.bool r)) J), Q g J = some r → kN false pg0 73 [(.agg #[(.int .i64 g.Op), (.int .i64 g.K), (.string g.kd.kj), (.string g.kd.kq), k]), t] w (.bool r)) (g : Formula) (k t : Value) (J : kd → Option Bool) (r : Bool) (w : World) (c : Sl kf 5 (hp w) k g.Kids) (K : te pg0 t (hp w) (fun (x : kd) => [(.agg (ki x).toArray)]) (fun (r : Bool) => (.bool r)) J) (hm : vR Q g J = some r) :
  kN false pg0 73 [(.agg #[(.int .i64 g.Op), (.int .i64 g.K), (.string g.kd.kj), (.string g.kd.kq), k]), t] w (.bool r) := by
 refine cG 45 func73 rfl (fun b => sg ?_)
 obtain ⟨A1, c2, rfl⟩ := c.form
 refine VE (kX b rfl (fun W4 n b => Wa (lS (Wf uf (VB b Mh rfl rfl dz (Wi rfl (ln (CI hm rfl (fun a9 hm => ?_) (fun a9 hm => ?_)))))))))
 ·refine sg (Wm (Wf yb (VA b Mh (ki g.kd) bo aG (bS hm fun r6 s hm => VE (zQ g.kd b K (kH.refl _) rfl (sW rfl) s (fun W8 b => Wa (ln ?_)))))))
  replace b := b.kh (Db St)
  refine kM (kU ?_)
  obtain rfl := sj hm
  exact rP b
 refine kg (Wa (lS (Wf sK (VB b Mh rfl rfl fl (V (lT aF rfl c) (Wm (kQ ?_)))))))
 refine ku (lu (fun i E W => ∃ z I, (E 18 = .int .i64 (i : Nat) ∧ E 17 = .int .i64 (g.Kids.length : Nat)) ∧ ST false lM w W (hp w) ((n, Ol (C1 g.Op g.K g.kd.kj g.kd.kq A1 g.Kids.length c2) 58) :: I) ∧ E 1 = t ∧ E 2 = (.pointer (some ⟨n, 0, none⟩)) ∧ E 5 = (.int .i64 z) ∧ E 16 = (.slice A1 g.Kids.length c2) ∧ pI Q J g (g.Kids.drop i) z = some r) g.Kids.length c.len ⟨0, _, ⟨rfl, rfl⟩, (b.kh St), rfl, rfl, rfl, rfl, hm⟩ dc dc dc (fun _ _ _ h => by obtain ⟨_, _, l, _⟩ := h; exact l) ?_ ?_)
 ·rintro v E W a4 ⟨z, I, ⟨d, m⟩, b, G, u, y, H, a⟩
  obtain ⟨j, c1, q, p, N⟩ := lc a4
  rw [q] at a
  refine bg (VQ (nM (i := (v : Int)) (x0 := j) kf.out aF aD H d c (aH _) p) (fun P ⟨_, ⟨c0, rfl, M⟩, Z⟩ => V (kl rfl (kO b.has Z bA aD)) (VE (ll b bK (fun A O b => ?_)))))
  obtain ⟨B, D, rfl⟩ := M.form
  let a0 := (C1 j.Op j.K j.kd.kj j.kd.kq B j.Kids.length D)
  refine VO (kJ (.agg a0.toArray) (a0.toArray) b rfl rfl aD oc nb rfl (fun F b => lr (VA b Mh a0 bA aD (Wh G (bS a fun R o a => VE (Eg b call73 (a5 j (.slice B j.Kids.length D) t J _ _ (M.mono kz.mono b.kw) (K.mono b.kw) o) (fun L b => ln ?_)))))))
  replace b := b.kh (Db St)
  refine CI a rfl (fun T a => ?_) (fun T a => ?_)
  ·exact kB (Wh y (Wi rfl (Wa (kQ (kY (ku ⟨d, (wi0 .i64 (z + 1)), _, ⟨rfl, m⟩, (b.kh St), G, u, rfl, H, (by rw [N]; exact a)⟩))))))
  exact lE (kY (ku ⟨d, z, _, ⟨rfl, m⟩, (b.kh St), G, u, y, H, (by rw [N]; exact a)⟩))
 rintro E W ⟨z, I, ⟨d, m⟩, b, G, u, y, H, a⟩
 rw [aI] at a
 refine ku (kA (sg (V (ky uf u) (VB b Mh rfl rfl dz (ln (bg (Wi rfl (Wa (ln ?_)))))))))
 refine CI a rfl (fun U a => ?_) (fun U a => ?_)
 ·refine sg (Wh y (V (ky sK u) (VB b Mh rfl rfl fl (V (lT aF rfl c) (Wi rfl (Wa (ln ?_)))))))
  replace b := b.kh (Db St)
  refine kM (mB (kU ?_))
  obtain rfl := sj a
  exact rP b
 refine sg (Wi rfl (Wa (ln (CI a rfl (fun Y a => ?_) (fun Y a => ?_)))))
 ·refine sg (Wh y (Wi rfl (Wa (ln ?_))))
  replace b := b.kh (Db St)
  refine kM (mB (kU ?_))
  obtain rfl := sj a
  exact rP b
 refine lE (kY (ku (sg (Wh y (V (ky zf u) (VB b Mh rfl rfl dz (Wi rfl (Wa (ln ?_)))))))))
 exact kM (rQ a b)
theorem Cg : ∀ (n : Nat) (c : Formula) (a : Value) (g : Value) (j : kd → Option Bool) (r : Bool) (w : World) (i : Sl kf 5 (hp w) a c.Kids) (k : te pg0 g (hp w) (fun (x : kd) => [(.agg (ki x).toArray)]) (fun (r : Bool) => (.bool r)) j) (_ : qj n c j = some r),
  kN false pg0 73 [(.agg #[(.int .i64 c.Op), (.int .i64 c.K), (.string c.kd.kj), (.string c.kd.kq), a]), g] w (.bool r)
 | 0 => by intros; rename_i h; simp only [qj] at h; cases h
 | n + 1 => DA (qj n) (Cg n)
theorem xt (a : Formula) (j k : Value) (G : kd → Option Bool) (r : Bool) (w : World) (c : Sl kf 5 (hp w) j a.Kids) (z : te pg0 k (hp w) (fun (x : kd) => [(.agg (ki x).toArray)]) (fun (r : Bool) => (.bool r)) G) (hm : sm a G = some r) :
  kN false pg0 24 [(.agg #[(.int .i64 a.Op), (.int .i64 a.K), (.string a.kd.kj), (.string a.kd.kq), j]), k] w (.bool r) := by
 refine cG 16 func24 rfl (fun b => sg ?_)
 obtain ⟨u, y, rfl⟩ := c.form
 let a0 := (C1 a.Op a.K a.kd.kj a.kd.kq u a.Kids.length y)
 refine VE (kX b rfl (fun U Z b => Wa (lr (Wm (V (Og underlying65 z.form rfl rfl) (Wm (Vg rfl rfl (kl rfl (kx b.has Mh a0 rfl bA aD)) (bS hm fun d K hm => N3 rfl rfl (Eg b call72 (uN a (.slice u a.Kids.length y) _ _ (c.mono kz.mono b.kw) K) (fun Y b => V (lg rfl rfl) (Wm (LJ hm (fun D E W => ∃ B, ST false lM w W (hp w) B ∧ E 4 = (.bool false) ∧ E 15 = (.bool D)) 4 ?_ (fun D g t => ?_)))))))))))))
 ·rintro T E W ⟨B, b, N, J⟩ H
  exact Wg J (lt (rQ H b))
 refine bC g (fun i g => ?_) (fun i g => ?_)
 ·refine ug i (kl rfl (kx b.has Mh a0 rfl bA aD)) (ug i (ko rfl) (bS g fun Q I g => vn i (Eg b call73 ((Cg kT) a (.slice u a.Kids.length y) k G _ _ (c.mono kz.mono b.kw) (z.mono b.kw) I) (fun M b => V (lg (cB i) rfl) ?_))))
  obtain rfl := sj g
  exact t _ _ ⟨_, (b.kh (Db St)), rfl, rfl⟩
 refine un i (un i (un i (V (li (cB i) rfl) ?_)))
 obtain rfl := sj g
 exact t _ _ ⟨_, (b.kh (Db St)), rfl, rfl⟩
theorem By (K : Nat) (a : Value) (G : List (kd × (List (ByteArray × Bool)))) (c : Value) (t : List ke) (j : Value) (D : List (kd × (List ke))) (g : Value) (u : List (ByteArray × (List ke))) (i : Value) (B : List kk) (J : Int) (I : kd) (a2 : ByteArray) (r : Bool) (w : World) (H : rT (fun (x : kd) => (.agg (ki x).toArray)) (lX Value.string (fun (x : Bool) => (Value.bool x))) (hp w) a G) (T : Sl (Pl km) 9 (hp w) c t) (Z : rT (fun (x : kd) => (.agg (ki x).toArray)) (kC 52 km 9) (hp w) j D) (U : rT Value.string (kC 52 km 9) (hp w) g u) (Y : Sl (Pl kD) 3 (hp w) i B) (Q : At (hp w) (.pointer (some ⟨K, 0, none⟩)) [a, c, j, g, i, (.int .i64 J)]) (hm : um G t D u B J I a2 = some r) :
  kN true pg0 64 [(.pointer (some ⟨K, 0, none⟩)), (.agg (ki I).toArray), (.string a2)] w (.bool r) := by
 refine cG 19 func64 rfl (fun l => sg (VE (kX l rfl (fun W2 q l => Wa (ln (kA ?_))))))
 replace l := l.drew
 have d := l.has.kh (Kb Sn)
 refine lm d kP (X 0 rfl d (ko rfl) (X 1 rfl d (DT underlying132 rfl rfl) (X 2 rfl d (ko rfl) (Xg 3 rfl rfl rfl d (ko rfl) (Xg 4 rfl rfl rfl d (nx rfl) (uE 5 rfl kr (.inr ⟨2, true, 9, rfl, rfl, by decide, rfl⟩) rfl dc (fun _ _ h => h) d (xn [a] xu rfl Q rfl) (fun p a3 => xf 6 rfl rfl rfl d (fun _ m => kl rfl (ns m (y := a) a3 iG)) (xf 7 rfl rfl rfl d (fun _ m => kl rfl (kx m Mh (ki I) rfl bo aG)) ?_))))))))
 obtain ⟨a4, a5, M, N⟩ := H
 refine xf 8 rfl rfl rfl d (fun _ m => pz (k := I) (z := (.map none)) Av eK fu rfl rfl M (fun b o n => m.1 b o (N b o n))) (Xg 9 rfl rfl rfl d (ko rfl) (xf 10 rfl rfl rfl d (fun _ m => vG (k := a2) (z := false) (vf := (fun (x : Bool) => (Value.bool x))) Hb fC gw rfl rfl ((ng.DJ kE.1 M I N).mono (fun b o n => m.1 b o n))) (X 11 rfl d (lg rfl rfl) (X 12 rfl d (ol rfl) (lF kr (ku ?_))))))
 exact kM (rQ hm l)
theorem Hg (N : kd) (Q D : Nat) (t : Value) (B : List (kd × (List (ByteArray × Bool)))) (a : Value) (j : List ke) (i : Value) (z : List (kd × (List ke))) (c : Value) (k : List (ByteArray × (List ke))) (g : Value) (u : List kk) (I : Int) (T : Nat) (Y : ByteArray) (r : Bool) (w : World) (M : rT (fun (x : kd) => (.agg (ki x).toArray)) (lX Value.string (fun (x : Bool) => (Value.bool x))) (hp w) t B) (G : Sl (Pl km) 9 (hp w) a j) (K : rT (fun (x : kd) => (.agg (ki x).toArray)) (kC 52 km 9) (hp w) i z) (H : rT Value.string (kC 52 km 9) (hp w) c k) (J : Sl (Pl kD) 3 (hp w) g u) (U : At (hp w) (.pointer (some ⟨D, 0, none⟩)) [t, a, i, c, g, (.int .i64 I)]) (Z : At (hp w) (.pointer (some ⟨Q, 0, none⟩)) [(.pointer (some ⟨D, 0, none⟩))]) (d : At (hp w) (.pointer (some ⟨T, 0, none⟩)) [(.string Y)]) (hm : sV N B j z k u I Y = some r) :
  kN true pg0 110 [(.agg (ki N).toArray), (.pointer (some ⟨Q, 0, none⟩)), (.pointer (some ⟨T, 0, none⟩))] w (.bool r) := by
 refine cG 9 func110 rfl (fun b => sg (VE (kX b rfl (fun W2 h b => Wa (lr (V (kl rfl (ns b.has (y := (.pointer (some ⟨D, 0, none⟩))) Z isAgg132)) (VA b Mh (ki N) bo aG (V (kl rfl (ns b.has (y := (.string Y)) d bT)) (bS hm fun l a2 hm => VE (Eg b call64 (By D t B a j i z c k g u I N Y _ _ (M.mono b.kw) (G.mono (Pl.mono _) b.kw) (K.mono b.kw) (H.mono b.kw) (J.mono (Pl.mono _) b.kw) (U.mono b.kw) a2) (fun W5 b => Wa ?_)))))))))))
 refine ln ?_
 exact kM (rQ hm b)
theorem Ef (g : Value) (i r : List ke) (w : World) (a : Sl (Pl km) 9 (hp w) g i) (hm : rV i = some r) :
  ma true pg0 61 [g] w 52 km 9 r := by
 unfold rV at hm
 refine uk 8 func61 rfl (fun b => sg (Wa (lS (Wm ?_))))
 obtain ⟨y, B, rfl⟩ := a.form
 refine V (yM aY rfl rfl) (ln ?_)
 rcases y with _ | z
 ·have u := a.isNil
  replace hm : some [] = some r := by rw [u] at hm; simpa [mZ, maxLen] using hm
  refine vO (rfl) (sg (Wa (lt (kU ?_))))
  obtain rfl := sj hm
  exact lB (v := (.slice none 0 0)) rfl rfl ⟨_, [], rfl, b.nn (fun p d => by cases d) (by simp), kC.nil _ _ _⟩
 ·refine qZ (rfl) (kg (VE (kV (cs := #[]) b uw (zU [] aY aT dn dc rfl (by simp) rfl rfl) (fun G k b => Wm (bS hm fun H t hm => VE (ny (enc := km) (v := (.slice (some ⟨k, 0, none⟩) 0 0)) (vs := (.slice (some z) i.length B)) (R := [(k, Ob #[] 52)]) b lV dc ph aY qR.1 qR.2.1 rfl qR.2.2.1 qR.2.2.2 rfl rfl (kC.lit (l := []) (enc := km) rfl dc rfl rfl) (a.mono (Pl.mono _) b.kw) t (fun D x j b c => Wa (lt ?_))))))))
  obtain rfl := sj hm
  exact lB (v := x) rfl rfl ⟨_, j, rfl, b.nn (fun p d => (Ml d)) c.nd, c⟩
theorem BJ (g : Value) (t : List ke) (j : Value) (B : ke → Option Bool) (r : Int) (w : World) (c : Sl (Pl km) 9 (hp w) g t) (D : te pg0 j (hp w) (fun (x : ke) => [(.agg (km x).toArray)]) (fun (r : Bool) => (.bool r)) B) (hm : uD t B = some r) :
  kN false pg0 145 [g, j] w (.int .i64 r) := by
 refine cG 19 func145 rfl (fun b => sg (Wa (lS (Wm (V (lT aY rfl c) (Wm (ln (lu (fun i E W => ∃ k, (E 8 = .int .i64 (i : Nat) ∧ E 7 = .int .i64 (t.length : Nat)) ∧ ST false lM w W (hp w) k ∧ E 0 = g ∧ E 1 = j ∧ pa B (t.drop i) i = some r) t.length c.len ⟨_, ⟨rfl, rfl⟩, (b.kh St), rfl, rfl, hm⟩ dc dc dc (fun _ _ _ h => by obtain ⟨_, l, _⟩ := h; exact l) ?_ ?_))))))))
 ·rintro Q E W H ⟨k, ⟨d, m⟩, b, u, y, a⟩
  obtain ⟨z, T, M, K, N⟩ := lc H
  rw [M] at a
  refine bg (Wh d (Wa (lr (Wh y (Wh u (Wm (VQ (ni (enc := km) (i := (Q : Int)) (x0 := z) aY aT rfl rfl c (aH _) K) (fun Y I => V (kl rfl (kO b.has I cE aT)) (bS a fun Z J a => ?_)))))))))
  refine VE (zQ z b D (kH.refl _) rfl (sW rfl) J (fun U b => ln (CI a rfl (fun G a => ?_) (fun G a => ?_))))
  ·refine sg (Wm (Wa (lt (mB (kU (mB (kU ?_)))))))
   obtain rfl := sj a
   exact rP b
  exact lE (kY (ku ⟨d, _, ⟨rfl, m⟩, (b.kh St), u, y, (by rw [N]; exact a)⟩))
 rintro E W ⟨k, ⟨d, m⟩, b, u, y, a⟩
 rw [aI] at a
 exact ku (sg (Wa (lt (rQ a b))))
theorem BD (j : Value) (a0 : List ke) (t : LO) (H : Value) (f1 : ke → Option Bool) (r : List ke) (w : World) {μ0 : kL} (h0 : nN μ0 (t ++ []) w) (T : kC 52 km 9 j a0 t) (a4 : te pg0 H μ0 (fun (x : ke) => [(.agg (km x).toArray)]) (fun (r : Bool) => (.bool r)) f1) (hm : rp a0 f1 = some r) :
  lH false pg0 111 [j, H] w (t ++ []) (fun v L1 W' => ∃ q S2, v = q ∧ L1 = (S2 ++ []) ∧ kC 52 km 9 q r S2) := by
 refine yN h0 42 func111 rfl (fun d => sg (Wa (lr (Wm (Wm (bS hm fun n d3 hm => VE (Eg d call145 (BJ j a0 H f1 _ _ (T.sl lV (fun b o h => d.at_ (Ml h))) (a4.mono d.kw) d3) (fun W3 d => Wa (ln ?_)))))))))
 refine kA (sg (Wm (Wi rfl (ln (CI hm rfl (fun d2 hm => ?_) (fun d2 hm => ?_))))))
 ·refine sg (Wm (Wa (lt (kU ?_))))
  obtain rfl := sj hm
  exact lB (v := j) rfl rfl ⟨_, _, rfl, (d.mI (Kr Sn)), j, t, rfl, rfl, T⟩
 refine kS (Wm (Wi rfl (Wa (ln (lR (np (fun m E W => ∃ U I B D a2, ST false (keys (t ++ [])) w W μ0 (I ++ a2) ∧ E 0 = j ∧ E 1 = H ∧ E 5 = (.int .i64 B) ∧ E 6 = (.int .i64 D) ∧ kC 52 km 9 j U I ∧ nP f1 m U B D = some r) kT ⟨a0, t, n, (wi0 .i64 (n + 1)), _, (d.kh St), rfl, rfl, rfl, rfl, T, hm⟩ ?_))))))
 rintro m E W ⟨U, I, B, D, a2, d, y, Q, G, K, g, a⟩
 cases m with
 | zero => rw [nP] at a; cases a
 | succ c8 =>
  refine kA (sg (Wh K (Wh y (V (mY aY rfl g) (Wi rfl (ln (CI a rfl (fun A a => ?_) (fun A a => ?_))))))))
  ·refine kn (kA (CJ a (fun Y E W => ∃ J a3, ST false (keys (t ++ [])) w W μ0 (J ++ a3) ∧ E 0 = j ∧ E 1 = H ∧ E 5 = (.int .i64 Y.2) ∧ E 6 = (.int .i64 D) ∧ kC 52 km 9 j Y.1 J) (fun Y c => ?_) ?_))
   ·refine bg (Wh y (Wh K (bS c fun k M c => VQ (mS (i := D) (x0 := k) aY aT rfl rfl g (kI M) (kF M)) (fun e4 O => V (kl rfl (qc d.has (fun p h => (Ml h)) g lV O (kF M) cE aT)) (VE (ll d dn (fun d7 e2 d => VO (kJ (.agg (km k).toArray) ((km k).toArray) d rfl rfl aT (ph k) nb rfl (fun d8 d => lr (Wh Q ?_))))))))))
    refine VA d Mh (km k) cE aT (bS c fun e6 R c => VE (zQ k d a4 (kH.refl _) rfl (sW rfl) R (fun d9 d => V (nT rfl) (ln (CI c rfl (fun F c => ?_) (fun F c => ?_))))))
    ·refine sg (Wh y (Wh G (VA d Mh (km k) cE aT (bS c fun d0 N c => VQ (mS (i := B) (x0 := d0) aY aT rfl rfl g (kI N) (kF N)) (fun e5 P => ?_)))))
     replace d := d.perm (Nr (Qb Qz) Nz)
     refine VO (vN (u := (.agg (km k).toArray)) (x1 := k)  d g lV ph rfl rfl rfl P (kF N) aT (fun e0 c1 d s => ln ?_))
     replace d := d.kh (Kr (Db St))
     refine kB (Wh G (Wi rfl (Wa (kQ (kY (ku ?_))))))
     obtain rfl := sj c
     exact ⟨c1, _, (d.kh St), y, Q, rfl, K, s⟩
    refine lE (kY (ku ?_))
    obtain rfl := sj c
    exact ⟨I, _, (d.kh (Db St)), y, Q, G, K, g⟩
   rintro ⟨c7, c9⟩ E W ⟨J, a3, d, c3, c4, c5, c6, b6⟩ L
   exact kB (Wh c6 (Wi rfl (Wa (ln ⟨c8, bD _, c7, J, c9, (wi0 .i64 (D + 1)), _, (d.kh St), c3, c4, c5, rfl, b6, L⟩))))
  refine nf (mO (mO (pZ (ku (sg (Wh y (Wh G (bS a fun _ Z a => VQ (rc (i := B) aY aT rfl rfl g (qm Z) (qf Z)) (fun e7 b7 => VO (ve (z := PK)  d g lV ph aY dn b7 rfl rfl (fun e1 c2 d a9 => lr (Wh y ?_))))))))))))
  refine Wh G (bS a fun _ l a => VQ (tO (i := B) aY aT rfl rfl a9 lV (qm l) (qf l)) (fun a5 b9 => Wa (lt ?_)))
  obtain rfl := sj a
  exact lB (v := a5) rfl rfl ⟨_, _, rfl, (d.mI (Kr Sn)), a5, c2, rfl, rfl, b9⟩
theorem IK (a : ke) (r : Bool) (w : World) (hm : yj a = some r) :
  kN true pg0 112 [(.agg (km a).toArray)] w (.bool r) := by
 refine cG 6 func112 rfl (fun b => sg (VE (kX b rfl (fun g j b => Wa (lr (VA b Mh (km a) cE aT (bS hm fun k c hm => VE (Eg b call113 (vB a _ _  c) (fun i b => V (nT rfl) (Wa (kQ ?_)))))))))))
 refine ku ?_
 exact kM (rQ hm b)
theorem ML (c : Value) (k : List ke) (a : LO) (g : Value) (t : (ke × ke) → Option Int) (r : List ke) (w : World) {y : kL} (u : nN y (a ++ []) w) (i : kC 52 km 9 c k a) (j : FR pg0 g y (fun (x : (ke × ke)) => [(.agg (km x.1).toArray), (.agg (km x.2).toArray)]) (fun (r : Int) => (.int .i64 r)) t) (hm : xF t k = some r) :
  lH true pg0 114 [c, g] w (a ++ []) (fun v z W' => ∃ S, v = (.tuple #[]) ∧ z = (S ++ []) ∧ kC 52 km 9 c r S) := FY (P := pg0) (ρ := Nh) QX 9 cE aT km lV ph u.H u.S i j hm
theorem E3 (c : ke) (r : List Int) (w : World) (hm : xh c = some r) :
  ma true pg0 119 [(.agg (km c).toArray)] w 5 (mc .u8) 1 r := by
 refine uk 53 func119 rfl (fun d => sg (VE (kX d rfl (fun W2 b1 d => Wa (lS (VA d Mh (km c) cE aT (bS hm fun r3 g3 hm => VE (Eg d call113 (vB c _ _  g3) (fun W5 d => V (nT rfl) (kQ ?_))))))))))
 refine ku (CI hm rfl (fun g0 hm => ?_) (fun g0 hm => ?_))
 ·refine sg (Wa (ln ?_))
  replace d := d.kh (Db St)
  refine kM (kU ?_)
  obtain rfl := sj hm
  exact lB (v := (.slice none 0 0)) rfl rfl ⟨_, [], rfl, d.nn (fun p m => by cases m) (by simp), kC.nil _ _ _⟩
 refine kg (V (mK (v := (.agg #[(.slice none 0 0)])) uw (me zeroValue239 fX (PD _ fX) kr)) (VE (kX d rfl (fun W8 g d => Wa (lr (Wm (Wf wh (VB d (Mt Mh) rfl rfl dz (bS hm fun r9 e2 hm => ?_)))))))))
 refine VE (eM d (Cb Pz (C0 Cn)) call181 (fun l _ => (rU g (.slice none 0 0) ([]) [] c.Kind _ _ l (kC.nil _ _ _) e2)) ?_)
 rintro _ k3 k5 j9 d g7 P h ⟨g4, f9, I, rfl, e4⟩
 obtain rfl := I.symm
 replace d := d.perm (Tb (Tr Tn))
 refine lr (Wm (Wf rr (VA d (Mt (Ma Mh)) (ki c.Head) bo aG (bS hm fun N e3 hm => ?_))))
 refine VE (eM d (Cb Pz (Cr Qz Cn)) call182 (fun l _ => (vA g g4 r9.2 f9 c.Head _ _ l e4 e3)) ?_)
 rintro _ k4 d1 k0 d g8 R h ⟨G, D, J, rfl, i⟩
 obtain rfl := J.symm
 replace d := d.perm (Tb (Tr Tn))
 refine ln (kA (CJ hm (fun a3 E W => ∃ B H K Q, kH d1 K ∧ ST true lM w W K ((g, Ob #[B] 239) :: (H ++ Q)) ∧ E 3 = (.pointer (some ⟨g, 0, none⟩)) ∧ kC 5 (mc .u8) 1 B a3 H) (fun a3 a => ?_) ?_))
 ·refine sg (Wf wh (VB d (Mt (Ma Mh)) rfl rfl dz (ln (bg (Wi rfl (Wa (ln (CI a rfl (fun b0 a => ?_) (fun b0 a => ?_)))))))))
  ·refine kB (Wm (Wf xZ (VB d (Mt (Ma Mh)) rfl rfl bT (bS a fun i3 b6 a => ?_))))
   refine VE (eM d (Cb Pz (Cr Qz Cn)) call183 (fun l _ => (yY g G N.2 D c.kR _ _ l i b6)) ?_)
   rintro _ i8 f5 g9 d T q h ⟨e9, d3, k, rfl, c5⟩
   obtain rfl := k.symm
   replace d := d.perm (Tb (Tr Tn))
   refine kQ (kY (ku ?_))
   obtain rfl := sj a
   exact ⟨e9, d3, f5, _, T, (d.kh (Kb (Kr (Db St)))), rfl, c5⟩
  refine sg (Wi rfl (Wa (ln (CI a rfl (fun b2 a => ?_) (fun b2 a => ?_)))))
  ·refine kB (Wm (Wf ou (VA d (Mt (Ma Mh)) (ki c.B) bo aG (bS a fun i4 b9 a => ?_))))
   refine VE (eM d (Cb Pz (Cr Qz Cn)) call182 (fun l _ => (vA g G N.2 D c.B _ _ l i b9)) ?_)
   rintro _ i9 f6 h0 d U s h ⟨f0, d4, t, rfl, c6⟩
   obtain rfl := t.symm
   replace d := d.perm (Tb (Tr Tn))
   refine kQ (kY (ku ?_))
   obtain rfl := sj a
   exact ⟨f0, d4, f6, _, U, (d.kh (Kb (Kr (Db St)))), rfl, c6⟩
  refine sg (Wi rfl (Wa (ln (CI a rfl (fun b3 a => ?_) (fun b3 a => ?_)))))
  ·refine sg (Wm (Wf ou (VA d (Mt (Ma Mh)) (ki c.B) bo aG (bS a fun e6 c0 a => ?_))))
   refine VE (eM d (Cb Pz (Cr Qz Cn)) call182 (fun l _ => (vA g G N.2 D c.B _ _ l i c0)) ?_)
   rintro _ j0 j7 h1 d Y A h ⟨f1, d5, u, rfl, c7⟩
   obtain rfl := u.symm
   replace d := d.perm (Tb (Tr Tn))
   refine ln (kB (Wm (Wf ya (VB d (Mt (Ma Mh)) rfl rfl bT (bS a fun i5 c1 a => ?_)))))
   refine VE (eM d (Cb Pz (Cr Qz Cn)) call183 (fun l _ => (yY g f1 e6.2 d5 c.lj _ _ l c7 c1)) ?_)
   rintro _ j3 f7 h2 d Z F h ⟨f2, d6, x, rfl, c8⟩
   obtain rfl := x.symm
   replace d := d.perm (Tb (Tr Tn))
   refine kQ (kY (ku ?_))
   obtain rfl := sj a
   exact ⟨f2, d6, f7, _, (Y.trans Z), (d.kh (Kb (Kr (Db St)))), rfl, c8⟩
  refine sg (Wi rfl (Wa (ln (CI a rfl (fun b4 a => ?_) (fun b4 a => ?_)))))
  ·refine sg (Wm (Wf ou (VA d (Mt (Ma Mh)) (ki c.B) bo aG (bS a fun e7 c2 a => ?_))))
   refine VE (eM d (Cb Pz (Cr Qz Cn)) call182 (fun l _ => (vA g G N.2 D c.B _ _ l i c2)) ?_)
   rintro _ j4 j8 h3 d a1 L h ⟨f3, d7, y, rfl, c9⟩
   obtain rfl := y.symm
   replace d := d.perm (Tb (Tr Tn))
   refine ln (kB (Wm (Wf we (VA d (Mt (Ma Mh)) (ki c.C) bo aG (bS a fun i6 c3 a => ?_)))))
   refine VE (eM d (Cb Pz (Cr Qz Cn)) call182 (fun l _ => (vA g f3 e7.2 d7 c.C _ _ l c9 c3)) ?_)
   rintro _ j5 f8 h4 d a2 O h ⟨f4, d8, z, rfl, d0⟩
   obtain rfl := z.symm
   replace d := d.perm (Tb (Tr Tn))
   refine kQ (kY (ku ?_))
   obtain rfl := sj a
   exact ⟨f4, d8, f8, _, (a1.trans a2), (d.kh (Kb (Kr (Db St)))), rfl, d0⟩
  refine lE (kY (ku ?_))
  obtain rfl := sj a
  exact ⟨G, D, d1, _, (kH.refl _), (d.kh (Kb (Kr (Db St)))), rfl, i⟩
 rintro e5 E W ⟨B, H, K, Q, g1, d, d9, c4⟩ j
 refine sg (Wh d9 (bS j fun i2 b5 j => VE (rW d call184 (Bn g B e5 _ _ (c4.sl (fun _ => rfl) (fun b o m => d.at_ (Mt (Ml m)))) (At.of (d.at_ Mh) _ rfl) b5) (fun h5 e8 j6 d2 d g2 n M => Wa (ln ?_)))))
 replace d := d.kh (Kr (Db (Dr St)))
 refine kM ?_
 obtain rfl := sj j
 exact lB (v := e8) rfl rfl ⟨_, d2, rfl, d.nn (fun p m => (Ml m)) M.nd, M⟩
theorem HG (g i : ke) (r : Int) (w : World) (hm : tX g i = some r) :
  kN true pg0 115 [(.agg (km g).toArray), (.agg (km i).toArray)] w (.int .i64 r) := by
 refine cG 10 func115 rfl (fun d => sg (VE (kX d rfl (fun T Y d => VE (kX d rfl (fun U Z d => Wa (ln (kA ?_))))))))
 replace d := d.drew
 have h := d.has.kh (Kb (Kb Sn))
 refine lm h kP (XH 0 rfl h (fun _ l => kl rfl (kx l (Mt Mh) (km g) rfl cE aT)) (XH 2 rfl h (fun _ l => kl rfl (kx l Mh (km i) rfl cE aT)) (bS hm fun y t hm => XE 1 rfl (rW d call119 (E3 g _ _  t) (fun I B N G d a n j => ?_)))))
 have h := d.has.qe a (Dr (Kb (Kb Sn)))
 refine ⟨h, (bS hm fun z u hm => XE 3 rfl (rW d call119 (E3 i _ _  u) (fun J D Q H d c p k => ?_)))⟩
 have h := d.has.qe (a.trans c) (Dr (Dr (Kb (Kb Sn))))
 refine ⟨h, (bS hm fun M x hm => XE 4 rfl (Eg d call178 (BX B y D z _ _ (j.sl (fun _ => rfl) (fun b o m => d.at_ (Ma (Ml m)))) (k.sl (fun _ => rfl) (fun b o m => d.at_ (Ml m))) x) (fun K d => ?_)))⟩
 have h := d.has.qe (a.trans c) (Dr (Dr (Kb (Kb Sn))))
 refine ⟨h, (X 5 rfl h (ol rfl) (lF kr (ku ?_)))⟩
 exact kM (rQ hm d)
theorem Dk (j : Value) (a0 : List ke) (x : LO) (r : List ke) (w : World) {μ0 : kL} (h0 : nN μ0 (x ++ []) w) (B : kC 52 km 9 j a0 x) (hm : sT a0 = some r) :
  lH true pg0 116 [j] w (x ++ []) (fun v L1 W' => ∃ y1 S2, v = y1 ∧ L1 = (S2 ++ []) ∧ kC 52 km 9 y1 r S2) := by
 refine yN h0 61 func116 rfl (fun b => sg (Wa (lS (Wm (V (mY aY rfl B) (Wi rfl (ln (CI hm rfl (fun g0 hm => ?_) (fun g0 hm => ?_)))))))))
 ·refine sg (Wm (Wa (lt (kU ?_))))
  obtain rfl := sj hm
  exact lB (v := j) rfl rfl ⟨_, _, rfl, (b.mI (Kr Sn)), j, x, rfl, rfl, B⟩
 refine kS (Wa (ln (lR (np (fun m E W => ∃ t P, ST true (keys (x ++ [])) w W μ0 (x ++ P) ∧ E 0 = j ∧ E 3 = (.int .i64 t) ∧ oJ a0 m t = some r) kT ⟨1, _, (b.kh St), rfl, rfl, hm⟩ ?_))))
 rintro m E W ⟨t, P, b, D, H, a⟩
 cases m with
 | zero => rw [oJ] at a; cases a
 | succ f5 =>
  refine kA (sg (Wh H (Wh D (V (mY aY rfl B) (Wi rfl (ln (CI a rfl (fun d0 a => ?_) (fun d0 a => ?_))))))))
  ·refine kn (kA (lR (kA ?_)))
   replace b := b.drew
   have d := b.has.kh (Kr Sn)
   refine lm d kP (X 0 rfl d (ko D) (X 1 rfl d (ko H) (bS a fun c3 Z a => XQ 2 rfl d (mS (i := t) (x0 := c3) aY aT rfl rfl B (kI Z) (kF Z)) (fun g7 d6 => XH 3 rfl d (fun _ l => kl rfl (qc l (fun p h => (Ml h)) B lV d6 (kF Z) cE aT)) (X 4 rfl d (ko D) (X 5 rfl d (ko H) (X 6 rfl d (lW rfl rfl rfl) (bS a fun c4 n a => XQ 7 rfl d (mS (i := (wi0 .i64 (t - 1))) (x0 := c4) aY aT rfl rfl B (kI n) (kF n)) (fun g8 d7 => XH 8 rfl d (fun _ l => kl rfl (qc l (fun p h => (Ml h)) B lV d7 (kF n) cE aT)) (X 9 rfl d (wQ rfl rfl (ow fB) (sU (yG _ c3 c4))) (lF kr (ku ?_))))))))))))
   refine CI a rfl (fun d1 a => ?_) (fun d1 a => ?_)
   ·refine sg (Wh D (Wh H (bS a fun _ A a => VQ (rc (i := t) aY aT rfl rfl B (qm A) (qf A)) (fun c1 M => Wa (lS (Wa (ln ?_)))))))
    refine CJ a (fun U E W => ∃ o R, ST true (keys (x ++ [])) w W μ0 (o ++ R) ∧ E 0 = j ∧ E 3 = (.int .i64 U.2) ∧ kC 52 km 9 j U.1 o) (fun U d4 => ?_) ?_
    ·refine lR (np (fun m E W => ∃ q K Y y b6, ST true (keys (x ++ [])) w W μ0 (K ++ b6) ∧ E 0 = j ∧ E 3 = (.int .i64 Y) ∧ E 4 = c1 ∧ E 5 = (.int .i64 y) ∧ kC 52 km 9 j q K ∧ oD t m q Y y = some U) kT ⟨a0, x, t, 1, _, (b.kh St), D, H, rfl, rfl, B, d4⟩ ?_)
     rintro m E W ⟨q, K, Y, y, b6, b, Q, T, I, J, g, k⟩
     cases m with
     | zero => rw [oD] at k; cases k
     | succ f6 =>
      refine kA (sg (Wh J (Wh I (V (BS aY rfl M g) (Wi rfl (ln (CI k rfl (fun d2 k => ?_) (fun d2 k => ?_))))))))
      ·refine kn (kA (CJ k (fun s E W => ∃ N b7, ST true (keys (x ++ [])) w W μ0 (N ++ b7) ∧ E 0 = j ∧ E 3 = (.int .i64 s.2) ∧ E 4 = c1 ∧ E 5 = (.int .i64 y) ∧ kC 52 km 9 j s.1 N) (fun s c => ?_) ?_))
       ·refine lR (kA ?_)
        replace b := b.drew
        have d := b.has.kh (Kr Sn)
        refine lm d kP (X 0 rfl d (ko I) (X 1 rfl d (ko J) (bS c fun c6 a2 c => XQ 2 rfl d (rf (i := y) (x0 := c6) aY aT rfl rfl g M (kI a2) (kF a2)) (fun g9 d8 => XH 3 rfl d (fun _ l => kl rfl (qc l (fun p h => (Ml h)) g lV d8 (uv (kF a2)) cE aT)) (X 4 rfl d (ko I) (X 5 rfl d (ko J) (X 6 rfl d (lW rfl rfl rfl) (bS c fun c7 a3 c => XQ 7 rfl d (rf (i := (wi0 .i64 (y - 1))) (x0 := c7) aY aT rfl rfl g M (kI a3) (kF a3)) (fun h1 d9 => XH 8 rfl d (fun _ l => kl rfl (qc l (fun p h => (Ml h)) g lV d9 (uv (kF a3)) cE aT)) (X 9 rfl d (Jb rfl rfl (ow fB) (Fb (yG _ c6 c7))) (lF kr (ku ?_))))))))))))
        refine CI c rfl (fun d3 c => ?_) (fun d3 c => ?_)
        ·refine sg (Wh Q (Wh T (Wh I (Wh J (bS c fun a9 a4 c => VQ (rf (i := y) (x0 := a9) aY aT rfl rfl g M (kI a4) (kF a4)) (fun h2 e0 => V (kl rfl (qc b.has (fun p h => (Ml h)) g lV e0 (uv (kF a4)) cE aT)) (bS c fun f8 a5 c => VQ (mS (i := Y) (x0 := f8) aY aT rfl rfl g (kI a5) (kF a5)) (fun h3 e1 => VO (vN (u := (.agg (km a9).toArray)) (x1 := a9)  b g lV ph rfl rfl rfl e1 (kF a5) aT (fun g3 e8 b c9 => ln (kB ?_)))))))))))
         refine Wh T (Wi rfl (Wa (kQ (kY (ku ?_)))))
         obtain rfl := sj c
         exact ⟨e8, _, (b.kh St), Q, rfl, I, J, c9⟩
        refine lE (kY (ku ?_))
        obtain rfl := sj c
        exact ⟨K, _, (b.kh St), Q, T, I, J, g⟩
       rintro ⟨f4, f7⟩ E W ⟨N, b7, b, f0, f1, f2, f3, e4⟩ d5
       exact kB (Wh f3 (Wi rfl (Wa (ln ⟨f6, bD _, f4, N, f7, (wi0 .i64 (y + 1)), _, (b.kh St), f0, f1, f2, rfl, e4, d5⟩))))
      refine nf (mO (mO (pZ (ku ?_))))
      obtain rfl := sj k
      exact ⟨K, _, (b.kh St), Q, T, g⟩
    rintro ⟨g4, c5⟩ E W ⟨o, R, b, b9, c0, O⟩ G
    refine sg (Wh b9 (Wh c0 (bS G fun _ F G => VQ (rc (i := c5) aY aT rfl rfl O (qm F) (qf F)) (fun h4 e2 => VO (ve (z := PK)  b O lV ph aY dn e2 rfl rfl (fun g2 e7 b c8 => lr (Wh b9 (Wh c0 (bS G fun _ L G => VQ (tO (i := c5) aY aT rfl rfl c8 lV (qm L) (qf L)) (fun c2 e3 => ?_))))))))))
    refine Wa (lt (mB (kU (kU (mB (kU ?_))))))
    obtain rfl := sj G
    exact lB (v := c2) rfl rfl ⟨_, _, rfl, (b.mI (Kr Sn)), c2, e7, rfl, rfl, e3⟩
   exact lE (kY (ku (kB (Wh H (Wi rfl (Wa (ln ⟨f5, bD _, (wi0 .i64 (t + 1)), _, (b.kh St), D, rfl, a⟩)))))))
  refine nf (mO (mO (pZ (ku (sg (Wh D (Wa (lt ?_))))))))
  obtain rfl := sj a
  exact lB (v := j) rfl rfl ⟨_, _, rfl, (b.mI (Kr Sn)), j, x, rfl, rfl, B⟩
theorem GX (i : Value) (t r : List ke) (w : World) (B : Sl (Pl km) 9 (hp w) i t) (hm : xx t = some r) :
  ma false pg0 52 [i] w 52 km 9 r := by
 refine uk 11 func52 rfl (fun b => sg (Wa (lr (Wm (bS hm fun u T hm => VE (rW b call61 (ma.lZ (Ef i t _ _ (B.mono (Pl.mono _) b.kw) T)) (fun W3 v7 y R8 b a5 o Q => bS hm fun U D hm => ?_)))))))
 refine VE (eM b (Cr Qz Cn) call111 (fun h _ => (BD v7 u R8 (.func (.func 112) #[] #[]) (fun (x : ke) => yj x) _ _ h Q ⟨112, #[], #[], rfl, call112, fun W x r s hm => (IK x r W  hm).lZ⟩ D)) ?_)
 rintro _ L R A b z l d ⟨k, K, a, rfl, I⟩
 obtain rfl := a.symm
 replace b := b.perm (Tr Tn)
 refine Wa (lr (Wm (bS hm fun Y G hm => ?_)))
 refine VE (eM b (Cr Qz Cn) call114 (fun h _ => lH.lZ (ML k U K (.func (.func 115) #[] #[]) (fun (x : (ke × ke)) => tX x.1 x.2) _ _ h I ⟨115, #[], rfl, call115, fun W x r s hm => HG x.1 x.2 r W  hm⟩ G)) ?_)
 rintro _ O c0 a9 b a2 m d ⟨M, c, rfl, J⟩
 obtain rfl := c.symm
 replace b := b.perm (Tr Tn)
 refine lr (Wm (bS hm fun F H hm => ?_))
 refine VE (eM b (Cr Qz Cn) call116 (fun h _ => lH.lZ (Dk k Y M _ _ h J H)) ?_)
 rintro _ P c1 E b a3 n d ⟨Z, N, g, rfl, j⟩
 obtain rfl := g.symm
 replace b := b.perm (Tr Tn)
 refine Wa (lt ?_)
 obtain rfl := sj hm
 exact lB (v := Z) rfl rfl ⟨_, N, rfl, b.nn (fun p q => (Ml q)) j.nd, j⟩
theorem yX (k : lD) (H K c1 : Value) (L : List ke) (a2 : ByteArray) (r : List ke) (w : World) (g : Sl mh 15 (hp w) H k.kZ) (J : Sl mN 8 (hp w) K k.mu) (h5 : Sl (Pl km) 9 (hp w) c1 L) (hm : od k L a2 = some r) :
  ma false pg0 13 [(.agg #[(.string k.Name), H, K]), c1, (.string a2)] w 52 km 9 r := by
 refine uk 47 func13 rfl (fun d => sg ?_)
 obtain ⟨A1, c2, rfl⟩ := g.form
 let c8 : Value := (.slice A1 k.kZ.length c2)
 obtain ⟨A3, c4, rfl⟩ := J.form
 let O := (C3 k.Name A1 k.kZ.length c2 A3 k.mu.length c4)
 refine VE (kX d rfl (fun W6 A d => Wa (lr (Wm (Wm (bS hm fun B i5 hm => ?_))))))
 refine VE (B6 d (bI _) call51 (fun _ _ _ _ => (J8 c1 L a2 _ _ (h5.mono (Pl.mono _) d.kw) i5)) (fun W9 l1 g4 l0 d a5 af ae h4 => ?_) (L0 := []))
 obtain ⟨N, q, e0, f9, e1, g0, e2, g1, e3, g2, e4, g3, Q, c0, rfl, h6, h7, h8, h9, i0⟩ := h4
 replace c0 := c0.symm; subst c0
 replace d := d.perm (Tb (Tb (Tb (Tr (Tr (Tr (Tr (Tr Tn))))))))
 refine Wa (lr (Wa (lS (Wf CK (VB d (Mt (Mt (Mt (Ma (Ma (Ma (Ma (Ma Mh)))))))) rfl rfl isAgg22 (V (lT eG rfl g) (Wm ?_)))))))
 refine ln (lu (fun i E W => ∃ D I G s P, (E 19 = .int .i64 (i : Nat) ∧ E 18 = .int .i64 (k.kZ.length : Nat)) ∧ kH g4 s ∧ ST false lM w W s ((N, Ob #[(.pointer (some ⟨q, 0, none⟩))] 132) :: ((q, Ob #[e0, e1, e2, e3, e4, (.int .i64 B.2.2.2.2.2.1)] 189) :: ((Q, Ob #[(.string B.2.2.2.2.2.2)] 9) :: ((A, Ol O 25) :: (G ++ (f9 ++ (g0 ++ (g1 ++ (g2 ++ (g3 ++ P)))))))))) ∧ E 3 = (.pointer (some ⟨A, 0, none⟩)) ∧ E 7 = (.func (.func 110) #[] #[(.pointer (some ⟨N, 0, none⟩)), (.pointer (some ⟨Q, 0, none⟩))]) ∧ E 8 = D ∧ E 17 = c8 ∧ kC 52 km 9 D I G ∧ ry k B (k.kZ.drop i) I = some r) k.kZ.length g.len ⟨(.slice none 0 0), ([]), [], g4, _, ⟨rfl, rfl⟩, (kH.refl _), (d.kh (Kb (Kb (Kb (Sb (Pr (Pr (Pr (Pr (Pr Pz))))) St))))), rfl, rfl, rfl, rfl, (kC.nil _ _ _), hm⟩ dc dc dc (fun _ _ _ h => by obtain ⟨_, _, _, _, _, aa, _⟩ := h; exact aa) ?_ ?_)
 ·let b6 : Value := (.func (.func 110) #[] #[(.pointer (some ⟨N, 0, none⟩)), (.pointer (some ⟨Q, 0, none⟩))])
  rintro d8 E W f0 ⟨D, I, G, s, P, ⟨F, eN⟩, u, d, Y, Z, a3, a4, M, j⟩
  obtain ⟨a, i6, f8, f7, c6⟩ := lc f0
  rw [f8] at j
  refine bg (VQ (nM (i := (d8 : Int)) (x0 := a) mh.out eG eU a4 F (g.mono mG.mono (a5.trans u)) (aH _) f7) (fun k1 ⟨_, ⟨k4, k5, rfl, f5, f6⟩, f1⟩ => V (kl rfl (kO d.has f1 isAgg60 eU)) (VE (ll d gD (fun i9 d0 d => ?_)))))
  obtain ⟨b2, b7, rfl⟩ := f5.form
  obtain ⟨b3, b9, rfl⟩ := f6.form
  let a0 := (C2 a.Signed.ke.Kind a.Signed.ke.Head.kj a.Signed.ke.Head.kq a.Signed.ke.kR a.Signed.ke.B.kj a.Signed.ke.B.kq a.Signed.ke.C.kj a.Signed.ke.C.kq a.Signed.ke.lj b2 a.Signed.Tag.length b7 a.kv.Op a.kv.K a.kv.kd.kj a.kv.kd.kq b3 a.kv.Kids.length b9)
  refine VO (kJ (.agg a0.toArray) (a0.toArray) d rfl rfl eU oc nb rfl (fun j0 d => lr (V (kl Y (kx d.has (Mt (Mt (Mt (Mt Mh)))) O rfl dV dB)) (Wf G8 (Wf GB (VA d Mh (km a.Signed.ke) cE aT (bS j fun c f2 j => ?_)))))))
  let e5 : Value := (.string (((c.1).kd).kq))
  let d1 : Value := (.string (((c.1).kd).kj))
  refine VE (eD d (bI _) call23 (fun hh => (MF k c8 (.slice A3 k.mu.length c4) a.Signed.ke _ _ hh (g.mono mG.mono (a5.trans u)) (J.mono pe.mono (a5.trans u)) f2)) ?_ (L0 := []))
  rintro _ k6 c3 i8 d a9 ab ⟨k8, a6, rfl, c7⟩
  obtain rfl := a6.symm
  refine Wm (Wx rfl (Wx rfl (VE (ll d bK (fun j4 k0 d => ?_)))))
  obtain ⟨T, U, rfl⟩ := c7.form
  let b8 : Value := (.slice T ((c.1).Kids).length U)
  refine VO (kJ (.agg #[(.int .i64 ((c.1).Op)), (.int .i64 ((c.1).K)), d1, e5, b8]) (#[(.int .i64 ((c.1).Op)), (.int .i64 ((c.1).K)), d1, e5, b8]) d rfl rfl aD oc nb rfl (fun j5 d => Wa (lr (Wm (Wi rfl (Wm (LJ j (fun d9 E W => ∃ c9, ST false lM w W c3 ((d0, Ol a0 60) :: ((N, Ob #[(.pointer (some ⟨q, 0, none⟩))] 132) :: ((q, Ob #[e0, e1, e2, e3, e4, (.int .i64 B.2.2.2.2.2.1)] 189) :: ((Q, Ob #[(.string B.2.2.2.2.2.2)] 9) :: ((A, Ol O 25) :: (G ++ (f9 ++ (g0 ++ (g1 ++ (g2 ++ (g3 ++ c9))))))))))) ∧ E 3 = (.pointer (some ⟨A, 0, none⟩)) ∧ E 7 = b6 ∧ E 8 = D ∧ E 10 = (.pointer (some ⟨d0, 0, none⟩)) ∧ E 17 = c8 ∧ E 18 = (.int .i64 (k.kZ.length : Int)) ∧ E 19 = (.int .i64 (d8 : Int)) ∧ E 37 = (.bool d9)) 4 ?_ (fun d9 z b0 => ?_))))))))
  ·rintro k7 E W ⟨c9, d, d2, d3, d4, h2, d5, d6, d7, h3⟩ y
   refine ln (CI y h3 (fun e8 y => ?_) (fun e8 y => ?_))
   ·refine kB (Wh d4 (V (ky G8 h2) (Wf GB (VA d Mh (km a.Signed.ke) cE aT (VE (kV (cs := (km a.Signed.ke).toArray) d (nh rfl) (nc aY aT dn) (fun j6 h1 d => ?_)))))))
    replace d := d.perm (Nr (Qb (Qb (Qb (Qb (Qb (Qb Qz)))))) Nz)
    refine bS y fun i1 e9 y => VE (ny (enc := km) (v := D) (vs := (.slice (some ⟨h1, 0, none⟩) 1 1)) (R := G) d lV dc ph aY qR.1 qR.2.1 rfl qR.2.2.1 qR.2.2.2 rfl rfl M (Sl.lit (enc := km) (l := [a.Signed.ke]) lV rfl nb rfl (d.at_ (Ma Mh))) e9 (fun j7 i2 g7 d e7 => Wa (kQ (kY (ku ?_)))))
    replace d := d.kh (Kr (Db (Db St)))
    exact ⟨d7, i2, i1, g7, c3, _, ⟨rfl, d6⟩, (u.trans a9), (d.kh (Sb (Pr Pz) (Sb (Pr Pz) (Sb (Pr Pz) (Sb (Pr Pz) St))))), d2, d3, rfl, d5, e7, (by rw [c6]; exact y)⟩
   refine lE (kY (ku ?_))
   replace d := d.kh (Db St)
   exact ⟨d7, D, I, G, c3, _, ⟨rfl, d6⟩, (u.trans a9), (d.kh St), d2, d3, d4, d5, M, (by rw [c6]; exact y)⟩
  refine bC z (fun t z => ?_) (fun t z => ?_)
  ·refine ug t (kl rfl (kx d.has Mh [(.int .i64 ((c.1).Op)), (.int .i64 ((c.1).K)), d1, e5, b8] rfl bA aD)) (ug t (ko Z) (bS z fun k2 f3 z => vn t (Eg d call24 (xt c.1 b8 b6 (fun (x : kd) => sV x B.1 B.2.1 B.2.2.1 B.2.2.2.1 B.2.2.2.2.1 B.2.2.2.2.2.1 B.2.2.2.2.2.2) _ _ (c7.mono kz.mono d.kw) ⟨110, #[], #[(.pointer (some ⟨N, 0, none⟩)), (.pointer (some ⟨Q, 0, none⟩))], rfl, call110, fun W x r n hm => (Hg x N q e0 B.1 e1 B.2.1 e2 B.2.2.1 e3 B.2.2.2.1 e4 B.2.2.2.2.1 B.2.2.2.2.2.1 Q B.2.2.2.2.2.2 r W (h6.at (fun b o m => n _ _ ((fun b o m => d.at_ (Mt (Mt (Mt (Mt (Mt (Mt (Ma (Ml m))))))))) b o m))) (h7.sl lV (fun b o m => n _ _ ((fun b o m => d.at_ (Mt (Mt (Mt (Mt (Mt (Mt (Ma (Ma (Ml m)))))))))) b o m))) (h8.at (fun b o m => n _ _ ((fun b o m => d.at_ (Mt (Mt (Mt (Mt (Mt (Mt (Ma (Ma (Ma (Ml m))))))))))) b o m))) (h9.at (fun b o m => n _ _ ((fun b o m => d.at_ (Mt (Mt (Mt (Mt (Mt (Mt (Ma (Ma (Ma (Ma (Ml m)))))))))))) b o m))) ((i0.B5 oE).mono (Pl.mono _) (mE (fun b o m => n _ _ ((fun b o m => d.at_ (Mt (Mt (Mt (Mt (Mt (Mt (Ma (Ma (Ma (Ma (Ma (Ml m))))))))))))) b o m)))) (At.of (n _ _ (d.at_ (Mt (Mt (Mt Mh))))) _ rfl) (At.of (n _ _ (d.at_ (Mt (Mt Mh)))) _ rfl) (At.of (n _ _ (d.at_ (Mt (Mt (Mt (Mt Mh)))))) _ rfl) hm).lZ⟩ f3) (fun j8 d => V (lg (cB t) rfl) ?_))))
   obtain rfl := sj z
   exact b0 _ _ ⟨_, (d.kh (Db St)), Y, Z, a3, rfl, a4, eN, F, rfl⟩
  refine un t (un t (un t (V (li (cB t) rfl) ?_)))
  obtain rfl := sj z
  exact b0 _ _ ⟨_, (d.kh (Db St)), Y, Z, a3, rfl, a4, eN, F, rfl⟩
 rintro E W ⟨D, I, G, s, P, ⟨F, eN⟩, u, d, Y, Z, a3, a4, M, j⟩
 rw [aI] at j
 refine ku ?_
 replace d := d.kh (Db (Db (Db (Db (Kr (Dr (Dr (Dr (Dr (Dr St))))))))))
 refine sg (Wh a3 (bS j fun k3 f4 j => VE (rW d call52 (GX D I _ _ (M.sl lV (fun b o m => d.at_ (Ml m))) f4) (fun j9 i3 k9 g8 d i4 ad c5 => Wa (ln ?_)))))
 replace d := d.kh (Kr (Dr St))
 refine kM ?_
 obtain rfl := sj j
 exact lB (v := i3) rfl rfl ⟨_, g8, rfl, d.nn (fun p m => (Ml m)) c5.nd, c5⟩
theorem Ab (g : lD) (D K : Value) (i : lD) (G M : Value) (r : ((List ke) × (List ke) × Int)) (w : World) (x : Sl mh 15 (hp w) D g.kZ) (I : Sl mN 8 (hp w) K g.mu) (y : Sl mh 15 (hp w) G i.kZ) (J : Sl mN 8 (hp w) M i.mu) (hm : rb g i = some r) :
  lH false pg0 11 [(.agg #[(.string g.Name), D, K]), (.agg #[(.string i.Name), G, M])] w [] (fun v L1 W' => ∃ y1 S2 y4 S5, v = (.tuple #[y1, y4, (.int .i64 (r.2.2))]) ∧ L1 = (S2 ++ (S5 ++ [])) ∧ kC 52 km 9 y1 r.1 S2 ∧ kC 52 km 9 y4 r.2.1 S5) := by
 refine uk 41 func11 rfl (fun d => sg ?_)
 obtain ⟨A1, c2, rfl⟩ := x.form
 obtain ⟨A3, c4, rfl⟩ := I.form
 let q := (C3 g.Name A1 g.kZ.length c2 A3 g.mu.length c4)
 refine VE (kX d rfl (fun W6 p d => ?_))
 obtain ⟨A7, c8, rfl⟩ := y.form
 obtain ⟨A9, L, rfl⟩ := J.form
 let a0 := (C3 i.Name A7 i.kZ.length c8 A9 i.mu.length L)
 refine VE (kX d rfl (fun f8 n d => Wa (Wa (Wa (lr (Wa (Wa (lr (Wa ?_)))))))))
 refine ln (tS (lR (np (fun m E W => ∃ t a4 N u a5 Q H a9 b9, kH (hp w) a9 ∧ ST false lM w W a9 ((n, Ol a0 25) :: ((p, Ol q 25) :: (Q ++ (N ++ b9)))) ∧ E 2 = (.pointer (some ⟨p, 0, none⟩)) ∧ E 3 = (.pointer (some ⟨n, 0, none⟩)) ∧ E 7 = t ∧ E 8 = u ∧ E 9 = (.int .i64 H) ∧ kC 52 km 9 t a4 N ∧ kC 52 km 9 u a5 Q ∧ oA g i m a4 a5 H = some r) kT ⟨(.slice none 0 0), ([]), [], (.slice none 0 0), ([]), [], 0, (hp w), _, (kH.refl _), (d.kh St), rfl, rfl, rfl, rfl, rfl, (kC.nil _ _ _), (kC.nil _ _ _), hm⟩ ?_)))
 rintro m E W ⟨t, a4, N, u, a5, Q, H, a9, b9, j, d, T, U, Y, Z, c9, a2, a3, c⟩
 cases m with
 | zero => rw [oA] at c; cases c
 | succ e6 =>
  refine kA (lR (kA ?_))
  replace d := d.drew
  have h := d.has.kh (Kb (Kb Sn))
  refine lm h kP (XH 0 rfl h (fun _ l => kl T (kx l (Mt Mh) q rfl dV dB)) (X 1 rfl h (ko Z) (X 2 rfl h (ky Bp U) (XH 3 rfl h (fun _ l => kl rfl (kK l Mh rfl bT)) (XH 5 rfl h (fun _ l => kl U (kx l Mh a0 rfl dV dB)) (X 6 rfl h (ko Y) (X 7 rfl h (ky Bp T) (XH 8 rfl h (fun _ l => kl rfl (kK l (Mt Mh) rfl bT)) (bS c fun e7 d7 c => XE 4 rfl (rW d call13 (yX g (.slice A1 g.kZ.length c2) (.slice A3 g.mu.length c4) u a5 i.Name _ _ (x.mono mG.mono (j.trans d.kw)) (I.mono pe.mono (j.trans d.kw)) (a3.sl lV (fun b o F => d.at_ (Mt (Mt (Ml F))))) d7) (fun f4 d2 f7 c1 d k s R => ?_)))))))))))
  have h := d.has.qe k (Dr (Kb (Kb Sn)))
  refine ⟨h, (bS c fun e8 d8 c => XE 9 rfl (rW d call13 (yX i (.slice A7 i.kZ.length c8) (.slice A9 i.mu.length L) t a4 g.Name _ _ (y.mono mG.mono ((j.trans k).trans d.kw)) (J.mono pe.mono ((j.trans k).trans d.kw)) (a2.sl lV (fun b o F => d.at_ (Ma (Mt (Mt (Ma (Ml F))))))) d8) (fun f5 d3 d4 c3 d O A b2 => ?_)))⟩
  have h := d.has.qe (k.trans O) (Dr (Dr (Kb (Kb Sn))))
  refine ⟨h, (X 10 rfl h (ol rfl) (X 11 rfl h (ol rfl) (lF kr (ku (kA (sg (Wm (V (mY aY rfl R) (Wh Y (V (mY aY rfl a2) (Wi rfl (Wm (LJ c (fun d1 E W => ∃ c0, ST false lM w W d4 ((n, Ol a0 25) :: ((p, Ol q 25) :: (c3 ++ (c1 ++ (Q ++ (N ++ c0)))))) ∧ E 2 = (.pointer (some ⟨p, 0, none⟩)) ∧ E 3 = (.pointer (some ⟨n, 0, none⟩)) ∧ E 7 = t ∧ E 8 = u ∧ E 9 = (.int .i64 H) ∧ E 10 = d2 ∧ E 11 = d3 ∧ E 35 = (.bool d1)) 6 ?_ (fun d1 B P => ?_))))))))))))))⟩
  ·rintro f6 E W ⟨c0, d, d9, e0, e1, e2, d0, e3, e4, e5⟩ z
   refine ln (CI z e5 (fun d6 z => ?_) (fun d6 z => ?_))
   ·refine sg (Wh e1 (Wh e2 (Wh d0 (Wa (Wa (Wa (ln ?_)))))))
    replace d := d.kh (Db (Db (Dr (Dr St))))
    refine kM (kU (mB (kU (kU (mB (kU ?_))))))
    obtain rfl := sj z
    exact Pk (v0 := t) (v1 := u) (v2 := (.int .i64 H)) rfl rfl rfl rfl ⟨_, _, rfl, (d.D4 (Sr (Qr Qz) (Kr Sn))), t, N, u, Q, rfl, rfl, a2, a3⟩
   refine kn ?_
   replace d := d.kh (Kb (Kb (Kr (Kr (Dr (Dr St))))))
   exact kB (Wh e3 (Wh e4 (Wa (Wa (kQ (kY (ku (kB (Wh d0 (Wi rfl (Wa (ln ⟨e6, bD _, d2, e7, c1, d3, e8, c3, (wi0 .i64 (H + 1)), d4, _, ((j.trans k).trans O), (d.kh St), d9, e0, rfl, rfl, rfl, R, b2, z⟩))))))))))))
  refine bC B (fun a B => ?_) (fun a B => ?_)
  ·refine ug a (ko rfl) (ug a (mY aY rfl b2) (ug a (ko Z) (ug a (mY aY rfl a3) (ug a (lW rfl rfl rfl) (V (lg (cB a) rfl) ?_)))))
   obtain rfl := sj B
   exact P _ _ ⟨_, (d.kh (Sb (Pr (Pr Pz)) (Sb (Pr (Pr Pz)) St))), T, U, Y, Z, c9, rfl, rfl, rfl⟩
  refine un a (un a (un a (un a (un a (V (li (cB a) rfl) ?_)))))
  obtain rfl := sj B
  exact P _ _ ⟨_, (d.kh (Sb (Pr (Pr Pz)) (Sb (Pr (Pr Pz)) St))), T, U, Y, Z, c9, rfl, rfl, rfl⟩
theorem Ea (k : lD) (j B : Value) (t : lD) (a c : Value) (r : ((List ke) × (List (kd × (List (ByteArray × Bool)))) × (List ke) × (List (kd × (List ke))) × (List (ByteArray × (List ke))) × (List kk) × Int × ByteArray)) (w : World) (g : Sl mh 15 (hp w) j k.kZ) (y : Sl mN 8 (hp w) B k.mu) (i : Sl mh 15 (hp w) a t.kZ) (z : Sl mN 8 (hp w) c t.mu) (hm : wg k t = some r) :
  lH false pg0 106 [(.agg #[(.string k.Name), j, B]), (.agg #[(.string t.Name), a, c])] w [] (fun v L1 W' => ∃ A S2 m l E S7 F M a2 N a3 Q a4 T Y, v = (.tuple #[A, (.func (.func 169) #[] #[(.pointer (some ⟨m, 0, none⟩)), (.pointer (some ⟨Y, 0, none⟩))])]) ∧ L1 = ((m, Ob #[(.pointer (some ⟨l, 0, none⟩))] 132) :: ((l, Ob #[E, F, a2, a3, a4, (.int .i64 (r.2.2.2.2.2.2.1))] 189) :: ((Y, Ob #[(.string (r.2.2.2.2.2.2.2)), a, c] 25) :: (S2 ++ (S7 ++ (M ++ (N ++ (Q ++ (T ++ []))))))))) ∧ kC 52 km 9 A r.1 S2 ∧ my (fun (x : kd) => (.agg (ki x).toArray)) (lX Value.string (fun (x : Bool) => (Value.bool x))) E r.2.1 S7 ∧ kC 52 km 9 F r.2.2.1 M ∧ my (fun (x : kd) => (.agg (ki x).toArray)) (kC 52 km 9) a2 r.2.2.2.1 N ∧ my Value.string (kC 52 km 9) a3 r.2.2.2.2.1 Q ∧ pT 111 kD 3 a4 r.2.2.2.2.2.1 T) := by
 refine uk 21 func106 rfl (fun d => sg ?_)
 obtain ⟨A1, c2, rfl⟩ := g.form
 obtain ⟨A3, n, rfl⟩ := y.form
 refine VE (kX d rfl (fun W6 l d => ?_))
 obtain ⟨A7, p, rfl⟩ := i.form
 obtain ⟨A9, I, rfl⟩ := z.form
 refine VE (kX d rfl (fun f4 U d => Wa (Wa (lr (VA d (Mt Mh) (C3 k.Name A1 k.kZ.length c2 A3 k.mu.length n) dV dB (VA d Mh (C3 t.Name A7 t.kZ.length p A9 t.mu.length I) dV dB (bS hm fun d7 P hm => ?_)))))))
 refine VE (B6 d (bI _) call11 (fun _ _ _ _ => (Ab k (.slice A1 k.kZ.length c2) (.slice A3 k.mu.length n) t (.slice A7 t.kZ.length p) (.slice A9 t.mu.length I) _ _ (g.mono mG.mono d.kw) (y.mono pe.mono d.kw) (i.mono mG.mono d.kw) (z.mono pe.mono d.kw) P)) (fun f5 g0 g3 f1 d e6 q h L => ?_) (L0 := []))
 obtain ⟨g2, f3, K, c9, D, rfl, f0, J⟩ := L
 replace D := D.symm; subst D
 replace d := d.perm (Tr (Tr Tn))
 refine Wm (Wx rfl (Wx rfl (Wx rfl (Wa (Wa (Wa (ln ?_)))))))
 replace d := d.kh (Dr (Kr (Kb (Db St))))
 refine sg (Wm (bS hm fun f9 R hm => ?_))
 refine VE (B6 d (bI _) call62 (fun _ _ _ _ => (Hr K d7.2.1 _ _ (J.sl lV (fun b o hq => d.at_ (Ml hq))) R)) (fun f6 g1 g4 f2 d e7 s h O => ?_) (L0 := []))
 obtain ⟨H, d9, d0, e0, d1, e1, d2, e2, d3, e3, d4, G, rfl, W, c1, c3, c5, c6⟩ := O
 replace G := G.symm; subst G
 replace d := d.perm (Tb (Tr (Tr (Tr (Tr (Tr Tn))))))
 refine VE (ll d zeroValue132 (fun f7 Z d => VO (kJ (.pointer (some ⟨H, 0, none⟩)) (#[(.pointer (some ⟨H, 0, none⟩))]) d rfl rfl sizeOf132 oc nb rfl (fun f8 d => lr (Wm (V (qv (by exact ta rfl rfl) rfl) (Wa (Wa (lt ?_)))))))))
 obtain rfl := sj hm
 exact rR (v := K) (u := (.func (.func 169) #[] #[(.pointer (some ⟨Z, 0, none⟩)), (.pointer (some ⟨U, 0, none⟩))])) rfl rfl rfl ⟨_, _, rfl, (d.D4 (Kb (Kb (Sb (Pr (Pr (Pr (Pr (Pr (Pr Pz)))))) (Sr (Qr (Qr (Qr (Qr (Qr Qz))))) (Kr (Kr (Kr (Kr (Kr Sn)))))))))), K, c9, Z, H, d9, d0, e0, d1, e1, d2, e2, d3, e3, d4, U, rfl, rfl, J, W, c1, c3, c5, c6⟩
theorem yB (Z : kd) (d I : Nat) (u : Value) (G : List (kd × (List (ByteArray × Bool)))) (a : Value) (k : List ke) (j : Value) (B : List (kd × (List ke))) (c : Value) (t : List (ByteArray × (List ke))) (i : Value) (z : List kk) (Q : Int) (a2 : Nat) (g : ByteArray) (D : Value) (J : List ml) (H : Value) (N : List oZ) (r : Bool) (w : World) (Y : rT (fun (x : kd) => (.agg (ki x).toArray)) (lX Value.string (fun (x : Bool) => (Value.bool x))) (hp w) u G) (K : Sl (Pl km) 9 (hp w) a k) (U : rT (fun (x : kd) => (.agg (ki x).toArray)) (kC 52 km 9) (hp w) j B) (M : rT Value.string (kC 52 km 9) (hp w) c t) (T : Sl (Pl kD) 3 (hp w) i z) (a3 : At (hp w) (.pointer (some ⟨I, 0, none⟩)) [u, a, j, c, i, (.int .i64 Q)]) (a4 : At (hp w) (.pointer (some ⟨d, 0, none⟩)) [(.pointer (some ⟨I, 0, none⟩))]) (l : Sl mh 15 (hp w) D J) (m : Sl mN 8 (hp w) H N) (a5 : At (hp w) (.pointer (some ⟨a2, 0, none⟩)) [(.string g), D, H]) (hm : oX Z G k B t z Q g J N = some r) :
  kN true pg0 169 [(.agg (ki Z).toArray), (.pointer (some ⟨d, 0, none⟩)), (.pointer (some ⟨a2, 0, none⟩))] w (.bool r) := by
 refine cG 10 func169 rfl (fun b => sg (VE (kX b rfl (fun W2 n b => Wa (lr (V (kl rfl (ns b.has (y := (.pointer (some ⟨I, 0, none⟩))) a4 isAgg132)) (VA b Mh (ki Z) bo aG (VQ (xn [(.string g)] Bp rfl a5 rfl) (fun o h => V (kl rfl (ns b.has (y := (.string g)) h bT)) (bS hm fun p a9 hm => VE (Eg b call64 (By I u G a k j B c t i z Q Z g _ _ (Y.mono b.kw) (K.mono (Pl.mono _) b.kw) (U.mono b.kw) (M.mono b.kw) (T.mono (Pl.mono _) b.kw) (a3.mono b.kw) a9) (fun W8 b => ?_))))))))))))
 refine Wa (ln ?_)
 exact kM (rQ hm b)
theorem DP (N : Formula → Option (List kd)) (F : ∀ (g : Formula) (k : Value) (r : List kd) (w : World) (j : Sl kf 5 (hp w) k g.Kids), N g = some r → ma false pg0 250 [(.agg #[(.int .i64 g.Op), (.int .i64 g.K), (.string g.kd.kj), (.string g.kd.kq), k])] w 50 ki 2 r) (g : Formula) (k : Value) (r : List kd) (w : World) (j : Sl kf 5 (hp w) k g.Kids) (hm : vP N g = some r) :
  ma false pg0 250 [(.agg #[(.int .i64 g.Op), (.int .i64 g.K), (.string g.kd.kj), (.string g.kd.kq), k])] w 50 ki 2 r := by
 refine uk 25 func250 rfl (fun b => sg ?_)
 obtain ⟨A1, c2, rfl⟩ := j.form
 refine VE (kX b rfl (fun W4 b3 b => Wa (lS (Wf uf (VB b Mh rfl rfl dz (Wi rfl (ln (CI hm rfl (fun b7 hm => ?_) (fun b7 hm => ?_)))))))))
 ·refine sg (Wf yb (VA b Mh (ki g.kd) bo aG (VE (kV (cs := (ki g.kd).toArray) b (nh rfl) (nc bB aG dv) (fun W7 q b => Wa (ln ?_))))))
  replace b := b.kh (Kb (Db St))
  refine kM (kU ?_)
  obtain rfl := sj hm
  exact lB (v := (.slice (some ⟨q, 0, none⟩) 1 1)) rfl rfl ⟨_, [(q, Ol (ki g.kd) 50)], rfl, b.nn (fun p d => by rw [aW] at d; subst d; exact Mh) (by simp), (kC.lit (l := [g.kd]) (enc := ki) rfl dc rfl rfl)⟩
 refine kg (Wa (lS (Wf sK (VB b Mh rfl rfl fl (V (lT aF rfl j) (Wm (kQ ?_)))))))
 refine ku ?_
 replace b := b.kh (Db St)
 refine lu (fun i E W => ∃ u D t G H, (E 15 = .int .i64 (i : Nat) ∧ E 14 = .int .i64 (g.Kids.length : Nat)) ∧ kH (hp w) G ∧ ST false lM w W G (t ++ H) ∧ E 3 = u ∧ E 13 = (.slice A1 g.Kids.length c2) ∧ kC 50 ki 2 u D t ∧ qP N (g.Kids.drop i) D = some r) g.Kids.length j.len ⟨(.slice none 0 0), ([]), [], (hp w), _, ⟨rfl, rfl⟩, (kH.refl _), (b.kh St), rfl, rfl, (kC.nil _ _ _), hm⟩ dc dc dc (fun _ _ _ h => by obtain ⟨_, _, _, _, _, n, _⟩ := h; exact n) ?_ ?_
 ·rintro L E W Y ⟨u, D, t, G, H, ⟨m, s⟩, y, b, I, J, x, c⟩
  obtain ⟨a, b9, a3, a2, a4⟩ := lc Y
  rw [a3] at c
  refine bg (VQ (nM (i := (L : Int)) (x0 := a) kf.out aF aD J m (j.mono kz.mono y) (aH _) a2) (fun c7 ⟨_, ⟨c9, rfl, K⟩, Z⟩ => V (kl rfl (kO b.has Z bA aD)) (VE (ll b bK (fun c1 c6 b => ?_)))))
  obtain ⟨z, B, rfl⟩ := K.form
  let a0 := (C1 a.Op a.K a.kd.kj a.kd.kq z a.Kids.length B)
  refine VO (kJ (.agg a0.toArray) (a0.toArray) b rfl rfl aD oc nb rfl (fun c3 b => ln (kB (Wh I (VA b Mh a0 bA aD (bS c fun c8 A c => VE (rW b call250 (F a (.slice z a.Kids.length B) _ _ (K.mono kz.mono b.kw) A) (fun c4 a9 b1 c0 b M o Q => ?_))))))))
  replace b := b.perm (Nr (Qr (Qb Qz)) Nz)
  refine bS c fun O U c => VE (ny (enc := ki) (v := u) (vs := a9) (R := t) b nw dc pk bB qQ.1 qQ.2.1 rfl qQ.2.2.1 qQ.2.2.2 rfl rfl x (Q.Tl nw b (fun p d => (Ma (Ml d)))) U (fun c5 P a5 b T => Wa (kQ (kY (ku ?_)))))
  replace b := b.kh (Kr (Dr (Db St)))
  exact ⟨m, P, O, a5, b1, _, ⟨rfl, s⟩, (y.trans M), (b.kh St), rfl, J, T, (by rw [a4]; exact c)⟩
 rintro E W ⟨u, D, t, G, H, ⟨m, s⟩, y, b, I, J, x, c⟩
 rw [aI] at c
 refine ku (sg (Wh I (Wa (lt ?_))))
 obtain rfl := sj c
 exact lB (v := u) rfl rfl ⟨_, t, rfl, b.nn (fun p d => (Ml d)) x.nd, x⟩
theorem B0 : ∀ (n : Nat) (c : Formula) (a : Value) (r : List kd) (w : World) (g : Sl kf 5 (hp w) a c.Kids) (_ : rj n c = some r),
  ma false pg0 250 [(.agg #[(.int .i64 c.Op), (.int .i64 c.K), (.string c.kd.kj), (.string c.kd.kq), a])] w 50 ki 2 r
 | 0 => by intros; rename_i h; simp only [rj] at h; cases h
 | n + 1 => DP (rj n) (B0 n)
theorem El (g : Value) (i r : List kd) (w : World) (a : Sl (Pl ki) 2 (hp w) g i) (hm : rO i = some r) :
  ma true pg0 151 [g] w 50 ki 2 r := by
 unfold rO at hm
 refine uk 8 func151 rfl (fun b => sg (Wa (lS (Wm ?_))))
 obtain ⟨y, B, rfl⟩ := a.form
 refine V (yM bB rfl rfl) (ln ?_)
 rcases y with _ | z
 ·have u := a.isNil
  replace hm : some [] = some r := by rw [u] at hm; simpa [mZ, maxLen] using hm
  refine vO (rfl) (sg (Wa (lt (kU ?_))))
  obtain rfl := sj hm
  exact lB (v := (.slice none 0 0)) rfl rfl ⟨_, [], rfl, b.nn (fun p d => by cases d) (by simp), kC.nil _ _ _⟩
 ·refine qZ (rfl) (kg (VE (kV (cs := #[]) b uw (zU [] bB aG dv dc rfl (by simp) rfl rfl) (fun G k b => Wm (bS hm fun H t hm => VE (ny (enc := ki) (v := (.slice (some ⟨k, 0, none⟩) 0 0)) (vs := (.slice (some z) i.length B)) (R := [(k, Ob #[] 50)]) b nw dc pk bB qQ.1 qQ.2.1 rfl qQ.2.2.1 qQ.2.2.2 rfl rfl (kC.lit (l := []) (enc := ki) rfl dc rfl rfl) (a.mono (Pl.mono _) b.kw) t (fun D x j b c => Wa (lt ?_))))))))
  obtain rfl := sj hm
  exact lB (v := x) rfl rfl ⟨_, j, rfl, b.nn (fun p d => (Ml d)) c.nd, c⟩
theorem xM (g : Value) (t : List kd) (j : Value) (B : kd → Option Bool) (r : Int) (w : World) (c : Sl (Pl ki) 2 (hp w) g t) (D : te pg0 j (hp w) (fun (x : kd) => [(.agg (ki x).toArray)]) (fun (r : Bool) => (.bool r)) B) (hm : pU t B = some r) :
  kN false pg0 206 [g, j] w (.int .i64 r) := by
 refine cG 19 func206 rfl (fun b => sg (Wa (lS (Wm (V (lT bB rfl c) (Wm (ln (lu (fun i E W => ∃ k, (E 8 = .int .i64 (i : Nat) ∧ E 7 = .int .i64 (t.length : Nat)) ∧ ST false lM w W (hp w) k ∧ E 0 = g ∧ E 1 = j ∧ nA B (t.drop i) i = some r) t.length c.len ⟨_, ⟨rfl, rfl⟩, (b.kh St), rfl, rfl, hm⟩ dc dc dc (fun _ _ _ h => by obtain ⟨_, l, _⟩ := h; exact l) ?_ ?_))))))))
 ·rintro Q E W H ⟨k, ⟨d, m⟩, b, u, y, a⟩
  obtain ⟨z, T, M, K, N⟩ := lc H
  rw [M] at a
  refine bg (Wh d (Wa (lr (Wh y (Wh u (Wm (VQ (ni (enc := ki) (i := (Q : Int)) (x0 := z) bB aG rfl rfl c (aH _) K) (fun Y I => V (kl rfl (kO b.has I bo aG)) (bS a fun Z J a => ?_)))))))))
  refine VE (zQ z b D (kH.refl _) rfl (sW rfl) J (fun U b => ln (CI a rfl (fun G a => ?_) (fun G a => ?_))))
  ·refine sg (Wm (Wa (lt (mB (kU (mB (kU ?_)))))))
   obtain rfl := sj a
   exact rP b
  exact lE (kY (ku ⟨d, _, ⟨rfl, m⟩, (b.kh St), u, y, (by rw [N]; exact a)⟩))
 rintro E W ⟨k, ⟨d, m⟩, b, u, y, a⟩
 rw [aI] at a
 exact ku (sg (Wa (lt (rQ a b))))
theorem BF (j : Value) (a0 : List kd) (t : LO) (H : Value) (f1 : kd → Option Bool) (r : List kd) (w : World) {μ0 : kL} (h0 : nN μ0 (t ++ []) w) (T : kC 50 ki 2 j a0 t) (a4 : te pg0 H μ0 (fun (x : kd) => [(.agg (ki x).toArray)]) (fun (r : Bool) => (.bool r)) f1) (hm : rh a0 f1 = some r) :
  lH false pg0 148 [j, H] w (t ++ []) (fun v L1 W' => ∃ q S2, v = q ∧ L1 = (S2 ++ []) ∧ kC 50 ki 2 q r S2) := by
 refine yN h0 42 func148 rfl (fun d => sg (Wa (lr (Wm (Wm (bS hm fun n d3 hm => VE (Eg d call206 (xM j a0 H f1 _ _ (T.sl nw (fun b o h => d.at_ (Ml h))) (a4.mono d.kw) d3) (fun W3 d => Wa (ln ?_)))))))))
 refine kA (sg (Wm (Wi rfl (ln (CI hm rfl (fun d2 hm => ?_) (fun d2 hm => ?_))))))
 ·refine sg (Wm (Wa (lt (kU ?_))))
  obtain rfl := sj hm
  exact lB (v := j) rfl rfl ⟨_, _, rfl, (d.mI (Kr Sn)), j, t, rfl, rfl, T⟩
 refine kS (Wm (Wi rfl (Wa (ln (lR (np (fun m E W => ∃ U I B D a2, ST false (keys (t ++ [])) w W μ0 (I ++ a2) ∧ E 0 = j ∧ E 1 = H ∧ E 5 = (.int .i64 B) ∧ E 6 = (.int .i64 D) ∧ kC 50 ki 2 j U I ∧ nQ f1 m U B D = some r) kT ⟨a0, t, n, (wi0 .i64 (n + 1)), _, (d.kh St), rfl, rfl, rfl, rfl, T, hm⟩ ?_))))))
 rintro m E W ⟨U, I, B, D, a2, d, y, Q, G, K, g, a⟩
 cases m with
 | zero => rw [nQ] at a; cases a
 | succ c8 =>
  refine kA (sg (Wh K (Wh y (V (mY bB rfl g) (Wi rfl (ln (CI a rfl (fun A a => ?_) (fun A a => ?_))))))))
  ·refine kn (kA (CJ a (fun Y E W => ∃ J a3, ST false (keys (t ++ [])) w W μ0 (J ++ a3) ∧ E 0 = j ∧ E 1 = H ∧ E 5 = (.int .i64 Y.2) ∧ E 6 = (.int .i64 D) ∧ kC 50 ki 2 j Y.1 J) (fun Y c => ?_) ?_))
   ·refine bg (Wh y (Wh K (bS c fun k M c => VQ (mS (i := D) (x0 := k) bB aG rfl rfl g (kI M) (kF M)) (fun e4 O => V (kl rfl (qc d.has (fun p h => (Ml h)) g nw O (kF M) bo aG)) (VE (ll d dv (fun d7 e2 d => VO (kJ (.agg (ki k).toArray) ((ki k).toArray) d rfl rfl aG (pk k) nb rfl (fun d8 d => lr (Wh Q ?_))))))))))
    refine VA d Mh (ki k) bo aG (bS c fun e6 R c => VE (zQ k d a4 (kH.refl _) rfl (sW rfl) R (fun d9 d => V (nT rfl) (ln (CI c rfl (fun F c => ?_) (fun F c => ?_))))))
    ·refine sg (Wh y (Wh G (VA d Mh (ki k) bo aG (bS c fun d0 N c => VQ (mS (i := B) (x0 := d0) bB aG rfl rfl g (kI N) (kF N)) (fun e5 P => ?_)))))
     replace d := d.perm (Nr (Qb Qz) Nz)
     refine VO (vN (u := (.agg (ki k).toArray)) (x1 := k)  d g nw pk rfl rfl rfl P (kF N) aG (fun e0 c1 d s => ln ?_))
     replace d := d.kh (Kr (Db St))
     refine kB (Wh G (Wi rfl (Wa (kQ (kY (ku ?_))))))
     obtain rfl := sj c
     exact ⟨c1, _, (d.kh St), y, Q, rfl, K, s⟩
    refine lE (kY (ku ?_))
    obtain rfl := sj c
    exact ⟨I, _, (d.kh (Db St)), y, Q, G, K, g⟩
   rintro ⟨c7, c9⟩ E W ⟨J, a3, d, c3, c4, c5, c6, b6⟩ L
   exact kB (Wh c6 (Wi rfl (Wa (ln ⟨c8, bD _, c7, J, c9, (wi0 .i64 (D + 1)), _, (d.kh St), c3, c4, c5, rfl, b6, L⟩))))
  refine nf (mO (mO (pZ (ku (sg (Wh y (Wh G (bS a fun _ Z a => VQ (rc (i := B) bB aG rfl rfl g (qm Z) (qf Z)) (fun e7 b7 => VO (ve (z := K0)  d g nw pk bB dv b7 rfl rfl (fun e1 c2 d a9 => lr (Wh y ?_))))))))))))
  refine Wh G (bS a fun _ l a => VQ (tO (i := B) bB aG rfl rfl a9 nw (qm l) (qf l)) (fun a5 b9 => Wa (lt ?_)))
  obtain rfl := sj a
  exact lB (v := a5) rfl rfl ⟨_, _, rfl, (d.mI (Kr Sn)), a5, c2, rfl, rfl, b9⟩
theorem IU (a : kd) (r : Bool) (w : World) (hm : yp a = some r) :
  kN true pg0 152 [(.agg (ki a).toArray)] w (.bool r) := by
 refine cG 6 func152 rfl (fun b => sg (VE (kX b rfl (fun g j b => Wa (lr (VA b Mh (ki a) bo aG (bS hm fun k c hm => VE (Eg b jO (sM a _ _  c) (fun i b => V (nT rfl) (Wa (kQ ?_)))))))))))
 refine ku ?_
 exact kM (rQ hm b)
theorem MX (c : Value) (k : List kd) (a : LO) (g : Value) (t : (kd × kd) → Option Int) (r : List kd) (w : World) {y : kL} (u : nN y (a ++ []) w) (i : kC 50 ki 2 c k a) (j : FR pg0 g y (fun (x : (kd × kd)) => [(.agg (ki x.1).toArray), (.agg (ki x.2).toArray)]) (fun (r : Int) => (.int .i64 r)) t) (hm : xF t k = some r) :
  lH true pg0 154 [c, g] w (a ++ []) (fun v z W' => ∃ S, v = (.tuple #[]) ∧ z = (S ++ []) ∧ kC 50 ki 2 c r S) := FY (P := pg0) (ρ := Om) RJ 2 bo aG ki nw pk u.H u.S i j hm
theorem Dn (j : Value) (a0 : List kd) (x : LO) (r : List kd) (w : World) {μ0 : kL} (h0 : nN μ0 (x ++ []) w) (B : kC 50 ki 2 j a0 x) (hm : tb a0 = some r) :
  lH true pg0 156 [j] w (x ++ []) (fun v L1 W' => ∃ y1 S2, v = y1 ∧ L1 = (S2 ++ []) ∧ kC 50 ki 2 y1 r S2) := by
 refine yN h0 61 func156 rfl (fun b => sg (Wa (lS (Wm (V (mY bB rfl B) (Wi rfl (ln (CI hm rfl (fun g0 hm => ?_) (fun g0 hm => ?_)))))))))
 ·refine sg (Wm (Wa (lt (kU ?_))))
  obtain rfl := sj hm
  exact lB (v := j) rfl rfl ⟨_, _, rfl, (b.mI (Kr Sn)), j, x, rfl, rfl, B⟩
 refine kS (Wa (ln (lR (np (fun m E W => ∃ t P, ST true (keys (x ++ [])) w W μ0 (x ++ P) ∧ E 0 = j ∧ E 3 = (.int .i64 t) ∧ oI a0 m t = some r) kT ⟨1, _, (b.kh St), rfl, rfl, hm⟩ ?_))))
 rintro m E W ⟨t, P, b, D, H, a⟩
 cases m with
 | zero => rw [oI] at a; cases a
 | succ f5 =>
  refine kA (sg (Wh H (Wh D (V (mY bB rfl B) (Wi rfl (ln (CI a rfl (fun d0 a => ?_) (fun d0 a => ?_))))))))
  ·refine kn (kA (lR (kA ?_)))
   replace b := b.drew
   have d := b.has.kh (Kr Sn)
   refine lm d kP (X 0 rfl d (ko D) (X 1 rfl d (ko H) (bS a fun c3 Z a => XQ 2 rfl d (mS (i := t) (x0 := c3) bB aG rfl rfl B (kI Z) (kF Z)) (fun g7 d6 => XH 3 rfl d (fun _ l => kl rfl (qc l (fun p h => (Ml h)) B nw d6 (kF Z) bo aG)) (X 4 rfl d (ko D) (X 5 rfl d (ko H) (X 6 rfl d (lW rfl rfl rfl) (bS a fun c4 n a => XQ 7 rfl d (mS (i := (wi0 .i64 (t - 1))) (x0 := c4) bB aG rfl rfl B (kI n) (kF n)) (fun g8 d7 => XH 8 rfl d (fun _ l => kl rfl (qc l (fun p h => (Ml h)) B nw d7 (kF n) bo aG)) (X 9 rfl d (wQ rfl rfl (ow fi) (sU (rY _ c3 c4))) (lF kr (ku ?_))))))))))))
   refine CI a rfl (fun d1 a => ?_) (fun d1 a => ?_)
   ·refine sg (Wh D (Wh H (bS a fun _ A a => VQ (rc (i := t) bB aG rfl rfl B (qm A) (qf A)) (fun c1 M => Wa (lS (Wa (ln ?_)))))))
    refine CJ a (fun U E W => ∃ o R, ST true (keys (x ++ [])) w W μ0 (o ++ R) ∧ E 0 = j ∧ E 3 = (.int .i64 U.2) ∧ kC 50 ki 2 j U.1 o) (fun U d4 => ?_) ?_
    ·refine lR (np (fun m E W => ∃ q K Y y b6, ST true (keys (x ++ [])) w W μ0 (K ++ b6) ∧ E 0 = j ∧ E 3 = (.int .i64 Y) ∧ E 4 = c1 ∧ E 5 = (.int .i64 y) ∧ kC 50 ki 2 j q K ∧ oB t m q Y y = some U) kT ⟨a0, x, t, 1, _, (b.kh St), D, H, rfl, rfl, B, d4⟩ ?_)
     rintro m E W ⟨q, K, Y, y, b6, b, Q, T, I, J, g, k⟩
     cases m with
     | zero => rw [oB] at k; cases k
     | succ f6 =>
      refine kA (sg (Wh J (Wh I (V (BS bB rfl M g) (Wi rfl (ln (CI k rfl (fun d2 k => ?_) (fun d2 k => ?_))))))))
      ·refine kn (kA (CJ k (fun s E W => ∃ N b7, ST true (keys (x ++ [])) w W μ0 (N ++ b7) ∧ E 0 = j ∧ E 3 = (.int .i64 s.2) ∧ E 4 = c1 ∧ E 5 = (.int .i64 y) ∧ kC 50 ki 2 j s.1 N) (fun s c => ?_) ?_))
       ·refine lR (kA ?_)
        replace b := b.drew
        have d := b.has.kh (Kr Sn)
        refine lm d kP (X 0 rfl d (ko I) (X 1 rfl d (ko J) (bS c fun c6 a2 c => XQ 2 rfl d (rf (i := y) (x0 := c6) bB aG rfl rfl g M (kI a2) (kF a2)) (fun g9 d8 => XH 3 rfl d (fun _ l => kl rfl (qc l (fun p h => (Ml h)) g nw d8 (uv (kF a2)) bo aG)) (X 4 rfl d (ko I) (X 5 rfl d (ko J) (X 6 rfl d (lW rfl rfl rfl) (bS c fun c7 a3 c => XQ 7 rfl d (rf (i := (wi0 .i64 (y - 1))) (x0 := c7) bB aG rfl rfl g M (kI a3) (kF a3)) (fun h1 d9 => XH 8 rfl d (fun _ l => kl rfl (qc l (fun p h => (Ml h)) g nw d9 (uv (kF a3)) bo aG)) (X 9 rfl d (Jb rfl rfl (ow fi) (Fb (rY _ c6 c7))) (lF kr (ku ?_))))))))))))
        refine CI c rfl (fun d3 c => ?_) (fun d3 c => ?_)
        ·refine sg (Wh Q (Wh T (Wh I (Wh J (bS c fun a9 a4 c => VQ (rf (i := y) (x0 := a9) bB aG rfl rfl g M (kI a4) (kF a4)) (fun h2 e0 => V (kl rfl (qc b.has (fun p h => (Ml h)) g nw e0 (uv (kF a4)) bo aG)) (bS c fun f8 a5 c => VQ (mS (i := Y) (x0 := f8) bB aG rfl rfl g (kI a5) (kF a5)) (fun h3 e1 => VO (vN (u := (.agg (ki a9).toArray)) (x1 := a9)  b g nw pk rfl rfl rfl e1 (kF a5) aG (fun g3 e8 b c9 => ln (kB ?_)))))))))))
         refine Wh T (Wi rfl (Wa (kQ (kY (ku ?_)))))
         obtain rfl := sj c
         exact ⟨e8, _, (b.kh St), Q, rfl, I, J, c9⟩
        refine lE (kY (ku ?_))
        obtain rfl := sj c
        exact ⟨K, _, (b.kh St), Q, T, I, J, g⟩
       rintro ⟨f4, f7⟩ E W ⟨N, b7, b, f0, f1, f2, f3, e4⟩ d5
       exact kB (Wh f3 (Wi rfl (Wa (ln ⟨f6, bD _, f4, N, f7, (wi0 .i64 (y + 1)), _, (b.kh St), f0, f1, f2, rfl, e4, d5⟩))))
      refine nf (mO (mO (pZ (ku ?_))))
      obtain rfl := sj k
      exact ⟨K, _, (b.kh St), Q, T, g⟩
    rintro ⟨g4, c5⟩ E W ⟨o, R, b, b9, c0, O⟩ G
    refine sg (Wh b9 (Wh c0 (bS G fun _ F G => VQ (rc (i := c5) bB aG rfl rfl O (qm F) (qf F)) (fun h4 e2 => VO (ve (z := K0)  b O nw pk bB dv e2 rfl rfl (fun g2 e7 b c8 => lr (Wh b9 (Wh c0 (bS G fun _ L G => VQ (tO (i := c5) bB aG rfl rfl c8 nw (qm L) (qf L)) (fun c2 e3 => ?_))))))))))
    refine Wa (lt (mB (kU (kU (mB (kU ?_))))))
    obtain rfl := sj G
    exact lB (v := c2) rfl rfl ⟨_, _, rfl, (b.mI (Kr Sn)), c2, e7, rfl, rfl, e3⟩
   exact lE (kY (ku (kB (Wh H (Wi rfl (Wa (ln ⟨f5, bD _, (wi0 .i64 (t + 1)), _, (b.kh St), D, rfl, a⟩)))))))
  refine nf (mO (mO (pZ (ku (sg (Wh D (Wa (lt ?_))))))))
  obtain rfl := sj a
  exact lB (v := j) rfl rfl ⟨_, _, rfl, (b.mI (Kr Sn)), j, x, rfl, rfl, B⟩
theorem LS (i : Value) (t r : List kd) (w : World) (B : Sl (Pl ki) 2 (hp w) i t) (hm : AR t = some r) :
  ma false pg0 86 [i] w 50 ki 2 r := by
 refine uk 11 func86 rfl (fun b => sg (Wa (lr (Wm (bS hm fun u T hm => VE (rW b call151 (ma.lZ (El i t _ _ (B.mono (Pl.mono _) b.kw) T)) (fun W3 v7 y R8 b a5 o Q => bS hm fun U D hm => ?_)))))))
 refine VE (eM b (Cr Qz Cn) call148 (fun h _ => (BF v7 u R8 (.func (.func 152) #[] #[]) (fun (x : kd) => yp x) _ _ h Q ⟨152, #[], #[], rfl, call152, fun W x r s hm => (IU x r W  hm).lZ⟩ D)) ?_)
 rintro _ L R A b z l d ⟨k, K, a, rfl, I⟩
 obtain rfl := a.symm
 replace b := b.perm (Tr Tn)
 refine Wa (lr (Wm (bS hm fun Y G hm => ?_)))
 refine VE (eM b (Cr Qz Cn) call154 (fun h _ => lH.lZ (MX k U K (.func (.func 155) #[] #[]) (fun (x : (kd × kd)) => nK x.1 x.2) _ _ h I ⟨155, #[], rfl, call155, fun W x r s hm => zy x.1 x.2 r W  hm⟩ G)) ?_)
 rintro _ O c0 a9 b a2 m d ⟨M, c, rfl, J⟩
 obtain rfl := c.symm
 replace b := b.perm (Tr Tn)
 refine lr (Wm (bS hm fun F H hm => ?_))
 refine VE (eM b (Cr Qz Cn) call156 (fun h _ => lH.lZ (Dn k Y M _ _ h J H)) ?_)
 rintro _ P c1 E b a3 n d ⟨Z, N, g, rfl, j⟩
 obtain rfl := g.symm
 replace b := b.perm (Tr Tn)
 refine Wa (lt ?_)
 obtain rfl := sj hm
 exact lB (v := Z) rfl rfl ⟨_, N, rfl, b.nn (fun p q => (Ml q)) j.nd, j⟩
theorem GG (a : Formula) (g : Value) (r : List kd) (w : World) (c : Sl kf 5 (hp w) g a.Kids) (hm : uU a = some r) :
  ma false pg0 197 [(.agg #[(.int .i64 a.Op), (.int .i64 a.K), (.string a.kd.kj), (.string a.kd.kq), g])] w 50 ki 2 r := by
 refine uk 6 func197 rfl (fun d => sg ?_)
 obtain ⟨j, k, rfl⟩ := c.form
 refine VE (kX d rfl (fun N T d => Wa (lr (VA d Mh (C1 a.Op a.K a.kd.kj a.kd.kq j a.Kids.length k) bA aD (bS hm fun H y hm => VE (rW d call250 ((B0 kT) a (.slice j a.Kids.length k) _ _ (c.mono kz.mono d.kw) y) (fun Q z U I d G l t => bS hm fun K u hm => VE (rW d call86 (LS z H _ _ (t.sl nw (fun b o h => d.at_ (Ml h))) u) (fun J B M x d D m i => Wa (ln ?_))))))))))
 replace d := d.kh (Kr (Dr (Db St)))
 refine kM ?_
 obtain rfl := sj hm
 exact lB (v := B) rfl rfl ⟨_, x, rfl, d.nn (fun p h => (Ml h)) i.nd, i⟩
theorem D9 (I : Value) (K : List kd) (G : Int) (r : List kd) (w : World) (H : Sl (Pl ki) 2 (hp w) I K) (hm : tq K G = some r) :
  ma true pg0 219 [I, (.int .i64 G)] w 50 ki 2 r := by
 refine uk 26 func219 rfl (fun d => sg (Wa (lr (Wa (lS (Wm ?_))))))
 refine V (lT bB rfl H) (Wm (ln (lu (fun i E W => ∃ u B j D, (E 10 = .int .i64 (i : Nat) ∧ E 9 = .int .i64 (K.length : Nat)) ∧ ST true lM w W (hp w) (j ++ D) ∧ E 1 = (.int .i64 G) ∧ E 5 = u ∧ E 8 = I ∧ kC 50 ki 2 u B j ∧ pL G (K.drop i) i B = some r) K.length H.len ⟨(.slice none 0 0), ([]), [], _, ⟨rfl, rfl⟩, (d.kh St), rfl, rfl, rfl, (kC.nil _ _ _), hm⟩ dc dc dc (fun _ _ _ h => by obtain ⟨_, _, _, _, n, _⟩ := h; exact n) ?_ ?_)))
 ·rintro J E W a3 ⟨u, B, j, D, ⟨m, o⟩, d, x, y, z, t, c⟩
  obtain ⟨g, b4, a5, a4, M⟩ := lc a3
  rw [a5] at c
  refine bg (Wh m (VQ (ni (enc := ki) (i := (J : Int)) (x0 := g) bB aG z m H (aH _) a4) (fun b3 Y => V (kl rfl (kO d.has Y bo aG)) (VE (ll d dv (fun F P d => Wa (VO (kJ (.agg (ki g).toArray) ((ki g).toArray) d rfl rfl aG (pk g) nb rfl (fun a9 d => lr (Wh x (Wm ?_)))))))))))
  refine bS c fun _ U c => V (DR (a := G) (b := (J : Int)) rfl rfl (yz U)) (V (I6 (k := .i64) (a := (Int.fdiv G (2 ^ min (Int.toNat (J : Int)) (IntKind.bits .i64)))) (b := 1) (v := (.int .i64 (wi0 .i64 (BitVec.ofInt (IntKind.bits .i64) (Int.fdiv G (2 ^ min (Int.toNat (J : Int)) (IntKind.bits .i64))) &&& BitVec.ofInt (IntKind.bits .i64) 1).toNat))) rfl rfl dc rfl) (Wi rfl (ln (CI c rfl (fun Q c => ?_) (fun Q c => ?_)))))
  ·refine kB (Wh y (VA d Mh (ki g) bo aG (VE (kV (cs := (ki g).toArray) d (nh rfl) (nc bB aG dv) (fun L a2 d => ?_)))))
   replace d := d.perm (Nr (Qb (Qb Qz)) Nz)
   refine bS c fun q T c => VE (ny (enc := ki) (v := u) (vs := (.slice (some ⟨a2, 0, none⟩) 1 1)) (R := j) d nw dc pk bB qQ.1 qQ.2.1 rfl qQ.2.2.1 qQ.2.2.2 rfl rfl t (Sl.lit (enc := ki) (l := [g]) nw rfl nb rfl (d.at_ (Ma Mh))) T (fun O s Z d N => Wa (kQ (kY (ku ?_)))))
   replace d := d.kh (Kr (Db (Db St)))
   exact ⟨m, s, q, Z, _, ⟨rfl, o⟩, (d.kh St), x, rfl, z, N, (by rw [M]; exact c)⟩
  refine lE (kY (ku ?_))
  replace d := d.kh (Db St)
  exact ⟨m, u, B, j, _, ⟨rfl, o⟩, (d.kh St), x, y, z, t, (by rw [M]; exact c)⟩
 rintro E W ⟨u, B, j, D, ⟨m, o⟩, d, x, y, z, t, c⟩
 rw [aI] at c
 refine ku (sg (Wh y (Wa (lt ?_))))
 obtain rfl := sj c
 exact lB (v := u) rfl rfl ⟨_, j, rfl, d.nn (fun p A => (Ml A)) t.nd, t⟩
theorem Ee (j : Value) (t : List kd) (c : kd) (r : Int) (w : World) (g : Sl (Pl ki) 2 (hp w) j t) (hm : wJ t c = some r) :
  kN true pg0 251 [j, (.agg (ki c).toArray)] w (.int .i64 r) := by
 refine cG 19 func251 rfl (fun b => sg (VE (kX b rfl (fun Q J b => Wa (lS (Wm (V (lT bB rfl g) (Wm (ln ?_)))))))))
 refine lu (fun i E W => ∃ k, (E 8 = .int .i64 (i : Nat) ∧ E 7 = .int .i64 (t.length : Nat)) ∧ ST true lM w W (hp w) ((J, Ol (ki c) 50) :: k) ∧ E 0 = j ∧ E 3 = (.pointer (some ⟨J, 0, none⟩)) ∧ qw c (t.drop i) i = some r) t.length g.len ⟨_, ⟨rfl, rfl⟩, (b.kh St), rfl, rfl, hm⟩ dc dc dc (fun _ _ _ h => by obtain ⟨_, m, _⟩ := h; exact m) ?_ ?_
 ·rintro K E W B ⟨k, ⟨l, o⟩, b, u, x, a⟩
  obtain ⟨y, M, H, G, I⟩ := lc B
  rw [H] at a
  refine bg (Wh l (Wa (ln (kA ?_))))
  replace b := b.drew
  have d := b.has.kh (Kb Sn)
  refine lm d kP (XH 0 rfl d (fun _ n => kl x (kx n Mh (ki c) rfl bo aG)) (X 1 rfl d (ko u) (X 2 rfl d (ko rfl) (XQ 3 rfl d (ni (enc := ki) (i := (K : Int)) (x0 := y) bB aG rfl rfl g (aH _) G) (fun N D => XH 4 rfl d (fun _ n => kl rfl (kO n D bo aG)) (X 5 rfl d (wQ rfl rfl (ow fi) (sU (rY _ c y))) (lF kr (ku (CI a rfl (fun z a => ?_) (fun z a => ?_))))))))))
  ·refine sg (Wm (Wa (ln ?_)))
   replace b := b.kh (Db St)
   refine kM (mB (kU (mB (kU ?_))))
   obtain rfl := sj a
   exact rP b
  exact lE (kY (ku ⟨l, _, ⟨rfl, o⟩, (b.kh St), u, x, (by rw [I]; exact a)⟩))
 rintro E W ⟨k, ⟨l, o⟩, b, u, x, a⟩
 rw [aI] at a
 refine ku ?_
 replace b := b.kh (Db St)
 exact sg (Wa (lt (rQ a b)))
theorem CF (a : Value) (g : List kd) (c : kd) (r : Bool) (w : World) (i : Sl (Pl ki) 2 (hp w) a g) (hm : uZ g c = some r) :
  kN true pg0 207 [a, (.agg (ki c).toArray)] w (.bool r) := by
 refine cG 9 func207 rfl (fun b => sg (VE (kX b rfl (fun k u b => Wa (lr (Wm (VA b Mh (ki c) bo aG (bS hm fun x j hm => VE (Eg b call251 (Ee a g c _ _ (i.mono (Pl.mono _) b.kw) j) (fun t b => Wi rfl (Wa ?_)))))))))))
 refine ln ?_
 exact kM (rQ hm b)
theorem LY (a : Value) (g : List kd) (c : kd) (r : Bool) (w : World) (i : Sl (Pl ki) 2 (hp w) a g) (hm : AX g c = some r) :
  kN true pg0 150 [a, (.agg (ki c).toArray)] w (.bool r) := by
 refine cG 8 func150 rfl (fun b => sg (VE (kX b rfl (fun k u b => Wa (lr (Wm (VA b Mh (ki c) bo aG (bS hm fun x j hm => VE (Eg b call207 (CF a g c _ _ (i.mono (Pl.mono _) b.kw) j) (fun t b => Wa (kQ ?_)))))))))))
 refine ku ?_
 exact kM (rQ hm b)
theorem EU (c : kd) (g : Nat) (a : Value) (j : List kd) (r : Bool) (w : World) (k : Sl (Pl ki) 2 (hp w) a j) (i : At (hp w) (.pointer (some ⟨g, 0, none⟩)) [a]) (hm : sL c j = some r) :
  kN true pg0 300 [(.agg (ki c).toArray), (.pointer (some ⟨g, 0, none⟩))] w (.bool r) := by
 refine cG 7 func300 rfl (fun b => sg (VE (kX b rfl (fun u z b => Wa (lr (V (kl rfl (ns b.has (y := a) i isAgg34)) (VA b Mh (ki c) bo aG (bS hm fun B t hm => VE (Eg b call150 (LY a j c _ _ (k.mono (Pl.mono _) b.kw) t) (fun x b => Wa (kQ ?_)))))))))))
 refine ku ?_
 exact kM (rQ hm b)
theorem Hi (a : Formula) (g k : Value) (i : List kd) (r : Bool) (w : World) (c : Sl kf 5 (hp w) g a.Kids) (j : Sl (Pl ki) 2 (hp w) k i) (hm : sO a i = some r) :
  kN false pg0 267 [(.agg #[(.int .i64 a.Op), (.int .i64 a.K), (.string a.kd.kj), (.string a.kd.kq), g]), k] w (.bool r) := by
 refine cG 8 func267 rfl (fun b => sg ?_)
 obtain ⟨t, y, rfl⟩ := c.form
 refine VE (kX b rfl (fun H J b => ?_))
 obtain ⟨B, D, rfl⟩ := j.form
 refine VE (kX b rfl (fun I u b => Wa (lr (VA b (Mt Mh) (C1 a.Op a.K a.kd.kj a.kd.kq t a.Kids.length y) bA aD (V (qv (by exact sW rfl) rfl) (bS hm fun K z hm => VE (Eg b call24 (xt a (.slice t a.Kids.length y) (.func (.func 300) #[] #[(.pointer (some ⟨u, 0, none⟩))]) (fun (x : kd) => sL x i) _ _ (c.mono kz.mono b.kw) ⟨300, #[], #[(.pointer (some ⟨u, 0, none⟩))], rfl, call300, fun W x r d hm => (EU x u (.slice B i.length D) i r W (j.mono (Pl.mono _) (b.kw.trans d)) (At.of (d _ _ (b.at_ Mh)) _ rfl) hm).lZ⟩ z) (fun G b => Wa (ln ?_)))))))))
 exact kM (rQ hm b)
theorem J6 (t : Formula) (b9 a2 : Value) (n : List kd) (r : List Int) (w : World) (b7 : Sl kf 5 (hp w) b9 t.Kids) (e4 : Sl (Pl ki) 2 (hp w) a2 n) (hm : zl t n = some r) :
  ma false pg0 218 [(.agg #[(.int .i64 t.Op), (.int .i64 t.K), (.string t.kd.kj), (.string t.kd.kq), b9]), a2] w 3 (mc .i64) 1 r := by
 refine uk 64 func218 rfl (fun d => sg ?_)
 obtain ⟨A1, c2, rfl⟩ := b7.form
 let a0 := (C1 t.Op t.K t.kd.kj t.kd.kq A1 t.Kids.length c2)
 refine VE (kX d rfl (fun W4 s d => Wa (lr (Wm (V (lT bB rfl e4) (bS hm fun _ m7 hm => V (PA (a := 1) (b := (n.length : Int)) rfl rfl (yz m7)) (bS hm fun l6 m6 hm => VE (FG (enc := Mx) (z := false) d (fun _ => rfl) dc iQ I7.1 I7.2.1 I7.2.2.1 I7.2.2.2 rfl rfl rfl m6 (fun W8 d0 R9 d e8 => Wa (ln ?_))))))))))
 let d1 : Value := (.int .i64 (l6.length : Int))
 refine sg (Wa (lS (Wm (V (mY iQ rfl e8) (Wm (ln (lu (fun i E W => ∃ Z c1 D b5 B c4 d6, (E 16 = .int .i64 (i : Nat) ∧ E 15 = .int .i64 (l6.length : Nat)) ∧ kH (hp w) c4 ∧ ST false lM w W c4 ((s, Ol a0 58) :: (B ++ (c1 ++ d6))) ∧ E 1 = a2 ∧ E 2 = (.pointer (some ⟨s, 0, none⟩)) ∧ E 5 = d0 ∧ E 6 = D ∧ kC 4 Mx 1 d0 Z c1 ∧ kC 3 (mc .i64) 1 D b5 B ∧ ri n t (l6.drop i) i Z b5 = some r) l6.length e8.len ⟨l6, R9, (.slice none 0 0), ([]), [], (hp w), _, ⟨rfl, rfl⟩, (kH.refl _), (d.kh (Sb (Pr Pz) St)), rfl, rfl, rfl, rfl, e8, (kC.nil _ _ _), hm⟩ dc dc dc (fun _ _ _ h => by obtain ⟨_, _, _, _, _, _, _, A, _⟩ := h; exact A) ?_ ?_)))))))
 ·let c0 : Value := (.pointer (some ⟨s, 0, none⟩))
  rintro c E W h7 ⟨Z, c1, D, b5, B, c4, d6, ⟨q, F⟩, T, d, c3, d9, e0, e1, c6, a6, x⟩
  let b8 : Value := (.int .i64 (c : Int))
  obtain ⟨o3, n1, i7, m8, e7⟩ := lc h7
  rw [i7] at x
  refine bg (Wh q (Wa (ln (kA ?_))))
  replace d := d.drew
  have m := d.has.kh (Kb Sn)
  refine lm m kP (X 0 rfl m (ko e0) (X 1 rfl m (ko rfl) (XH 2 rfl m (fun _ hS => kl d9 (kx hS Mh a0 rfl bA aD)) (X 3 rfl m (ko c3) (X 4 rfl m (ko rfl) (bS x fun m1 i5 x => XE 5 rfl (rW d call219 (ma.lZ (D9 a2 n (c : Int) _ _ (e4.mono (Pl.mono _) (T.trans d.kw)) i5)) (fun n4 m2 a4 n3 d H aa h1 => ?_))))))))
  have m := d.has.qe H (Dr (Kb Sn))
  refine ⟨m, (bS x fun b6 i6 x => XE 6 rfl (Eg d call267 (Hi t (.slice A1 t.Kids.length c2) m2 m1 _ _ (b7.mono kz.mono ((T.trans H).trans d.kw)) (h1.sl nw (fun b o L => d.at_ (Ml L))) i6) (fun n5 d => ?_)))⟩
  have m := d.has.qe H (Dr (Kb Sn))
  refine ⟨m, (bS x fun m4 c7 x => XQ 7 rfl m (mS (i := (c : Int)) (x0 := m4) iQ sizeOf4 rfl rfl c6 (kI c7) (kF c7)) (fun o0 i2 => ?_))⟩
  replace d := d.perm (Nr (Qr (Qb (Qr Qz))) Nz)
  refine XO 8 rfl (vN (u := (.bool b6)) (x1 := b6)  d c6 (fun _ => rfl) Tt rfl rfl rfl i2 (kF c7) sizeOf4 (fun n6 U d Q => ?_))
  have m := d.has.qe H (Dr (Dr (Kb Sn)))
  refine ⟨m, (lF kr (ku ?_))⟩
  replace d := d.kh (Kr (Dr St))
  refine sg (Wa (lS (Wh c3 (V (lT bB rfl e4) (Wm (ln (CJ x (fun e6 E W => ∃ e9, ST false lM w W a4 ((s, Ol a0 58) :: (U ++ (B ++ e9))) ∧ E 1 = a2 ∧ E 2 = c0 ∧ E 5 = d0 ∧ E 6 = D ∧ E 7 = b8 ∧ E 8 = (.bool e6) ∧ E 15 = d1 ∧ E 16 = b8) (fun e6 h9 => ?_) ?_)))))))
  ·refine lu (fun i E W => ∃ a3 d7, (E 29 = .int .i64 (i : Nat) ∧ E 28 = .int .i64 (n.length : Nat)) ∧ ST false lM w W a4 ((s, Ol a0 58) :: (U ++ (B ++ d7))) ∧ E 1 = a2 ∧ E 2 = c0 ∧ E 5 = d0 ∧ E 6 = D ∧ E 7 = b8 ∧ E 8 = (.bool a3) ∧ E 15 = d1 ∧ E 16 = b8 ∧ rF c Z b6 (n.drop i) i a3 = some e6) n.length e4.len ⟨false, _, ⟨rfl, rfl⟩, (d.kh (Sb (Pr Pz) St)), c3, d9, e0, e1, rfl, rfl, F, q, h9⟩ dc dc dc (fun _ _ _ h => by obtain ⟨_, _, A, _⟩ := h; exact A) ?_ ?_
   ·rintro N E W h8 ⟨a3, d7, ⟨q, F⟩, d, a9, b0, O, b1, Y, P, b2, b4, K⟩
    obtain ⟨o6, n2, i8, m9, i9⟩ := lc h8
    rw [i8] at K
    refine bg (Wh q (Wa (ln (kB (Wh P (Wm (LJ K (fun g7 E W => ∃ f1, ST false lM w W a4 ((s, Ol a0 58) :: (U ++ (B ++ f1))) ∧ E 1 = a2 ∧ E 2 = c0 ∧ E 5 = d0 ∧ E 6 = D ∧ E 7 = b8 ∧ E 8 = (.bool a3) ∧ E 15 = d1 ∧ E 16 = b8 ∧ E 28 = (.int .i64 (n.length : Int)) ∧ E 29 = (.int .i64 (N : Int)) ∧ E 48 = (.bool g7)) 15 ?_ (fun g7 M d3 => ?_))))))))
    ·rintro m5 E W ⟨f1, d, j7, j8, j9, k0, k1, n9, k2, k3, k4, k5, k6⟩ i0
     exact Wg k6 (kQ (kY (ku ⟨k5, m5, _, ⟨rfl, k4⟩, (d.kh St), j7, j8, j9, k0, k1, rfl, k2, k3, (by rw [i9]; exact i0)⟩)))
    refine bC M (fun g M => ?_) (fun g M => ?_)
    ·refine un g (un g (un g (un g (un g (un g (Vu rfl rfl (Vu rfl rfl (Vu rfl rfl (Vu rfl rfl (Vu rfl rfl (Vu rfl rfl (Vu rfl rfl (un g (V (lg (cB g) rfl) ?_))))))))))))))
     obtain rfl := sj M
     exact d3 _ _ ⟨_, (d.kh St), a9, b0, O, b1, Y, P, b2, b4, F, q, rfl⟩
    refine ug g (ko Y) (ug g (ko rfl) (bS M fun _ h5 M => ug g (DR (a := (c : Int)) (b := (N : Int)) rfl rfl (yz h5)) (ug g (I6 (k := .i64) (a := (Int.fdiv (c : Int) (2 ^ min (Int.toNat (N : Int)) (IntKind.bits .i64)))) (b := 1) (v := (.int .i64 (wi0 .i64 (BitVec.ofInt (IntKind.bits .i64) (Int.fdiv (c : Int) (2 ^ min (Int.toNat (N : Int)) (IntKind.bits .i64))) &&& BitVec.ofInt (IntKind.bits .i64) 1).toNat))) rfl rfl dc rfl) (ug g (lW rfl rfl rfl) (ug g (ko rfl) (LJ M (fun g8 E W => ∃ f2, ST false lM w W a4 ((s, Ol a0 58) :: (U ++ (B ++ f2))) ∧ E 1 = a2 ∧ E 2 = c0 ∧ E 5 = d0 ∧ E 6 = D ∧ E 7 = b8 ∧ E 8 = (.bool a3) ∧ E 15 = d1 ∧ E 16 = b8 ∧ E 28 = (.int .i64 (n.length : Int)) ∧ E 29 = (.int .i64 (N : Int)) ∧ E 33 = (.bool a3) ∧ E 47 = (.bool g8)) 8 ?_ (fun g8 G d4 => ?_)))))))
    ·rintro o7 E W ⟨f2, d, k7, k8, k9, l0, l1, l2, l3, l4, l5, l7, l8, l9⟩ i1
     refine V (li (l8.trans (cB g)) l9) ?_
     obtain rfl := sj i1
     exact d3 _ _ ⟨_, (d.kh St), k7, k8, k9, l0, l1, l2, l3, l4, l5, l7, rfl⟩
    refine bC G (fun j G => ?_) (fun j G => ?_)
    ·let d5 := (wi0 .i64 (1 * 2 ^ min (Int.toNat (N : Int)) (IntKind.bits .i64)))
     refine ug j (ko O) (ug j (ko Y) (ug j (ko rfl) (bS G fun _ h6 G => ug j (PA (a := 1) (b := (N : Int)) rfl rfl (yz h6)) (ug j (RC (k := .i64) (a := (c : Int)) (b := d5) rfl rfl) (bS G fun h0 c9 G => Tk j (mS (i := (wi0 .i64 (BitVec.ofInt (IntKind.bits .i64) (c : Int) &&& ~~~ BitVec.ofInt (IntKind.bits .i64) d5).toNat)) (x0 := h0) iQ sizeOf4 rfl rfl Q (kI c9) (kF c9)) (fun o2 i4 => ug j (kl rfl (uX d.has (fun p L => (Mt (Ml L))) Q (fun _ => rfl) i4 (kF c9) (y := (.bool h0)) rfl isAgg4)) (ug g (lg (cB j) rfl) ?_)))))))
     obtain rfl := sj G
     exact d4 _ _ ⟨_, (d.kh St), a9, b0, O, b1, Y, P, b2, b4, F, q, rfl, rfl⟩
    refine un j (un j (un j (un j (un j (un j (un j (ug g (li (cB j) rfl) ?_)))))))
    obtain rfl := sj G
    exact d4 _ _ ⟨_, (d.kh St), a9, b0, O, b1, Y, P, b2, b4, F, q, rfl, rfl⟩
   rintro E W ⟨a3, d7, ⟨q, F⟩, d, a9, b0, O, b1, Y, P, b2, b4, K⟩
   rw [aI] at K
   refine ku ?_
   obtain rfl := sj K
   exact ⟨_, (d.kh St), a9, b0, O, b1, Y, P, b2, b4⟩
  rintro o4 E W ⟨e9, d, f3, f4, e2, f5, e3, j4, f6, f7⟩ c5
  refine sg (Wh e2 (Wh e3 (bS c5 fun g9 c8 c5 => VQ (mS (i := (c : Int)) (x0 := g9) iQ sizeOf4 rfl rfl Q (kI c8) (kF c8)) (fun o1 i3 => V (kl rfl (uX d.has (fun p L => (Mt (Ml L))) Q (fun _ => rfl) i3 (kF c8) (y := (.bool g9)) rfl isAgg4)) (Wm (LJ c5 (fun g4 E W => ∃ f0, ST false lM w W a4 ((s, Ol a0 58) :: (U ++ (B ++ f0))) ∧ E 1 = a2 ∧ E 2 = c0 ∧ E 5 = d0 ∧ E 6 = D ∧ E 7 = b8 ∧ E 15 = d1 ∧ E 16 = b8 ∧ E 57 = (.bool g4)) 3 ?_ (fun g4 a5 d2 => ?_)))))))
  ·rintro o5 E W ⟨f0, d, f8, f9, g0, g1, j5, g2, g3, j6⟩ J
   refine ln (CI J j6 (fun h3 J => ?_) (fun h3 J => ?_))
   ·refine kB (Wh g1 (Wh j5 (VE (kV (cs := [b8].toArray) d (nh rfl) (nc fh iz zeroValue3) (fun n7 j3 d => ?_)))))
    replace d := d.perm (Nr (Qb (Qb (Qr Qz))) Nz)
    refine bS J fun m0 h4 J => VE (ny (enc := (mc .i64)) (v := D) (vs := (.slice (some ⟨j3, 0, none⟩) 1 1)) (R := B) d (fun _ => rfl) dc (E5 _) fh I5.1 I5.2.1 rfl I5.2.2.1 I5.2.2.2 rfl rfl a6 (Sl.lit (enc := (mc .i64)) (l := [(c : Int)]) (fun _ => rfl) rfl nb rfl (d.at_ (Ma Mh))) h4 (fun n8 m3 j0 d h2 => Wa (kQ (kY (ku ?_)))))
    replace d := d.kh (Kr (Db St))
    exact ⟨g3, (Z.set (Int.toNat (c : Int)) b6), U, m3, m0, j0, a4, _, ⟨rfl, g2⟩, (T.trans H), (d.kh (Sb (Pr Pz) St)), f8, f9, g0, rfl, Q, h2, (by rw [e7]; exact J)⟩
   exact lE (kY (ku ⟨g3, (Z.set (Int.toNat (c : Int)) b6), U, D, b5, B, a4, _, ⟨rfl, g2⟩, (T.trans H), (d.kh (Kb (Sr (Qr Qz) St))), f8, f9, g0, g1, Q, a6, (by rw [e7]; exact J)⟩))
  refine bC a5 (fun I a5 => ?_) (fun I a5 => ?_)
  ·refine ug I (ko j4) (ug I (nT rfl) (V (lg (cB I) rfl) ?_))
   obtain rfl := sj a5
   exact d2 _ _ ⟨_, (d.kh St), f3, f4, e2, f5, e3, f6, f7, rfl⟩
  refine un I (un I (V (li (cB I) rfl) ?_))
  obtain rfl := sj a5
  exact d2 _ _ ⟨_, (d.kh St), f3, f4, e2, f5, e3, f6, f7, rfl⟩
 rintro E W ⟨Z, c1, D, b5, B, c4, d6, ⟨q, F⟩, T, d, c3, d9, e0, e1, c6, a6, x⟩
 rw [aI] at x
 refine ku ?_
 replace d := d.kh (Db (Kr (Dr St)))
 refine sg (Wh e1 (Wa (lt ?_)))
 obtain rfl := sj x
 exact lB (v := D) rfl rfl ⟨_, B, rfl, d.nn (fun p L => (Ml L)) a6.nd, a6⟩
theorem MT (c : Value) (t : List (List kd)) (a : LO) (g : Value) (u : ((List kd) × (List kd)) → Option Int) (r : List (List kd)) (w : World) {i : kL} (y : nN i (a ++ []) w) (j : lC 34 (Ai ki 2) 1 i c t a) (k : Th pg0 g i (Ai ki 2) u) (hm : Fw u t = some r) :
  mj true pg0 220 [c, g] w i (a ++ []) (fun v x z => ∃ S, v = (.tuple #[]) ∧ x = (S ++ []) ∧ lC 34 (Ai ki 2) 1 z c r S) := KL (P := pg0) (ρ := No) R4 JQ y j k hm
theorem BM (a : Int) (r : Bool) (w : World) (hm : zk a = some r) :
  kN true pg0 309 [(.int .i64 a)] w (.bool r) := by
 exact cG 6 func309 rfl (fun b => sg (Wa (lr (Wm (Wm (Wi rfl (Wa (lt (rQ hm b)))))))))
theorem FA (a c r : Int) (w : World) (hm : xQ a c = some r) :
  kN true pg0 269 [(.int .i64 a), (.int .i64 c)] w (.int .i64 r) := by
 refine cG 20 func269 rfl (fun b => sg (Wa (lr (Wm (bS hm fun B u hm => VE (Eg b call309 (BM a _ _  u) (fun y b => Wa (ln (kA ?_)))))))))
 refine kB (Wm (bS hm fun D x hm => VE (Eg b call309 (BM c _ _  x) (fun z b => Wa (lS (Wm (ln (CI hm rfl (fun j hm => ?_) (fun j hm => ?_)))))))))
 ·refine kA (sg (Wm (ln (CI hm rfl (fun k hm => ?_) (fun k hm => ?_)))))
  ·refine sg (Wa (lt (kU (kU ?_))))
   obtain rfl := sj hm
   exact rP b
  refine kg (Wa (lt (kU ?_)))
  obtain rfl := sj hm
  exact rP b
 refine kS (Wm (ln (CI hm rfl (fun t hm => ?_) (fun t hm => ?_))))
 ·refine sg (Wa (lt (kU ?_)))
  obtain rfl := sj hm
  exact rP b
 refine kS (Wm (Wm (Wi rfl (ln (CI hm rfl (fun g hm => ?_) (fun g hm => ?_))))))
 ·refine sg (Wa (lt (kU ?_)))
  obtain rfl := sj hm
  exact rP b
 refine kS (Wm (Wm (Wi rfl (ln (CI hm rfl (fun i hm => ?_) (fun i hm => ?_))))))
 ·refine sg (Wa (lt (kU ?_)))
  obtain rfl := sj hm
  exact rP b
 exact kg (Wa (lt (rQ hm b)))
theorem tm (t : Value) (J : List kd) (G : Value) (Z : List kd) (H : Value) (f2 : (kd × kd) → Option Int) (r : Int) (w : World) (k : Sl (Pl ki) 2 (hp w) t J) (D : Sl (Pl ki) 2 (hp w) G Z) (a3 : FR pg0 H (hp w) (fun (x : (kd × kd)) => [(.agg (ki x.1).toArray), (.agg (ki x.2).toArray)]) (fun (r : Int) => (.int .i64 r)) f2) (hm : nz J Z f2 = some r) :
  kN true pg0 270 [t, G, H] w (.int .i64 r) := by
 refine cG 39 func270 rfl (fun b => sg (Wa (lS (Wm (V (lT bB rfl k) (Wm (ln (lu (fun i E W => ∃ u, (E 13 = .int .i64 (i : Nat) ∧ E 12 = .int .i64 (J.length : Nat)) ∧ ST true lM w W (hp w) u ∧ E 0 = t ∧ E 1 = G ∧ E 2 = H ∧ E 11 = t ∧ mo Z f2 J (J.drop i) i = some r) J.length k.len ⟨_, ⟨rfl, rfl⟩, (b.kh St), rfl, rfl, rfl, rfl, hm⟩ dc dc dc (fun _ _ _ h => by obtain ⟨_, l, _⟩ := h; exact l) ?_ ?_))))))))
 ·rintro Y E W a4 ⟨u, ⟨d, m⟩, b, y, g, z, B, a⟩
  obtain ⟨j, R, n, a5, o⟩ := lc a4
  rw [n] at a
  refine bg (Wh d (VQ (ni (enc := ki) (i := (Y : Int)) (x0 := j) bB aG B d k (aH _) a5) (fun L Q => V (kl rfl (kO b.has Q bo aG)) (VE (ll b dv (fun p A b => Wa (VO (kJ (.agg (ki j).toArray) ((ki j).toArray) b rfl rfl aG (pk j) nb rfl (fun a9 b => lS (Wm ?_))))))))))
  refine Wh g (V (lT bB rfl D) (Wi rfl (ln (CI a rfl (fun K a => ?_) (fun K a => ?_)))))
  ·refine sg (Wa (ln ?_))
   replace b := b.kh (Db St)
   refine kM (kU (mB (kU (mB (kU ?_)))))
   obtain rfl := sj a
   exact rP b
  refine kg (Wh g (Wm (bS a fun c I a => VQ (ni (enc := ki) (i := (Y : Int)) (x0 := c) bB aG rfl rfl D (kI I) (kF I)) (fun O T => V (kl rfl (kO b.has T bo aG)) (VE (ll b dv (fun q F b => VO (kJ (.agg (ki c).toArray) ((ki c).toArray) b rfl rfl aG (pk c) nb rfl (fun s b => lr ?_)))))))))
  refine Wh z (VA b (Mt Mh) (ki j) bo aG (VA b Mh (ki c) bo aG (bS a fun P U a => VE (SC (j, c) b a3 (kH.refl _) rfl (ta rfl rfl) U (fun v b => Wa (ln ?_))))))
  replace b := b.kh (Db (Db St))
  refine sg (Wm (Wi rfl (ln (CI a rfl (fun M a => ?_) (fun M a => ?_)))))
  ·refine sg (Wm (Wa (lt (mB (kU (mB (kU ?_)))))))
   obtain rfl := sj a
   exact rP b
  exact lE (kY (ku ⟨d, _, ⟨rfl, m⟩, (b.kh St), y, g, z, B, (by rw [o]; exact a)⟩))
 rintro E W ⟨u, ⟨d, m⟩, b, y, g, z, B, a⟩
 rw [aI] at a
 refine ku (kA (sg (Wh y (V (lT bB rfl k) (Wh g (V (lT bB rfl D) (Wi rfl (ln (CI a rfl (fun N a => ?_) (fun N a => ?_))))))))))
 ·refine sg (Wa (lt (kU ?_)))
  obtain rfl := sj a
  exact rP b
 exact kg (Wa (lt (rQ a b)))
theorem H7 (a : Value) (t : List kd) (c : Value) (u : List kd) (r : Int) (w : World) (g : Sl (Pl ki) 2 (hp w) a t) (i : Sl (Pl ki) 2 (hp w) c u) (hm : tR t u = some r) :
  kN true pg0 221 [a, c] w (.int .i64 r) := by
 refine cG 15 func221 rfl (fun b => sg (Wa (lr (Wm (V (lT bB rfl g) (Wm (V (lT bB rfl i) (bS hm fun j z hm => VE (Eg b call269 (FA (t.length : Int) (u.length : Int) _ _  z) (fun H b => Wm ?_))))))))))
 refine Wm (bS hm fun k B hm => VE (Eg b call270 (tm a t c u (.func (.func 155) #[] #[]) (fun (x : (kd × kd)) => nK x.1 x.2) _ _ (g.mono (Pl.mono _) b.kw) (i.mono (Pl.mono _) b.kw) ⟨155, #[], rfl, call155, fun W x r d hm => zy x.1 x.2 r W  hm⟩ B) (fun I b => VE (kV (cs := #[(.int .i64 j), (.int .i64 k)]) b (oP rfl rfl) (nc fh iz zeroValue3) (fun J D b => bS hm fun K y hm => VE (Eg b call209 (EX (.slice (some ⟨D, 0, none⟩) 2 2) ([j, k]) _ _ (Sl.lit (enc := (mc .i64)) (l := [j, k]) (fun _ => rfl) rfl nb rfl (b.at_ Mh)) y) (fun G b => Wa (ln ?_))))))))
 exact kM (rQ hm b)
theorem JH (c : Formula) (H : Value) (r : ((List (List kd)) × Int)) (w : World) {μ0 : kL} (h0 : nN μ0 [] w) (g : Sl kf 5 μ0 H c.Kids) (hm : zg c = some r) :
  mj false pg0 170 [(.agg #[(.int .i64 c.Op), (.int .i64 c.K), (.string c.kd.kj), (.string c.kd.kq), H])] w μ0 [] (fun v L1 μ1 => ∃ y1, v = (.tuple #[y1, (.int .i64 (r.2))]) ∧ L1 = [] ∧ Sl (Ai ki 2) 1 μ1 y1 (r.1)) := by
 refine vt h0 37 func170 rfl (fun d => sg ?_)
 obtain ⟨A1, c2, rfl⟩ := g.form
 let P : Value := (.slice A1 c.Kids.length c2)
 let a0 := (C1 c.Op c.K c.kd.kj c.kd.kq A1 c.Kids.length c2)
 refine VE (kX d rfl (fun W4 b3 d => Wa (Wa (lS (VA d Mh a0 bA aD (bS hm fun r5 e7 hm => VE (Eg d call72 (uN c P _ _ (g.mono kz.mono d.kw) e7) (fun W7 d => V (nT rfl) (ln (CI hm rfl (fun e6 hm => ?_) (fun e6 hm => ?_)))))))))))
 ·refine sg (Wa (Wa (ln ?_)))
  replace d := d.kh (Db St)
  refine kM (kU ?_)
  obtain rfl := sj hm
  exact rR (v := (.slice none 0 0)) (u := (.int .i64 11)) rfl rfl rfl ⟨_, _, _, rfl, (d.mI Sn), (kH.refl _), Lo.refl, (ST.lO d (nm.mem Sn)), (.slice none 0 0), rfl, rfl, (Sl.nil _ _ _)⟩
 refine kg (VA d Mh a0 bA aD (bS hm fun r9 d4 hm => VE (rW d call197 (GG c P _ _ (g.mono kz.mono d.kw) d4) (fun h8 b5 i0 e4 d I n R => Wa (lS (Wm (V (mY bB rfl R) ?_)))))))
 refine Wi rfl (ln (CI hm rfl (fun d3 hm => ?_) (fun d3 hm => ?_)))
 ·refine sg (Wa (Wa (ln ?_)))
  replace d := d.kh (Dr (Db St))
  refine kM (kU ?_)
  obtain rfl := sj hm
  exact rR (v := (.slice none 0 0)) (u := (.int .i64 12)) rfl rfl rfl ⟨_, _, _, rfl, (d.mI Sn), I, n, (ST.lO d (nm.mem Sn)), (.slice none 0 0), rfl, rfl, (Sl.nil _ _ _)⟩
 refine kg (Wa (lS (VA d (Ma Mh) a0 bA aD (Wm (bS hm fun b4 d5 hm => VE (rW d call218 (J6 c P b5 r9 _ _ (g.mono kz.mono (I.trans d.kw)) (R.sl nw (fun b o O => d.at_ (Ml O))) d5) (fun h9 e8 b6 e5 d a9 q T => V (mY fh rfl T) ?_)))))))
 refine Wm (ln ?_)
 replace d := d.kh (Kr (Kr (Db St)))
 refine lu (fun i E W => ∃ j Q t G a2, (E 20 = .int .i64 (i : Nat) ∧ E 19 = .int .i64 (b4.length : Nat)) ∧ kH b6 G ∧ Lo (keys []) w b6 G ∧ ST false (keys []) w W G (t ++ (e5 ++ (e4 ++ a2))) ∧ E 4 = b5 ∧ E 5 = j ∧ E 18 = e8 ∧ lC 34 (Ai ki 2) 1 G j Q t ∧ uR r9 (b4.drop i) Q = some r) b4.length T.len ⟨(.slice none 0 0), ([]), [], b6, _, ⟨rfl, rfl⟩, (kH.refl _), Lo.refl, (d.kh St), rfl, rfl, rfl, (lC.nil _ _ _ _), hm⟩ dc dc dc (fun _ _ _ h => by obtain ⟨_, _, _, _, _, aa, _⟩ := h; exact aa) ?_ ?_
 ·rintro d6 E W c3 ⟨j, Q, t, G, a2, ⟨eI, eN⟩, k, m, d, a4, N, a5, J, a⟩
  obtain ⟨a7, f0, c9, b0, d0⟩ := lc c3
  rw [c9] at a
  refine bg (VQ (mS (i := (d6 : Int)) (x0 := a7) fh iz a5 eI T (aH _) b0) (fun g7 c4 => V (kl rfl (uX d.has (fun p O => (Ma (Ml O))) T (fun _ => rfl) c4 b0 (y := (.int .i64 a7)) rfl dz)) (Wa (ln (kB (Wh N (Wh a4 (Wm (bS a fun D c5 a => VE (rW d call219 (ma.lZ (D9 b5 r9 a7 _ _ (R.sl nw (fun b o O => d.at_ (Ma (Ma (Ml O))))) c5)) (fun f5 g9 h5 f3 d Y s a8 => ?_)))))))))))
  obtain ⟨K, M, rfl⟩ := a8.form
  refine VE (kV (cs := #[(.slice K D.length M)]) d (nh rfl) (nc iB sizeOf34 zeroValue34) (fun f6 f9 d => ?_))
  replace d := d.perm (Nr (Qb Qz) Nz)
  obtain ⟨e3, d, Z, A, c7⟩ := ST.F7 d a8 nw
  replace d := d.perm (Nr (Qb Qz) Nz)
  refine bS a fun d7 c0 a => VE (vK (B := t) JQ d dc iB G0.1 G0.2.1 rfl G0.2.2.1 G0.2.2.2 rfl rfl (J.mono JQ (Y.trans Z)) (Dc.lit JQ (l := [D]) (.cons (ys := [(.slice K D.length M)]) ⟨(.slice K D.length M), rfl, c7⟩ .nil) rfl nb (d.at_ (Ma Mh))) c0 (fun f7 d9 d2 d b9 => Wa (kQ (kY (ku ?_)))))
  replace d := d.kh (Kr (Db St))
  exact ⟨eI, d9, d7, d2, e3, _, ⟨rfl, eN⟩, ((k.trans Y).trans Z), ((m.trans s).trans A), (d.kh St), a4, rfl, a5, b9, (by rw [d0]; exact a)⟩
 rintro E W ⟨j, Q, t, G, a2, ⟨eI, eN⟩, k, m, d, a4, N, a5, J, a⟩
 rw [aI] at a
 refine ku ?_
 replace d := d.kh (Kr (Dr (Dr St)))
 refine kA (sg (Wh N (V (xq iB rfl J) (Wi rfl (ln (CI a rfl (fun c1 a => ?_) (fun c1 a => ?_)))))))
 ·refine sg (Wa (Wa (ln ?_)))
  replace d := d.kh (Dr St)
  refine kM (kU ?_)
  obtain rfl := sj a
  exact rR (v := (.slice none 0 0)) (u := (.int .i64 12)) rfl rfl rfl ⟨_, _, _, rfl, (d.mI Sn), ((I.trans a9).trans k), ((n.trans q).trans m), (ST.lO d (nm.mem Sn)), (.slice none 0 0), rfl, rfl, (Sl.nil _ _ _)⟩
 refine kg (Wh N (bS a fun g8 c6 a => ?_))
 refine VE (eD d (Cr Qz Cn) call220 (fun hh => mj.lZ (MT j Q t (.func (.func 221) #[] #[]) (fun (x : ((List kd) × (List kd))) => tR x.1 x.2) _ _ hh J ⟨221, #[], rfl, call221, fun W x y z r hs hy hz hm => by obtain ⟨_, e1, h1⟩ := hy; obtain ⟨_, e2, h2⟩ := hz; cases e1; cases e2; exact (H7 y x.1 z x.2 r W h1 h2 hm)⟩ c6)) ?_)
 rintro _ h3 h6 f2 d b1 F ⟨f4, U, rfl, d1⟩
 obtain rfl := U.symm
 replace d := d.perm (Tr Tn)
 refine lr (Wh N (Wa (Wa (lt ?_))))
 obtain rfl := sj a
 refine rR (v := j) (u := (.int .i64 0)) rfl rfl rfl ?_
 obtain ⟨h7, d, b2, L, c8⟩ := ST.xR JQ d d1
 exact ⟨_, _, _, rfl, (d.mI Sn), ((((I.trans a9).trans k).trans b1).trans b2), ((((n.trans q).trans m).trans F).trans L), (ST.lO d (nm.mem Sn)), j, rfl, rfl, c8⟩
theorem AA (a : Value) (g : List kd) (c : Value) (i : kd → Option Bool) (r : Bool) (w : World) (j : Sl (Pl ki) 2 (hp w) a g) (k : te pg0 c (hp w) (fun (x : kd) => [(.agg (ki x).toArray)]) (fun (r : Bool) => (.bool r)) i) (hm : tk g i = some r) :
  kN false pg0 171 [a, c] w (.bool r) := by
 refine cG 9 func171 rfl (fun b => sg (Wa (lr (Wm (Wm (bS hm fun y t hm => VE (Eg b call206 (xM a g c i _ _ (j.mono (Pl.mono _) b.kw) (k.mono b.kw) t) (fun u b => Wi rfl (Wa (kQ ?_))))))))))
 exact ku (kM (rQ hm b))
theorem G5 (c : kd) (g : Nat) (a : Value) (i : kd → Option Bool) (r : Bool) (w : World) (k : te pg0 a (hp w) (fun (x : kd) => [(.agg (ki x).toArray)]) (fun (r : Bool) => (.bool r)) i) (j : At (hp w) (.pointer (some ⟨g, 0, none⟩)) [a]) (hm : wV c i = some r) :
  kN false pg0 172 [(.agg (ki c).toArray), (.pointer (some ⟨g, 0, none⟩))] w (.bool r) := by
 refine cG 8 func172 rfl (fun b => sg (VE (kX b rfl (fun u B b => Wa (lr (V (kl rfl (ns b.has (y := a) j isAgg65)) (VA b Mh (ki c) bo aG (bS hm fun D t hm => VE (zQ c b k (kH.refl _) rfl (sW rfl) t (fun z b => V (nT rfl) (Wa ?_)))))))))))
 refine ln ?_
 exact kM (rQ hm b)
theorem JK (c : Formula) (t Z : Value) (T : kd → Option Bool) (r : ((List kd) × Bool)) (w : World) {μ0 : kL} (h0 : nN μ0 [] w) (k : Sl kf 5 μ0 t c.Kids) (I : te pg0 Z μ0 (fun (x : kd) => [(.agg (ki x).toArray)]) (fun (r : Bool) => (.bool r)) T) (hm : zc c T = some r) :
  mj false pg0 107 [(.agg #[(.int .i64 c.Op), (.int .i64 c.K), (.string c.kd.kj), (.string c.kd.kq), t]), Z] w μ0 [] (fun v L1 μ1 => ∃ A, v = (.tuple #[A, (.bool (r.2))]) ∧ L1 = [] ∧ Sl (Pl ki) 2 μ1 A (r.1)) := by
 refine vt h0 33 func107 rfl (fun b => sg ?_)
 obtain ⟨A1, c2, rfl⟩ := k.form
 refine VE (kX b rfl (fun W4 b3 b => ?_))
 obtain ⟨f5, f6, f7, rfl⟩ := I.form
 refine VE (kX b rfl (fun W9 b8 b => Wa (Wa (lr (VA b (Mt Mh) (C1 c.Op c.K c.kd.kj c.kd.kq A1 c.Kids.length c2) bA aD (bS hm fun U P hm => ?_))))))
 refine VE (eD b (bI _) call170 (fun hh => (JH c (.slice A1 c.Kids.length c2) _ _ hh (k.mono kz.mono (kH.refl _)) P)) ?_ (L0 := []))
 rintro _ d8 p d6 b z d ⟨o, J, rfl, K⟩
 obtain rfl := J.symm
 refine Wm (Wx rfl (Wx rfl (Wa (Wa (ln ?_)))))
 replace b := b.kh (Kb (Db St))
 refine kA (sg (Wm (Wi rfl (Wm (LJ hm (fun Y E W => ∃ n, ST false (keys []) w W p ((b8, Ob #[(.func f5 f6 f7)] 65) :: n) ∧ E 3 = (.pointer (some ⟨b8, 0, none⟩)) ∧ E 6 = o ∧ E 20 = (.bool Y)) 3 ?_ (fun Y j G => ?_))))))
 ·let a0 : Value := (.pointer (some ⟨b8, 0, none⟩))
  rintro d9 E W ⟨n, b, c4, c5, c6⟩ B
  refine ln (CI B c6 (fun L B => ?_) (fun L B => ?_))
  ·refine sg (Wa (Wa (ln ?_)))
   replace b := b.kh (Db St)
   refine kM (kU ?_)
   obtain rfl := sj B
   exact rR (v := (.slice none 0 0)) (u := (.bool false)) rfl rfl rfl ⟨_, _, _, rfl, (b.mI Sn), z, d, (ST.lO b (nm.mem Sn)), (.slice none 0 0), rfl, rfl, (Sl.nil _ _ _)⟩
  refine kS (Wh c5 (V (lT iB rfl K) (Wm (ln (lu (fun i E W => ∃ N, (E 23 = .int .i64 (i : Nat) ∧ E 22 = .int .i64 (U.1.length : Nat)) ∧ ST false (keys []) w W p ((b8, Ob #[(.func f5 f6 f7)] 65) :: N) ∧ E 3 = a0 ∧ E 21 = o ∧ wT T (U.1.drop i) = some r) U.1.length K.len ⟨_, ⟨rfl, rfl⟩, (b.kh St), c4, rfl, B⟩ dc dc dc (fun _ _ _ h => by obtain ⟨_, m, _⟩ := h; exact m) ?_ ?_)))))
  ·rintro c7 E W O ⟨N, ⟨l, q⟩, b, Q, H, a⟩
   obtain ⟨a9, d4, c1, R, c3⟩ := lc O
   rw [c1] at a
   refine bg (VQ (Ga (enc := ki) (k2 := 2) (i := (c7 : Int)) (x0 := a9) iB sizeOf34 H l K (aH _) R) (fun d2 ⟨D, a5, M⟩ => V (kl rfl (ns b.has (y := D) a5 isAgg34)) (Wa (lr (Wm (V (qv (by exact sW Q) rfl) (bS a fun d3 F a => VE (Eg b call171 (AA D a9 (.func (.func 172) #[] #[a0]) (fun (x : kd) => wV x T) _ _ (M.mono (Pl.mono _) b.kw) ⟨172, #[], #[a0], rfl, call172, fun W x r s hm => G5 x b8 (.func f5 f6 f7) T r W (I.mono ((z.trans b.kw).trans s)) (At.of (s _ _ (b.at_ Mh)) _ rfl) hm⟩ F) (fun d0 b => V (nT rfl) ?_)))))))))
   refine ln (CI a rfl (fun a4 a => ?_) (fun a4 a => ?_))
   ·refine sg (Wm (Wa (Wa (ln ?_))))
    replace b := b.kh (Db St)
    refine kM (mB (kU (mB (kU ?_))))
    obtain rfl := sj a
    exact rR (v := D) (u := (.bool true)) rfl rfl rfl ⟨_, _, _, rfl, (b.mI Sn), z, d, (ST.lO b (nm.mem Sn)), D, rfl, rfl, M⟩
   exact lE (kY (ku ⟨l, _, ⟨rfl, q⟩, (b.kh St), Q, H, (by rw [c3]; exact a)⟩))
  rintro E W ⟨N, ⟨l, q⟩, b, Q, H, a⟩
  rw [aI] at a
  refine ku ?_
  replace b := b.kh (Db St)
  refine sg (Wa (Wa (lt ?_)))
  obtain rfl := sj a
  exact rR (v := (.slice none 0 0)) (u := (.bool false)) rfl rfl rfl ⟨_, _, _, rfl, (b.mI Sn), z, d, (ST.lO b (nm.mem Sn)), (.slice none 0 0), rfl, rfl, (Sl.nil _ _ _)⟩
 refine bC j (fun g j => ?_) (fun g j => ?_)
 ·refine un g (un g (V (lg (cB g) rfl) ?_))
  obtain rfl := sj j
  exact G _ _ ⟨_, (b.kh St), rfl, rfl, rfl⟩
 refine ug g (kl rfl (kK b.has Mh rfl isAgg65)) (ug g (IE underlying65 I rfl rfl) (V (li (cB g) rfl) ?_))
 obtain rfl := sj j
 exact G _ _ ⟨_, (b.kh St), rfl, rfl, rfl⟩
theorem MD (c : Value) (i : List ByteArray) (a : LO) (r : List ByteArray) (w : World) {t : kL} (k : nN t (a ++ []) w) (g : kC 9 ob 1 c i a) (hm : Fh i = some r) :
  lH true pg0 310 [c] w (a ++ []) (fun v j W' => ∃ S, v = (.tuple #[]) ∧ j = (S ++ []) ∧ kC 9 ob 1 c r S) := KC (P := pg0) (ρ := M7) NA k.H g hm
theorem BI (j : Value) (a0 : List ByteArray) (x : LO) (r : List ByteArray) (w : World) {μ0 : kL} (h0 : nN μ0 (x ++ []) w) (D : kC 9 ob 1 j a0 x) (hm : pS a0 = some r) :
  lH true pg0 311 [j] w (x ++ []) (fun v L1 W' => ∃ y1 S2, v = y1 ∧ L1 = (S2 ++ []) ∧ kC 9 ob 1 y1 r S2) := by
 refine yN h0 61 func311 rfl (fun b => sg (Wa (lS (Wm (V (mY bY rfl D) (Wi rfl (ln (CI hm rfl (fun g1 hm => ?_) (fun g1 hm => ?_)))))))))
 ·refine sg (Wm (Wa (lt (kU ?_))))
  obtain rfl := sj hm
  exact lB (v := j) rfl rfl ⟨_, _, rfl, (b.mI (Kr Sn)), j, x, rfl, rfl, D⟩
 refine kS (Wa (ln (lR (np (fun m E W => ∃ t R, ST true (keys (x ++ [])) w W μ0 (x ++ R) ∧ E 0 = j ∧ E 3 = (.int .i64 t) ∧ nW a0 m t = some r) kT ⟨1, _, (b.kh St), rfl, rfl, hm⟩ ?_))))
 rintro m E W ⟨t, R, b, G, I, a⟩
 cases m with
 | zero => rw [nW] at a; cases a
 | succ f6 =>
  refine kA (sg (Wh I (Wh G (V (mY bY rfl D) (Wi rfl (ln (CI a rfl (fun d1 a => ?_) (fun d1 a => ?_))))))))
  ·refine kn (kA (lR (kA ?_)))
   replace b := b.drew
   have d := b.has.kh (Kr Sn)
   refine lm d kP (X 0 rfl d (ko G) (X 1 rfl d (ko I) (bS a fun c4 a2 a => XQ 2 rfl d (mS (i := t) (x0 := c4) bY dU rfl rfl D (kI a2) (kF a2)) (fun g8 d7 => XH 3 rfl d (fun _ l => kl rfl (uX l (fun p h => (Ml h)) D (fun _ => rfl) d7 (kF a2) (y := (.string c4)) rfl bT)) (X 4 rfl d (ko G) (X 5 rfl d (ko I) (X 6 rfl d (lW rfl rfl rfl) (bS a fun c5 a3 a => XQ 7 rfl d (mS (i := (wi0 .i64 (t - 1))) (x0 := c5) bY dU rfl rfl D (kI a3) (kF a3)) (fun g9 d8 => XH 8 rfl d (fun _ l => kl rfl (uX l (fun p h => (Ml h)) D (fun _ => rfl) d8 (kF a3) (y := (.string c5)) rfl bT)) (X 9 rfl d (Hs rfl rfl rfl) (lF kr (ku ?_))))))))))))
   refine CI a rfl (fun d2 a => ?_) (fun d2 a => ?_)
   ·refine sg (Wh G (Wh I (bS a fun _ F a => VQ (rc (i := t) bY dU rfl rfl D (qm F) (qf F)) (fun c2 N => Wa (lS (Wa (ln ?_)))))))
    refine CJ a (fun Y E W => ∃ s b6, ST true (keys (x ++ [])) w W μ0 (s ++ b6) ∧ E 0 = j ∧ E 3 = (.int .i64 Y.2) ∧ kC 9 ob 1 j Y.1 s) (fun Y d5 => ?_) ?_
    ·refine lR (np (fun m E W => ∃ a9 M Z B b7, ST true (keys (x ++ [])) w W μ0 (M ++ b7) ∧ E 0 = j ∧ E 3 = (.int .i64 Z) ∧ E 4 = c2 ∧ E 5 = (.int .i64 B) ∧ kC 9 ob 1 j a9 M ∧ nY t m a9 Z B = some Y) kT ⟨a0, x, t, 1, _, (b.kh St), G, I, rfl, rfl, D, d5⟩ ?_)
     rintro m E W ⟨a9, M, Z, B, b7, b, T, U, J, K, g, k⟩
     cases m with
     | zero => rw [nY] at k; cases k
     | succ f7 =>
      refine kA (sg (Wh K (Wh J (V (BS bY rfl N g) (Wi rfl (ln (CI k rfl (fun d3 k => ?_) (fun d3 k => ?_))))))))
      ·refine kn (kA (CJ k (fun A E W => ∃ Q b9, ST true (keys (x ++ [])) w W μ0 (Q ++ b9) ∧ E 0 = j ∧ E 3 = (.int .i64 A.2) ∧ E 4 = c2 ∧ E 5 = (.int .i64 B) ∧ kC 9 ob 1 j A.1 Q) (fun A c => ?_) ?_))
       ·refine lR (kA ?_)
        replace b := b.drew
        have d := b.has.kh (Kr Sn)
        refine lm d kP (X 0 rfl d (ko J) (X 1 rfl d (ko K) (bS c fun c7 a4 c => XQ 2 rfl d (rf (i := B) (x0 := c7) bY dU rfl rfl g N (kI a4) (kF a4)) (fun h1 d9 => XH 3 rfl d (fun _ l => kl rfl (uX l (fun p h => (Ml h)) g (fun _ => rfl) d9 (uv (kF a4)) (y := (.string c7)) rfl bT)) (X 4 rfl d (ko J) (X 5 rfl d (ko K) (X 6 rfl d (lW rfl rfl rfl) (bS c fun c8 a5 c => XQ 7 rfl d (rf (i := (wi0 .i64 (B - 1))) (x0 := c8) bY dU rfl rfl g N (kI a5) (kF a5)) (fun h2 e0 => XH 8 rfl d (fun _ l => kl rfl (uX l (fun p h => (Ml h)) g (fun _ => rfl) e0 (uv (kF a5)) (y := (.string c8)) rfl bT)) (X 9 rfl d (Hs rfl rfl rfl) (lF kr (ku ?_))))))))))))
        refine CI c rfl (fun d4 c => ?_) (fun d4 c => ?_)
        ·refine sg (Wh T (Wh U (Wh J (Wh K (bS c fun n o c => VQ (rf (i := B) (x0 := n) bY dU rfl rfl g N (kI o) (kF o)) (fun h3 e1 => V (kl rfl (uX b.has (fun p h => (Ml h)) g (fun _ => rfl) e1 (uv (kF o)) (y := (.string n)) rfl bT)) (bS c fun f9 q c => VQ (mS (i := Z) (x0 := f9) bY dU rfl rfl g (kI q) (kF q)) (fun h4 e2 => VO (vN (u := (.string n)) (x1 := n)  b g (fun _ => rfl) HX rfl rfl rfl e2 (kF q) dU (fun g4 e9 b d0 => ln (kB ?_)))))))))))
         refine Wh U (Wi rfl (Wa (kQ (kY (ku ?_)))))
         obtain rfl := sj c
         exact ⟨e9, _, (b.kh St), T, rfl, J, K, d0⟩
        refine lE (kY (ku ?_))
        obtain rfl := sj c
        exact ⟨M, _, (b.kh St), T, U, J, K, g⟩
       rintro ⟨f5, f8⟩ E W ⟨Q, b9, b, f1, f2, f3, f4, e5⟩ d6
       exact kB (Wh f4 (Wi rfl (Wa (ln ⟨f7, bD _, f5, Q, f8, (wi0 .i64 (B + 1)), _, (b.kh St), f1, f2, f3, rfl, e5, d6⟩))))
      refine nf (mO (mO (pZ (ku ?_))))
      obtain rfl := sj k
      exact ⟨M, _, (b.kh St), T, U, g⟩
    rintro ⟨g7, c6⟩ E W ⟨s, b6, b, c0, c1, P⟩ H
    refine sg (Wh c0 (Wh c1 (bS H fun _ L H => VQ (rc (i := c6) bY dU rfl rfl P (qm L) (qf L)) (fun h5 e3 => VO (ve (z := zS)  b P (fun _ => rfl) HX bY zeroValue9 e3 rfl rfl (fun g3 e8 b c9 => lr (Wh c0 (Wh c1 (bS H fun _ O H => VQ (tO (i := c6) bY dU rfl rfl c9 (fun _ => rfl) (qm O) (qf O)) (fun c3 e4 => ?_))))))))))
    refine Wa (lt (mB (kU (kU (mB (kU ?_))))))
    obtain rfl := sj H
    exact lB (v := c3) rfl rfl ⟨_, _, rfl, (b.mI (Kr Sn)), c3, e8, rfl, rfl, e4⟩
   exact lE (kY (ku (kB (Wh I (Wi rfl (Wa (ln ⟨f6, bD _, (wi0 .i64 (t + 1)), _, (b.kh St), G, rfl, a⟩)))))))
  refine nf (mO (mO (pZ (ku (sg (Wh G (Wa (lt ?_))))))))
  obtain rfl := sj a
  exact lB (v := j) rfl rfl ⟨_, _, rfl, (b.mI (Kr Sn)), j, x, rfl, rfl, D⟩
theorem GD (H : Value) (J r : List ByteArray) (w : World) (G : Sl (Pl ob) 1 (hp w) H J) (hm : xG J = some r) :
  ma true pg0 271 [H] w 9 ob 1 r := by
 refine uk 23 func271 rfl (fun b => sg (Wa (lr (Wa (lS (Wm ?_))))))
 refine V (lT bY rfl G) (Wm (ln (lu (fun i E W => ∃ c t g D, (E 8 = .int .i64 (i : Nat) ∧ E 7 = .int .i64 (J.length : Nat)) ∧ ST true lM w W (hp w) (g ++ D) ∧ E 3 = c ∧ E 6 = H ∧ kC 9 ob 1 c t g ∧ tf (J.drop i) t = some r) J.length G.len ⟨(.slice none 0 0), ([]), [], _, ⟨rfl, rfl⟩, (b.kh St), rfl, rfl, (kC.nil _ _ _), hm⟩ dc dc dc (fun _ _ _ h => by obtain ⟨_, _, _, _, n, _⟩ := h; exact n) ?_ ?_)))
 ·rintro b7 E W O ⟨c, t, g, D, ⟨m, o⟩, b, j, u, x, a⟩
  obtain ⟨k, d1, P, a9, K⟩ := lc O
  rw [P] at a
  refine bg (VQ (ni (enc := ob) (i := (b7 : Int)) (x0 := k) bY dU u m G (aH _) a9) (fun c6 Y => V (kl rfl (ns b.has (y := (.string k)) Y bT)) (Wa (lr (Wm (bS a fun c7 Z a => VE (Eg b call57 (vm k _ _  Z) (fun c1 b => ln ?_))))))))
  refine CI a rfl (fun T a => ?_) (fun T a => ?_)
  ·refine kB (Wh j (Wm (VE (kV (cs := [(.string k)].toArray) b (nh rfl) (nc bY dU zeroValue9) (fun c2 M b => ?_)))))
   replace b := b.perm (Nr (Qb Qz) Nz)
   refine bS a fun b1 U a => VE (ny (enc := ob) (v := c) (vs := (.slice (some ⟨M, 0, none⟩) 1 1)) (R := g) b (fun _ => rfl) dc HX bY Ch.1 Ch.2.1 rfl Ch.2.2.1 Ch.2.2.2 rfl rfl x (Sl.lit (enc := ob) (l := [k]) (fun _ => rfl) rfl nb rfl (b.at_ (Ma Mh))) U (fun c3 b3 a4 b Q => Wa (kQ (kY (ku ?_)))))
   replace b := b.kh (Kr (Db St))
   exact ⟨m, b3, b1, a4, _, ⟨rfl, o⟩, (b.kh St), rfl, u, Q, (by rw [K]; exact a)⟩
  exact lE (kY (ku ⟨m, c, t, g, _, ⟨rfl, o⟩, (b.kh St), j, u, x, (by rw [K]; exact a)⟩))
 rintro E W ⟨c, t, g, D, ⟨m, o⟩, b, j, u, x, a⟩
 rw [aI] at a
 refine ku (sg (Wh j (bS a fun b2 F a => ?_)))
 refine VE (eM b (Cr Qz Cn) call310 (fun q _ => (MD c t g _ _ q x F)) ?_)
 rintro _ c9 d2 b9 b b5 s d ⟨a5, z, rfl, a3⟩
 obtain rfl := z.symm
 replace b := b.perm (Tr Tn)
 refine lr (Wh j (bS a fun c8 a2 a => ?_))
 refine VE (eM b (Cr Qz Cn) call311 (fun q _ => (BI c b2 a5 _ _ q a3 a2)) ?_)
 rintro _ d0 d3 c0 b b6 A d ⟨b4, L, B, rfl, I⟩
 obtain rfl := B.symm
 replace b := b.perm (Tr Tn)
 refine Wa (lt ?_)
 obtain rfl := sj a
 exact lB (v := b4) rfl rfl ⟨_, L, rfl, b.nn (fun p hq => (Ml hq)) I.nd, I⟩
theorem IT (B : Value) (G : List ke) (r : List ByteArray) (w : World) (y : Sl (Pl km) 9 (hp w) B G) (hm : yn G = some r) :
  ma true pg0 222 [B] w 9 ob 1 r := by
 refine uk 29 func222 rfl (fun d => sg (Wa (lr (Wa (lS (Wm ?_))))))
 refine V (lT aY rfl y) (Wm (ln (lu (fun i E W => ∃ g k j t, (E 8 = .int .i64 (i : Nat) ∧ E 7 = .int .i64 (G.length : Nat)) ∧ ST true lM w W (hp w) (j ++ t) ∧ E 3 = g ∧ E 6 = B ∧ kC 9 ob 1 g k j ∧ sk (G.drop i) k = some r) G.length y.len ⟨(.slice none 0 0), ([]), [], _, ⟨rfl, rfl⟩, (d.kh St), rfl, rfl, (kC.nil _ _ _), hm⟩ dc dc dc (fun _ _ _ h => by obtain ⟨_, _, _, _, n, _⟩ := h; exact n) ?_ ?_)))
 ·rintro a5 E W T ⟨g, k, j, t, ⟨m, A⟩, d, u, x, z, c⟩
  obtain ⟨a, b4, Y, U, Z⟩ := lc T
  rw [Y] at c
  refine bg (VQ (ni (enc := km) (i := (a5 : Int)) (x0 := a) aY aT x m y (aH _) U) (fun b2 J => V (kl rfl (kO d.has J cE aT)) (VE (ll d dn (fun L b1 d => VO (kJ (.agg (km a).toArray) ((km a).toArray) d rfl rfl aT (ph a) nb rfl (fun O d => ln (kB (Wh u (Wf xZ (VB d Mh rfl rfl bT (Wf rr (Wf ub ?_)))))))))))))
  refine VB d Mh rfl rfl bT (Wf ou (Wf ub (VB d Mh rfl rfl bT (Wf we (Wf ub (VB d Mh rfl rfl bT (VE (kV (cs := #[(.string a.kR), (.string a.Head.kj), (.string a.B.kj), (.string a.C.kj)]) d (RG rfl rfl rfl rfl) (nc bY dU zeroValue9) (fun P Q d => ?_)))))))))
  replace d := d.perm (Nr (Qb (Qb Qz)) Nz)
  refine bS c fun F I c => VE (ny (enc := ob) (v := g) (vs := (.slice (some ⟨Q, 0, none⟩) 4 4)) (R := j) d (fun _ => rfl) dc HX bY Ch.1 Ch.2.1 rfl Ch.2.2.1 Ch.2.2.2 rfl rfl z (Sl.lit (enc := ob) (l := [a.kR, a.Head.kj, a.B.kj, a.C.kj]) (fun _ => rfl) rfl nb rfl (d.at_ (Ma Mh))) I (fun a9 a2 M d H => Wa (kQ (kY (ku ?_)))))
  replace d := d.kh (Kr (Db (Db St)))
  exact ⟨m, a2, F, M, _, ⟨rfl, A⟩, (d.kh St), rfl, x, H, (by rw [Z]; exact c)⟩
 rintro E W ⟨g, k, j, t, ⟨m, A⟩, d, u, x, z, c⟩
 rw [aI] at c
 refine ku (sg (Wh u (bS c fun b3 K c => VE (rW d call271 (GD g k _ _ (z.sl (fun _ => rfl) (fun b o s => d.at_ (Ml s))) K) (fun b0 a3 b5 N d a4 q D => Wa (ln ?_))))))
 replace d := d.kh (Kr (Dr St))
 refine kM ?_
 obtain rfl := sj c
 exact lB (v := a3) rfl rfl ⟨_, N, rfl, d.nn (fun p s => (Ml s)) D.nd, D⟩
theorem AS (g : Value) (t : List ByteArray) (j : Value) (D : ByteArray → Option Bool) (r : Int) (w : World) (c : Sl (Pl ob) 1 (hp w) g t) (G : te pg0 j (hp w) (fun (x : ByteArray) => [(.string x)]) (fun (r : Bool) => (.bool r)) D) (hm : tJ t D = some r) :
  kN false pg0 333 [g, j] w (.int .i64 r) := by
 refine cG 19 func333 rfl (fun b => sg (Wa (lS (Wm (V (lT bY rfl c) (Wm (ln (lu (fun i E W => ∃ k, (E 8 = .int .i64 (i : Nat) ∧ E 7 = .int .i64 (t.length : Nat)) ∧ ST false lM w W (hp w) k ∧ E 0 = g ∧ E 1 = j ∧ oz D (t.drop i) i = some r) t.length c.len ⟨_, ⟨rfl, rfl⟩, (b.kh St), rfl, rfl, hm⟩ dc dc dc (fun _ _ _ h => by obtain ⟨_, l, _⟩ := h; exact l) ?_ ?_))))))))
 ·rintro T E W I ⟨k, ⟨d, m⟩, b, u, z, a⟩
  obtain ⟨B, U, N, M, Q⟩ := lc I
  rw [N] at a
  refine bg (Wh d (Wa (lr (Wh z (Wh u (Wm (VQ (ni (enc := ob) (i := (T : Int)) (x0 := B) bY dU rfl rfl c (aH _) M) (fun Z J => V (kl rfl (ns b.has (y := (.string B)) J bT)) (bS a fun n K a => ?_)))))))))
  refine VE (zQ B b G (kH.refl _) rfl (sW rfl) K (fun Y b => ln (CI a rfl (fun H a => ?_) (fun H a => ?_))))
  ·refine sg (Wm (Wa (lt (mB (kU (mB (kU ?_)))))))
   obtain rfl := sj a
   exact rP b
  exact lE (kY (ku ⟨d, _, ⟨rfl, m⟩, (b.kh St), u, z, (by rw [Q]; exact a)⟩))
 rintro E W ⟨k, ⟨d, m⟩, b, u, z, a⟩
 rw [aI] at a
 exact ku (sg (Wa (lt (rQ a b))))
theorem zP (a : Value) (g : List ByteArray) (c : Value) (i : ByteArray → Option Bool) (r : Bool) (w : World) (j : Sl (Pl ob) 1 (hp w) a g) (k : te pg0 c (hp w) (fun (x : ByteArray) => [(.string x)]) (fun (r : Bool) => (.bool r)) i) (hm : sb g i = some r) :
  kN false pg0 312 [a, c] w (.bool r) := by
 refine cG 9 func312 rfl (fun b => sg (Wa (lr (Wm (Wm (bS hm fun y t hm => VE (Eg b call333 (AS a g c i _ _ (j.mono (Pl.mono _) b.kw) (k.mono b.kw) t) (fun u b => Wi rfl (Wa (kQ ?_))))))))))
 exact ku (kM (rQ hm b))
theorem FB (u : ByteArray) (z : Nat) (i : Value) (G : (kd × ByteArray) → Option Bool) (B : Nat) (g : ke) (D : Nat) (I : ByteArray) (r : Bool) (w : World) (H : te pg0 i (hp w) (fun (x : (kd × ByteArray)) => [(.agg (ki x.1).toArray), (.string x.2)]) (fun (r : Bool) => (.bool r)) G) (j : At (hp w) (.pointer (some ⟨z, 0, none⟩)) [i]) (k : At (hp w) (.pointer (some ⟨B, 0, none⟩)) (km g)) (J : At (hp w) (.pointer (some ⟨D, 0, none⟩)) [(.string I)]) (hm : tD u G g I = some r) :
  kN false pg0 313 [(.string u), (.pointer (some ⟨z, 0, none⟩)), (.pointer (some ⟨B, 0, none⟩)), (.pointer (some ⟨D, 0, none⟩))] w (.bool r) := by
 refine cG 20 func313 rfl (fun b => sg (Wa (lr (V (kl rfl (ns b.has (y := i) j isAgg134)) (VQ (xn (ki g.B) ou rfl k rfl) (fun h Y => V (kl rfl (kO b.has Y bo aG)) (Wm (bS hm fun l Z hm => VE (zQ (g.B, u) b H (kH.refl _) rfl (ta rfl rfl) Z (fun W6 b => Wm ?_))))))))))
 refine LJ hm (fun M E W => ∃ K, ST false lM w W (hp w) K ∧ E 5 = (.bool false) ∧ E 19 = (.bool M)) 8 ?_ (fun M c t => ?_)
 ·rintro a5 E W ⟨K, b, a2, U⟩ N
  exact Wg U (lt (rQ N b))
 refine bC c (fun a c => ?_) (fun a c => ?_)
 ·refine ug a (kl rfl (ns b.has (y := i) j isAgg134)) (ug a (ko rfl) (Tk a (xn [(.string g.lj)] ya rfl k rfl) (fun a3 Q => ug a (kl rfl (ns b.has (y := (.string g.lj)) Q bT)) (ug a (mK (v := (.agg (ki (⟨u, g.lj⟩ : kd)).toArray)) (oP rfl rfl) (me dv cW (HO _ cW) kr)) (ug a (kl rfl (ns b.has (y := (.string I)) J bT)) (bS c fun a4 T c => vn a (zQ ((⟨u, g.lj⟩ : kd), I) b H (kH.refl _) rfl (ta rfl rfl) T (fun d b => V (lg (cB a) rfl) ?_))))))))
  obtain rfl := sj c
  exact t _ _ ⟨_, (b.kh St), rfl, rfl⟩
 refine un a (un a (un a (un a (un a (un a (un a (V (li (cB a) rfl) ?_)))))))
 obtain rfl := sj c
 exact t _ _ ⟨_, (b.kh St), rfl, rfl⟩
theorem H6 (g : ke) (u : Value) (y : (kd × ByteArray) → Option Bool) (k : Value) (D : List ByteArray) (j : ByteArray) (r : Bool) (w : World) (i : te pg0 u (hp w) (fun (x : (kd × ByteArray)) => [(.agg (ki x.1).toArray), (.string x.2)]) (fun (r : Bool) => (.bool r)) y) (I : Sl (Pl ob) 1 (hp w) k D) (hm : xv g y D j = some r) :
  kN false pg0 272 [(.agg (km g).toArray), u, k, (.string j)] w (.bool r) := by
 refine cG 41 func272 rfl (fun b => sg (VE (kX b rfl (fun W2 G b => ?_))))
 obtain ⟨f3, f4, f5, rfl⟩ := i.form
 refine VE (kX b rfl (fun W7 H b => VE (kX b rfl (fun W9 b8 b => Wa (lS (Wf wh (VB b (Mt (Mt Mh)) rfl rfl dz (ln (bg ?_)))))))))
 refine Wi rfl (Wa (ln (CI hm rfl (fun J hm => ?_) (fun J hm => ?_))))
 ·refine sg (Wf xZ (VB b (Mt (Mt Mh)) rfl rfl bT (VB b Mh rfl rfl bT (V (Hs rfl rfl rfl) (Wa (ln ?_))))))
  replace b := b.kh (Db (Db (Db St)))
  refine kM (mB (kU ?_))
  obtain rfl := sj hm
  exact rP b
 refine sg (Wi rfl (Wa (ln (CI hm rfl (fun K hm => ?_) (fun K hm => ?_)))))
 ·refine sg (VB b (Mt Mh) rfl rfl isAgg134 (Wf ou (VA b (Mt (Mt Mh)) (ki g.B) bo aG (VB b Mh rfl rfl bT (bS hm fun o Q hm => VE (zQ (g.B, j) b i (kH.refl _) rfl (ta rfl rfl) Q (fun h b => Wa (ln ?_))))))))
  replace b := b.kh (Db (Db (Db St)))
  refine kM (mB (kU ?_))
  obtain rfl := sj hm
  exact rP b
 refine sg (Wi rfl (Wa (ln (CI hm rfl (fun M hm => ?_) (fun M hm => ?_)))))
 ·refine sg (VB b (Mt Mh) rfl rfl isAgg134 (Wf ou (VA b (Mt (Mt Mh)) (ki g.B) bo aG (VB b Mh rfl rfl bT (bS hm fun p T hm => VE (zQ (g.B, j) b i (kH.refl _) rfl (ta rfl rfl) T (fun l b => Wm (LJ hm (fun B E W => ∃ z, ST false lM w W (hp w) z ∧ E 8 = (.bool false) ∧ E 37 = (.bool B)) 6 ?_ (fun B c t => ?_)))))))))
  ·rintro v E W ⟨z, b, n, Z⟩ N
   refine Wg Z (lt (mB (kU ?_)))
   obtain rfl := sj N
   exact rP b
  refine bC c (fun a c => ?_) (fun a c => ?_)
  ·refine ug a (kl rfl (kK b.has (Mt Mh) rfl isAgg134)) (ug a (ky we rfl) (ug a (kl rfl (kx b.has (Mt (Mt Mh)) (ki g.C) rfl bo aG)) (ug a (kl rfl (kK b.has Mh rfl bT)) (bS c fun q U c => vn a (zQ (g.C, j) b i (kH.refl _) rfl (ta rfl rfl) U (fun m b => V (lg (cB a) rfl) ?_))))))
   obtain rfl := sj c
   exact t _ _ ⟨_, (b.kh (Db (Db (Db St)))), rfl, rfl⟩
  refine un a (un a (un a (un a (un a (V (li (cB a) rfl) ?_)))))
  obtain rfl := sj c
  exact t _ _ ⟨_, (b.kh (Db (Db (Db St)))), rfl, rfl⟩
 refine lE (kY (ku (sg (Wm (V (qv (by exact SR rfl rfl rfl) rfl) (bS hm fun s Y hm => VE (Eg b call312 (zP k D (.func (.func 313) #[] #[(.pointer (some ⟨H, 0, none⟩)), (.pointer (some ⟨G, 0, none⟩)), (.pointer (some ⟨b8, 0, none⟩))]) (fun (x : ByteArray) => tD x y g j) _ _ (I.mono (Pl.mono _) b.kw) ⟨313, #[], #[(.pointer (some ⟨H, 0, none⟩)), (.pointer (some ⟨G, 0, none⟩)), (.pointer (some ⟨b8, 0, none⟩))], rfl, call313, fun W x r d hm => FB x H (.func f3 f4 f5) y G g b8 j r W (i.mono (b.kw.trans d)) (At.of (d _ _ (b.at_ (Mt Mh))) _ rfl) (At.of (d _ _ (b.at_ (Mt (Mt Mh)))) _ rfl) (At.of (d _ _ (b.at_ Mh)) _ rfl) hm⟩ Y) (fun a9 b => Wa (ln ?_)))))))))
 exact kM (rQ hm b)
theorem IJ (c : ke) (B : Value) (f1 : (kd × ByteArray) → Option Bool) (T : Value) (a2 : List ByteArray) (r : List kk) (w : World) (b0 : te pg0 B (hp w) (fun (x : (kd × ByteArray)) => [(.agg (ki x.1).toArray), (.string x.2)]) (fun (r : Bool) => (.bool r)) f1) (d9 : Sl (Pl ob) 1 (hp w) T a2) (hm : uH c f1 a2 = some r) :
  ma false pg0 224 [(.agg (km c).toArray), B, T] w 111 kD 3 r := by
 refine uk 47 func224 rfl (fun d => sg (VE (kX d rfl (fun W2 n d => Wa (lS (VA d Mh (km c) cE aT (bS hm fun r3 f6 hm => VE (Eg d call113 (kN.lZ (vB c _ _  f6)) (fun W5 d => V (nT rfl) (Wm ?_))))))))))
 refine LJ hm (fun b6 E W => ∃ L8, ST false lM w W (hp w) ((n, Ol (km c) 52) :: L8) ∧ E 1 = B ∧ E 2 = T ∧ E 3 = (.pointer (some ⟨n, 0, none⟩)) ∧ E 17 = (.bool b6)) 3 ?_ (fun b6 u U => ?_)
 ·rintro x7 E W ⟨L8, d, d3, e9, a4, f0⟩ H
  refine ln (CI H f0 (fun e0 H => ?_) (fun e0 H => ?_))
  ·refine sg (Wa (ln ?_))
   replace d := d.kh (Db St)
   refine kM (kU ?_)
   obtain rfl := sj H
   exact lB (v := (.slice none 0 0)) rfl rfl ⟨_, [], rfl, d.nn (fun p o => by cases o) (by simp), kC.nil _ _ _⟩
  refine kg (Wh e9 (bS H fun d4 e3 H => VE (rW d call271 (ma.lZ (GD T a2 _ _ (d9.mono (Pl.mono _) d.kw) e3)) (fun g8 q g9 g7 d c5 a8 a9 => Wa (lr (Wm (Wa (kQ ?_))))))))
  refine ku (kA ?_)
  have e1 := a9.Lb d (fun p o => (Ml o))
  obtain ⟨d5, d, c6, aa, b3⟩ := ST.F7 d a9 (fun _ => rfl)
  refine CJ H (fun b5 E W => ∃ Y Z d2, kH d5 Z ∧ ST false lM w W Z ((n, Ol (km c) 52) :: d2) ∧ E 1 = B ∧ E 2 = q ∧ E 3 = (.pointer (some ⟨n, 0, none⟩)) ∧ E 7 = Y ∧ Sl (Pl ob) 1 Z Y b5 ∧ Fr w.heap.size Y) (fun b5 t => ?_) ?_
  ·refine sg (V (ky wh a4) (VB d Mh rfl rfl dz (Wi rfl (ln (CI t rfl (fun c2 t => ?_) (fun c2 t => ?_))))))
   ·refine kB (V (ky xZ a4) (VB d Mh rfl rfl bT (VE (kV (cs := [(.string c.kR)].toArray) d (nh rfl) (nc bY dU zeroValue9) (fun g1 J d => Wa (ln ?_))))))
    obtain rfl := sj t
    have c3 : Fr w.heap.size (.slice (some ⟨J, 0, none⟩) 1 1) := Fr.box d Mh
    obtain ⟨e7, d, b2, P, c9⟩ := ST.F7 (R := [(J, Ol [(.string c.kR)] 9)]) d (kC.lit (l := [c.kR]) (enc := ob) (b := J) (m := 1) rfl dc rfl rfl) (fun _ => rfl)
    exact ⟨(.slice (some ⟨J, 0, none⟩) 1 1), e7, _, b2, (d.kh St), d3, rfl, a4, rfl, c9, c3⟩
   refine kn ?_
   obtain rfl := sj t
   exact ⟨q, d5, _, (kH.refl _), (d.kh St), d3, rfl, a4, rfl, b3, e1⟩
  rintro F E W ⟨Y, Z, d2, a5, d, f2, f3, f4, f5, a3, g2⟩ e2
  refine sg (Wa (lS (Wh f5 (V (lT bY rfl a3) (Wm (ln (lu (fun i E W => ∃ k I j A, (E 29 = .int .i64 (i : Nat) ∧ E 28 = .int .i64 (F.length : Nat)) ∧ ST false lM w W Z ((n, Ol (km c) 52) :: (j ++ A)) ∧ E 1 = B ∧ E 2 = q ∧ E 3 = (.pointer (some ⟨n, 0, none⟩)) ∧ E 8 = k ∧ E 27 = Y ∧ kC 111 kD 3 k I j ∧ qJ c f1 d4 (F.drop i) I = some r) F.length a3.len ⟨(.slice none 0 0), ([]), [], _, ⟨rfl, rfl⟩, (d.kh St), f2, f3, f4, rfl, rfl, (kC.nil _ _ _), e2⟩ dc dc dc (fun _ _ _ h => by obtain ⟨_, _, _, _, L, _⟩ := h; exact L) ?_ ?_)))))))
  ·rintro e4 E W c4 ⟨k, I, j, A, ⟨s, O⟩, d, K, M, D, N, Q, z, a⟩
   obtain ⟨g, f7, d1, d0, a6⟩ := lc c4
   let a0 := (⟨c.Head, g⟩ : kk)
   rw [d1] at a
   refine bg (VQ (ni (enc := ob) (i := (e4 : Int)) (x0 := g) bY dU Q s a3 (aH _) d0) (fun g3 c7 => V (kl rfl (ns d.has (y := (.string g)) c7 bT)) (Wa (lr (V (kl D (kx d.has Mh (km c) rfl cE aT)) (Wh K (Wh M (Wm (bS a fun g4 c8 a => ?_)))))))))
   refine VE (Eg d call272 (H6 c B f1 q d4 g _ _ (b0.mono (((c5.trans c6).trans a5).trans d.kw)) (b3.mono (Pl.mono _) (a5.trans d.kw)) c8) (fun f8 d => ln (CI a rfl (fun c0 a => ?_) (fun c0 a => ?_))))
   ·refine kB (Wh N (V (ky rr D) (VA d Mh (ki c.Head) bo aG (Wm (V (mK (v := (.agg (kD (a0)).toArray)) (oP rfl rfl) (me eb cU (Ft _ cU) kr)) (VE (kV (cs := (kD (a0)).toArray) d (nh rfl) (nc cY cK eb) (fun f9 d8 d => ?_))))))))
    replace d := d.perm (Nr (Qb (Qb Qz)) Nz)
    refine bS a fun e5 c1 a => VE (ny (enc := kD) (v := k) (vs := (.slice (some ⟨d8, 0, none⟩) 1 1)) (R := j) d oE dc zD cY rH.1 rH.2.1 rfl rH.2.2.1 rH.2.2.2 rfl rfl z (Sl.lit (enc := kD) (l := [a0]) oE rfl nb rfl (d.at_ (Ma Mh))) c1 (fun g0 e6 d6 d b9 => Wa (kQ (kY (ku ?_)))))
    replace d := d.kh (Kr (Db St))
    exact ⟨s, e6, e5, d6, _, ⟨rfl, O⟩, (d.kh (Sb (Pr Pz) St)), K, M, D, rfl, Q, b9, (by rw [a6]; exact a)⟩
   exact lE (kY (ku ⟨s, k, I, j, _, ⟨rfl, O⟩, (d.kh St), K, M, D, N, Q, z, (by rw [a6]; exact a)⟩))
  rintro E W ⟨k, I, j, A, ⟨s, O⟩, d, K, M, D, N, Q, z, a⟩
  rw [aI] at a
  refine ku ?_
  replace d := d.kh (Db St)
  refine sg (Wh N (Wa (lt ?_)))
  obtain rfl := sj a
  exact lB (v := k) rfl rfl ⟨_, j, rfl, d.nn (fun p o => (Ml o)) z.nd, z⟩
 refine bC u (fun G u => ?_) (fun G u => ?_)
 ·refine un G (un G (V (lg (cB G) rfl) ?_))
  obtain rfl := sj u
  exact U _ _ ⟨_, (d.kh St), rfl, rfl, rfl, rfl⟩
 refine ug G (ko rfl) (ug G (IE underlying134 b0 rfl rfl) (V (li (cB G) rfl) ?_))
 obtain rfl := sj u
 exact U _ _ ⟨_, (d.kh St), rfl, rfl, rfl, rfl⟩
theorem Gk (a : kd) (g : ByteArray) (i : Nat) (c : Value) (u : List (kk × Bool)) (r : Bool) (w : World) (t : vi (fun (x : kk) => (.agg (kD x).toArray)) (fun (x : Bool) => (Value.bool x)) (hp w) c u) (j : At (hp w) (.pointer (some ⟨i, 0, none⟩)) [c]) (hm : ud a g u = some r) :
  kN true pg0 223 [(.agg (ki a).toArray), (.string g), (.pointer (some ⟨i, 0, none⟩))] w (.bool r) := by
 refine cG 11 func223 rfl (fun d => sg (VE (kX d rfl (fun B D d => Wa (lr (V (kl rfl (ns d.has (y := c) j isAgg229)) (VA d Mh (ki a) bo aG (Wm (V (mK (v := (.agg (kD (⟨a, g⟩ : kk)).toArray)) (oP rfl rfl) (me eb cU (Ft _ cU) kr)) (V (vG (k := (⟨a, g⟩ : kk)) (z := false) (vf := (fun (x : Bool) => (Value.bool x))) GJ iC gw rfl rfl (t.mono (fun b o h => d.has.1 b o h))) (Wa ?_)))))))))))
 refine ln ?_
 exact kM (rQ hm d)
theorem IZ (f7 : Value) (a0 : List ke) (q : kk) (r : ((List kW) × Bool)) (w : World) (i1 : Sl (Pl km) 9 (hp w) f7 a0) (hm : wq a0 q = some r) :
  lH false pg0 173 [f7, (.agg (kD q).toArray)] w [] (fun v L1 W' => ∃ y1 S2, v = (.tuple #[y1, (.bool (r.2))]) ∧ L1 = (S2 ++ []) ∧ kC 113 lA 12 y1 r.1 S2) := by
 refine uk 60 func173 rfl (fun d => sg (VE (kX d rfl (fun W2 A d => Wa (Wa (lr (Wm (bS hm fun r3 o5 hm => VE (rW d call52 (GX f7 a0 _ _ (i1.mono (Pl.mono _) d.kw) o5) (fun W5 v9 ae g0 d o1 ad f2 => Wm (bS hm fun k5 o2 hm => ?_)))))))))))
 refine VE (rW d call222 (ma.lZ (IT f7 a0 _ _ (i1.mono (Pl.mono _) (o1.trans d.kw)) o2)) (fun q3 L n9 g1 d p8 ab o0 => Wa (Wa (lr (VE (BP (P := pg0) (fun (x : kk) => (.agg (kD x).toArray)) (fun (x : Bool) => (Value.bool x)) d (fun q4 q7 o3 d h9 => VE (ll d zeroValue229 (fun q5 t d => ?_)))))))))
 obtain ⟨D, rfl⟩ := h9.form
 refine VO (kJ (.map (some D)) (#[(.map (some D))]) d rfl rfl sizeOf229 oc nb rfl (fun q6 d => lr (V (qv (by exact sW rfl) rfl) (Wa (lr (Wa (ln (kA ?_))))))))
 refine sg (Wa (ln (lR (np (fun m E W => ∃ d3 B b2 f8 d1 b3 Y g9, kH n9 Y ∧ ST false lM w W Y ((t, Ob #[(.map (some D))] 229) :: ((A, Ol (kD q) 111) :: (b2 ++ (b3 ++ (g1 ++ (g0 ++ g9)))))) ∧ E 3 = (.pointer (some ⟨A, 0, none⟩)) ∧ E 6 = v9 ∧ E 7 = L ∧ E 8 = (.pointer (some ⟨t, 0, none⟩)) ∧ E 9 = (.func (.func 223) #[] #[(.pointer (some ⟨t, 0, none⟩))]) ∧ E 10 = d3 ∧ E 11 = (.int .i64 f8) ∧ kC 113 lA 12 d3 B b2 ∧ lX (fun (x : kk) => (.agg (kD x).toArray)) (fun (x : Bool) => (Value.bool x)) (.map (some D)) d1 b3 ∧ qI k5 q r3 m B f8 d1 = some r) kT ⟨(.slice none 0 0), ([]), [], (-1), ([]), o3, n9, _, (kH.refl _), (d.kh (Kb (Sb (Pr (Pr (Pr Pz))) St))), rfl, rfl, rfl, rfl, rfl, rfl, rfl, (kC.nil _ _ _), h9, hm⟩ ?_))))
 let g6 := (#[(.map (some D))] : Array Value)
 let g5 : Value := (.pointer (some ⟨A, 0, none⟩))
 let e1 := ((kD q).toArray : Array Value)
 let a9 : Value := (.pointer (some ⟨t, 0, none⟩))
 let b8 : Value := (.func (.func 223) #[] #[a9])
 rintro m E W ⟨d3, B, b2, f8, d1, b3, Y, g9, h5, d, l0, h4, l1, l2, l3, e5, l4, d9, j7, y⟩
 cases m with
 | zero => rw [qI] at y; cases y
 | succ n7 =>
  refine kA (sg (Wh l4 (Wh e5 (V (mY bL rfl d9) (Wi rfl (ln (CI y rfl (fun i2 y => ?_) (fun i2 y => ?_))))))))
  ·refine kn (bg (Wh e5 (V (mY bL rfl d9) (Wa (lr (Wh h4 (V (mY aY rfl f2) (Wm ?_))))))))
   refine ln (tS (PQ y (fun a7 E W => ∃ d4 b4 b5 d6 h0, kH Y d6 ∧ ST false lM w W d6 ((t, Obj.cells g6 229 (0, 0)) :: ((A, Obj.cells e1 111 (0, 0)) :: (b4 ++ (b5 ++ (g1 ++ (g0 ++ h0)))))) ∧ E 3 = g5 ∧ E 6 = v9 ∧ E 7 = L ∧ E 8 = a9 ∧ E 9 = b8 ∧ E 10 = d4 ∧ E 11 = (.int .i64 (B.length : Int)) ∧ kC 113 lA 12 d4 a7.1 b4 ∧ lX (fun (x : kk) => (.agg (kD x).toArray)) (fun (x : Bool) => (Value.bool x)) (.map (some D)) a7.2 b5) (fun a7 i9 d7 => ?_) ?_))
   ·let g8 : Value := (.int .i64 (B.length : Int))
    refine lu (fun i E W => ∃ U a5 K H M a8 e3, (E 30 = .int .i64 (i : Nat) ∧ E 29 = .int .i64 (r3.length : Nat)) ∧ kH Y a8 ∧ ST false lM w W a8 ((t, Obj.cells g6 229 (0, 0)) :: ((A, Obj.cells e1 111 (0, 0)) :: (K ++ (M ++ (g1 ++ (g0 ++ e3)))))) ∧ E 3 = g5 ∧ E 6 = v9 ∧ E 7 = L ∧ E 8 = a9 ∧ E 9 = b8 ∧ E 10 = U ∧ E 11 = g8 ∧ E 28 = v9 ∧ kC 113 lA 12 U a5 K ∧ lX (fun (x : kk) => (.agg (kD x).toArray)) (fun (x : Bool) => (Value.bool x)) (.map (some D)) H M ∧ qG k5 q (r3.drop i) a5 H = some a7) r3.length f2.len ⟨d3, B, b2, d1, b3, Y, _, ⟨rfl, rfl⟩, (kH.refl _), (d.kh St), l0, h4, l1, l2, l3, e5, rfl, rfl, d9, j7, i9⟩ dc dc dc (fun _ _ _ h => by obtain ⟨_, _, _, _, _, _, _, F, _⟩ := h; exact F) ?_ ?_
    ·rintro f3 E W i6 ⟨U, a5, K, H, M, a8, e3, ⟨s, O⟩, b0, d, e6, e7, b9, e8, c0, e9, f0, f1, e0, a3, j⟩
     obtain ⟨g, o6, k2, g3, k3⟩ := lc i6
     rw [k2] at j
     refine bg (VQ (mS (i := (f3 : Int)) (x0 := g) aY aT f1 s f2 (aH _) g3) (fun p9 j4 => V (kl rfl (qc d.has (fun p n => (Mt (Mt (Ma (Ma (Ma (Ml n))))))) f2 lV j4 g3 cE aT)) (VE (ll d dn (fun o9 h3 d => VO (kJ (.agg (km g).toArray) ((km g).toArray) d rfl rfl aT (ph g) nb rfl (fun p0 d => lr (VA d Mh (km g) cE aT (Wh c0 (Wh b9 (bS j fun f5 j6 j => ?_)))))))))))
     refine VE (rW d call224 (IJ g b8 (fun (x : (kd × ByteArray)) => ud x.1 x.2 H) L k5 _ _ ⟨223, #[], #[a9], rfl, call223, fun W x r hs hm => (Gk x.1 x.2 t (.map (some D)) H r W (a3.at (fun b o n => hs _ _ ((fun b o n => d.at_ (Mt (Mt (Mt (Ma (Ml n)))))) b o n))) (At.of (hs _ _ (d.at_ (Mt Mh))) _ rfl) hm).lZ⟩ (o0.sl (fun _ => rfl) (fun b o n => d.at_ (Mt (Mt (Mt (Ma (Ma (Ml n)))))))) j6) (fun p1 n8 f9 k6 d h7 aa a2 => V (mY cY rfl a2) (Wm (ln (tS (PQ j (fun d2 E W => ∃ d5 b6 b7 h1, ST false lM w W f9 ((t, Obj.cells g6 229 (0, 0)) :: ((A, Obj.cells e1 111 (0, 0)) :: (b6 ++ (b7 ++ (g1 ++ (g0 ++ h1)))))) ∧ E 3 = g5 ∧ E 6 = v9 ∧ E 7 = L ∧ E 8 = a9 ∧ E 9 = b8 ∧ E 10 = d5 ∧ E 11 = g8 ∧ E 28 = v9 ∧ E 29 = (.int .i64 (r3.length : Int)) ∧ E 30 = (.int .i64 (f3 : Int)) ∧ kC 113 lA 12 d5 d2.1 b6 ∧ lX (fun (x : kk) => (.agg (kD x).toArray)) (fun (x : Bool) => (Value.bool x)) (.map (some D)) d2.2 b7) (fun d2 j3 d8 => ?_) ?_))))))
     ·refine lu (fun i E W => ∃ I a6 G T N e4, (E 39 = .int .i64 (i : Nat) ∧ E 38 = .int .i64 (f5.length : Nat)) ∧ ST false lM w W f9 ((h3, Ol (km g) 52) :: ((t, Obj.cells g6 229 (0, 0)) :: ((A, Obj.cells e1 111 (0, 0)) :: (G ++ (N ++ (k6 ++ (g1 ++ (g0 ++ e4)))))))) ∧ E 3 = g5 ∧ E 6 = v9 ∧ E 7 = L ∧ E 8 = a9 ∧ E 9 = b8 ∧ E 10 = I ∧ E 11 = g8 ∧ E 13 = (.pointer (some ⟨h3, 0, none⟩)) ∧ E 28 = v9 ∧ E 29 = (.int .i64 (r3.length : Int)) ∧ E 30 = (.int .i64 (f3 : Int)) ∧ E 37 = n8 ∧ kC 113 lA 12 I a6 G ∧ lX (fun (x : kk) => (.agg (kD x).toArray)) (fun (x : Bool) => (Value.bool x)) (.map (some D)) T N ∧ pG g q (f5.drop i) a6 T = some d2) f5.length a2.len ⟨U, a5, K, H, M, _, ⟨rfl, rfl⟩, (d.kh (Sb (Pr Pz) (Sb (Pr Pz) (Sb (Pr Pz) (Sr (Qr Qz) (Sr (Qr Qz) St)))))), e6, e7, b9, e8, c0, e9, f0, rfl, f1, O, s, rfl, e0, a3, j3⟩ dc dc dc (fun _ _ _ h => by obtain ⟨_, _, _, _, _, _, F, _⟩ := h; exact F) ?_ ?_
      ·rintro n2 E W i7 ⟨I, a6, G, T, N, e4, ⟨s, O⟩, d, Z, c1, c2, Q, c3, c4, c5, c6, c7, c8, c9, d0, a4, J, a⟩
       obtain ⟨c, o7, k4, g4, g7⟩ := lc i7
       rw [k4] at a
       refine bg (VQ (mS (i := (n2 : Int)) (x0 := c) cY cK d0 s a2 (aH _) g4) (fun q0 j5 => V (kl rfl (qc d.has (fun p n => (Mt (Mt (Mt (Ma (Ma (Ml n))))))) a2 oE j5 g4 dX cK)) (VE (ll d eb (fun p2 p7 d => VO (kJ (.agg (kD c).toArray) ((kD c).toArray) d rfl rfl cK (zD c) nb rfl (fun p3 d => lS (V (kl Q (kK d.has (Mt (Mt Mh)) rfl isAgg229)) (VA d Mh (kD c) dX cK (V (vG (k := c) (z := false) (vf := (fun (x : Bool) => (Value.bool x))) GJ iC gw rfl rfl (J.at (fun b o n => d.has.2 b o (Mt (Mt (Mt (Mt (Ma (Ml n))))))))) ?_))))))))))
       refine ln (CI a rfl (fun i3 a => ?_) (fun i3 a => ?_))
       ·refine nf (mO (pZ (ku ?_)))
        replace d := d.kh (Db St)
        exact ⟨s, I, a6, G, T, N, _, ⟨rfl, O⟩, (d.kh St), Z, c1, c2, Q, c3, c4, c5, c6, c7, c8, c9, d0, a4, J, (by rw [g7]; exact a)⟩
       refine kg (V (kl Q (kK d.has (Mt (Mt Mh)) rfl isAgg229)) (VA d Mh (kD c) dX cK ?_))
       replace d := d.perm (Nr (Qb (Qb (Qb (Qb (Qr Qz))))) Nz)
       refine VO (FH (k := c) (v := true) (vf := (fun (x : Bool) => (Value.bool x)))  GJ iC d J rfl rfl rfl (fun p4 k7 d i0 => lr (Wh c4 (V (kl c6 (kx d.has (Ma (Mt Mh)) (km g) rfl cE aT)) (VA d (Ma Mh) (kD c) dX cK (V (mK (v := (.agg (lA (⟨g, c⟩ : kW)).toArray)) (oP rfl rfl) (me fg iA (SA _ iA) kr)) (VE (kV (cs := (lA (⟨g, c⟩ : kW)).toArray) d (nh rfl) (nc bL dA fg) (fun p5 k9 d => ?_)))))))))
       replace d := d.perm (Nr (Qb (Qr (Qb (Qb (Qb (Qb Qz)))))) Nz)
       refine bS a fun f4 i4 a => VE (ny (enc := lA) (v := I) (vs := (.slice (some ⟨k9, 0, none⟩) 1 1)) (R := G) d px dc wG bL oT.1 oT.2.1 rfl oT.2.2.1 oT.2.2.2 rfl rfl a4 (Sl.lit (enc := lA) (l := [(⟨g, c⟩ : kW)]) px rfl nb rfl (d.at_ (Ma Mh))) i4 (fun p6 f6 h2 d g2 => Wa (ln ?_)))
       replace d := d.kh (Kr (Db St))
       refine sg (VA d (Ma (Ma Mh)) (kD c) dX cK (V (kl Z (kx d.has (Ma (Ma (Mt (Mt (Mt Mh))))) (kD q) rfl dX cK)) (V (wQ rfl rfl (ow eqGuardType111) (sU (DB _ c q))) (ln ?_))))
       replace d := d.kh (Kr (Kr (Db St)))
       refine CI a rfl (fun i5 a => ?_) (fun i5 a => ?_)
       ·refine sg (Wm (Wa (Wa (ln ?_))))
        replace d := d.kh (Kr (Dr (Db (Db (Db (Dr (Dr (Dr St))))))))
        refine kM (mB (kU (mB (kU (mB (kU (mB (kU (mB (kU (mB (kU ?_))))))))))))
        obtain rfl := sj a
        replace d8 : some (Sum.inl (f4, true)) = some a7 := d8
        obtain rfl := sj d8
        replace d7 : some (f4, true) = some r := d7
        obtain rfl := sj d7
        exact rR (v := f6) (u := (.bool true)) rfl rfl rfl ⟨_, _, rfl, (d.D4 (Kr Sn)), f6, h2, rfl, rfl, g2⟩
       exact lE (kY (ku ⟨s, f6, f4, h2, (nR nJ T c true), k7, _, ⟨rfl, O⟩, (d.kh (Sb (Pr (Pr Pz)) (Sb (Pr (Pr Pz)) (Sb (Pr (Pr Pz)) St)))), Z, c1, c2, Q, c3, rfl, c5, c6, c7, c8, c9, d0, g2, i0, (by rw [g7]; exact a)⟩))
      rintro E W ⟨I, a6, G, T, N, e4, ⟨s, O⟩, d, Z, c1, c2, Q, c3, c4, c5, c6, c7, c8, c9, d0, a4, J, a⟩
      rw [aI] at a
      refine ku ?_
      obtain rfl := sj a
      exact ⟨_, rfl, I, G, N, _, (d.kh (Db (Kb (Kb (Kr (Kr (Dr St))))))), Z, c1, c2, Q, c3, c4, c5, c7, c8, c9, a4, J⟩
     rintro ⟨n5, n6⟩ E W ⟨d5, b6, b7, h1, d, m2, m3, m4, m5, m6, m7, m8, m9, n0, n1, k0, k1⟩ j0
     exact kY (ku ⟨n1, d5, n5, b6, n6, b7, f9, _, ⟨rfl, n0⟩, (b0.trans h7), (d.kh St), m2, m3, m4, m5, m6, m7, m8, m9, k0, k1, (by rw [k3]; exact j0)⟩)
    rintro E W ⟨U, a5, K, H, M, a8, e3, ⟨s, O⟩, b0, d, e6, e7, b9, e8, c0, e9, f0, f1, e0, a3, j⟩
    rw [aI] at j
    refine ku ?_
    obtain rfl := sj j
    exact ⟨_, rfl, U, K, M, a8, _, b0, (d.kh St), e6, e7, b9, e8, c0, e9, f0, e0, a3⟩
   rintro ⟨n3, n4⟩ E W ⟨d4, b4, b5, d6, h0, h6, d, l5, l6, l7, l8, l9, m0, m1, j8, j9⟩ i8
   exact kY (ku ⟨n7, bD _, d4, n3, b4, (B.length : Int), n4, b5, d6, _, (h5.trans h6), (d.kh St), l5, l6, l7, l8, l9, m0, m1, j8, j9, i8⟩)
  refine nf (mO (mO (pZ (ku ?_))))
  replace d := d.kh (Db (Db (Dr (Dr (Dr (Dr St))))))
  refine sg (Wa (Wa (lt ?_)))
  obtain rfl := sj y
  refine rR (v := (.slice none 0 0)) (u := (.bool false)) rfl rfl rfl ?_
  replace d := d.HU
  exact ⟨_, _, rfl, (d.D4 (Kr Sn)), (.slice none 0 0), [], rfl, rfl, (kC.nil _ _ _)⟩
theorem D0 (z : Value) (D : List kW) (r : List kk) (w : World) (y : Sl (Pl lA) 12 (hp w) z D) (hm : wm D = some r) :
  ma true pg0 273 [z] w 111 kD 3 r := by
 refine uk 19 func273 rfl (fun b => sg (Wa (lr (Wa (lS (Wm ?_))))))
 refine V (lT bL rfl y) (Wm (ln (lu (fun i E W => ∃ j B g t, (E 8 = .int .i64 (i : Nat) ∧ E 7 = .int .i64 (D.length : Nat)) ∧ ST true lM w W (hp w) (g ++ t) ∧ E 3 = j ∧ E 6 = z ∧ kC 111 kD 3 j B g ∧ sh (D.drop i) B = some r) D.length y.len ⟨(.slice none 0 0), ([]), [], _, ⟨rfl, rfl⟩, (b.kh St), rfl, rfl, (kC.nil _ _ _), hm⟩ dc dc dc (fun _ _ _ h => by obtain ⟨_, _, _, _, m, _⟩ := h; exact m) ?_ ?_)))
 ·rintro Z E W M ⟨j, B, g, t, ⟨d, n⟩, b, u, x, k, a⟩
  obtain ⟨c, A, Q, N, T⟩ := lc M
  rw [Q] at a
  refine bg (VQ (ni (enc := lA) (i := (Z : Int)) (x0 := c) bL dA x d y (aH _) N) (fun s I => V (kl rfl (kO b.has I jI dA)) (VE (ll b fg (fun q a5 b => VO (kJ (.agg (lA c).toArray) ((lA c).toArray) b rfl rfl dA (wG c) nb rfl (fun a2 b => ln (kB (Wh u (Wf wE (VA b Mh (kD c.kk) dX cK (VE (kV (cs := (kD c.kk).toArray) b (nh rfl) (nc cY cK eb) (fun a3 K b => ?_))))))))))))))
  replace b := b.perm (Nr (Qb (Qb Qz)) Nz)
  refine bS a fun U H a => VE (ny (enc := kD) (v := j) (vs := (.slice (some ⟨K, 0, none⟩) 1 1)) (R := g) b oE dc zD cY rH.1 rH.2.1 rfl rH.2.2.1 rH.2.2.2 rfl rfl k (Sl.lit (enc := kD) (l := [c.kk]) oE rfl nb rfl (b.at_ (Ma Mh))) H (fun a4 Y J b G => Wa (kQ (kY (ku ?_)))))
  replace b := b.kh (Kr (Db (Db St)))
  exact ⟨d, Y, U, J, _, ⟨rfl, n⟩, (b.kh St), rfl, x, G, (by rw [T]; exact a)⟩
 rintro E W ⟨j, B, g, t, ⟨d, n⟩, b, u, x, k, a⟩
 rw [aI] at a
 refine ku (sg (Wh u (Wa (lt ?_))))
 obtain rfl := sj a
 exact lB (v := j) rfl rfl ⟨_, g, rfl, b.nn (fun p o => (Ml o)) k.nd, k⟩
theorem Ei (j : Value) (t : List kk) (c : kk) (r : Int) (w : World) (g : Sl (Pl kD) 3 (hp w) j t) (hm : wL t c = some r) :
  kN true pg0 314 [j, (.agg (kD c).toArray)] w (.int .i64 r) := by
 refine cG 19 func314 rfl (fun b => sg (VE (kX b rfl (fun Q J b => Wa (lS (Wm (V (lT cY rfl g) (Wm (ln ?_)))))))))
 refine lu (fun i E W => ∃ k, (E 8 = .int .i64 (i : Nat) ∧ E 7 = .int .i64 (t.length : Nat)) ∧ ST true lM w W (hp w) ((J, Ol (kD c) 111) :: k) ∧ E 0 = j ∧ E 3 = (.pointer (some ⟨J, 0, none⟩)) ∧ qD c (t.drop i) i = some r) t.length g.len ⟨_, ⟨rfl, rfl⟩, (b.kh St), rfl, rfl, hm⟩ dc dc dc (fun _ _ _ h => by obtain ⟨_, m, _⟩ := h; exact m) ?_ ?_
 ·rintro K E W B ⟨k, ⟨l, o⟩, b, u, x, a⟩
  obtain ⟨y, M, H, G, I⟩ := lc B
  rw [H] at a
  refine bg (Wh l (Wa (ln (kA ?_))))
  replace b := b.drew
  have d := b.has.kh (Kb Sn)
  refine lm d kP (XH 0 rfl d (fun _ n => kl x (kx n Mh (kD c) rfl dX cK)) (X 1 rfl d (ko u) (X 2 rfl d (ko rfl) (XQ 3 rfl d (ni (enc := kD) (i := (K : Int)) (x0 := y) cY cK rfl rfl g (aH _) G) (fun N D => XH 4 rfl d (fun _ n => kl rfl (kO n D dX cK)) (X 5 rfl d (wQ rfl rfl (ow eqGuardType111) (sU (DB _ c y))) (lF kr (ku (CI a rfl (fun z a => ?_) (fun z a => ?_))))))))))
  ·refine sg (Wm (Wa (ln ?_)))
   replace b := b.kh (Db St)
   refine kM (mB (kU (mB (kU ?_))))
   obtain rfl := sj a
   exact rP b
  exact lE (kY (ku ⟨l, _, ⟨rfl, o⟩, (b.kh St), u, x, (by rw [I]; exact a)⟩))
 rintro E W ⟨k, ⟨l, o⟩, b, u, x, a⟩
 rw [aI] at a
 refine ku ?_
 replace b := b.kh (Db St)
 exact sg (Wa (lt (rQ a b)))
theorem CC (a : Value) (g : List kk) (c : kk) (r : Bool) (w : World) (i : Sl (Pl kD) 3 (hp w) a g) (hm : sw g c = some r) :
  kN true pg0 274 [a, (.agg (kD c).toArray)] w (.bool r) := by
 refine cG 9 func274 rfl (fun b => sg (VE (kX b rfl (fun k u b => Wa (lr (Wm (VA b Mh (kD c) dX cK (bS hm fun x j hm => VE (Eg b call314 (Ei a g c _ _ (i.mono (Pl.mono _) b.kw) j) (fun t b => Wi rfl (Wa ?_)))))))))))
 refine ln ?_
 exact kM (rQ hm b)
theorem BK (j : Value) (t : List kk) (c : kk) (r : Int) (w : World) (g : Sl (Pl kD) 3 (hp w) j t) (hm : uF t c = some r) :
  kN true pg0 354 [j, (.agg (kD c).toArray)] w (.int .i64 r) := by
 refine cG 19 func354 rfl (fun b => sg (VE (kX b rfl (fun Q J b => Wa (lS (Wm (V (lT jE rfl g) (Wm (ln ?_)))))))))
 refine lu (fun i E W => ∃ k, (E 8 = .int .i64 (i : Nat) ∧ E 7 = .int .i64 (t.length : Nat)) ∧ ST true lM w W (hp w) ((J, Ol (kD c) 111) :: k) ∧ E 0 = j ∧ E 3 = (.pointer (some ⟨J, 0, none⟩)) ∧ pc c (t.drop i) i = some r) t.length g.len ⟨_, ⟨rfl, rfl⟩, (b.kh St), rfl, rfl, hm⟩ dc dc dc (fun _ _ _ h => by obtain ⟨_, m, _⟩ := h; exact m) ?_ ?_
 ·rintro K E W B ⟨k, ⟨l, o⟩, b, u, x, a⟩
  obtain ⟨y, M, H, G, I⟩ := lc B
  rw [H] at a
  refine bg (Wh l (Wa (ln (kA ?_))))
  replace b := b.drew
  have d := b.has.kh (Kb Sn)
  refine lm d kP (XH 0 rfl d (fun _ n => kl x (kx n Mh (kD c) rfl dX cK)) (X 1 rfl d (ko u) (X 2 rfl d (ko rfl) (XQ 3 rfl d (ni (enc := kD) (i := (K : Int)) (x0 := y) jE cK rfl rfl g (aH _) G) (fun N D => XH 4 rfl d (fun _ n => kl rfl (kO n D dX cK)) (X 5 rfl d (wQ rfl rfl (ow eqGuardType111) (sU (DB _ c y))) (lF kr (ku (CI a rfl (fun z a => ?_) (fun z a => ?_))))))))))
  ·refine sg (Wm (Wa (ln ?_)))
   replace b := b.kh (Db St)
   refine kM (mB (kU (mB (kU ?_))))
   obtain rfl := sj a
   exact rP b
  exact lE (kY (ku ⟨l, _, ⟨rfl, o⟩, (b.kh St), u, x, (by rw [I]; exact a)⟩))
 rintro E W ⟨k, ⟨l, o⟩, b, u, x, a⟩
 rw [aI] at a
 refine ku ?_
 replace b := b.kh (Db St)
 exact sg (Wa (lt (rQ a b)))
theorem Ao (a : Value) (g : List kk) (c : kk) (r : Bool) (w : World) (i : Sl (Pl kD) 3 (hp w) a g) (hm : qF g c = some r) :
  kN true pg0 334 [a, (.agg (kD c).toArray)] w (.bool r) := by
 refine cG 9 func334 rfl (fun b => sg (VE (kX b rfl (fun k u b => Wa (lr (Wm (VA b Mh (kD c) dX cK (bS hm fun x j hm => VE (Eg b call354 (BK a g c _ _ (i.mono (Pl.mono _) b.kw) j) (fun t b => Wi rfl (Wa ?_)))))))))))
 refine ln ?_
 exact kM (rQ hm b)
theorem xz (c : Value) (i : List kk) (a : kd) (g : ByteArray) (r : Bool) (w : World) (j : Sl (Pl kD) 3 (hp w) c i) (hm : sd i a g = some r) :
  kN true pg0 315 [c, (.agg (ki a).toArray), (.string g)] w (.bool r) := by
 refine cG 12 func315 rfl (fun b => sg (VE (kX b rfl (fun t x b => Wa (lr (Wm (VA b Mh (ki a) bo aG (Wm (V (mK (v := (.agg (kD (⟨a, g⟩ : kk)).toArray)) (oP rfl rfl) (me eb cU (Ft _ cU) kr)) (bS hm fun y k hm => VE (Eg b call334 (Ao c i (⟨a, g⟩ : kk) _ _ (j.mono (Pl.mono _) b.kw) k) (fun u b => ?_))))))))))))
 refine Wa (ln ?_)
 exact kM (rQ hm b)
theorem Af (g : Value) (t : List kk) (j : Value) (B : kk → Option Bool) (r : Int) (w : World) (c : Sl (Pl kD) 3 (hp w) g t) (D : te pg0 j (hp w) (fun (x : kk) => [(.agg (kD x).toArray)]) (fun (r : Bool) => (.bool r)) B) (hm : sJ t B = some r) :
  kN false pg0 355 [g, j] w (.int .i64 r) := by
 refine cG 19 func355 rfl (fun b => sg (Wa (lS (Wm (V (lT jE rfl c) (Wm (ln (lu (fun i E W => ∃ k, (E 8 = .int .i64 (i : Nat) ∧ E 7 = .int .i64 (t.length : Nat)) ∧ ST false lM w W (hp w) k ∧ E 0 = g ∧ E 1 = j ∧ nZ B (t.drop i) i = some r) t.length c.len ⟨_, ⟨rfl, rfl⟩, (b.kh St), rfl, rfl, hm⟩ dc dc dc (fun _ _ _ h => by obtain ⟨_, l, _⟩ := h; exact l) ?_ ?_))))))))
 ·rintro Q E W H ⟨k, ⟨d, m⟩, b, u, y, a⟩
  obtain ⟨z, T, M, K, N⟩ := lc H
  rw [M] at a
  refine bg (Wh d (Wa (lr (Wh y (Wh u (Wm (VQ (ni (enc := kD) (i := (Q : Int)) (x0 := z) jE cK rfl rfl c (aH _) K) (fun Y I => V (kl rfl (kO b.has I dX cK)) (bS a fun Z J a => ?_)))))))))
  refine VE (zQ z b D (kH.refl _) rfl (sW rfl) J (fun U b => ln (CI a rfl (fun G a => ?_) (fun G a => ?_))))
  ·refine sg (Wm (Wa (lt (mB (kU (mB (kU ?_)))))))
   obtain rfl := sj a
   exact rP b
  exact lE (kY (ku ⟨d, _, ⟨rfl, m⟩, (b.kh St), u, y, (by rw [N]; exact a)⟩))
 rintro E W ⟨k, ⟨d, m⟩, b, u, y, a⟩
 rw [aI] at a
 exact ku (sg (Wa (lt (rQ a b))))
theorem zb (a : Value) (g : List kk) (c : Value) (i : kk → Option Bool) (r : Bool) (w : World) (j : Sl (Pl kD) 3 (hp w) a g) (k : te pg0 c (hp w) (fun (x : kk) => [(.agg (kD x).toArray)]) (fun (r : Bool) => (.bool r)) i) (hm : po g i = some r) :
  kN false pg0 335 [a, c] w (.bool r) := by
 refine cG 9 func335 rfl (fun b => sg (Wa (lr (Wm (Wm (bS hm fun y t hm => VE (Eg b call355 (Af a g c i _ _ (j.mono (Pl.mono _) b.kw) (k.mono b.kw) t) (fun u b => Wi rfl (Wa (kQ ?_))))))))))
 exact ku (kM (rQ hm b))
theorem CG (i : kk) (t : Nat) (K : kd) (u : Nat) (g : Value) (M : List kk) (x : Nat) (k : ByteArray) (z : Nat) (B : ByteArray) (r : Bool) (w : World) (D : At (hp w) (.pointer (some ⟨t, 0, none⟩)) (ki K)) (N : Sl (Pl kD) 3 (hp w) g M) (G : At (hp w) (.pointer (some ⟨u, 0, none⟩)) [g]) (H : At (hp w) (.pointer (some ⟨x, 0, none⟩)) [(.string k)]) (I : At (hp w) (.pointer (some ⟨z, 0, none⟩)) [(.string B)]) (hm : sX i K M k B = some r) :
  kN true pg0 336 [(.agg (kD i).toArray), (.pointer (some ⟨t, 0, none⟩)), (.pointer (some ⟨u, 0, none⟩)), (.pointer (some ⟨x, 0, none⟩)), (.pointer (some ⟨z, 0, none⟩))] w (.bool r) := by
 refine cG 20 func336 rfl (fun b => sg (VE (kX b rfl (fun W2 h b => Wa (lr (Wf Di (VA b Mh (ki i.kd) bo aG (V (kl rfl (kO b.has D bo aG)) (V (wQ rfl rfl (ow fi) (sU (rY _ i.kd K))) (Wm (LJ hm (fun J E W => ∃ T, ST true lM w W (hp w) T ∧ E 6 = (.bool false) ∧ E 19 = (.bool J)) 8 ?_ (fun J c j => ?_))))))))))))
 ·rintro x7 E W ⟨T, b, d, U⟩ Y
  exact Wg U (lt (rQ Y b))
 refine bC c (fun a c => ?_) (fun a c => ?_)
 ·refine ug a (kl rfl (ns b.has (y := g) G isAgg341)) (ug a (ky uK rfl) (ug a (kl rfl (kK b.has Mh rfl bT)) (ug a (kl rfl (ns b.has (y := (.string k)) H bT)) (ug a (mK (v := (.agg (ki (⟨i.kR, k⟩ : kd)).toArray)) (oP rfl rfl) (me dv cW (HO _ cW) kr)) (ug a (kl rfl (ns b.has (y := (.string B)) I bT)) (bS c fun a2 Q c => vn a (Eg b call315 (xz g M (⟨i.kR, k⟩ : kd) B _ _ (N.mono (Pl.mono _) b.kw) Q) (fun Z b => V (lg (cB a) rfl) ?_))))))))
  obtain rfl := sj c
  exact j _ _ ⟨_, (b.kh (Db St)), rfl, rfl⟩
 refine un a (un a (un a (un a (un a (un a (un a (V (li (cB a) rfl) ?_)))))))
 obtain rfl := sj c
 exact j _ _ ⟨_, (b.kh (Db St)), rfl, rfl⟩
theorem Ev (k : Value) (a : List kk) (g : kd) (i j : ByteArray) (r : Bool) (w : World) (c : Sl (Pl kD) 3 (hp w) k a) (hm : xi a g i j = some r) :
  kN false pg0 316 [k, (.agg (ki g).toArray), (.string i), (.string j)] w (.bool r) := by
 refine cG 12 func316 rfl (fun b => sg ?_)
 obtain ⟨t, D, rfl⟩ := c.form
 refine VE (kX b rfl (fun K u b => VE (kX b rfl (fun M y b => VE (kX b rfl (fun N z b => VE (kX b rfl (fun H B b => Wa (lr (VB b (Mt (Mt (Mt Mh))) rfl rfl isAgg341 (V (qv (by exact SU rfl rfl rfl rfl) rfl) (bS hm fun J G hm => VE (Eg b call335 (zb (.slice t a.length D) a (.func (.func 336) #[] #[(.pointer (some ⟨y, 0, none⟩)), (.pointer (some ⟨u, 0, none⟩)), (.pointer (some ⟨z, 0, none⟩)), (.pointer (some ⟨B, 0, none⟩))]) (fun (x : kk) => sX x g a i j) _ _ (c.mono (Pl.mono _) b.kw) ⟨336, #[], #[(.pointer (some ⟨y, 0, none⟩)), (.pointer (some ⟨u, 0, none⟩)), (.pointer (some ⟨z, 0, none⟩)), (.pointer (some ⟨B, 0, none⟩))], rfl, call336, fun W x r d hm => (CG x y g u (.slice t a.length D) a z i B j r W (At.of (d _ _ (b.at_ (Mt (Mt Mh)))) _ rfl) (c.mono (Pl.mono _) (b.kw.trans d)) (At.of (d _ _ (b.at_ (Mt (Mt (Mt Mh))))) _ rfl) (At.of (d _ _ (b.at_ (Mt Mh))) _ rfl) (At.of (d _ _ (b.at_ Mh)) _ rfl) hm).lZ⟩ G) (fun I b => Wa (kQ ?_)))))))))))))))
 refine ku ?_
 exact kM (rQ hm b)
theorem Ci (i : kW) (k : Value) (G : List kk) (r : Bool) (w : World) (x : Sl (Pl kD) 3 (hp w) k G) (hm : uV i G = some r) :
  kN false pg0 276 [(.agg (lA i).toArray), k] w (.bool r) := by
 refine cG 67 func276 rfl (fun b => sg (VE (kX b rfl (fun W2 h b => Wa (ln (kA ?_))))))
 replace b := b.drew
 have d := b.has.kh (Kb Sn)
 refine lm d kP (X 0 rfl d (ko rfl) (X 1 rfl d (ky KV rfl) (XH 2 rfl d (fun _ o => kl rfl (kx o Mh (km i.ke) rfl cE aT)) (XE 3 rfl (ll b dn (fun a9 l b => ?_))))))
 have d := b.has.kh (Db (Kb Sn))
 refine ⟨d, (X 4 rfl d (ol rfl) (XO 5 rfl (kJ (.agg (km i.ke).toArray) ((km i.ke).toArray) b rfl rfl aT (ph i.ke) nb rfl (fun p b => ?_))))⟩
 have d := b.has.kh (Db (Kb Sn))
 refine ⟨d, (lF kr (ku (kA (sg (VA b Mh (km i.ke) cE aT (bS hm fun L Y hm => VE (Eg b call113 (kN.lZ (vB i.ke _ _  Y)) (fun q b => V (nT rfl) (Wm (LJ hm (fun K E W => ∃ H, ST false lM w W (hp w) ((l, Ol (km i.ke) 52) :: ((h, Ol (lA i) 113) :: H)) ∧ E 2 = (.pointer (some ⟨h, 0, none⟩)) ∧ E 5 = k ∧ E 6 = (.pointer (some ⟨l, 0, none⟩)) ∧ E 20 = (.bool K)) 7 ?_ (fun K u D => ?_)))))))))))⟩
 ·rintro R E W ⟨H, b, y, z, t, m⟩ a
  refine ln (CI a m (fun M a => ?_) (fun M a => ?_))
  ·refine sg (Wa (ln ?_))
   replace b := b.kh (Db (Db St))
   refine kM (kU ?_)
   obtain rfl := sj a
   exact rP b
  refine kS (V (ky wh t) (VB b Mh rfl rfl dz (ln (bg (Wi rfl (Wa (kQ ?_)))))))
  refine ku (CI a rfl (fun N a => ?_) (fun N a => ?_))
  ·refine sg (V (ky xZ t) (VB b Mh rfl rfl bT (V (ky wE y) (Wf uK (VB b (Mt Mh) rfl rfl bT (V (Hs rfl rfl rfl) (Wa (ln ?_))))))))
   replace b := b.kh (Db (Db St))
   refine kM (mB (kU ?_))
   obtain rfl := sj a
   exact rP b
  refine sg (Wi rfl (Wa (ln (CI a rfl (fun Q a => ?_) (fun Q a => ?_)))))
  ·refine sg (Wh z (V (ky ou t) (VA b Mh (ki i.ke.B) bo aG (V (ky wE y) (Wf uK (VB b (Mt Mh) rfl rfl bT (bS a fun O Z a => VE (Eg b call315 (kN.lZ (xz k G i.ke.B i.kk.kR _ _ (x.mono (Pl.mono _) b.kw) Z)) (fun s b => Wa (ln ?_))))))))))
   replace b := b.kh (Db (Db St))
   refine kM (mB (kU ?_))
   obtain rfl := sj a
   exact rP b
  refine sg (Wi rfl (Wa (ln (CI a rfl (fun T a => ?_) (fun T a => ?_)))))
  ·refine sg (Wh z (V (ky ou t) (VA b Mh (ki i.ke.B) bo aG (V (ky ya t) (VB b Mh rfl rfl bT (V (ky wE y) (Wf uK (VB b (Mt Mh) rfl rfl bT (bS a fun c1 a2 a => VE (Eg b call316 (Ev k G i.ke.B i.ke.lj i.kk.kR _ _ (x.mono (Pl.mono _) b.kw) a2) (fun v b => Wa (ln ?_))))))))))))
   replace b := b.kh (Db (Db St))
   refine kM (mB (kU ?_))
   obtain rfl := sj a
   exact rP b
  refine lE (kY (ku (sg (Wh z (V (ky ou t) (VA b Mh (ki i.ke.B) bo aG (V (ky wE y) (Wf uK (VB b (Mt Mh) rfl rfl bT (bS a fun c2 a3 a => VE (Eg b call315 (kN.lZ (xz k G i.ke.B i.kk.kR _ _ (x.mono (Pl.mono _) b.kw) a3)) (fun A b => Wm (LJ a (fun J E W => ∃ I, ST false lM w W (hp w) I ∧ E 66 = (.bool J)) 8 ?_ (fun J j B => ?_))))))))))))))
  ·rintro c5 E W ⟨I, b, n⟩ U
   exact Wg n (lt (rQ U b))
  refine bC j (fun c j => ?_) (fun c j => ?_)
  ·refine ug c (ko z) (ug c (ky we t) (ug c (kl rfl (kx b.has Mh (ki i.ke.C) rfl bo aG)) (ug c (ky wE y) (ug c (ky uK rfl) (ug c (kl rfl (kK b.has (Mt Mh) rfl bT)) (bS j fun P a4 j => vn c (Eg b call315 (kN.lZ (xz k G i.ke.C i.kk.kR _ _ (x.mono (Pl.mono _) b.kw) a4)) (fun F b => V (lg (cB c) rfl) ?_))))))))
   obtain rfl := sj j
   exact B _ _ ⟨_, (b.kh (Db (Db St))), rfl⟩
  refine un c (un c (un c (un c (un c (un c (un c (V (li (cB c) rfl) ?_)))))))
  obtain rfl := sj j
  exact B _ _ ⟨_, (b.kh (Db (Db St))), rfl⟩
 refine bC u (fun g u => ?_) (fun g u => ?_)
 ·refine un g (un g (un g (un g (un g (un g (V (lg (cB g) rfl) ?_))))))
  obtain rfl := sj u
  exact D _ _ ⟨_, (b.kh St), rfl, rfl, rfl, rfl⟩
 refine ug g (ky wE rfl) (ug g (ky Di rfl) (ug g (kl rfl (kx b.has (Mt Mh) (ki i.kk.kd) rfl bo aG)) (ug g (ky rr rfl) (ug g (kl rfl (kx b.has Mh (ki i.ke.Head) rfl bo aG)) (ug g (Jb rfl rfl (ow fi) (Fb (rY _ i.kk.kd i.ke.Head))) (V (li (cB g) rfl) ?_))))))
 obtain rfl := sj u
 exact D _ _ ⟨_, (b.kh St), rfl, rfl, rfl, rfl⟩
theorem CM (j : Value) (y : List kW) (r : Bool) (w : World) (g : Sl (Pl lA) 12 (hp w) j y) (hm : vu y = some r) :
  kN false pg0 275 [j] w (.bool r) := by
 refine cG 22 func275 rfl (fun d => sg (Wa (lr (Wm (bS hm fun Y U hm => VE (rW d call273 (ma.lZ (D0 j y _ _ (g.mono (Pl.mono _) d.kw) U)) (fun W3 v7 p R8 d N v T => Wa (ln (kA ?_)))))))))
 refine sg (Wm (V (lT bL rfl g) (Wm (ln (lu (fun i E W => ∃ k, (E 10 = .int .i64 (i : Nat) ∧ E 9 = .int .i64 (y.length : Nat)) ∧ ST false lM w W p (R8 ++ k) ∧ E 3 = v7 ∧ E 8 = j ∧ rI Y (y.drop i) i = some r) y.length g.len ⟨_, ⟨rfl, rfl⟩, (d.kh St), rfl, rfl, hm⟩ dc dc dc (fun _ _ _ h => by obtain ⟨_, n, _⟩ := h; exact n) ?_ ?_)))))
 ·rintro z E W D ⟨k, ⟨m, q⟩, d, t, u, a⟩
  obtain ⟨c, Z, K, J, M⟩ := lc D
  rw [K] at a
  refine bg (Wh m (VQ (ni (enc := lA) (i := (z : Int)) (x0 := c) bL dA u m (g.mono (Pl.mono _) N) (aH _) J) (fun F G => V (kl rfl (kO d.has G jI dA)) (VE (ll d fg (fun a2 a5 d => Wa (VO (kJ (.agg (lA c).toArray) ((lA c).toArray) d rfl rfl dA (wG c) nb rfl (fun a3 d => ln (kA ?_))))))))))
  replace d := d.drew
  have l := d.has.kh (Kb Sn)
  refine lm l kP (XH 0 rfl l (fun _ s => kl rfl (kx s Mh (lA c) rfl jI dA)) (X 1 rfl l (ko t) (X 2 rfl l (ko rfl) (bS a fun _ x a => XQ 3 rfl l (tO (i := (z : Int)) cY cK rfl rfl T oE (qm x) (qf x)) (fun Q I => bS a fun L H a => XE 4 rfl (Eg d call276 (Ci c Q (Y.take (Int.toNat (z : Int))) _ _ (I.sl oE (fun b o A => d.at_ (Mt (Ml A)))) H) (fun a4 d => ?_)))))))
  have l := d.has.kh (Kb Sn)
  refine ⟨l, (X 5 rfl l (nT rfl) (lF kr (ku ?_)))⟩
  replace d := d.kh (Db St)
  refine CI a rfl (fun B a => ?_) (fun B a => ?_)
  ·refine sg (Wa (ln ?_))
   replace d := d.kh (Dr St)
   refine kM (mB (kU (mB (kU ?_))))
   obtain rfl := sj a
   exact rP d
  exact lE (kY (ku ⟨m, _, ⟨rfl, q⟩, (d.kh St), t, u, (by rw [M]; exact a)⟩))
 rintro E W ⟨k, ⟨m, q⟩, d, t, u, a⟩
 rw [aI] at a
 refine ku ?_
 replace d := d.kh (Dr St)
 exact sg (Wa (lt (rQ a d)))
theorem zr (g : Value) (i r : List kW) (w : World) (a : Sl (Pl lA) 12 (hp w) g i) (hm : qn i = some r) :
  ma true pg0 227 [g] w 113 lA 12 r := by
 unfold qn at hm
 refine uk 8 func227 rfl (fun b => sg (Wa (lS (Wm ?_))))
 obtain ⟨y, B, rfl⟩ := a.form
 refine V (yM bL rfl rfl) (ln ?_)
 rcases y with _ | z
 ·have u := a.isNil
  replace hm : some [] = some r := by rw [u] at hm; simpa [mZ, maxLen] using hm
  refine vO (rfl) (sg (Wa (lt (kU ?_))))
  obtain rfl := sj hm
  exact lB (v := (.slice none 0 0)) rfl rfl ⟨_, [], rfl, b.nn (fun p d => by cases d) (by simp), kC.nil _ _ _⟩
 ·refine qZ (rfl) (kg (VE (kV (cs := #[]) b uw (zU [] bL dA fg dc rfl (by simp) rfl rfl) (fun G k b => Wm (bS hm fun H t hm => VE (ny (enc := lA) (v := (.slice (some ⟨k, 0, none⟩) 0 0)) (vs := (.slice (some z) i.length B)) (R := [(k, Ob #[] 113)]) b px dc wG bL oT.1 oT.2.1 rfl oT.2.2.1 oT.2.2.2 rfl rfl (kC.lit (l := []) (enc := lA) rfl dc rfl rfl) (a.mono (Pl.mono _) b.kw) t (fun D x j b c => Wa (lt ?_))))))))
  obtain rfl := sj hm
  exact lB (v := x) rfl rfl ⟨_, j, rfl, b.nn (fun p d => (Ml d)) c.nd, c⟩
theorem yS (t : Value) (B : List kW) (k : LO) (D G : Int) (r : List kW) (w : World) {μ0 : kL} (n : nN μ0 (k ++ []) w) (c : kC 113 lA 12 t B k) (hm : rk B D G = some r) :
  lH true pg0 226 [t, (.int .i64 D), (.int .i64 G)] w (k ++ []) (fun v L1 W' => ∃ l Y, v = l ∧ L1 = (Y ++ []) ∧ kC 113 lA 12 l r Y) := by
 refine yN n 33 func226 rfl (fun h => sg (Wa (lr (Wm (Wm (Wm (Wm (V (mY bL rfl c) (bS hm fun _ y hm => VQ (Ot (a := D) (b := G) (m := (B.length : Int)) bL dA c rfl rfl rfl rfl (yz y).1 (yz y).2.1 (yz y).2.2.1 (yz y).2.2.2) (fun v1 q => ?_))))))))))
 refine lS (Wm (Wm (Wi rfl (ln (CI hm rfl (fun Z hm => ?_) (fun Z hm => ?_))))))
 ·refine sg (Wm (Wa (lt (kU ?_))))
  obtain rfl := sj hm
  exact lB (v := t) rfl rfl ⟨_, _, rfl, (h.mI (Kr Sn)), t, k, rfl, rfl, c⟩
 refine kg (Wm (V (mY bL rfl c) (Wa (ln (kA ?_)))))
 replace h := h.drew
 have d := h.has.kh Sn
 refine lm d kP (X 0 rfl d (ko rfl) (X 1 rfl d (ko rfl) (bS hm fun _ I hm => XQ 2 rfl d (tO (i := D) bL dA rfl rfl c px (qm I) (qf I)) (fun A N => X 3 rfl d (ko rfl) (X 4 rfl d (ko rfl) (bS hm fun _ J hm => XQ 5 rfl d (rc (i := G) bL dA rfl rfl c (qm J) (qf J)) (fun E Q => bS hm fun s H hm => XE 6 rfl (JP (i := (Int.toNat D)) (j := (Int.toNat G))  h c N px dc wG bL oT.1 oT.2.2.1 (yz H).1 (yz H).2 Q rfl rfl (fun p K o h u x => ?_)))))))))
 have d := h.has.kh Sn
 refine ⟨d, (X 7 rfl d (ol rfl) (lF kr (ku (sg (Wm (Wm (V (mY bL rfl x) (Wm (bS hm fun _ g hm => VQ (NI (a := ((B.take (Int.toNat D) ++ B.drop (Int.toNat G)).length : Int)) (b := (B.length : Int)) bL dA dc u x rfl rfl rfl (yz g).1 (yz g).2.1 (yz g).2.2.1 (yz g).2.2.2) (fun F T => VO (ve (z := (⟨PK, (⟨K0, zS⟩ : kk)⟩ : kW))  h u px wG bL fg T rfl rfl (fun a9 U h M => ln ?_))))))))))))⟩
 refine sg (Wm (Wa (lt ?_)))
 obtain rfl := sj hm
 exact lB (v := K) rfl rfl ⟨_, _, rfl, (h.mI (Kr Sn)), K, U, rfl, rfl, (kC.Ov dc px u x M (by have := yz g; rw [uL _ _ _ (by omega)]; omega))⟩
theorem IS (g : Value) (y : List kW) (r : Bool) (w : World) (z : Sl (Pl lA) 12 (hp w) g y) (hm : yf y = some r) :
  kN false pg0 225 [g] w (.bool r) := by
 refine cG 40 func225 rfl (fun d => sg (Wa (lr (Wm (bS hm fun s d8 hm => VE (rW d call273 (ma.lZ (D0 g y _ _ (z.mono (Pl.mono _) d.kw) d8)) (fun W3 v7 n R8 d a5 a6 H => Wa (ln (kA ?_)))))))))
 refine sg (Wm (V (mY cY rfl H) (Wm (ln (lu (fun i E W => ∃ I, (E 11 = .int .i64 (i : Nat) ∧ E 10 = .int .i64 (s.length : Nat)) ∧ ST false lM w W n (R8 ++ I) ∧ E 0 = g ∧ E 3 = v7 ∧ E 9 = v7 ∧ so s y (s.drop i) i = some r) s.length H.len ⟨_, ⟨rfl, rfl⟩, (d.kh St), rfl, rfl, rfl, hm⟩ dc dc dc (fun _ _ _ h => by obtain ⟨_, A, _⟩ := h; exact A) ?_ ?_)))))
 ·rintro N E W b4 ⟨I, ⟨v, eN⟩, d, u, J, K, a⟩
  obtain ⟨j, e0, c5, U, c6⟩ := lc b4
  rw [c5] at a
  refine bg (Wh v (VQ (mS (i := (N : Int)) (x0 := j) cY cK K v H (aH _) U) (fun f2 b7 => V (kl rfl (qc d.has (fun p q => (Ml q)) H oE b7 U dX cK)) (VE (ll d eb (fun e4 f1 d => Wa (VO (kJ (.agg (kD j).toArray) ((kD j).toArray) d rfl rfl cK (zD j) nb rfl (fun e5 d => ln (kA ?_))))))))))
  replace d := d.drew
  have l := d.has.kh (Kb Sn)
  refine lm l kP (X 0 rfl l (ko J) (X 1 rfl l (ko rfl) (bS a fun _ T a => XQ 2 rfl l (tO (i := (N : Int)) cY cK rfl rfl H oE (qm T) (qf T)) (fun d3 c4 => XH 3 rfl l (fun _ hS => kl rfl (kx hS Mh (kD j) rfl dX cK)) (bS a fun f3 b9 a => XE 4 rfl (Eg d call274 (kN.lZ (CC d3 (s.take (Int.toNat (N : Int))) j _ _ (c4.sl oE (fun b o q => d.at_ (Mt (Ml q)))) b9)) (fun e6 d => ?_)))))))
  have l := d.has.kh (Kb Sn)
  refine ⟨l, (lF kr (ku ?_))⟩
  replace d := d.kh (Db St)
  refine CI a rfl (fun b0 a => ?_) (fun b0 a => ?_)
  ·refine sg (Wa (ln ?_))
   replace d := d.kh (Dr St)
   refine kM (mB (kU (mB (kU ?_))))
   obtain rfl := sj a
   exact rP d
  exact lE (kY (ku ⟨v, _, ⟨rfl, eN⟩, (d.kh St), u, J, K, (by rw [c6]; exact a)⟩))
 rintro E W ⟨I, ⟨v, eN⟩, d, u, J, K, a⟩
 rw [aI] at a
 refine ku ?_
 replace d := d.kh (Dr St)
 refine kA (sg (Wh u (bS a fun f4 c0 a => VE (Eg d call275 (CM g y _ _ (z.mono (Pl.mono _) (a5.trans d.kw)) c0) (fun e7 d => V (nT rfl) (ln (CI a rfl (fun b1 a => ?_) (fun b1 a => ?_))))))))
 ·refine sg (Wa (lt (kU ?_)))
  obtain rfl := sj a
  exact rP d
 refine kS (Wh u (V (lT bL rfl z) (Wi rfl (V (N0 (k := .i64) rfl rfl) (Wm (ln (PQ a (fun R E W => ∃ Q Y, kH n Q ∧ ST false lM w W Q Y) (fun R b6 B => ?_) ?_)))))))
 ·refine lR (np (fun m E W => ∃ t G Z, kH n G ∧ ST false lM w W G Z ∧ E 0 = g ∧ E 28 = (.int .i64 (if 0 > (wi0 .i64 ((y.length : Int) - 1)) then 0 else (wi0 .i64 ((y.length : Int) - 1)))) ∧ E 29 = (.int .i64 t) ∧ sf y m t = some R) kT ⟨0, n, _, (kH.refl _), (d.kh St), u, rfl, rfl, b6⟩ ?_)
  rintro m E W ⟨t, G, Z, x, d, P, a2, M, c⟩
  cases m with
  | zero => rw [sf] at c; cases c
  | succ d0 =>
   refine sg (V (lW M a2 rfl) (ln (kA (CI c rfl (fun b2 c => ?_) (fun b2 c => ?_)))))
   ·refine kn (kA (bg (Wh M (Wa (lr (Wh P (bS c fun d1 c1 c => VE (rW d call227 (ma.lZ (zr g y _ _ (z.mono (Pl.mono _) ((a5.trans x).trans d.kw)) c1)) (fun e8 d4 f7 c9 d a3 F a9 => ?_)))))))))
    refine Wm (Wm (Wi rfl (bS c fun d2 c2 c => ?_)))
    refine VE (eM d (Cr Qz Cn) call226 (fun hh _ => lH.lZ (yS d4 d1 c9 t (wi0 .i64 (t + 1)) _ _ hh a9 c2)) ?_)
    rintro _ f6 d6 e1 d a4 L O ⟨d5, e3, D, rfl, c7⟩
    obtain rfl := D.symm
    replace d := d.perm (Tr Tn)
    refine bS c fun f5 c3 c => VE (Eg d call275 (CM d5 d2 _ _ (c7.sl px (fun b o q => d.at_ (Ml q))) c3) (fun f0 d => ln ?_))
    replace d := d.kh (Dr St)
    refine CI c rfl (fun b3 c => ?_) (fun b3 c => ?_)
    ·refine sg (Wa (lt (mB (kU (kU (mB (kU ?_)))))))
     obtain rfl := sj c
     replace B : some false = some r := B
     obtain rfl := sj B
     exact rP d
    exact lE (kY (ku (kB (V (lW M rfl rfl) (Wm (ln ⟨d0, bD _, (wi0 .i64 (t + 1)), d6, _, ((x.trans a3).trans a4), (d.kh St), P, a2, rfl, c⟩))))))
   refine nf (mO (mO (pZ (ku ?_))))
   obtain rfl := sj c
   exact ⟨_, rfl, G, _, x, (d.kh St)⟩
 rintro ⟨⟩ E W ⟨Q, Y, d7, d⟩ b5
 exact sg (Wa (lt (rQ b5 d)))
theorem H2 (B : Value) (D : List kW) (r : Bool) (w : World) (z : Sl (Pl lA) 12 (hp w) B D) (hm : xA D = some r) :
  kN false pg0 228 [B] w (.bool r) := by
 refine cG 22 func228 rfl (fun d => sg (Wa (lr (Wa (lS (Wm ?_))))))
 refine V (lT bL rfl z) (Wm (ln (lu (fun i E W => ∃ g k j u, (E 8 = .int .i64 (i : Nat) ∧ E 7 = .int .i64 (D.length : Nat)) ∧ ST false lM w W (hp w) (j ++ u) ∧ E 3 = g ∧ E 6 = B ∧ kC 111 kD 3 g k j ∧ rG (D.drop i) k = some r) D.length z.len ⟨(.slice none 0 0), ([]), [], _, ⟨rfl, rfl⟩, (d.kh St), rfl, rfl, (kC.nil _ _ _), hm⟩ dc dc dc (fun _ _ _ h => by obtain ⟨_, _, _, _, n, _⟩ := h; exact n) ?_ ?_)))
 ·rintro a2 E W Q ⟨g, k, j, u, ⟨m, p⟩, d, x, y, t, a⟩
  obtain ⟨c, P, U, T, Y⟩ := lc Q
  rw [U] at a
  refine bg (VQ (ni (enc := lA) (i := (a2 : Int)) (x0 := c) bL dA y m z (aH _) T) (fun a9 J => V (kl rfl (kO d.has J jI dA)) (VE (ll d fg (fun a3 L d => VO (kJ (.agg (lA c).toArray) ((lA c).toArray) d rfl rfl dA (wG c) nb rfl (fun a4 d => lS (VA d Mh (lA c) jI dA (Wh x (bS a fun O K a => ?_))))))))))
  refine VE (Eg d call276 (Ci c g k _ _ (t.sl oE (fun b o s => d.at_ (Mt (Ml s)))) K) (fun a5 d => V (nT rfl) (ln (CI a rfl (fun H a => ?_) (fun H a => ?_)))))
  ·refine sg (Wa (ln ?_))
   replace d := d.kh (Db (Dr St))
   refine kM (kU (mB (kU (mB (kU ?_)))))
   obtain rfl := sj a
   exact rP d
  refine kn (kB (Wh x (Wf wE (VA d Mh (kD c.kk) dX cK (VE (kV (cs := (kD c.kk).toArray) d (nh rfl) (nc cY cK eb) (fun A N d => ?_)))))))
  replace d := d.perm (Nr (Qb (Qb Qz)) Nz)
  refine bS a fun Z I a => VE (ny (enc := kD) (v := g) (vs := (.slice (some ⟨N, 0, none⟩) 1 1)) (R := j) d oE dc zD cY rH.1 rH.2.1 rfl rH.2.2.1 rH.2.2.2 rfl rfl t (Sl.lit (enc := kD) (l := [c.kk]) oE rfl nb rfl (d.at_ (Ma Mh))) I (fun F q M d G => Wa (kQ (kY (ku ?_)))))
  replace d := d.kh (Kr (Db (Db St)))
  exact ⟨m, q, Z, M, _, ⟨rfl, p⟩, (d.kh St), rfl, y, G, (by rw [Y]; exact a)⟩
 rintro E W ⟨g, k, j, u, ⟨m, p⟩, d, x, y, t, a⟩
 rw [aI] at a
 refine ku ?_
 replace d := d.kh (Dr St)
 exact sg (Wa (lt (rQ a d)))
theorem Fy (p : Value) (a0 : List kW) (k : LO) (r : List kW) (w : World) {μ0 : kL} (h0 : nN μ0 (k ++ []) w) (e5 : kC 113 lA 12 p a0 k) (hm : vl a0 = some r) :
  lH false pg0 174 [p] w (k ++ []) (fun v L1 W' => ∃ y1 S2, v = y1 ∧ L1 = (S2 ++ []) ∧ kC 113 lA 12 y1 r S2) := by
 refine yN h0 25 func174 rfl (fun d => sg (Wa (ln (kA (lR (np (fun m E W => ∃ i t y x A, kH μ0 x ∧ ST false (keys (k ++ [])) w W x (y ++ A) ∧ E 0 = i ∧ kC 113 lA 12 i t y ∧ pP m t = some r) kT ⟨p, a0, k, μ0, _, (kH.refl _), (d.kh St), rfl, e5, hm⟩ ?_))))))
 rintro m E W ⟨i, t, y, x, A, b4, d, J, D, c⟩
 cases m with
 | zero => rw [pP] at c; cases c
 | succ d9 =>
  refine kA (sg (Wh J (bS c fun f4 c6 c => VE (Eg d call225 (IS i t _ _ (D.sl px (fun b o h => d.at_ (Ml h))) c6) (fun f0 d => V (nT rfl) (ln (CI c rfl (fun c0 c => ?_) (fun c0 c => ?_))))))))
  ·refine kn (bg (Wh J (V (mY bL rfl D) (Wi rfl (Wa (ln (tS (CJ c (fun a4 E W => ∃ M H Q F, kH x Q ∧ ST false (keys (k ++ [])) w W Q (H ++ F) ∧ E 0 = M ∧ kC 113 lA 12 M a4 H) (fun a4 c4 => ?_) ?_))))))))
   ·refine lR (np (fun m E W => ∃ u K z j G a9, kH x G ∧ ST false (keys (k ++ [])) w W G (z ++ a9) ∧ E 0 = u ∧ E 3 = (.int .i64 j) ∧ kC 113 lA 12 u K z ∧ oV m K j = some a4) kT ⟨i, t, y, (wi0 .i64 ((t.length : Int) - 2)), x, _, (kH.refl _), (d.kh St), J, rfl, D, c4⟩ ?_)
    rintro m E W ⟨u, K, z, j, G, a9, Z, d, a3, B, U, g⟩
    cases m with
    | zero => rw [oV] at g; cases g
    | succ e0 =>
     refine kA (sg (Wh B (Wi rfl (ln (CI g rfl (fun c1 g => ?_) (fun c1 g => ?_))))))
     ·refine kn (kA (CJ g (fun O E W => ∃ N I T L, kH G T ∧ ST false (keys (k ++ [])) w W T (I ++ L) ∧ E 0 = N ∧ E 3 = (.int .i64 j) ∧ kC 113 lA 12 N O I) (fun O a => ?_) ?_))
      ·refine bg (Wh a3 (bS a fun e1 c7 a => VE (rW d call227 (ma.lZ (zr u K _ _ (U.sl px (fun b o h => d.at_ (Ml h))) c7)) (fun f1 e3 f7 d2 d s l b9 => Wh B (Wh B (Wi rfl (bS a fun e2 c8 a => ?_)))))))
       refine VE (eM d (Cr Qz Cn) call226 (fun hh _ => lH.lZ (yS e3 e1 d2 j (wi0 .i64 (j + 1)) _ _ hh b9 c8)) ?_)
       rintro _ f6 R e9 d a2 n q ⟨P, d3, Y, rfl, a5⟩
       obtain rfl := Y.symm
       replace d := d.perm (Tr Tn)
       refine Wa (lr (Wm (bS a fun f5 c9 a => VE (Eg d call228 (H2 P e2 _ _ (a5.sl px (fun b o h => d.at_ (Ml h))) c9) (fun f3 d => ln (CI a rfl (fun c2 a => ?_) (fun c2 a => ?_)))))))
       ·refine kB (Wm (Wa (kQ (kY (ku ?_)))))
        obtain rfl := sj a
        exact ⟨P, d3, R, _, (s.trans a2), (d.kh (Kr (Dr St))), rfl, B, a5⟩
       refine lE (kY (ku ?_))
       obtain rfl := sj a
       exact ⟨u, z, R, _, (s.trans a2), (d.kh (Dr St)), a3, B, U⟩
      rintro d8 E W ⟨N, I, T, L, b6, d, d5, d6, d1⟩ c5
      exact kB (Wh d6 (Wi rfl (Wa (ln ⟨e0, bD _, N, d8, I, (wi0 .i64 (j - 1)), T, _, (Z.trans b6), (d.kh St), d5, rfl, d1, c5⟩))))
     refine nf (mO (mO (pZ (ku ?_))))
     obtain rfl := sj g
     exact ⟨u, z, G, _, Z, (d.kh St), a3, U⟩
   rintro d7 E W ⟨M, H, Q, F, b5, d, d4, d0⟩ c3
   exact kY (ku ⟨d9, bD _, M, d7, H, Q, _, (b4.trans b5), (d.kh St), d4, d0, c3⟩)
  refine nf (mO (mO (pZ (ku (sg (Wh J (Wa (lt ?_))))))))
  obtain rfl := sj c
  exact lB (v := i) rfl rfl ⟨_, _, rfl, (d.mI (Kr Sn)), i, y, rfl, rfl, D⟩
theorem JL (g : Value) (k : List ke) (i : kk) (r : ((List kW) × Bool)) (w : World) (y : Sl (Pl km) 9 (hp w) g k) (hm : vq k i = some r) :
  lH false pg0 108 [g, (.agg (kD i).toArray)] w [] (fun v T W' => ∃ M I, v = (.tuple #[M, (.bool (r.2))]) ∧ T = (I ++ []) ∧ kC 113 lA 12 M r.1 I) := by
 refine uk 18 func108 rfl (fun b => sg (VE (kX b rfl (fun W2 p b => Wa (Wa (lr (Wm (VA b Mh (kD i) dX cK (bS hm fun Y K hm => ?_)))))))))
 refine VE (B6 b (bI _) call173 (fun _ _ _ _ => (IZ g k i _ _ (y.mono (Pl.mono _) b.kw) K)) (fun W5 v9 n Z b U m d t => ?_) (L0 := []))
 obtain ⟨N, H, a, rfl, D⟩ := t
 replace a := a.symm; subst a
 replace b := b.perm (Tr Tn)
 refine Wm (Wx rfl (Wx rfl (Wa (Wa (ln ?_)))))
 replace b := b.kh (Kr (Db St))
 refine kA (sg (Wm (V (nT rfl) (ln (CI hm rfl (fun z hm => ?_) (fun z hm => ?_))))))
 ·refine sg (Wa (Wa (ln ?_)))
  replace b := b.kh (Dr St)
  refine kM (kU ?_)
  obtain rfl := sj hm
  refine rR (v := (.slice none 0 0)) (u := (.bool false)) rfl rfl rfl ?_
  replace b := b.HU
  exact ⟨_, _, rfl, (b.D4 (Kr Sn)), (.slice none 0 0), [], rfl, rfl, (kC.nil _ _ _)⟩
 refine kg (Wm (bS hm fun a4 B hm => ?_))
 refine VE (eM b (Cr Qz Cn) call174 (fun l _ => (Fy N Y.1 H _ _ l D B)) ?_)
 rintro _ a5 o a2 b Q h d ⟨j, J, c, rfl, G⟩
 obtain rfl := c.symm
 replace b := b.perm (Tr Tn)
 refine Wa (Wa (lt ?_))
 obtain rfl := sj hm
 exact rR (v := j) (u := (.bool true)) rfl rfl rfl ⟨_, _, rfl, (b.D4 (Kr Sn)), j, J, rfl, rfl, G⟩
theorem Cy (I : Int) (r : List kW) (w : World) (hm : sE I = some r) :
  ma true pg0 229 [(.slice none 0 0), (.int .i64 I)] w 113 lA 12 r := by
 refine uk 27 func229 rfl (fun b => sg (Wa (lS (Wm (Wi rfl (ln (CI hm rfl (fun K hm => ?_) (fun K hm => ?_))))))))
 ·cases hm
 refine kn (kA (CJ hm (fun u E W => ∃ g c t, ST true lM w W (hp w) (c ++ t) ∧ E 0 = g ∧ kC 113 lA 12 g u c) (fun u a => ?_) ?_))
 ·refine sg (Wm (Wm (V (JX bL rfl) (Wm (V (zO bL rfl) (Wi rfl (Wi rfl (Wa (lr (Wm ?_))))))))))
  refine Wi rfl (ln (CI a rfl (fun y a => ?_) (fun y a => ?_)))
  ·refine kB (Wm (Wm (V (JX bL rfl) (V (MV bL dA rfl rfl) (Wm (bS a fun T B a => VE (Jz (enc := lA) (z := (⟨PK, (⟨K0, zS⟩ : kk)⟩ : kW)) b px dc bL eB oT.1 oT.2.1 oT.2.2.1 oT.2.2.2 rfl rfl rfl B (fun N U H b x => Wm (V (zO bL rfl) (bS a fun _ j a => VQ (tO (i := 0) bL dA rfl rfl x px (qm j) (qf j)) (fun M G => Wa (ln ?_))))))))))))
   obtain rfl := sj a
   exact ⟨M, H, _, (b.kh St), rfl, G⟩
  refine kn ?_
  obtain rfl := sj a
  exact ⟨(.slice none 0 0), [], _, (b.kh St), rfl, (kC.nil _ _ _)⟩
 rintro Q E W ⟨g, c, t, b, J, k⟩ D
 refine sg (Wh J (Wa (lt ?_)))
 obtain rfl := sj D
 exact lB (v := g) rfl rfl ⟨_, c, rfl, b.nn (fun p d => (Ml d)) k.nd, k⟩
theorem DK (t : Value) (z : List (List kW)) (r : List kW) (w : World) (j : Sl (Ai lA 12) 1 (hp w) t z) (hm : vZ z = some r) :
  ma true pg0 175 [t] w 113 lA 12 r := by
 refine uk 36 func175 rfl (fun b => sg (Wa (lr (Wa (lS (Wm ?_))))))
 refine V (lT iD rfl j) (Wm (ln (lu (fun i E W => ∃ u Q, (E 11 = .int .i64 (i : Nat) ∧ E 10 = .int .i64 (z.length : Nat)) ∧ ST true lM w W (hp w) Q ∧ E 0 = t ∧ E 3 = (.int .i64 u) ∧ E 9 = t ∧ oR z (z.drop i) u = some r) z.length j.len ⟨0, _, ⟨rfl, rfl⟩, (b.kh St), rfl, rfl, rfl, hm⟩ dc dc dc (fun _ _ _ h => by obtain ⟨_, _, l, _⟩ := h; exact l) ?_ ?_)))
 ·rintro d1 E W b9 ⟨u, Q, ⟨d, m⟩, b, T, U, Y, a⟩
  obtain ⟨n, e0, c4, c3, c5⟩ := lc b9
  rw [c4] at a
  refine bg (VQ (Ga (enc := lA) (k2 := 12) (i := (d1 : Int)) (x0 := n) iD sizeOf106 Y d j (aH _) c3) (fun e2 ⟨d3, c0, c2⟩ => V (kl rfl (ns b.has (y := d3) c0 isAgg106)) (Wa (lr (Wh U (Wm (V (lT bL rfl c2) (Wi rfl (Wa ?_)))))))))
  refine lr (Wm (Wi rfl (ln (CI a rfl (fun b7 a => ?_) (fun b7 a => ?_)))))
  ·cases a
  exact lE (kY (ku ⟨d, (wi0 .i64 (u + (n.length : Int))), _, ⟨rfl, m⟩, (b.kh St), T, rfl, Y, (by rw [c5]; exact a)⟩))
 rintro E W ⟨u, Q, ⟨d, m⟩, b, T, U, Y, a⟩
 rw [aI] at a
 refine ku (sg (Wh U (bS a fun d2 c1 a => VE (rW b call229 (Cy u _ _  c1) (fun e1 d4 o d0 b a4 q b6 => Wa (lS (Wh T (V (lT iD rfl j) (Wm ?_)))))))))
 refine ln (CJ a (fun K E W => ∃ G x N, ST true lM w W o (x ++ N) ∧ E 6 = G ∧ kC 113 lA 12 G K x) (fun K A => ?_) ?_)
 ·refine lu (fun i E W => ∃ k D g H, (E 27 = .int .i64 (i : Nat) ∧ E 26 = .int .i64 (z.length : Nat)) ∧ ST true lM w W o (g ++ H) ∧ E 6 = k ∧ E 25 = t ∧ kC 113 lA 12 k D g ∧ oU (z.drop i) D = some K) z.length j.len ⟨d4, d2, d0, _, ⟨rfl, rfl⟩, (b.kh St), rfl, rfl, b6, A⟩ dc dc dc (fun _ _ _ h => by obtain ⟨_, _, _, _, l, _⟩ := h; exact l) ?_ ?_
  ·rintro c6 E W a3 ⟨k, D, g, H, ⟨d, m⟩, b, I, J, B, c⟩
   obtain ⟨c9, d5, O, a9, P⟩ := lc a3
   rw [O] at c
   refine bg (VQ (Ga (enc := lA) (k2 := 12) (i := (c6 : Int)) (x0 := c9) iD sizeOf106 J d (j.mono (Ai.mono _ _) a4) (aH _) a9) (fun d8 ⟨Z, F, L⟩ => V (kl rfl (ns b.has (y := Z) F isAgg106)) (Wa (ln (kB (Wh I (Wm (bS c fun c7 a2 c => VE (ny (enc := lA) (v := k) (vs := Z) (R := g) b px dc wG bL oT.1 oT.2.1 rfl oT.2.2.1 oT.2.2.2 rfl rfl B (L.mono (Pl.mono _) b.kw) a2 (fun d6 c8 b4 b s => Wa (kQ ?_)))))))))))
   exact kY (ku ⟨d, c8, c7, b4, _, ⟨rfl, m⟩, (b.kh St), rfl, J, s, (by rw [P]; exact c)⟩)
  rintro E W ⟨k, D, g, H, ⟨d, m⟩, b, I, J, B, c⟩
  rw [aI] at c
  refine ku ?_
  obtain rfl := sj c
  exact ⟨k, g, _, (b.kh St), I, B⟩
 rintro d7 E W ⟨G, x, N, b, b5, M⟩ a5
 refine sg (Wh b5 (Wa (lt ?_)))
 obtain rfl := sj a5
 exact lB (v := G) rfl rfl ⟨_, x, rfl, b.nn (fun p hq => (Ml hq)) M.nd, M⟩
theorem IY (M : Value) (a0 : List (List kW)) (r : List kW) (w : World) (a8 : Sl (Ai lA 12) 1 (hp w) M a0) (hm : yw a0 = some r) :
  ma true pg0 109 [M] w 113 lA 12 r := by
 refine uk 29 func109 rfl (fun d => sg (Wa (lr (VE (BP (P := pg0) (fun (x : kk) => (.agg (kD x).toArray)) (fun (x : Bool) => (Value.bool x)) d (fun W1 v4 R2 d b3 => Wa (lr (Wa ?_))))))))
 refine lS (Wm (bS hm fun A b4 hm => VE (rW d call175 (DK M a0 _ _ (a8.mono (Ai.mono _ _) d.kw) b4) (fun W7 b6 F b2 d c6 L J => V (mY bL rfl J) (Wm (ln (lu (fun i E W => ∃ u B j G g K, (E 11 = .int .i64 (i : Nat) ∧ E 10 = .int .i64 (A.length : Nat)) ∧ ST true lM w W F (g ++ (b2 ++ (B ++ K))) ∧ E 3 = v4 ∧ E 4 = j ∧ E 9 = b6 ∧ lX (fun (x : kk) => (.agg (kD x).toArray)) (fun (x : Bool) => (Value.bool x)) v4 u B ∧ kC 113 lA 12 j G g ∧ qM (A.drop i) u G = some r) A.length J.len ⟨([]), R2, (.slice none 0 0), ([]), [], _, ⟨rfl, rfl⟩, (d.kh St), rfl, rfl, rfl, b3, (kC.nil _ _ _), hm⟩ dc dc dc (fun _ _ _ h => by obtain ⟨_, _, _, _, _, _, q, _⟩ := h; exact q) ?_ ?_)))))))
 ·rintro b5 E W O ⟨u, B, j, G, g, K, ⟨n, s⟩, d, D, H, I, y, t, a⟩
  obtain ⟨c, c8, a3, N, Q⟩ := lc O
  rw [a3] at a
  refine bg (VQ (mS (i := (b5 : Int)) (x0 := c) bL dA I n J (aH _) N) (fun c7 a2 => V (kl rfl (qc d.has (fun p m => (Ma (Ml m))) J px a2 N jI dA)) (VE (ll d fg (fun c0 c5 d => VO (kJ (.agg (lA c).toArray) ((lA c).toArray) d rfl rfl dA (wG c) nb rfl (fun c1 d => lr (Wh D (Wf wE (VA d Mh (kD c.kk) dX cK (V (vG (k := c.kk) (z := false) (vf := (fun (x : Bool) => (Value.bool x))) GJ iC gw rfl rfl (y.at (fun b o m => d.has.2 b o (Mt (Ma (Ma (Ml m))))))) ?_)))))))))))
  refine V (nT rfl) (ln (CI a rfl (fun Y a => ?_) (fun Y a => ?_)))
  ·refine sg (Wh D (Wf wE (VA d Mh (kD c.kk) dX cK ?_)))
   replace d := d.perm (Nr (Qb (Qr (Qr Qz))) Nz)
   refine VO (FH (k := c.kk) (v := true) (vf := (fun (x : Bool) => (Value.bool x)))  GJ iC d y rfl rfl rfl (fun c2 a4 d T => ln (kB (Wh H (VA d (Ma Mh) (lA c) jI dA (VE (kV (cs := (lA c).toArray) d (nh rfl) (nc bL dA fg) (fun c3 a7 d => ?_))))))))
   replace d := d.perm (Nr (Qb (Qr (Qb Qz))) Nz)
   refine bS a fun a9 Z a => VE (ny (enc := lA) (v := j) (vs := (.slice (some ⟨a7, 0, none⟩) 1 1)) (R := g) d px dc wG bL oT.1 oT.2.1 rfl oT.2.2.1 oT.2.2.2 rfl rfl t (Sl.lit (enc := lA) (l := [c]) px rfl nb rfl (d.at_ (Ma Mh))) Z (fun c4 b1 a5 d U => Wa (kQ (kY (ku ?_)))))
   replace d := d.kh (Kr (Db (Kr (Db St))))
   exact ⟨n, (nR nJ u c.kk true), a4, b1, a9, a5, _, ⟨rfl, s⟩, (d.kh (Kr (Sr (Qr Qz) St))), D, rfl, I, T, U, (by rw [Q]; exact a)⟩
  refine lE (kY (ku ?_))
  replace d := d.kh (Db St)
  exact ⟨n, u, B, j, G, g, _, ⟨rfl, s⟩, (d.kh St), D, H, I, y, t, (by rw [Q]; exact a)⟩
 rintro E W ⟨u, B, j, G, g, K, ⟨n, s⟩, d, D, H, I, y, t, a⟩
 rw [aI] at a
 refine ku ?_
 replace d := d.kh (Kr (Dr (Dr St)))
 refine sg (Wh H (Wa (lt ?_)))
 obtain rfl := sj a
 exact lB (v := j) rfl rfl ⟨_, g, rfl, d.nn (fun p m => (Ml m)) t.nd, t⟩
theorem H3 (U : lD) (Q a4 : Value) (c : lD) (T a5 : Value) (k : Formula) (a6 : Value) (r : ((List kW) × Bool)) (w : World) (M : Sl mh 15 (hp w) Q U.kZ) (a3 : Sl mN 8 (hp w) a4 U.mu) (t : Sl mh 15 (hp w) T c.kZ) (z : Sl mN 8 (hp w) a5 c.mu) (H : Sl kf 5 (hp w) a6 k.Kids) (hm : vE U c k = some r) :
  lH false pg0 48 [(.agg #[(.string U.Name), Q, a4]), (.agg #[(.string c.Name), T, a5]), (.agg #[(.int .i64 k.Op), (.int .i64 k.K), (.string k.kd.kj), (.string k.kd.kq), a6])] w [] (fun v L1 W' => ∃ y1 S2, v = (.tuple #[y1, (.bool (r.2))]) ∧ L1 = (S2 ++ []) ∧ kC 113 lA 12 y1 r.1 S2) := by
 refine uk 56 func48 rfl (fun d => sg ?_)
 obtain ⟨A1, c2, rfl⟩ := M.form
 obtain ⟨A3, c4, rfl⟩ := a3.form
 refine VE (kX d rfl (fun W6 b5 d => ?_))
 obtain ⟨A7, c8, rfl⟩ := t.form
 let a1 : Value := (.slice A7 c.kZ.length c8)
 obtain ⟨A9, b2, rfl⟩ := z.form
 let b8 := (C3 c.Name A7 c.kZ.length c8 A9 c.mu.length b2)
 let a2 : Value := (.slice A9 c.mu.length b2)
 refine VE (kX d rfl (fun m8 g4 d => ?_))
 obtain ⟨c6, c7, rfl⟩ := H.form
 let a0 := (C1 k.Op k.K k.kd.kj k.kd.kq c6 k.Kids.length c7)
 refine VE (kX d rfl (fun m9 n3 d => Wa (Wa (lr (VA d (Mt (Mt Mh)) (C3 U.Name A1 U.kZ.length c2 A3 U.mu.length c4) dV dB (VA d (Mt Mh) b8 dV dB (bS hm fun a i7 hm => ?_)))))))
 refine VE (B6 d (bI _) call106 (fun _ _ _ _ => (Ea U (.slice A1 U.kZ.length c2) (.slice A3 U.mu.length c4) c a1 a2 _ _ (M.mono mG.mono d.kw) (a3.mono pe.mono d.kw) (t.mono mG.mono d.kw) (z.mono pe.mono d.kw) i7)) (fun n0 n5 n7 m1 d J af A h5 => ?_) (L0 := []))
 obtain ⟨g7, k1, q, P, e9, m3, f0, m4, f1, m5, f2, m6, f3, m7, s, d7, rfl, j4, e5, d8, e6, e7, d9⟩ := h5
 replace d7 := d7.symm; subst d7
 replace d := d.perm (Tb (Tb (Tb (Tr (Tr (Tr (Tr (Tr (Tr Tn)))))))))
 refine Wm (Wx rfl (Wx rfl (Wa (Wa (ln ?_)))))
 replace d := d.kh (Kb (Kb (Kb (Kr (Kr (Kr (Kr (Kr (Kr (Kb (Kb (Db St))))))))))))
 refine kA (sg (VA d (Mt (Mt (Mt (Ma (Ma (Ma (Ma (Ma (Ma Mh))))))))) a0 bA aD (Wm (bS hm fun n4 i8 hm => VE (Eg d call24 (xt k (.slice c6 k.Kids.length c7) (.func (.func 169) #[] #[(.pointer (some ⟨q, 0, none⟩)), (.pointer (some ⟨s, 0, none⟩))]) (fun (x : kd) => oX x a.2.1 a.2.2.1 a.2.2.2.1 a.2.2.2.2.1 a.2.2.2.2.2.1 a.2.2.2.2.2.2.1 a.2.2.2.2.2.2.2 c.kZ c.mu) _ _ (H.mono kz.mono (J.trans d.kw)) ⟨169, #[], #[(.pointer (some ⟨q, 0, none⟩)), (.pointer (some ⟨s, 0, none⟩))], rfl, call169, fun W x r n hm => (yB x q P e9 a.2.1 f0 a.2.2.1 f1 a.2.2.2.1 f2 a.2.2.2.2.1 f3 a.2.2.2.2.2.1 a.2.2.2.2.2.2.1 s a.2.2.2.2.2.2.2 a1 c.kZ a2 c.mu r W (e5.at (fun b o m => n _ _ ((fun b o m => d.at_ (Mt (Mt (Mt (Ma (Ml m)))))) b o m))) (d8.sl lV (fun b o m => n _ _ ((fun b o m => d.at_ (Mt (Mt (Mt (Ma (Ma (Ml m))))))) b o m))) (e6.at (fun b o m => n _ _ ((fun b o m => d.at_ (Mt (Mt (Mt (Ma (Ma (Ma (Ml m)))))))) b o m))) (e7.at (fun b o m => n _ _ ((fun b o m => d.at_ (Mt (Mt (Mt (Ma (Ma (Ma (Ma (Ml m))))))))) b o m))) ((d9.B5 oE).mono (Pl.mono _) (mE (fun b o m => n _ _ ((fun b o m => d.at_ (Mt (Mt (Mt (Ma (Ma (Ma (Ma (Ma (Ml m)))))))))) b o m)))) (At.of (n _ _ (d.at_ (Mt Mh))) _ rfl) (At.of (n _ _ (d.at_ Mh)) _ rfl) (t.mono mG.mono ((J.trans d.kw).trans n)) (z.mono pe.mono ((J.trans d.kw).trans n)) (At.of (n _ _ (d.at_ (Mt (Mt Mh)))) _ rfl) hm).lZ⟩ i8) (fun n1 d => V (nT rfl) (ln (CI hm rfl (fun h7 hm => ?_) (fun h7 hm => ?_)))))))))
 ·refine sg (Wa (Wa (ln ?_)))
  replace d := d.kh (Db (Db (Db (Dr (Dr (Dr (Dr (Dr (Dr (Db (Db St)))))))))))
  refine kM (kU ?_)
  obtain rfl := sj hm
  refine rR (v := (.slice none 0 0)) (u := (.bool false)) rfl rfl rfl ?_
  replace d := d.HU
  exact ⟨_, _, rfl, (d.D4 (Kr Sn)), (.slice none 0 0), [], rfl, rfl, (kC.nil _ _ _)⟩
 refine kg (VA d (Mt (Mt (Mt (Ma (Ma (Ma (Ma (Ma (Ma Mh))))))))) a0 bA aD (Wm ?_))
 replace d := d.perm (Nr (Qb (Qb (Qb (Qr Qz)))) Nz)
 obtain ⟨n8, d, c0, ag, i1⟩ := ST.xU d
 replace d := d.perm (Nr (Qb (Qb (Qb (Qr Qz)))) Nz)
 have l5 := d8.Lb d (fun p m => (Ml m))
 obtain ⟨n9, d, F, ah, j0⟩ := ST.F7 d d8 lV
 replace d := d.perm (Nr (Qb (Qb (Qb (Qr Qz)))) Nz)
 obtain ⟨o0, d, N, ai, i2⟩ := ST.xU d
 replace d := d.perm (Nr (Qb (Qb (Qb (Qr Qz)))) Nz)
 obtain ⟨o1, d, K, aj, i3⟩ := ST.xU d
 replace d := d.perm (Nr (Qb (Qb (Qb (Qr Qz)))) Nz)
 have l6 := d9.Lb d (fun p m => (Ml m))
 obtain ⟨o2, d, G, ak, j3⟩ := ST.Sz d d9 oE
 replace d := d.perm (Nb (Pb Pz) Nz)
 obtain ⟨o3, d, B, al, i4⟩ := ST.xU (R := [(P, Ob #[e9, f0, f1, f2, f3, (.int .i64 (a.2.2.2.2.2.2.1))] 189)]) d
 have h8 := At.of (i4 _ _ (.head _)) _ rfl
 obtain ⟨o4, d, y, an, i5⟩ := ST.xU (R := [(q, Ob #[(.pointer (some ⟨P, 0, none⟩))] 132)]) d
 have h9 := At.of (i5 _ _ (.head _)) _ rfl
 obtain ⟨o5, d, j, ao, i6⟩ := ST.xU (R := [(s, Ol (C3 (a.2.2.2.2.2.2.2) A7 c.kZ.length c8 A9 c.mu.length b2) 25)]) d
 have i0 := At.of (i6 _ _ (.head _)) _ rfl
 refine bS hm fun e8 i9 hm => ?_
 refine VE (Hh d (bI _) call107 (fun hH hN ae aq => (JK k (.slice c6 k.Kids.length c7) (.func (.func 169) #[] #[(.pointer (some ⟨q, 0, none⟩)), (.pointer (some ⟨s, 0, none⟩))]) (fun (x : kd) => oX x a.2.1 a.2.2.1 a.2.2.2.1 a.2.2.2.2.1 a.2.2.2.2.2.1 a.2.2.2.2.2.2.1 a.2.2.2.2.2.2.2 c.kZ c.mu) _ _ ⟨hH, hN, ae⟩ (H.mono kz.mono ((((((((J.trans c0).trans F).trans N).trans K).trans G).trans B).trans y).trans j)) ⟨169, #[], #[(.pointer (some ⟨q, 0, none⟩)), (.pointer (some ⟨s, 0, none⟩))], rfl, call169, fun W x r n hm => (yB x q P e9 a.2.1 f0 a.2.2.1 f1 a.2.2.2.1 f2 a.2.2.2.2.1 f3 a.2.2.2.2.2.1 a.2.2.2.2.2.2.1 s a.2.2.2.2.2.2.2 a1 c.kZ a2 c.mu r W ((e5.at i1).mono (((((((F.trans N).trans K).trans G).trans B).trans y).trans j).trans n)) (j0.mono (Pl.mono _) ((((((N.trans K).trans G).trans B).trans y).trans j).trans n)) ((e6.at i2).mono (((((K.trans G).trans B).trans y).trans j).trans n)) ((e7.at i3).mono ((((G.trans B).trans y).trans j).trans n)) (j3.mono (Pl.mono _) (((B.trans y).trans j).trans n)) (h8.mono ((y.trans j).trans n)) (h9.mono (j.trans n)) (t.mono mG.mono (((((((((J.trans c0).trans F).trans N).trans K).trans G).trans B).trans y).trans j).trans n)) (z.mono pe.mono (((((((((J.trans c0).trans F).trans N).trans K).trans G).trans B).trans y).trans j).trans n)) (i0.mono ((kH.refl _).trans n)) hm).lZ⟩ i9)) (fun n2 n6 g8 m2 d k4 ap h6 => ?_) (L0 := []))
 obtain ⟨k3, c1, rfl, e0⟩ := h6
 replace c1 := c1.symm; subst c1
 replace d := d.perm Tn
 refine Wm (Wx rfl (Wx rfl (Wa (Wa (ln ?_)))))
 replace d := d.kh (Kr (Db St))
 refine kA (sg (Wm (V (nT rfl) (ln (CI hm rfl (fun f6 hm => ?_) (fun f6 hm => ?_))))))
 ·refine sg (Wa (Wa (ln ?_)))
  replace d := d.kh (Dr (Db St))
  refine kM (kU ?_)
  obtain rfl := sj hm
  refine rR (v := (.slice none 0 0)) (u := (.bool false)) rfl rfl rfl ?_
  replace d := d.HU
  exact ⟨_, _, rfl, (d.D4 (Kr Sn)), (.slice none 0 0), [], rfl, rfl, (kC.nil _ _ _)⟩
 refine kg (Wa (lS (Wm (V (lT bB rfl e0) (Wm (ln ?_))))))
 refine lu (fun i E W => ∃ Z D a9 O d1, (E 37 = .int .i64 (i : Nat) ∧ E 36 = .int .i64 (e8.1.length : Nat)) ∧ kH g8 O ∧ ST false lM w W O ((g4, Ol b8 25) :: (a9 ++ (k1 ++ d1))) ∧ E 4 = (.pointer (some ⟨g4, 0, none⟩)) ∧ E 8 = g7 ∧ E 12 = Z ∧ E 35 = k3 ∧ kC 113 lA 12 Z D a9 ∧ tF a c (e8.1.drop i) D = some r) e8.1.length e0.len ⟨(.slice none 0 0), ([]), [], g8, _, ⟨rfl, rfl⟩, (kH.refl _), (d.kh (Sb (Pr Pz) St)), rfl, rfl, rfl, rfl, (kC.nil _ _ _), hm⟩ dc dc dc (fun _ _ _ h => by obtain ⟨_, _, _, _, _, aa, _⟩ := h; exact aa) ?_ ?_
 ·rintro j5 E W f7 ⟨Z, D, a9, O, d1, ⟨eI, eN⟩, b3, d, d3, d4, d5, d6, L, g⟩
  obtain ⟨I, k5, g2, g1, g3⟩ := lc f7
  rw [g2] at g
  refine bg (VQ (ni (enc := ki) (i := (j5 : Int)) (x0 := I) bB aG d6 eI (e0.mono (Pl.mono _) b3) (aH _) g1) (fun l7 f8 => V (kl rfl (kO d.has f8 bo aG)) (VE (ll d dv (fun k9 l4 d => VO (kJ (.agg (ki I).toArray) ((ki I).toArray) d rfl rfl aG (pk I) nb rfl (fun l0 d => lr (Wh d4 (VA d Mh (ki I) bo aG (V (ky Bp d3) (VB d (Mt Mh) rfl rfl bT ?_)))))))))))
  refine V (mK (v := (.agg (kD (⟨I, c.Name⟩ : kk)).toArray)) (oP rfl rfl) (me eb cU (Ft _ cU) kr)) (bS g fun Y f9 g => ?_)
  refine VE (B6 d (bI _) call108 (fun _ _ _ _ => (JL g7 a.1 (⟨I, c.Name⟩ : kk) _ _ (j4.sl lV (fun b o m => d.at_ (Mt (Mt (Ma (Ml m)))))) f9)) (fun l1 l8 m0 k7 d e3 ab A f4 => ?_) (L0 := []))
  obtain ⟨l9, k8, c3, rfl, e2⟩ := f4
  replace c3 := c3.symm; subst c3
  replace d := d.perm (Tr Tn)
  refine Wm (Wx rfl (Wx rfl (Wa (Wa (ln ?_)))))
  replace d := d.kh (Kr (Db St))
  refine kB (Wh d5 (Wm ?_))
  obtain ⟨b4, b7, rfl⟩ := L.form
  obtain ⟨b6, b9, rfl⟩ := e2.form
  refine VE (kV (cs := #[(.slice b4 D.length b7), (.slice b6 Y.1.length b9)]) d (oP rfl rfl) (nc iD sizeOf106 zeroValue106) (fun l2 h2 d => bS g fun j6 g0 g => VE (rW d call109 (ma.lZ (IY (.slice (some ⟨h2, 0, none⟩) 2 2) ([D, Y.1]) _ _ (Ai.lit (l := [D, Y.1]) (vs := [(.slice b4 D.length b7), (.slice b6 Y.1.length b9)]) rfl nb (d.at_ Mh) (.cons (L.sl px (fun b o m => d.at_ (Mt (Ma (Mt (Ml m)))))) (.cons (e2.sl px (fun b o m => d.at_ (Mt (Ml m)))) .nil))) g0)) (fun l3 j7 j8 h1 d e4 ad f5 => Wa (kQ (kY (ku ?_)))))))
  replace d := d.kh (Kr (Db (Dr (Kb (Dr St)))))
  exact ⟨eI, j7, j6, h1, j8, _, ⟨rfl, eN⟩, ((b3.trans e3).trans e4), (d.kh (Sb (Pr Pz) St)), d3, d4, rfl, d6, f5, (by rw [g3]; exact g)⟩
 rintro E W ⟨Z, D, a9, O, d1, ⟨eI, eN⟩, b3, d, d3, d4, d5, d6, L, g⟩
 rw [aI] at g
 refine ku ?_
 replace d := d.kh (Db (Kr (Dr St)))
 refine sg (Wh d5 (Wa (Wa (lt ?_))))
 obtain rfl := sj g
 exact rR (v := Z) (u := (.bool true)) rfl rfl rfl ⟨_, _, rfl, (d.D4 (Kr Sn)), Z, a9, rfl, rfl, L⟩
theorem Cc (y : lD) (t D : Value) (c : lD) (u G : Value) (i : Formula) (H : Value) (r : Bool) (w : World) (k : Sl mh 15 (hp w) t y.kZ) (z : Sl mN 8 (hp w) D y.mu) (g : Sl mh 15 (hp w) u c.kZ) (j : Sl mN 8 (hp w) G c.mu) (B : Sl kf 5 (hp w) H i.Kids) (hm : qk y c i = some r) :
  kN false pg0 49 [(.agg #[(.string y.Name), t, D]), (.agg #[(.string c.Name), u, G]), (.agg #[(.int .i64 i.Op), (.int .i64 i.K), (.string i.kd.kj), (.string i.kd.kq), H])] w (.bool r) := by
 refine cG 18 func49 rfl (fun d => sg ?_)
 obtain ⟨A1, c2, rfl⟩ := k.form
 obtain ⟨A3, n, rfl⟩ := z.form
 refine VE (kX d rfl (fun W6 b5 d => ?_))
 obtain ⟨U, Z, rfl⟩ := g.form
 obtain ⟨Y, K, rfl⟩ := j.form
 refine VE (kX d rfl (fun d4 d8 d => ?_))
 obtain ⟨M, T, rfl⟩ := B.form
 refine VE (kX d rfl (fun d5 d9 d => Wa (lr (VA d (Mt (Mt Mh)) (C3 y.Name A1 y.kZ.length c2 A3 y.mu.length n) dV dB (VA d (Mt Mh) (C3 c.Name U c.kZ.length Z Y c.mu.length K) dV dB (bS hm fun a s hm => ?_))))))
 refine VE (B6 d (bI _) call106 (fun _ _ _ _ => (Ea y (.slice A1 y.kZ.length c2) (.slice A3 y.mu.length n) c (.slice U c.kZ.length Z) (.slice Y c.mu.length K) _ _ (k.mono mG.mono d.kw) (z.mono pe.mono d.kw) (g.mono mG.mono d.kw) (j.mono pe.mono d.kw) s)) (fun d6 e1 e3 c6 d I p m q => ?_) (L0 := []))
 obtain ⟨e2, c7, N, O, P, c9, R, d0, c0, d1, c1, d2, c3, d3, Q, J, rfl, c5, v, A, E, F, L⟩ := q
 replace J := J.symm; subst J
 replace d := d.perm (Tb (Tb (Tb (Tr (Tr (Tr (Tr (Tr (Tr Tn)))))))))
 refine Wm (Wx rfl (Wx rfl (Wa (Wa (ln ?_)))))
 replace d := d.kh (Kb (Kb (Kb (Dr (Kr (Kr (Kr (Kr (Kr (Kb (Db (Db St))))))))))))
 refine sg (VA d (Mt (Mt (Mt (Ma (Ma (Ma (Ma (Ma Mh)))))))) (C1 i.Op i.K i.kd.kj i.kd.kq M i.Kids.length T) bA aD (Wm (bS hm fun e0 a9 hm => VE (Eg d call24 (xt i (.slice M i.Kids.length T) (.func (.func 169) #[] #[(.pointer (some ⟨N, 0, none⟩)), (.pointer (some ⟨Q, 0, none⟩))]) (fun (x : kd) => oX x a.2.1 a.2.2.1 a.2.2.2.1 a.2.2.2.2.1 a.2.2.2.2.2.1 a.2.2.2.2.2.2.1 a.2.2.2.2.2.2.2 c.kZ c.mu) _ _ (B.mono kz.mono (I.trans d.kw)) ⟨169, #[], #[(.pointer (some ⟨N, 0, none⟩)), (.pointer (some ⟨Q, 0, none⟩))], rfl, call169, fun W x r l hm => (yB x N O P a.2.1 R a.2.2.1 c0 a.2.2.2.1 c1 a.2.2.2.2.1 c3 a.2.2.2.2.2.1 a.2.2.2.2.2.2.1 Q a.2.2.2.2.2.2.2 (.slice U c.kZ.length Z) c.kZ (.slice Y c.mu.length K) c.mu r W (v.at (fun b o h => l _ _ ((fun b o h => d.at_ (Mt (Mt (Mt (Ml h))))) b o h))) (A.sl lV (fun b o h => l _ _ ((fun b o h => d.at_ (Mt (Mt (Mt (Ma (Ml h)))))) b o h))) (E.at (fun b o h => l _ _ ((fun b o h => d.at_ (Mt (Mt (Mt (Ma (Ma (Ml h))))))) b o h))) (F.at (fun b o h => l _ _ ((fun b o h => d.at_ (Mt (Mt (Mt (Ma (Ma (Ma (Ml h)))))))) b o h))) ((L.B5 oE).mono (Pl.mono _) (mE (fun b o h => l _ _ ((fun b o h => d.at_ (Mt (Mt (Mt (Ma (Ma (Ma (Ma (Ml h))))))))) b o h)))) (At.of (l _ _ (d.at_ (Mt Mh))) _ rfl) (At.of (l _ _ (d.at_ Mh)) _ rfl) (g.mono mG.mono ((I.trans d.kw).trans l)) (j.mono pe.mono ((I.trans d.kw).trans l)) (At.of (l _ _ (d.at_ (Mt (Mt Mh)))) _ rfl) hm).lZ⟩ a9) (fun d7 d => Wa (ln ?_))))))
 exact kM (rQ hm d)
end Go.Proofs.YtklbhegeiijbjaaGreat
