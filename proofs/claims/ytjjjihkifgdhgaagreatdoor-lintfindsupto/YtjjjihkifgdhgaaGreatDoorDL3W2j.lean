/- a part of a proof of LintFinds -/
import Derived.Test.YtjjjihkifgdhgaaGreatDoorDL3W1j
set_option linter.all false
namespace Go.Proofs.YtjjjihkifgdhgaaGreatDoor
open Go.IntKind renaming wrap → wi0
open Go.Proofs.Tryz renaming prog → pg0
open Go.RowKit
set_option maxRecDepth 10000
open Tryz
theorem te (j : Nat) (a0 : kD) (c : Int) (K : Value) (a2 : List Formula) (r : (Formula × kD)) (w : World) {μ0 : kk} (h0 : nz μ0 ((j, Ol (lE a0) 224) :: []) w) (b5 : Sl jt 5 μ0 K a2) (hm : nU a0 c a2 = some r) :
  lP false pg0 244 [(.pointer (some ⟨j, 0, none⟩)), (.int .i64 c), K] w μ0 ((j, Ol (lE a0) 224) :: []) (fun v L1 μ1 => ∃ y1, v = (.agg #[(.int .i64 ((r.1).Op)), (.int .i64 ((r.1).K)), (.string (((r.1).jq).js)), (.string (((r.1).jq).Word)), y1]) ∧ L1 = ((j, Ol (lE (r.2)) 224) :: []) ∧ Sl jt 5 μ1 y1 ((r.1).Kids)) := by
 refine uo h0 37 func244 rfl (fun b => sg (VE (kh b aP (fun W2 R b => lr (Wm (Wi rfl (VE (kh b zeroValue3 (fun W4 q b => VO (jL (.int .i64 (wi0 .i64 (5 - c))) (#[(.int .i64 (wi0 .i64 (5 - c)))]) b rfl rfl gu (EK _ (wi0 .i64 (5 - c))) nb rfl (fun W5 b => ln (jI ?_))))))))))))
 let a4 := (wi0 .i64 (5 - c))
 let a9 : Value := (.agg (C9 a4).toArray)
 refine jG (Wm (Wm (bS hm fun r6 d1 hm => ?_)))
 refine VE (eD b (bW _) call300 (fun n => lP.lz (IA c K a2 _ _ n (b5.mono jD.mono (kf.refl _)) d1)) ?_ (L0 := []))
 rintro _ f4 aa e2 b B d ⟨P, H, rfl, a3⟩
 obtain rfl := H.symm
 refine Wa (lS (Wm (V (uf (by exact vg rfl) rfl) (bS hm fun f3 c1 hm => VE (Eg b call266 (um P r6 (.func (.func 301) #[] #[(.pointer (some ⟨q, 0, none⟩))]) (fun (x : Formula) => qf x a4) _ _ (a3.mono jD.mono b.jB) ⟨301, #[], #[(.pointer (some ⟨q, 0, none⟩))], rfl, call301, fun W x vs r hs s hm => by obtain ⟨_, rfl, U⟩ := s; obtain ⟨L, rfl, A⟩ := U.out; exact (Am x L q a4 r W A (At.of (hs _ _ (b.at_ Mh)) _ rfl) hm).lz⟩ c1) (fun e5 b => ln (CI hm rfl (fun b6 hm => ?_) (fun b6 hm => ?_))))))))
 ·refine sg (VB b Mh rfl rfl bX (V (lC (v := a9) (kX rfl) (kI aP bG (tE _ bG) kr)) ?_))
  replace b := b.perm (Nb (Pb Pz) Nz)
  refine VO (jL a9 ((C9 a4).toArray) b rfl rfl aC oc nb rfl (fun e6 b => ln ?_))
  replace b := b.ju (Kb (Db St))
  refine jZ (km ?_)
  obtain rfl := sj hm
  exact mO (v := a9) rfl rfl (jy b.has Mh (C9 a4) rfl aK aC) ⟨_, _, _, rfl, (b.mc (Db (Kb Sn))), B, d, (ST.kL b (mA.mem (Db (Kb Sn)))), (.slice none 0 0), rfl, rfl, (Sl.nil _ _ _)⟩
 refine kn ?_
 replace b := b.ju (Db St)
 refine sg (Wm (bS hm fun d2 c2 hm => ?_))
 refine VE (eD b (bW _) call299 (fun n => (Cm P r6 _ _ n (a3.mono jD.mono (kf.refl _)) c2)) ?_ (L0 := []))
 rintro _ f5 f9 e3 b N h ⟨d5, c7, I, rfl, c4⟩
 obtain rfl := I.symm
 replace b := b.perm (Tr Tn)
 refine bS hm fun z c3 hm => ?_
 refine VE (eD b (Cr Qz Cn) call302 (fun n => (zc d5 d2 c7 (.func (.func 61) #[] #[]) (fun (x : (Formula × Formula)) => nB jY x.1 x.2) _ _ n c4 ⟨61, #[], #[], rfl, call61, fun W x vs r hs s hm => by obtain ⟨_, _, rfl, U, d0⟩ := s; obtain ⟨L, rfl, A⟩ := U.out; obtain ⟨t0, rfl, j0⟩ := d0.out; exact (yZ jY) x.1 L x.2 t0 r W A j0 hm⟩ c3)) ?_)
 rintro _ f6 d7 e4 b Q l ⟨d6, J, rfl, y⟩
 obtain rfl := J.symm
 refine Wa (ln (jI (CJ hm (fun O E W => ∃ a5, ST false (keys ((j, Ol (lE a0) 224) :: [])) w W d7 ((R, Ol C4 30) :: ((j, Ol (lE O) 224) :: a5)) ∧ E 1 = (.int .i64 c) ∧ E 6 = (.pointer (some ⟨R, 0, none⟩)) ∧ E 8 = d6) (fun O u => ?_) ?_)))
 ·refine sg (Wm (V (kJ aD rfl y) (Wi rfl (ln (CI u rfl (fun b9 u => ?_) (fun b9 u => ?_))))))
  ·refine jG (Wm (Wn (Wf KJ ?_)))
   replace b := b.perm (Nb (Pb Pz) Nz)
   refine VO (jL (.int .i64 12) ((lE (⟨12⟩ : kD)).toArray) b rfl rfl sizeOf109 (EK _ 12) nb rfl (fun f1 b => ln ?_))
   obtain rfl := sj u
   exact ⟨_, (b.ju (Sb (Pb Pz) St)), rfl, rfl, rfl⟩
  refine kn ?_
  obtain rfl := sj u
  exact ⟨_, (b.ju St), rfl, rfl, rfl⟩
 rintro f8 E W ⟨a5, b, c9, M, T⟩ g
 refine jI (sg (Wh T (V (kJ aD rfl y) (Wi rfl (ln (CI g rfl (fun b7 g => ?_) (fun b7 g => ?_)))))))
 ·refine sg (Wh T (bS g fun a Z g => VQ (lF (i := 0) (x0 := a) jt.out aD aC rfl rfl y (kl Z) (ki Z)) (fun f2 ⟨_, ⟨f7, rfl, Y⟩, c0⟩ => V (jv rfl (jQ b.has c0 aK aC)) ?_)))
  obtain ⟨D, G, rfl⟩ := Y.form
  let p := (C1 a.Op a.K a.jq.js a.jq.Word D a.Kids.length G)
  refine VO (jL (.agg p.toArray) (p.toArray) b M rfl aC oc nb rfl (fun e9 b => lt (km ?_)))
  obtain rfl := sj g
  exact mO (v := (.agg p.toArray)) rfl M (jy b.has Mh p rfl aK aC) ⟨_, _, _, rfl, (b.mc (Db (Kb Sn))), ((B.trans N).trans Q), ((d.trans h).trans l), (ST.kL b (mA.mem (Db (Kb Sn)))), (.slice D a.Kids.length G), rfl, rfl, Y⟩
 refine kg (Wh c9 (Wh T ?_))
 obtain ⟨k, t, rfl⟩ := y.form
 let m := (SU c k z.length t)
 refine V (lC (v := (.agg m.toArray)) (uJ rfl rfl) (kI aP bG (tE _ bG) kr)) (VO (jL (.agg m.toArray) (m.toArray) b M rfl aC oc nb rfl (fun f0 b => lt ?_)))
 obtain rfl := sj g
 exact mO (v := (.agg m.toArray)) rfl M (jy b.has Mh m rfl aK aC) ⟨_, _, _, rfl, (b.mc (Db (Kb Sn))), ((B.trans N).trans Q), ((d.trans h).trans l), (ST.kL b (mA.mem (Db (Kb Sn)))), (.slice k z.length t), rfl, rfl, y⟩
theorem Ai (G : Nat) (a0 : kD) (a1 : Int) (c2 : Value) (a2 : List Formula) (r : (Formula × kD)) (w : World) {μ0 : kk} (h0 : nz μ0 ((G, Ol (lE a0) 224) :: []) w) (c1 : Sl jt 5 μ0 c2 a2) (hm : qg a0 a1 a2 = some r) :
  lP false pg0 243 [(.pointer (some ⟨G, 0, none⟩)), (.int .i64 a1), c2] w μ0 ((G, Ol (lE a0) 224) :: []) (fun v L1 μ1 => ∃ y1, v = (.agg #[(.int .i64 ((r.1).Op)), (.int .i64 ((r.1).K)), (.string (((r.1).jq).js)), (.string (((r.1).jq).Word)), y1]) ∧ L1 = ((G, Ol (lE (r.2)) 224) :: []) ∧ Sl jt 5 μ1 y1 ((r.1).Kids)) := by
 let j6 := ((lE a0).toArray : Array Value)
 refine uo h0 58 func243 rfl (fun b => sg (VE (kh b aP (fun W2 b1 b => lr (Wa (lS (Wm ?_)))))))
 refine V (kJ aD rfl c1) (Wm (ln (ku (fun i E W => ∃ x K J N c0, (E 12 = .int .i64 (i : Nat) ∧ E 11 = .int .i64 (a2.length : Nat)) ∧ ST false (keys ((G, Obj.cells j6 224 (0, 0)) :: [])) w W μ0 ((b1, Ol C4 30) :: ((G, Obj.cells j6 224 (0, 0)) :: (N ++ c0))) ∧ E 0 = (.pointer (some ⟨G, 0, none⟩)) ∧ E 1 = (.int .i64 x) ∧ E 6 = (.pointer (some ⟨b1, 0, none⟩)) ∧ E 7 = K ∧ E 10 = c2 ∧ kE 30 jt 5 μ0 K J N ∧ mD a0 (a2.drop i) x J = some r) a2.length c1.len ⟨a1, (.slice none 0 0), ([]), [], _, ⟨rfl, rfl⟩, (b.ju St), rfl, rfl, rfl, rfl, rfl, (kE.nil _ _ _ _), hm⟩ dc dc dc (fun _ _ _ h => by obtain ⟨_, _, _, _, _, aa, _⟩ := h; exact aa) ?_ ?_)))
 ·rintro h2 E W f2 ⟨x, K, J, N, c0, ⟨eI, eN⟩, b, U, H, u, I, R, D, a⟩
  obtain ⟨c, h8, g8, g7, b7⟩ := kc f2
  rw [g8] at a
  refine bg (VQ (lF (i := (h2 : Int)) (x0 := c) jt.out aD aC R eI c1 (aG _) g7) (fun k7 ⟨_, ⟨l0, rfl, Y⟩, f3⟩ => V (jv rfl (jQ b.has f3 aK aC)) (VE (kh b aP (fun i6 k4 b => ?_)))))
  obtain ⟨y, z, rfl⟩ := Y.form
  let j4 : Value := (.slice y c.Kids.length z)
  let b8 := (C1 c.Op c.K c.jq.js c.jq.Word y c.Kids.length z)
  refine VO (jL (.agg b8.toArray) (b8.toArray) b rfl rfl aC oc nb rfl (fun i7 b => ln (bg (VA b Mh b8 aK aC (bS a fun k8 f4 a => VE (Eg b call297 (jT.lz (zd c j4 2 _ _ (Y.mono jD.mono b.jB) f4)) (fun i8 b => Wa (ln (CI a rfl (fun e5 a => ?_) (fun e5 a => ?_))))))))))
  ·refine jG (Wh H (Wi rfl (Wa (jU (ke (ke (jE ?_)))))))
   replace b := b.ju (Db St)
   exact ⟨eI, (wi0 .i64 (x - 1)), K, J, N, _, ⟨rfl, eN⟩, (b.ju St), U, rfl, u, I, R, D, (by rw [b7]; exact a)⟩
  refine sg (VA b Mh b8 aK aC (bS a fun k9 f5 a => VE (Eg b call297 (jT.lz (zd c j4 3 _ _ (Y.mono jD.mono b.jB) f5)) (fun i9 b => V (nj rfl) (Wa (ln (CI a rfl (fun e6 a => ?_) (fun e6 a => ?_))))))))
  ·refine jG (Wh I (VA b Mh b8 aK aC (VE (jW (cs := b8.toArray) b (kX rfl) (lM aD aC aP) (fun j0 k5 b => ?_)))))
   replace b := b.perm (Nr (Qb (Qb (Qb (Qb Qz)))) Nz)
   refine bS a fun h3 e7 a => VE (po (B := N) jD b dc aD lL.1 lL.2.1 rfl lL.2.2.1 lL.2.2.2 rfl rfl D (xo.lit jD (l := [c]) (.cons (ys := C1 c.Op c.K c.jq.js c.jq.Word y c.Kids.length z) (jt.mk ⟨j4, rfl, Y⟩) .nil) rfl nb (b.at_ (Ma Mh))) e7 (fun j3 h4 g9 b e4 => Wa (jU (ke (ke (jE ?_))))))
   replace b := b.ju (Kr (Db (Db St)))
   exact ⟨eI, x, h4, h3, g9, _, ⟨rfl, eN⟩, (b.ju (Sb (Pr Pz) (Sb (Pr Pz) St))), U, H, u, rfl, R, e4, (by rw [b7]; exact a)⟩
  refine kG (ke (ke (jE ?_)))
  replace b := b.ju (Db St)
  exact ⟨eI, x, K, J, N, _, ⟨rfl, eN⟩, (b.ju St), U, H, u, I, R, D, (by rw [b7]; exact a)⟩
 rintro E W ⟨x, K, J, N, c0, ⟨eI, eN⟩, b, U, H, u, I, R, D, a⟩
 rw [aH] at a
 refine jE (jI (bg (Wh H (Wi rfl (Wa (ln (CI a rfl (fun e8 a => ?_) (fun e8 a => ?_))))))))
 ·refine sg (bS a fun g f6 a => ?_)
  let j1 : Value := (.string (((g).jq).Word))
  let h7 : Value := (.string (((g).jq).js))
  refine VE (eD b (bW _) call115 (fun d => lP.lz (Bi  _ _ d  f6)) ?_ (L0 := []))
  rintro _ l1 m2 i0 b c9 m ⟨l6, b2, rfl, c3⟩
  obtain rfl := b2.symm
  obtain ⟨Z, a6, rfl⟩ := c3.form
  let e3 : Value := (.slice Z ((g).Kids).length a6)
  let d9 : Value := (.agg #[(.int .i64 ((g).Op)), (.int .i64 ((g).K)), h7, j1, e3])
  refine VO (jL d9 (#[(.int .i64 ((g).Op)), (.int .i64 ((g).K)), h7, j1, e3]) b u rfl aC oc nb rfl (fun j5 b => ln ?_))
  replace b := b.ju (Kb (Kb (Dr St)))
  refine jZ (mn (km ?_))
  obtain rfl := sj a
  exact mO (v := d9) rfl u (jy b.has Mh [(.int .i64 ((g).Op)), (.int .i64 ((g).K)), h7, j1, e3] rfl aK aC) ⟨_, _, _, rfl, (b.mc (Db (Kb Sn))), c9, m, (ST.kL b (mA.mem (Db (Kb Sn)))), e3, rfl, rfl, c3⟩
 refine sg (Wh H (Wh I (V (rS aD rfl D) (Wi rfl (Wa (ln (CI a rfl (fun e9 a => ?_) (fun e9 a => ?_))))))))
 ·refine sg (bS a fun j f7 a => ?_)
  let j2 : Value := (.string (((j).jq).Word))
  let h9 : Value := (.string (((j).jq).js))
  refine VE (eD b (bW _) call298 (fun d => lP.lz (Hk  _ _ d  f7)) ?_ (L0 := []))
  rintro _ l2 m3 i1 b d0 n ⟨l7, b3, rfl, c4⟩
  obtain rfl := b3.symm
  obtain ⟨a3, a7, rfl⟩ := c4.form
  let e2 : Value := (.slice a3 ((j).Kids).length a7)
  let d8 : Value := (.agg #[(.int .i64 ((j).Op)), (.int .i64 ((j).K)), h9, j2, e2])
  refine VO (jL d8 (#[(.int .i64 ((j).Op)), (.int .i64 ((j).K)), h9, j2, e2]) b u rfl aC oc nb rfl (fun j7 b => ln ?_))
  replace b := b.ju (Kb (Kb (Dr St)))
  refine jZ (mn (km ?_))
  obtain rfl := sj a
  exact mO (v := d8) rfl u (jy b.has Mh [(.int .i64 ((j).Op)), (.int .i64 ((j).K)), h9, j2, e2] rfl aK aC) ⟨_, _, _, rfl, (b.mc (Db (Kb Sn))), d0, n, (ST.kL b (mA.mem (Db (Kb Sn)))), e2, rfl, rfl, c4⟩
 refine sg (Wh H (Wh I (V (rS aD rfl D) (Wi rfl (Wa (ln (CI a rfl (fun f0 a => ?_) (fun f0 a => ?_))))))))
 ·refine sg (Wh U (Wh I ?_))
  replace b := b.perm (Nr (Qb (Qb Qz)) Nz)
  obtain ⟨m4, b, d1, p, g1⟩ := ST.tD jD b D
  refine bS a fun k f8 a => ?_
  let h5 : Value := (.string (((k.1).jq).Word))
  let g6 : Value := (.string (((k.1).jq).js))
  refine VE (eD b (Cb (Pb Pz) Cn) call244 (fun d => (te G a0 2 K J _ _ d (g1.mono jD.mono (kf.refl _)) f8)) ?_)
  rintro _ l3 m5 i2 b d2 q ⟨l8, b4, rfl, c5⟩
  obtain rfl := b4.symm
  replace b := b.perm (Tb Tn)
  obtain ⟨a4, a8, rfl⟩ := c5.form
  let e0 : Value := (.slice a4 ((k.1).Kids).length a8)
  let b9 : Value := (.agg #[(.int .i64 ((k.1).Op)), (.int .i64 ((k.1).K)), g6, h5, e0])
  replace b := b.perm (Nb (Pb Pz) Nz)
  refine VO (jL b9 (#[(.int .i64 ((k.1).Op)), (.int .i64 ((k.1).K)), g6, h5, e0]) b u rfl aC oc nb rfl (fun j9 b => lt (mn (km ?_))))
  obtain rfl := sj a
  exact mO (v := b9) rfl u (jy b.has Mh [(.int .i64 ((k.1).Op)), (.int .i64 ((k.1).K)), g6, h5, e0] rfl aK aC) ⟨_, _, _, rfl, (b.mc (Db (Kb Sn))), (d1.trans d2), (p.trans q), (ST.kL b (mA.mem (Db (Kb Sn)))), e0, rfl, rfl, c5⟩
 refine sg (Wh H (Wi rfl (Wa (ln (CI a rfl (fun f1 a => ?_) (fun f1 a => ?_))))))
 ·refine sg (Wh U (Wh I ?_))
  replace b := b.perm (Nr (Qb (Qb Qz)) Nz)
  obtain ⟨m6, b, d3, s, g2⟩ := ST.tD jD b D
  refine bS a fun t f9 a => ?_
  let h6 : Value := (.string (((t.1).jq).Word))
  let h1 : Value := (.string (((t.1).jq).js))
  refine VE (eD b (Cb (Pb Pz) Cn) call244 (fun d => (te G a0 3 K J _ _ d (g2.mono jD.mono (kf.refl _)) f9)) ?_)
  rintro _ l4 m7 i3 b d4 A ⟨l9, b5, rfl, c6⟩
  obtain rfl := b5.symm
  replace b := b.perm (Tb Tn)
  obtain ⟨a5, a9, rfl⟩ := c6.form
  let e1 : Value := (.slice a5 ((t.1).Kids).length a9)
  let c8 : Value := (.agg #[(.int .i64 ((t.1).Op)), (.int .i64 ((t.1).K)), h1, h6, e1])
  replace b := b.perm (Nb (Pb Pz) Nz)
  refine VO (jL c8 (#[(.int .i64 ((t.1).Op)), (.int .i64 ((t.1).K)), h1, h6, e1]) b u rfl aC oc nb rfl (fun k1 b => lt (mn (km ?_))))
  obtain rfl := sj a
  exact mO (v := c8) rfl u (jy b.has Mh [(.int .i64 ((t.1).Op)), (.int .i64 ((t.1).K)), h1, h6, e1] rfl aK aC) ⟨_, _, _, rfl, (b.mc (Db (Kb Sn))), (d3.trans d4), (s.trans A), (ST.kL b (mA.mem (Db (Kb Sn)))), e1, rfl, rfl, c6⟩
 refine kG (ke (jE (sg (Wh H (Wh I ?_)))))
 replace b := b.perm (Nr (Qb (Qb Qz)) Nz)
 obtain ⟨m8, b, d5, L, g3⟩ := ST.tD jD b D
 refine bS a fun T g0 a => ?_
 refine VE (eD b (bW _) call299 (fun d => (Cm K J _ _ d (g3.mono jD.mono (kf.refl _)) g0)) ?_ (L0 := []))
 rintro _ l5 m9 i4 b d6 O ⟨m0, i5, b6, rfl, c7⟩
 obtain rfl := b6.symm
 replace b := b.perm (Tr Tn)
 obtain ⟨M, Q, rfl⟩ := c7.form
 let g5 := (SO x M T.length Q)
 refine V (lC (v := (.agg g5.toArray)) (xv rfl rfl rfl) (kI aP bG (tE _ bG) kr)) ?_
 replace b := b.perm (Nb (Pr Pz) Nz)
 refine VO (jL (.agg g5.toArray) (g5.toArray) b u rfl aC oc nb rfl (fun k3 b => lt ?_))
 obtain rfl := sj a
 refine mO (v := (.agg g5.toArray)) rfl u (jy b.has Mh g5 rfl aK aC) ?_
 replace b := b.perm (Nr (Qb Qz) Nz)
 obtain ⟨n0, b, d7, P, g4⟩ := ST.tD jD b c7
 exact ⟨_, _, _, rfl, (b.mc (Db (Kb Sn))), ((d5.trans d6).trans d7), ((L.trans O).trans P), (ST.kL b (mA.mem (Db (Kb Sn)))), (.slice M T.length Q), rfl, rfl, g4⟩
theorem zf (c9 : kD → Formula → Option (Formula × kD)) (e9 : ∀ (u : Nat) (a0 : kD) (a : Formula) (y : Value) (r : (Formula × kD)) (w : World) {μ0 : kk} (h0 : nz μ0 ((u, Ol (lE a0) 224) :: []) w) (x : Sl jt 5 μ0 y a.Kids), c9 a0 a = some r → lP false pg0 181 [(.pointer (some ⟨u, 0, none⟩)), (.agg #[(.int .i64 a.Op), (.int .i64 a.K), (.string a.jq.js), (.string a.jq.Word), y])] w μ0 ((u, Ol (lE a0) 224) :: []) (fun v L1 μ1 => ∃ O, v = (.agg #[(.int .i64 ((r.1).Op)), (.int .i64 ((r.1).K)), (.string (((r.1).jq).js)), (.string (((r.1).jq).Word)), O]) ∧ L1 = ((u, Ol (lE (r.2)) 224) :: []) ∧ Sl jt 5 μ1 O ((r.1).Kids))) (u : Nat) (a0 : kD) (a : Formula) (y : Value) (r : (Formula × kD)) (w : World) {μ0 : kk} (h0 : nz μ0 ((u, Ol (lE a0) 224) :: []) w) (x : Sl jt 5 μ0 y a.Kids) (hm : ry c9 a0 a = some r) :
  lP false pg0 181 [(.pointer (some ⟨u, 0, none⟩)), (.agg #[(.int .i64 a.Op), (.int .i64 a.K), (.string a.jq.js), (.string a.jq.Word), y])] w μ0 ((u, Ol (lE a0) 224) :: []) (fun v L1 μ1 => ∃ O, v = (.agg #[(.int .i64 ((r.1).Op)), (.int .i64 ((r.1).K)), (.string (((r.1).jq).js)), (.string (((r.1).jq).Word)), O]) ∧ L1 = ((u, Ol (lE (r.2)) 224) :: []) ∧ Sl jt 5 μ1 O ((r.1).Kids)) := by
 let d0 := ((u, Ol (lE a0) 224) :: [])
 refine uo h0 39 func181 rfl (fun b => sg ?_)
 obtain ⟨A1, c2, rfl⟩ := x.form
 let A := (C1 a.Op a.K a.jq.js a.jq.Word A1 a.Kids.length c2)
 refine VE (kj b rfl (fun W4 b3 b => VE (kh b aP (fun W6 b5 b => lS (Wf mZ (VB b (Mt Mh) rfl rfl bX (Wi rfl (ln (CI hm rfl (fun f8 hm => ?_) (fun f8 hm => ?_))))))))))
 ·refine sg (VA b (Mt Mh) A aK aC (VO (jL (.agg A.toArray) (A.toArray) b rfl rfl aC oc nb rfl (fun W8 b => ln ?_))))
  replace b := b.ju (Kb (Db St))
  refine jZ (km ?_)
  obtain rfl := sj hm
  exact mO (v := (.agg A.toArray)) rfl rfl (jy b.has Mh A rfl aK aC) ⟨_, _, _, rfl, (b.mc (Db (Kb Sn))), (kf.refl _), Lo.refl, (ST.kL b (mA.mem (Db (Kb Sn)))), (.slice A1 a.Kids.length c2), rfl, rfl, x⟩
 refine kg (Wa (lS (Wf ng (VB b (Mt Mh) rfl rfl dI (V (kJ aD rfl x) (Wm (jU ?_)))))))
 refine jE (ku (fun i E W => ∃ I H T D J b7, (E 15 = .int .i64 (i : Nat) ∧ E 14 = .int .i64 (a.Kids.length : Nat)) ∧ kf μ0 J ∧ Lo (keys d0) w μ0 J ∧ ST false (keys d0) w W J ((u, Ol (lE D) 224) :: ((b5, Ol C4 30) :: ((b3, Ol A 30) :: (T ++ b7)))) ∧ E 0 = (.pointer (some ⟨u, 0, none⟩)) ∧ E 3 = (.pointer (some ⟨b3, 0, none⟩)) ∧ E 4 = (.pointer (some ⟨b5, 0, none⟩)) ∧ E 5 = I ∧ E 13 = (.slice A1 a.Kids.length c2) ∧ kE 30 jt 5 J I H T ∧ nE c9 a (a.Kids.drop i) H D = some r) a.Kids.length x.len ⟨(.slice none 0 0), ([]), [], a0, μ0, _, ⟨rfl, rfl⟩, (kf.refl _), Lo.refl, (b.ju (Sb (Pb (Pb Pz)) St)), rfl, rfl, rfl, rfl, rfl, (kE.nil _ _ _ _), hm⟩ dc dc dc (fun _ _ _ h => by obtain ⟨_, _, _, _, _, _, aa, _⟩ := h; exact aa) ?_ ?_)
 ·rintro f0 E W d7 ⟨I, H, T, D, J, b7, ⟨eI, eN⟩, z, d, b, a2, a3, G, R, b9, K, c⟩
  obtain ⟨t, f9, e5, e4, e6⟩ := kc d7
  rw [e5] at c
  refine bg (VQ (lF (i := (f0 : Int)) (x0 := t) jt.out aD aC b9 eI (x.mono jD.mono z) (aG _) e4) (fun h7 ⟨_, ⟨h8, rfl, c0⟩, d8⟩ => V (jv rfl (jQ b.has d8 aK aC)) (VE (kh b aP (fun g3 h5 b => ?_)))))
  obtain ⟨a7, a9, rfl⟩ := c0.form
  let a6 := (C1 t.Op t.K t.jq.js t.jq.Word a7 t.Kids.length a9)
  refine VO (jL (.agg a6.toArray) (a6.toArray) b rfl rfl aC oc nb rfl (fun g4 b => ln (jG (Wh R (Wh a2 (VA b Mh a6 aK aC (bS c fun g d9 c => ?_)))))))
  refine VE (eD b (Cb (Pb Pz) Cn) call181 (fun L => (e9 u D t (.slice a7 t.Kids.length a9) _ _ L (c0.mono jD.mono (kf.refl _)) d9)) ?_)
  rintro _ h9 f4 g0 b b6 m ⟨i2, b1, rfl, c1⟩
  obtain rfl := b1.symm
  replace b := b.perm (Tb Tn)
  obtain ⟨M, U, rfl⟩ := c1.form
  let d1 : Value := (.slice M ((g.1).Kids).length U)
  refine VE (jW (cs := #[(.int .i64 ((g.1).Op)), (.int .i64 ((g.1).K)), (.string (((g.1).jq).js)), (.string (((g.1).jq).Word)), d1]) b (kX rfl) (lM aD aC aP) (fun g8 h6 b => ?_))
  replace b := b.perm (Nr (Qb (Qb (Qb (Qb (Qb Qz))))) Nz)
  refine bS c fun f1 d5 c => VE (po (B := T) jD b dc aD lL.1 lL.2.1 rfl lL.2.2.1 lL.2.2.2 rfl rfl (K.mono jD b6) (xo.lit jD (l := [g.1]) (.cons (ys := [(.int .i64 ((g.1).Op)), (.int .i64 ((g.1).K)), (.string (((g.1).jq).js)), (.string (((g.1).jq).Word)), d1]) (jt.mk ⟨d1, rfl, c1⟩) .nil) rfl nb (b.at_ (Ma Mh))) d5 (fun g9 f2 e8 b d4 => Wa (jU (ke (jE ?_)))))
  replace b := b.ju (Kr (Db (Kb (Db St))))
  exact ⟨eI, f2, f1, e8, g.2, f4, _, ⟨rfl, eN⟩, (z.trans b6), (d.trans m), (b.ju (Sb (Pr Pz) (Sb (Pr Pz) (Sb (Pr Pz) St)))), a2, a3, G, rfl, b9, d4, (by rw [e6]; exact c)⟩
 rintro E W ⟨I, H, T, D, J, b7, ⟨eI, eN⟩, z, d, b, a2, a3, G, R, b9, K, c⟩
 rw [aH] at c
 refine jE (jI (sg (V (jz mZ a3) (VB b (Mt (Mt Mh)) rfl rfl bX (Wi rfl (ln (CI c rfl (fun d6 c => ?_) (fun d6 c => ?_))))))))
 ·refine sg (Wh a2 (V (jz qX a3) (VB b (Mt (Mt Mh)) rfl rfl bX (Wh R ?_))))
  replace b := b.perm (Nr (Qb (Qb (Qb Qz))) Nz)
  obtain ⟨i5, b, c5, n, e2⟩ := ST.tD jD b K
  refine bS c fun j e0 c => ?_
  let f3 : Value := (.string (((j.1).jq).Word))
  let d3 : Value := (.string (((j.1).jq).js))
  refine VE (eD b (Cb Pz Cn) call243 (fun L => (Ai u D a.K I H _ _ L (e2.mono jD.mono (kf.refl _)) e0)) ?_)
  rintro _ i0 i6 g1 b c6 p ⟨i3, b2, rfl, c3⟩
  obtain rfl := b2.symm
  replace b := b.perm (Tb Tn)
  obtain ⟨N, Y, rfl⟩ := c3.form
  let b8 : Value := (.slice N ((j.1).Kids).length Y)
  let a5 : Value := (.agg #[(.int .i64 ((j.1).Op)), (.int .i64 ((j.1).K)), d3, f3, b8])
  replace b := b.perm (Nb (Pb Pz) Nz)
  refine VO (jL a5 (#[(.int .i64 ((j.1).Op)), (.int .i64 ((j.1).K)), d3, f3, b8]) b G rfl aC oc nb rfl (fun h2 b => ln ?_))
  replace b := b.ju (Kb (Kb (Db St)))
  refine jZ (km ?_)
  obtain rfl := sj c
  exact mO (v := a5) rfl G (jy b.has Mh [(.int .i64 ((j.1).Op)), (.int .i64 ((j.1).K)), d3, f3, b8] rfl aK aC) ⟨_, _, _, rfl, (b.mc (Db (Kb Sn))), ((z.trans c5).trans c6), ((d.trans n).trans p), (ST.kL b (mA.mem (Db (Kb Sn)))), b8, rfl, rfl, c3⟩
 refine kg (Wh a2 (V (jz mZ a3) (VB b (Mt (Mt Mh)) rfl rfl bX (Wh R ?_))))
 replace b := b.perm (Nr (Qb (Qb (Qb Qz))) Nz)
 obtain ⟨i7, b, c7, q, e3⟩ := ST.tD jD b K
 refine bS c fun k e1 c => ?_
 let f5 : Value := (.int .i64 ((k.1).Op))
 let e7 : Value := (.string (((k.1).jq).Word))
 let d2 : Value := (.string (((k.1).jq).js))
 refine VE (eD b (Cb Pz Cn) call244 (fun L => (te u D a.Op I H _ _ L (e3.mono jD.mono (kf.refl _)) e1)) ?_)
 rintro _ i1 i8 g2 b c8 s ⟨i4, b4, rfl, c4⟩
 obtain rfl := b4.symm
 replace b := b.perm (Tb Tn)
 obtain ⟨Q, Z, rfl⟩ := c4.form
 let P : Value := (.slice Q ((k.1).Kids).length Z)
 let a4 : Value := (.agg #[f5, (.int .i64 ((k.1).K)), d2, e7, P])
 replace b := b.perm (Nb (Pb Pz) Nz)
 refine VO (jL a4 (#[f5, (.int .i64 ((k.1).K)), d2, e7, P]) b G rfl aC oc nb rfl (fun h4 b => ln ?_))
 replace b := b.ju (Kb (Kb (Db St)))
 refine jZ ?_
 obtain rfl := sj c
 exact mO (v := a4) rfl G (jy b.has Mh [f5, (.int .i64 ((k.1).K)), d2, e7, P] rfl aK aC) ⟨_, _, _, rfl, (b.mc (Db (Kb Sn))), ((z.trans c7).trans c8), ((d.trans q).trans s), (ST.kL b (mA.mem (Db (Kb Sn)))), P, rfl, rfl, c4⟩
theorem wS : ∀ (n : Nat) (c : Nat) (j : kD) (g : Formula) (a : Value) (r : (Formula × kD)) (w : World) {k : kk} (y : nz k ((c, Ol (lE j) 224) :: []) w) (i : Sl jt 5 k a g.Kids) (_ : nf n j g = some r),
  lP false pg0 181 [(.pointer (some ⟨c, 0, none⟩)), (.agg #[(.int .i64 g.Op), (.int .i64 g.K), (.string g.jq.js), (.string g.jq.Word), a])] w k ((c, Ol (lE j) 224) :: []) (fun v u x => ∃ t, v = (.agg #[(.int .i64 ((r.1).Op)), (.int .i64 ((r.1).K)), (.string (((r.1).jq).js)), (.string (((r.1).jq).Word)), t]) ∧ u = ((c, Ol (lE (r.2)) 224) :: []) ∧ Sl jt 5 x t ((r.1).Kids))
 | 0 => by intros; rename_i h; simp only [nf] at h; cases h
 | n + 1 => zf (nf n) (wS n)
theorem B3 (c : Formula) (u : Value) (r : (Formula × Int)) (w : World) {Z : kk} (A : nz Z [] w) (k : Sl jt 5 Z u c.Kids) (hm : vG c = some r) :
  lP false pg0 114 [(.agg #[(.int .i64 c.Op), (.int .i64 c.K), (.string c.jq.js), (.string c.jq.Word), u])] w Z [] (fun v L1 μ1 => ∃ q, v = (.tuple #[(.agg #[(.int .i64 ((r.1).Op)), (.int .i64 ((r.1).K)), (.string (((r.1).jq).js)), (.string (((r.1).jq).Word)), q]), (.int .i64 (r.2))]) ∧ L1 = [] ∧ Sl jt 5 μ1 q ((r.1).Kids)) := by
 refine uo A 27 func114 rfl (fun b => sg ?_)
 obtain ⟨H, I, rfl⟩ := k.form
 let n := (C1 c.Op c.K c.jq.js c.jq.Word H c.Kids.length I)
 refine VE (kj b rfl (fun W4 O b => VE (kh b aP (fun W6 p b => Wa (lS (VA b (Mt Mh) n aK aC (bS hm fun r7 a5 hm => VE (Eg b call129 (vK c (.slice H c.Kids.length I) _ _ (k.mono jD.mono b.jB) a5) (fun W9 b => V (nj rfl) (ln (CI hm rfl (fun Q hm => ?_) (fun Q hm => ?_))))))))))))
 ·refine sg (V (lC (v := (.agg C4.toArray)) qa (kI aP bG (tE _ bG) kr)) (VO (jL (.agg C4.toArray) (C4.toArray) b rfl rfl aC oc nb rfl (fun R b => Wa (ln ?_)))))
  replace b := b.ju (Kb (Db St))
  refine jZ (km ?_)
  obtain rfl := sj hm
  exact qJ (v0 := (.agg C4.toArray)) (v1 := (.int .i64 11)) rfl rfl (jy b.has Mh C4 rfl aK aC) rfl ⟨_, _, _, rfl, (b.mc Sn), (kf.refl _), Lo.refl, (ST.kL b (mA.mem Sn)), (.slice none 0 0), rfl, rfl, (Sl.nil _ _ _)⟩
 refine kg (V (lC (v := (.agg (lE K5).toArray)) qa (kI zeroValue224 iO (Si _ iO) kr)) (VE (kj b rfl (fun b7 s b => Wa (lr (Wm (VA b (Mt (Mt Mh)) n aK aC (bS hm fun a U hm => ?_))))))))
 let m : Value := (.int .i64 ((a.1).K))
 let l : Value := (.int .i64 ((a.1).Op))
 let h : Value := (.string (((a.1).jq).Word))
 let a2 : Value := (.string (((a.1).jq).js))
 refine VE (eD b (Cb Pz Cn) call181 (fun L => ((wS jY) s K5 c (.slice H c.Kids.length I) _ _ L (k.mono jD.mono (kf.refl _)) U)) ?_)
 rintro _ c7 a9 P b D d ⟨c9, y, rfl, z⟩
 obtain rfl := y.symm
 replace b := b.perm (Tb Tn)
 refine VE (kh b aP (fun c0 K b => ?_))
 obtain ⟨i, j, rfl⟩ := z.form
 let a0 : Value := (.slice i ((a.1).Kids).length j)
 let N : Value := (.agg #[l, m, a2, h, a0])
 refine VO (jL N (#[l, m, a2, h, a0]) b rfl rfl aC oc nb rfl (fun c1 b => ln ?_))
 replace b := b.ju (Kb (Kb (Kb (Db St))))
 refine jI (sg (Wm (Wn (Wf KJ (VB b (Mt Mh) rfl rfl isAgg109 (Wi rfl (Wm (LJ hm (fun M E W => ∃ J, ST false (keys []) w W a9 ((K, Ob #[l, m, a2, h, a0] 30) :: ((p, Ol C4 30) :: J)) ∧ E 2 = (.pointer (some ⟨p, 0, none⟩)) ∧ E 5 = (.pointer (some ⟨K, 0, none⟩)) ∧ E 24 = (.bool M)) 4 ?_ (fun M t G => ?_)))))))))
 ·rintro c8 E W ⟨J, b, B, a3, a4⟩ x
  refine ln (CI x a4 (fun T x => ?_) (fun T x => ?_))
  ·refine sg (V (lC (v := (.agg C4.toArray)) qa (kI aP bG (tE _ bG) kr)) ?_)
   replace b := b.perm (Nb (Pb Pz) Nz)
   refine VO (jL (.agg C4.toArray) (C4.toArray) b B rfl aC oc nb rfl (fun c3 b => Wa (ln ?_)))
   replace b := b.ju (Kb (Db St))
   refine jZ (km ?_)
   obtain rfl := sj x
   exact qJ (v0 := (.agg C4.toArray)) (v1 := (.int .i64 12)) rfl B (jy b.has Mh C4 rfl aK aC) rfl ⟨_, _, _, rfl, (b.mc Sn), D, d, (ST.kL b (mA.mem Sn)), (.slice none 0 0), rfl, rfl, (Sl.nil _ _ _)⟩
  refine kg (V (jv a3 (jy b.has Mh [l, m, a2, h, a0] rfl aK aC)) ?_)
  replace b := b.perm (Nb (Pb Pz) Nz)
  refine VO (jL N (#[l, m, a2, h, a0]) b B rfl aC oc nb rfl (fun c4 b => Wa (ln ?_)))
  replace b := b.ju (Kb (Db St))
  refine jZ ?_
  obtain rfl := sj x
  exact qJ (v0 := N) (v1 := (.int .i64 0)) rfl B (jy b.has Mh [l, m, a2, h, a0] rfl aK aC) rfl ⟨_, _, _, rfl, (b.mc Sn), D, d, (ST.kL b (mA.mem Sn)), a0, rfl, rfl, z⟩
 refine bC t (fun g t => ?_) (fun g t => ?_)
 ·refine un g (un g (un g (V (jM (cB g) rfl) ?_)))
  obtain rfl := sj t
  exact G _ _ ⟨_, (b.ju (Kb (Db St))), rfl, rfl, rfl⟩
 refine ug g (jv rfl (jy b.has Mh [l, m, a2, h, a0] rfl aK aC)) (bS t fun c6 Y t => rB g (Eg b call129 (vK a.1 a0 _ _ (z.mono jD.mono b.jB) Y) (fun c5 b => ug g (nj rfl) (V (jO (cB g) rfl) ?_))))
 obtain rfl := sj t
 exact G _ _ ⟨_, (b.ju (Kb (Db St))), rfl, rfl, rfl⟩
theorem Iu (a : Formula) (k : Value) (c : Formula) (t : Value) (r : (Formula × Int)) (w : World) {N : kk} (q : nz N [] w) (i : Sl jt 5 N k a.Kids) (j : Sl jt 5 N t c.Kids) (hm : xC a c = some r) :
  lP false pg0 258 [(.agg #[(.int .i64 a.Op), (.int .i64 a.K), (.string a.jq.js), (.string a.jq.Word), k]), (.agg #[(.int .i64 c.Op), (.int .i64 c.K), (.string c.jq.js), (.string c.jq.Word), t])] w N [] (fun v Z μ1 => ∃ Y, v = (.tuple #[(.agg #[(.int .i64 ((r.1).Op)), (.int .i64 ((r.1).K)), (.string (((r.1).jq).js)), (.string (((r.1).jq).Word)), Y]), (.int .i64 (r.2))]) ∧ Z = [] ∧ Sl jt 5 μ1 Y ((r.1).Kids)) := by
 refine uo q 13 func258 rfl (fun b => sg ?_)
 obtain ⟨u, z, rfl⟩ := i.form
 let a3 : Value := (.slice u a.Kids.length z)
 refine VE (kj b rfl (fun W4 R b => ?_))
 obtain ⟨y, G, rfl⟩ := j.form
 let n : Value := (.slice y c.Kids.length G)
 refine VE (kj b rfl (fun W8 W b => VE (kh b aP (fun a5 b9 b => Wa (lr (VA b (Mt (Mt Mh)) (C1 a.Op a.K a.jq.js a.jq.Word u a.Kids.length z) aK aC (VA b (Mt Mh) (C1 c.Op c.K c.jq.js c.jq.Word y c.Kids.length G) aK aC (VE (jW (cs := #[(.int .i64 a.Op), (.int .i64 a.K), (.string a.jq.js), (.string a.jq.Word), a3, (.int .i64 c.Op), (.int .i64 c.K), (.string c.jq.js), (.string c.jq.Word), n]) b (uJ rfl rfl) (lM aD aC aP) (fun A I b => V (lC (v := (.agg #[(.int .i64 2), (.int .i64 0), (.string zS), (.string zS), (.slice (some ⟨I, 0, none⟩) 2 2)])) (uJ rfl rfl) (kI aP bG (tE _ bG) kr)) ?_))))))))))
 obtain ⟨O, b, K, d, U⟩ := ST.tD (B := [(I, Ob #[(.int .i64 a.Op), (.int .i64 a.K), (.string a.jq.js), (.string a.jq.Word), a3, (.int .i64 c.Op), (.int .i64 c.K), (.string c.jq.js), (.string c.jq.Word), n] 30)]) jD b (kE.lit jD (l := [a, c]) (.cons (ys := C1 a.Op a.K a.jq.js a.jq.Word u a.Kids.length z) (jt.mk ⟨a3, rfl, i⟩) (.cons (ys := C1 c.Op c.K c.jq.js c.jq.Word y c.Kids.length G) (jt.mk ⟨n, rfl, j⟩) .nil)) rfl nb rfl)
 refine bS hm fun g T hm => ?_
 let p : Value := (.int .i64 ((g.1).Op))
 let a2 : Value := (.string (((g.1).jq).Word))
 let m : Value := (.string (((g.1).jq).js))
 refine VE (eD b (bW _) call114 (fun s => (B3 (⟨2, 0, K0, [a, c]⟩ : Formula) (.slice (some ⟨I, 0, none⟩) 2 2) _ _ s (U.mono jD.mono (kf.refl _)) T)) ?_ (L0 := []))
 rintro _ a9 P a4 b M h ⟨L, H, rfl, J⟩
 obtain rfl := H.symm
 refine Wx rfl (Wx rfl ?_)
 obtain ⟨x, D, rfl⟩ := J.form
 let a0 : Value := (.slice x ((g.1).Kids).length D)
 let Q : Value := (.agg #[p, (.int .i64 ((g.1).K)), m, a2, a0])
 refine VO (jL Q (#[p, (.int .i64 ((g.1).K)), m, a2, a0]) b rfl rfl aC oc nb rfl (fun E b => Wa (ln ?_)))
 replace b := b.ju (Kb (Db (Db St)))
 refine jZ ?_
 obtain rfl := sj hm
 exact qJ (v0 := Q) (v1 := (.int .i64 g.2)) rfl rfl (jy b.has Mh [p, (.int .i64 ((g.1).K)), m, a2, a0] rfl aK aC) rfl ⟨_, _, _, rfl, (b.mc Sn), (K.trans M), (d.trans h), (ST.kL b (mA.mem Sn)), a0, rfl, rfl, J⟩
theorem Ks (d1 : Value) (a0 : List Formula) (r : (Formula × Int)) (w : World) {μ0 : kk} (h0 : nz μ0 [] w) (c7 : Sl jt 5 μ0 d1 a0) (hm : vz a0 = some r) :
  lP false pg0 194 [d1] w μ0 [] (fun v L1 μ1 => ∃ y1, v = (.tuple #[(.agg #[(.int .i64 ((r.1).Op)), (.int .i64 ((r.1).K)), (.string (((r.1).jq).js)), (.string (((r.1).jq).Word)), y1]), (.int .i64 (r.2))]) ∧ L1 = [] ∧ Sl jt 5 μ1 y1 ((r.1).Kids)) := by
 let e5 := (a0.drop (Int.toNat 1))
 refine uo h0 36 func194 rfl (fun b => sg (VE (kh b aP (fun W2 A b => Wa (lr (Wm (bS hm fun x6 e3 hm => VQ (lF (i := 0) (x0 := x6) jt.out aD aC rfl rfl c7 (kl e3) (ki e3)) (fun p3 ⟨_, ⟨v8, rfl, f2⟩, f1⟩ => V (jv rfl (jQ b.has f1 aK aC)) (bS hm fun j e6 hm => ?_)))))))))
 refine VE (eD b (bW _) call114 (fun hh => (B3 x6 v8 _ _ hh (f2.mono jD.mono (kf.refl _)) e6)) ?_ (L0 := []))
 rintro _ i4 a9 i0 b a4 m ⟨i5, b6, rfl, d0⟩
 obtain rfl := b6.symm
 refine Wm (Wx rfl (Wx rfl (VE (kh b aP (fun i2 L b => ?_)))))
 obtain ⟨c2, c5, rfl⟩ := d0.form
 let d2 : Value := (.slice c2 ((j.1).Kids).length c5)
 refine VO (jL (.agg #[(.int .i64 ((j.1).Op)), (.int .i64 ((j.1).K)), (.string (((j.1).jq).js)), (.string (((j.1).jq).Word)), d2]) (#[(.int .i64 ((j.1).Op)), (.int .i64 ((j.1).K)), (.string (((j.1).jq).js)), (.string (((j.1).jq).Word)), d2]) b rfl rfl aC oc nb rfl (fun i3 b => Wa (lS (Wm (bS hm fun _ c8 hm => VQ (BY (i := 1) aD aC rfl rfl (c7.mono jD.mono a4) (uw c8) (uu c8)) (fun f3 b5 => V (kJ aD rfl b5.1) (Wm (ln (CJ hm (fun u E W => ∃ q U c3, kf a9 U ∧ Lo (keys []) w a9 U ∧ ST false (keys []) w W U ((L, Ob #[(.int .i64 u.2.1), (.int .i64 u.2.2.1), (.string u.2.2.2.1.js), (.string u.2.2.2.1.Word), q] 30) :: ((A, Ol C4 30) :: c3)) ∧ E 2 = (.pointer (some ⟨A, 0, none⟩)) ∧ E 4 = (.pointer (some ⟨L, 0, none⟩)) ∧ E 5 = (.int .i64 u.1) ∧ Sl jt 5 U q u.2.2.2.2) (fun u d7 => ?_) ?_)))))))))
 ·refine ku (fun i E W => ∃ s G H y x N z P, (E 18 = .int .i64 (i : Nat) ∧ E 17 = .int .i64 (e5.length : Nat)) ∧ kf a9 z ∧ Lo (keys []) w a9 z ∧ ST false (keys []) w W z ((L, Ob #[(.int .i64 G), (.int .i64 H), (.string y.js), (.string y.Word), x] 30) :: ((A, Ol C4 30) :: P)) ∧ E 2 = (.pointer (some ⟨A, 0, none⟩)) ∧ E 4 = (.pointer (some ⟨L, 0, none⟩)) ∧ E 5 = (.int .i64 s) ∧ E 16 = f3 ∧ Sl jt 5 z x N ∧ sQ (e5.drop i) s G H y N = some u) e5.length b5.1.len ⟨j.2, ((j.1).Op), ((j.1).K), ((j.1).jq), d2, ((j.1).Kids), a9, _, ⟨rfl, rfl⟩, (kf.refl _), Lo.refl, (b.ju St), rfl, rfl, rfl, rfl, d0, d7⟩ dc dc dc (fun _ _ _ h => by obtain ⟨_, _, _, _, _, _, _, _, aa, _⟩ := h; exact aa) ?_ ?_
  ·rintro e7 E W d6 ⟨s, G, H, y, x, N, z, P, ⟨eI, eN⟩, t, d, b, a2, D, a3, R, I, c⟩
   obtain ⟨a, f6, e1, e0, e2⟩ := kc d6
   rw [e1] at c
   refine bg (VQ (lF (i := (e7 : Int)) (x0 := a) jt.out aD aC R eI (b5.1.mono jD.mono t) (aG _) e0) (fun h1 ⟨_, ⟨h4, rfl, c0⟩, d8⟩ => V (jv rfl (jQ b.has d8 aK aC)) (VE (kh b aP (fun g2 g8 b => ?_)))))
   obtain ⟨Y, Z, rfl⟩ := c0.form
   let b8 := (C1 a.Op a.K a.jq.js a.jq.Word Y a.Kids.length Z)
   refine VO (jL (.agg b8.toArray) (b8.toArray) b rfl rfl aC oc nb rfl (fun g3 b => lS (Wh a3 (Wi rfl (ln (CI c rfl (fun d5 c => ?_) (fun d5 c => ?_)))))))
   ·refine na (mR (RR (by simp) (mR (qp (jE ?_)))))
    obtain rfl := sj c
    exact ⟨x, z, _, t, d, (b.ju (Db St)), a2, D, a3, I⟩
   refine kn (jG (V (jv D (jy b.has (Mt Mh) [(.int .i64 G), (.int .i64 H), (.string y.js), (.string y.Word), x] rfl aK aC)) (VA b Mh b8 aK aC (bS c fun g d9 c => ?_))))
   refine VE (eD b (bW _) call258 (fun hh => (Iu (⟨G, H, y, N⟩ : Formula) x a (.slice Y a.Kids.length Z) _ _ hh (I.mono jD.mono (kf.refl _)) (c0.mono jD.mono (kf.refl _)) d9)) ?_ (L0 := []))
   rintro _ h5 f0 f9 b c9 n ⟨h8, a5, rfl, c1⟩
   obtain rfl := a5.symm
   refine Wm (Wx rfl (Wx rfl ?_))
   obtain ⟨b0, b3, rfl⟩ := c1.form
   let d3 : Value := (.slice b0 ((g.1).Kids).length b3)
   replace b := b.perm (Nb (Pb Pz) Nz)
   refine VO (jL (.agg #[(.int .i64 ((g.1).Op)), (.int .i64 ((g.1).K)), (.string (((g.1).jq).js)), (.string (((g.1).jq).Word)), d3]) (#[(.int .i64 ((g.1).Op)), (.int .i64 ((g.1).K)), (.string (((g.1).jq).js)), (.string (((g.1).jq).Word)), d3]) b D rfl aC oc nb rfl (fun g7 b => Wa (jU (ke (jE ?_)))))
   replace b := b.ju (Kb (Db St))
   exact ⟨eI, g.2, ((g.1).Op), ((g.1).K), ((g.1).jq), d3, ((g.1).Kids), f0, _, ⟨rfl, eN⟩, (t.trans c9), (d.trans n), (b.ju St), a2, D, rfl, R, c1, (by rw [e2]; exact c)⟩
  rintro E W ⟨s, G, H, y, x, N, z, P, ⟨eI, eN⟩, t, d, b, a2, D, a3, R, I, c⟩
  rw [aH] at c
  refine jE ?_
  obtain rfl := sj c
  exact ⟨x, z, _, t, d, (b.ju St), a2, D, a3, I⟩
 rintro ⟨e8, Q, T, k, M⟩ E W ⟨q, U, c3, a8, l, b, p, e4, c6, b9⟩ B
 refine jI (sg (Wh c6 (Wi rfl (ln (CI B rfl (fun d4 B => ?_) (fun d4 B => ?_))))))
 ·refine sg (V (lC (v := (.agg C4.toArray)) qa (kI aP bG (tE _ bG) kr)) (Wh c6 ?_))
  replace b := b.perm (Nb (Pb Pz) Nz)
  refine VO (jL (.agg C4.toArray) (C4.toArray) b p rfl aC oc nb rfl (fun g0 b => Wa (ln ?_)))
  replace b := b.ju (Kb (Db St))
  refine jZ (km ?_)
  obtain rfl := sj B
  exact qJ (v0 := (.agg C4.toArray)) (v1 := (.int .i64 e8)) rfl p (jy b.has Mh C4 rfl aK aC) rfl ⟨_, _, _, rfl, (b.mc Sn), (a4.trans a8), (m.trans l), (ST.kL b (mA.mem Sn)), (.slice none 0 0), rfl, rfl, (Sl.nil _ _ _)⟩
 refine kg (V (jv e4 (jy b.has Mh [(.int .i64 Q), (.int .i64 T), (.string k.js), (.string k.Word), q] rfl aK aC)) ?_)
 obtain ⟨J, K, rfl⟩ := b9.form
 let O := (C1 Q T k.js k.Word J M.length K)
 replace b := b.perm (Nb (Pb Pz) Nz)
 refine VO (jL (.agg O.toArray) (O.toArray) b p rfl aC oc nb rfl (fun g1 b => Wa (ln ?_)))
 replace b := b.ju (Kb (Db St))
 refine jZ ?_
 obtain rfl := sj B
 exact qJ (v0 := (.agg O.toArray)) (v1 := (.int .i64 0)) rfl p (jy b.has Mh O rfl aK aC) rfl ⟨_, _, _, rfl, (b.mc Sn), (a4.trans a8), (m.trans l), (ST.kL b (mA.mem Sn)), (.slice J M.length K), rfl, rfl, b9⟩
theorem Mv (k : kx) (G H : Value) (p : jr) (r : (Formula × Int)) (w : World) {μ0 : kk} (h0 : nz μ0 [] w) (t : Sl ko 15 μ0 G k.jF) (y : Sl kQ 8 μ0 H k.jP) (hm : Ao k p = some r) :
  lP false pg0 124 [(.agg #[(.string k.Name), G, H]), (.agg (jw p).toArray)] w μ0 [] (fun v L1 μ1 => ∃ y1, v = (.tuple #[(.agg #[(.int .i64 ((r.1).Op)), (.int .i64 ((r.1).K)), (.string (((r.1).jq).js)), (.string (((r.1).jq).Word)), y1]), (.int .i64 (r.2))]) ∧ L1 = [] ∧ Sl jt 5 μ1 y1 ((r.1).Kids)) := by
 refine uo h0 41 func124 rfl (fun b => sg ?_)
 obtain ⟨A1, c2, rfl⟩ := t.form
 obtain ⟨A3, R, rfl⟩ := y.form
 let f5 := (C3 k.Name A1 k.jF.length c2 A3 k.jP.length R)
 refine VE (kj b rfl (fun W6 b5 b => VE (kj b rfl (fun W8 b7 b => VE (kh b aP (fun i4 b9 b => Wa (lr (VA b (Mt (Mt Mh)) f5 cY cM (VA b (Mt Mh) (jw p) bU aM (bS hm fun a e7 hm => ?_))))))))))
 let b8 : Value := (.int .i64 (((a.1).jx).K))
 let q : Value := (.int .i64 (((a.1).jx).Op))
 let b1 := (((a.1).jx).jq)
 let s : Value := (.string (b1.Word))
 let d8 : Value := (.string (b1.js))
 let a0 := (((a.1).Signed).jr)
 refine VE (eD b (bW _) call192 (fun A => (J9 k (.slice A1 k.jF.length c2) (.slice A3 k.jP.length R) p _ _ A (t.mono kB.mono (kf.refl _)) (y.mono mi.mono (kf.refl _)) e7)) ?_ (L0 := []))
 rintro _ j4 j8 i2 b I d ⟨j6, j7, a5, rfl, e9, c5⟩
 obtain rfl := a5.symm
 refine Wm (Wx rfl (Wx rfl (VE (kh b eO (fun i6 j3 b => ?_)))))
 obtain ⟨d9, e1, rfl⟩ := e9.form
 let f8 : Value := (.slice d9 (((a.1).Signed).Tag).length e1)
 obtain ⟨z, D, rfl⟩ := c5.form
 let a2 : Value := (.slice z (((a.1).jx).Kids).length D)
 refine VO (jL (.agg #[(.int .i64 (a0.Kind)), (.string ((a0.Head).js)), (.string ((a0.Head).Word)), (.string (a0.kz)), (.string ((a0.B).js)), (.string ((a0.B).Word)), (.string ((a0.C).js)), (.string ((a0.C).Word)), (.string (a0.kK)), f8, q, b8, d8, s, a2]) (#[(.int .i64 (a0.Kind)), (.string ((a0.Head).js)), (.string ((a0.Head).Word)), (.string (a0.kz)), (.string ((a0.B).js)), (.string ((a0.B).Word)), (.string ((a0.C).js)), (.string ((a0.C).Word)), (.string (a0.kK)), f8, q, b8, d8, s, a2]) b rfl rfl dn oc nb rfl (fun i7 b => Wa (lS (Wm (V (nj rfl) (ln (CI hm rfl (fun e6 hm => ?_) (fun e6 hm => ?_))))))))
 ·refine sg (V (lC (v := (.agg C4.toArray)) qa (kI aP bG (tE _ bG) kr)) ?_)
  replace b := b.perm (Nb (Pb Pz) Nz)
  refine VO (jL (.agg C4.toArray) (C4.toArray) b rfl rfl aC oc nb rfl (fun i8 b => Wa (ln ?_)))
  replace b := b.ju (Kb (Db (Db (Db St))))
  refine jZ (km ?_)
  obtain rfl := sj hm
  exact qJ (v0 := (.agg C4.toArray)) (v1 := (.int .i64 42)) rfl rfl (jy b.has Mh C4 rfl aK aC) rfl ⟨_, _, _, rfl, (b.mc Sn), I, d, (ST.kL b (mA.mem Sn)), (.slice none 0 0), rfl, rfl, (Sl.nil _ _ _)⟩
 refine kg (Wf JQ (VA b Mh [q, b8, d8, s, a2] aK aC (VE (jW (cs := #[q, b8, d8, s, a2]) b (kX rfl) (lM aD aC aP) (fun i9 e0 b => Wa (ln ?_))))))
 replace b := b.ju (Kb (Db St))
 refine jI (sg (VA b (Mt (Mt (Mt Mh))) f5 cY cM (VA b (Mt (Mt Mh)) (jw p) bU aM (bS hm fun c6 e8 hm => ?_))))
 refine VE (eD b (bW _) call193 (fun A => (IB k (.slice A1 k.jF.length c2) (.slice A3 k.jP.length R) p _ _ A (t.mono kB.mono I) (y.mono mi.mono I) e8)) ?_ (L0 := []))
 rintro _ j5 e2 i3 b a8 L ⟨f6, a6, rfl, P⟩
 obtain rfl := a6.symm
 refine V (kJ cX rfl P) (Wm (ln ?_))
 replace b := b.ju (Kb (Kb (Db (Db St))))
 replace b := b.Ep
 refine ku (fun i E W => ∃ Q N K Z, (E 27 = .int .i64 (i : Nat) ∧ E 26 = .int .i64 (c6.length : Nat)) ∧ ST false (keys []) w W e2 ((b9, Ol C4 30) :: (K ++ Z)) ∧ E 4 = (.pointer (some ⟨b9, 0, none⟩)) ∧ E 8 = Q ∧ E 25 = f6 ∧ kE 30 jt 5 e2 Q N K ∧ tI (c6.drop i) N = some r) c6.length P.len ⟨(.slice (some ⟨e0, 0, none⟩) 1 1), ([(a.1).jx]), [(e0, Ob #[q, b8, d8, s, a2] 30)], _, ⟨rfl, rfl⟩, (b.ju (Sb (Pr Pz) St)), rfl, rfl, rfl, (kE.lit jD (l := [(a.1).jx]) (.cons (ys := [q, b8, d8, s, a2]) (jt.mk ⟨a2, rfl, (c5.mono jD.mono a8)⟩) .nil) rfl nb rfl), hm⟩ dc dc dc (fun _ _ _ h => by obtain ⟨_, _, _, _, aa, _⟩ := h; exact aa) ?_ ?_
 ·rintro f0 E W d0 ⟨Q, N, K, Z, ⟨eI, eN⟩, b, T, a3, a4, U, j⟩
  obtain ⟨c, f7, d6, d5, d7⟩ := kc d0
  rw [d6] at j
  refine bg (VQ (lF (i := (f0 : Int)) (x0 := c) kQ.out cX dv a4 eI P (aG _) d5) (fun h2 ⟨_, ⟨h5, h6, rfl, a9, d3⟩, d1⟩ => V (jv rfl (jQ b.has d1 gK dv)) (VE (kh b fp (fun g0 g8 b => ?_)))))
  obtain ⟨u, x, rfl⟩ := a9.form
  let c7 := (C1 c.jx.Op c.jx.K c.jx.jq.js c.jx.jq.Word u c.jx.Kids.length x)
  obtain ⟨b2, b6, rfl⟩ := d3.form
  let c0 := (C6 c.jq.js c.jq.Word c.jx.Op c.jx.K c.jx.jq.js c.jx.jq.Word u c.jx.Kids.length x b2 c.lj.length b6)
  refine VO (jL (.agg c0.toArray) (c0.toArray) b rfl rfl dv oc nb rfl (fun g1 b => ln (jG (Wh a3 (Wf Hh (VA b Mh c7 aK aC (VE (jW (cs := c7.toArray) b (kX rfl) (lM aD aC aP) (fun g2 g9 b => ?_)))))))))
  replace b := b.perm (Nr (Qb (Qb (Qb Qz))) Nz)
  refine bS j fun f1 c9 j => VE (po (B := K) jD b dc aD lL.1 lL.2.1 rfl lL.2.2.1 lL.2.2.2 rfl rfl U (xo.lit jD (l := [c.jx]) (.cons (ys := C1 c.jx.Op c.jx.K c.jx.jq.js c.jx.jq.Word u c.jx.Kids.length x) (jt.mk ⟨(.slice u c.jx.Kids.length x), rfl, a9⟩) .nil) rfl nb (b.at_ (Ma Mh))) c9 (fun g3 f2 e3 b c8 => Wa (jU (ke (jE ?_)))))
  replace b := b.ju (Kr (Db (Db St)))
  exact ⟨eI, f2, f1, e3, _, ⟨rfl, eN⟩, (b.ju (Sb (Pr Pz) St)), T, rfl, a4, c8, (by rw [d7]; exact j)⟩
 rintro E W ⟨Q, N, K, Z, ⟨eI, eN⟩, b, T, a3, a4, U, j⟩
 rw [aH] at j
 refine jE (sg (Wh a3 ?_))
 replace b := b.perm (Nr (Qb Qz) Nz)
 obtain ⟨i0, b, c1, m, d4⟩ := ST.tD jD b U
 refine bS j fun g d2 j => ?_
 let g4 : Value := (.int .i64 ((g.1).Op))
 let f4 : Value := (.string (((g.1).jq).Word))
 let f3 : Value := (.string (((g.1).jq).js))
 refine VE (eD b (bW _) call194 (fun A => (Ks Q N _ _ A (d4.mono jD.mono (kf.refl _)) d2)) ?_ (L0 := []))
 rintro _ h7 i1 f9 b c3 n ⟨h8, Y, rfl, b0⟩
 obtain rfl := Y.symm
 refine Wx rfl (Wx rfl ?_)
 obtain ⟨J, M, rfl⟩ := b0.form
 let O : Value := (.slice J ((g.1).Kids).length M)
 let b4 : Value := (.agg #[g4, (.int .i64 ((g.1).K)), f3, f4, O])
 refine VO (jL b4 (#[g4, (.int .i64 ((g.1).K)), f3, f4, O]) b T rfl aC oc nb rfl (fun g7 b => Wa (lt ?_)))
 obtain rfl := sj j
 exact qJ (v0 := b4) (v1 := (.int .i64 g.2)) rfl T (jy b.has Mh [g4, (.int .i64 ((g.1).K)), f3, f4, O] rfl aK aC) rfl ⟨_, _, _, rfl, (b.mc Sn), (((I.trans a8).trans c1).trans c3), (((d.trans L).trans m).trans n), (ST.kL b (mA.mem Sn)), O, rfl, rfl, b0⟩
theorem CX (Q : Formula → (jq → Option Bool) → Option Bool) (a5 : ∀ (g : Formula) (k : Value) (t : Value) (J : jq → Option Bool) (r : Bool) (w : World) (c : Sl jt 5 (hp w) k g.Kids) (K : yN pg0 t (hp w) (fun (x : jq) => [(.agg (jA x).toArray)]) (fun (r : Bool) => (.bool r)) J), Q g J = some r → jT false pg0 130 [(.agg #[(.int .i64 g.Op), (.int .i64 g.K), (.string g.jq.js), (.string g.jq.Word), k]), t] w (.bool r)) (g : Formula) (k t : Value) (J : jq → Option Bool) (r : Bool) (w : World) (c : Sl jt 5 (hp w) k g.Kids) (K : yN pg0 t (hp w) (fun (x : jq) => [(.agg (jA x).toArray)]) (fun (r : Bool) => (.bool r)) J) (hm : uZ Q g J = some r) :
  jT false pg0 130 [(.agg #[(.int .i64 g.Op), (.int .i64 g.K), (.string g.jq.js), (.string g.jq.Word), k]), t] w (.bool r) := by
 refine cG 45 func130 rfl (fun b => sg ?_)
 obtain ⟨A1, c2, rfl⟩ := c.form
 refine VE (kj b rfl (fun W4 n b => Wa (lS (Wf mZ (VB b Mh rfl rfl bX (Wi rfl (ln (CI hm rfl (fun a9 hm => ?_) (fun a9 hm => ?_)))))))))
 ·refine sg (Wm (Wf tb (VA b Mh (jA g.jq) bF aS (bS hm fun r6 v hm => VE (OV g.jq b K (kf.refl _) rfl (vg rfl) v (fun W8 b => Wa (ln ?_)))))))
  replace b := b.ju (Db St)
  refine jZ (km ?_)
  obtain rfl := sj hm
  exact rP b
 refine kg (Wa (lS (Wf ng (VB b Mh rfl rfl dI (V (kJ aD rfl c) (Wm (jU ?_)))))))
 refine jE (ku (fun i E W => ∃ z I, (E 18 = .int .i64 (i : Nat) ∧ E 17 = .int .i64 (g.Kids.length : Nat)) ∧ ST false kp w W (hp w) ((n, Ol (C1 g.Op g.K g.jq.js g.jq.Word A1 g.Kids.length c2) 30) :: I) ∧ E 1 = t ∧ E 2 = (.pointer (some ⟨n, 0, none⟩)) ∧ E 5 = (.int .i64 z) ∧ E 16 = (.slice A1 g.Kids.length c2) ∧ oS Q J g (g.Kids.drop i) z = some r) g.Kids.length c.len ⟨0, _, ⟨rfl, rfl⟩, (b.ju St), rfl, rfl, rfl, rfl, hm⟩ dc dc dc (fun _ _ _ h => by obtain ⟨_, _, l, _⟩ := h; exact l) ?_ ?_)
 ·rintro A E W a4 ⟨z, I, ⟨d, m⟩, b, G, u, y, H, a⟩
  obtain ⟨j, c1, s, q, N⟩ := kc a4
  rw [s] at a
  refine bg (VQ (lF (i := (A : Int)) (x0 := j) jt.out aD aC H d c (aG _) q) (fun b7 ⟨_, ⟨c0, rfl, M⟩, Z⟩ => V (jv rfl (jQ b.has Z aK aC)) (VE (kh b aP (fun L R b => ?_)))))
  obtain ⟨B, D, rfl⟩ := M.form
  let a0 := (C1 j.Op j.K j.jq.js j.jq.Word B j.Kids.length D)
  refine VO (jL (.agg a0.toArray) (a0.toArray) b rfl rfl aC oc nb rfl (fun O b => lr (VA b Mh a0 aK aC (Wh G (bS a fun b9 p a => VE (Eg b call130 (a5 j (.slice B j.Kids.length D) t J _ _ (M.mono jD.mono b.jB) (K.mono b.jB) p) (fun P b => ln ?_)))))))
  replace b := b.ju (Db St)
  refine CI a rfl (fun T a => ?_) (fun T a => ?_)
  ·exact jG (Wh y (Wi rfl (Wa (jU (ke (jE ⟨d, (wi0 .i64 (z + 1)), _, ⟨rfl, m⟩, (b.ju St), G, u, rfl, H, (by rw [N]; exact a)⟩))))))
  exact kG (ke (jE ⟨d, z, _, ⟨rfl, m⟩, (b.ju St), G, u, y, H, (by rw [N]; exact a)⟩))
 rintro E W ⟨z, I, ⟨d, m⟩, b, G, u, y, H, a⟩
 rw [aH] at a
 refine jE (jI (sg (V (jz mZ u) (VB b Mh rfl rfl bX (ln (bg (Wi rfl (Wa (ln ?_)))))))))
 refine CI a rfl (fun U a => ?_) (fun U a => ?_)
 ·refine sg (Wh y (V (jz ng u) (VB b Mh rfl rfl dI (V (kJ aD rfl c) (Wi rfl (Wa (ln ?_)))))))
  replace b := b.ju (Db St)
  refine jZ (mn (km ?_))
  obtain rfl := sj a
  exact rP b
 refine sg (Wi rfl (Wa (ln (CI a rfl (fun Y a => ?_) (fun Y a => ?_)))))
 ·refine sg (Wh y (Wi rfl (Wa (ln ?_))))
  replace b := b.ju (Db St)
  refine jZ (mn (km ?_))
  obtain rfl := sj a
  exact rP b
 refine kG (ke (jE (sg (Wh y (V (jz qX u) (VB b Mh rfl rfl bX (Wi rfl (Wa (ln ?_)))))))))
 exact jZ (rQ a b)
theorem BF : ∀ (n : Nat) (c : Formula) (a : Value) (g : Value) (j : jq → Option Bool) (r : Bool) (w : World) (i : Sl jt 5 (hp w) a c.Kids) (k : yN pg0 g (hp w) (fun (x : jq) => [(.agg (jA x).toArray)]) (fun (r : Bool) => (.bool r)) j) (_ : pp n c j = some r),
  jT false pg0 130 [(.agg #[(.int .i64 c.Op), (.int .i64 c.K), (.string c.jq.js), (.string c.jq.Word), a]), g] w (.bool r)
 | 0 => by intros; rename_i h; simp only [pp] at h; cases h
 | n + 1 => CX (pp n) (BF n)
theorem Ch (a : Formula) (j k : Value) (G : jq → Option Bool) (r : Bool) (w : World) (c : Sl jt 5 (hp w) j a.Kids) (z : yN pg0 k (hp w) (fun (x : jq) => [(.agg (jA x).toArray)]) (fun (r : Bool) => (.bool r)) G) (hm : uH a G = some r) :
  jT false pg0 54 [(.agg #[(.int .i64 a.Op), (.int .i64 a.K), (.string a.jq.js), (.string a.jq.Word), j]), k] w (.bool r) := by
 refine cG 16 func54 rfl (fun b => sg ?_)
 obtain ⟨u, y, rfl⟩ := c.form
 let a0 := (C1 a.Op a.K a.jq.js a.jq.Word u a.Kids.length y)
 refine VE (kj b rfl (fun U Z b => Wa (lr (Wm (V (NW underlying101 z.form rfl rfl) (Wm (Vg rfl rfl (jv rfl (jy b.has Mh a0 rfl aK aC)) (bS hm fun d K hm => NM rfl rfl (Eg b call129 (vK a (.slice u a.Kids.length y) _ _ (c.mono jD.mono b.jB) K) (fun Y b => V (jM rfl rfl) (Wm (LJ hm (fun D E W => ∃ B, ST false kp w W (hp w) B ∧ E 4 = (.bool false) ∧ E 15 = (.bool D)) 4 ?_ (fun D g t => ?_)))))))))))))
 ·rintro T E W ⟨B, b, N, J⟩ H
  exact Wg J (lt (rQ H b))
 refine bC g (fun i g => ?_) (fun i g => ?_)
 ·refine ug i (jv rfl (jy b.has Mh a0 rfl aK aC)) (ug i (jC rfl) (bS g fun Q I g => rB i (Eg b call130 ((BF jY) a (.slice u a.Kids.length y) k G _ _ (c.mono jD.mono b.jB) (z.mono b.jB) I) (fun M b => V (jM (cB i) rfl) ?_))))
  obtain rfl := sj g
  exact t _ _ ⟨_, (b.ju (Db St)), rfl, rfl⟩
 refine un i (un i (un i (V (jO (cB i) rfl) ?_)))
 obtain rfl := sj g
 exact t _ _ ⟨_, (b.ju (Db St)), rfl, rfl⟩
theorem AY (K : Nat) (a : Value) (G : List (jq × (List (ByteArray × Bool)))) (c : Value) (t : List jr) (j : Value) (D : List (jq × (List jr))) (g : Value) (u : List (ByteArray × (List jr))) (i : Value) (B : List jJ) (J : Int) (I : jq) (a2 : ByteArray) (r : Bool) (w : World) (H : pZ (fun (x : jq) => (.agg (jA x).toArray)) (lN Value.string (fun (x : Bool) => (Value.bool x))) (hp w) a G) (T : Sl (Pl jw) 9 (hp w) c t) (Z : pZ (fun (x : jq) => (.agg (jA x).toArray)) (jX 52 jw 9) (hp w) j D) (U : pZ Value.string (jX 52 jw 9) (hp w) g u) (Y : Sl (Pl kq) 3 (hp w) i B) (Q : At (hp w) (.pointer (some ⟨K, 0, none⟩)) [a, c, j, g, i, (.int .i64 J)]) (hm : tf G t D u B J I a2 = some r) :
  jT true pg0 128 [(.pointer (some ⟨K, 0, none⟩)), (.agg (jA I).toArray), (.string a2)] w (.bool r) := by
 refine cG 19 func128 rfl (fun l => sg (VE (kj l rfl (fun W2 q l => Wa (ln (jI ?_))))))
 replace l := l.drew
 have d := l.has.ju (Kb Sn)
 refine ky d kd (X 0 rfl d (jC rfl) (X 1 rfl d (Dt underlying183 rfl rfl) (X 2 rfl d (jC rfl) (Xg 3 rfl rfl rfl d (jC rfl) (Xg 4 rfl rfl rfl d (mJ rfl) (sd 5 rfl kr (.inr ⟨2, true, 9, rfl, rfl, by decide, rfl⟩) rfl dc (fun _ _ h => h) d (wu [a] wL rfl Q rfl) (fun p a3 => su 6 rfl rfl rfl d (fun _ m => jv rfl (oE m (y := a) a3 gJ)) (su 7 rfl rfl rfl d (fun _ m => jv rfl (jy m Mh (jA I) rfl bF aS)) ?_))))))))
 obtain ⟨a4, a5, M, N⟩ := H
 refine su 8 rfl rfl rfl d (fun _ m => oN (k := I) (z := (.map none)) z6 eL fl rfl rfl M (fun b o n => m.1 b o (N b o n))) (Xg 9 rfl rfl rfl d (jC rfl) (su 10 rfl rfl rfl d (fun _ m => zz (k := a2) (z := false) (vf := (fun (x : Bool) => (Value.bool x))) GA fu ja rfl rfl ((mK.Di jS.1 M I N).mono (fun b o n => m.1 b o n))) (X 11 rfl d (jM rfl rfl) (X 12 rfl d (lO rfl) (kM kr (jE ?_))))))
 exact jZ (rQ hm l)
theorem GF (N : jq) (Q D : Nat) (t : Value) (B : List (jq × (List (ByteArray × Bool)))) (a : Value) (j : List jr) (i : Value) (z : List (jq × (List jr))) (c : Value) (k : List (ByteArray × (List jr))) (g : Value) (u : List jJ) (I : Int) (T : Nat) (Y : ByteArray) (r : Bool) (w : World) (M : pZ (fun (x : jq) => (.agg (jA x).toArray)) (lN Value.string (fun (x : Bool) => (Value.bool x))) (hp w) t B) (G : Sl (Pl jw) 9 (hp w) a j) (K : pZ (fun (x : jq) => (.agg (jA x).toArray)) (jX 52 jw 9) (hp w) i z) (H : pZ Value.string (jX 52 jw 9) (hp w) c k) (J : Sl (Pl kq) 3 (hp w) g u) (U : At (hp w) (.pointer (some ⟨D, 0, none⟩)) [t, a, i, c, g, (.int .i64 I)]) (Z : At (hp w) (.pointer (some ⟨Q, 0, none⟩)) [(.pointer (some ⟨D, 0, none⟩))]) (d : At (hp w) (.pointer (some ⟨T, 0, none⟩)) [(.string Y)]) (hm : pq N B j z k u I Y = some r) :
  jT true pg0 191 [(.agg (jA N).toArray), (.pointer (some ⟨Q, 0, none⟩)), (.pointer (some ⟨T, 0, none⟩))] w (.bool r) := by
 refine cG 9 func191 rfl (fun b => sg (VE (kj b rfl (fun W2 h b => Wa (lr (V (jv rfl (oE b.has (y := (.pointer (some ⟨D, 0, none⟩))) Z isAgg183)) (VA b Mh (jA N) bF aS (V (jv rfl (oE b.has (y := (.string Y)) d bT)) (bS hm fun l a2 hm => VE (Eg b call128 (AY D t B a j i z c k g u I N Y _ _ (M.mono b.jB) (G.mono (Pl.mono _) b.jB) (K.mono b.jB) (H.mono b.jB) (J.mono (Pl.mono _) b.jB) (U.mono b.jB) a2) (fun W5 b => Wa ?_)))))))))))
 refine ln ?_
 exact jZ (rQ hm b)
theorem DL (g : Value) (i r : List jr) (w : World) (a : Sl (Pl jw) 9 (hp w) g i) (hm : qV i = some r) :
  kY true pg0 196 [g] w 52 jw 9 r := by
 unfold qV at hm
 refine sP 8 func196 rfl (fun b => sg (Wa (lS (Wm ?_))))
 obtain ⟨y, B, rfl⟩ := a.form
 refine V (Bk aR rfl rfl) (ln ?_)
 rcases y with _ | z
 ·have u := a.isNil
  replace hm : some [] = some r := by rw [u] at hm; simpa [lX, maxLen] using hm
  refine wy (rfl) (sg (Wa (lt (km ?_))))
  obtain rfl := sj hm
  exact kO (v := (.slice none 0 0)) rfl rfl ⟨_, [], rfl, b.mC (fun p d => by cases d) (by simp), jX.nil _ _ _⟩
 ·refine ql (rfl) (kg (VE (jW (cs := #[]) b qa (ye [] aR aM cT dc rfl (by simp) rfl rfl) (fun G k b => Wm (bS hm fun H t hm => VE (mz (enc := jw) (v := (.slice (some ⟨k, 0, none⟩) 0 0)) (vs := (.slice (some z) i.length B)) (R := [(k, Ob #[] 52)]) b kC dc nw aR mT.1 mT.2.1 rfl mT.2.2.1 mT.2.2.2 rfl rfl (jX.lit (l := []) (enc := jw) rfl dc rfl rfl) (a.mono (Pl.mono _) b.jB) t (fun D x j b c => Wa (lt ?_))))))))
  obtain rfl := sj hm
  exact kO (v := x) rfl rfl ⟨_, j, rfl, b.mC (fun p d => (Ml d)) c.nd, c⟩
theorem wT (g : Value) (t : List jr) (j : Value) (B : jr → Option Bool) (r : Int) (w : World) (c : Sl (Pl jw) 9 (hp w) g t) (D : yN pg0 j (hp w) (fun (x : jr) => [(.agg (jw x).toArray)]) (fun (r : Bool) => (.bool r)) B) (hm : pb t B = some r) :
  jT false pg0 180 [g, j] w (.int .i64 r) := by
 refine cG 19 func180 rfl (fun b => sg (Wa (lS (Wm (V (kJ aR rfl c) (Wm (ln (ku (fun i E W => ∃ k, (E 8 = .int .i64 (i : Nat) ∧ E 7 = .int .i64 (t.length : Nat)) ∧ ST false kp w W (hp w) k ∧ E 0 = g ∧ E 1 = j ∧ ot B (t.drop i) i = some r) t.length c.len ⟨_, ⟨rfl, rfl⟩, (b.ju St), rfl, rfl, hm⟩ dc dc dc (fun _ _ _ h => by obtain ⟨_, l, _⟩ := h; exact l) ?_ ?_))))))))
 ·rintro Q E W H ⟨k, ⟨d, m⟩, b, u, y, a⟩
  obtain ⟨z, T, M, K, N⟩ := kc H
  rw [M] at a
  refine bg (Wh d (Wa (lr (Wh y (Wh u (Wm (VQ (mQ (enc := jw) (i := (Q : Int)) (x0 := z) aR aM rfl rfl c (aG _) K) (fun Y I => V (jv rfl (jQ b.has I bU aM)) (bS a fun Z J a => ?_)))))))))
  refine VE (OV z b D (kf.refl _) rfl (vg rfl) J (fun U b => ln (CI a rfl (fun G a => ?_) (fun G a => ?_))))
  ·refine sg (Wm (Wa (lt (mn (km (mn (km ?_)))))))
   obtain rfl := sj a
   exact rP b
  exact kG (ke (jE ⟨d, _, ⟨rfl, m⟩, (b.ju St), u, y, (by rw [N]; exact a)⟩))
 rintro E W ⟨k, ⟨d, m⟩, b, u, y, a⟩
 rw [aH] at a
 exact jE (sg (Wa (lt (rQ a b))))
theorem Ba (j : Value) (a0 : List jr) (t : LO) (H : Value) (f1 : jr → Option Bool) (r : List jr) (w : World) {μ0 : kk} (h0 : nz μ0 (t ++ []) w) (T : jX 52 jw 9 j a0 t) (a4 : yN pg0 H μ0 (fun (x : jr) => [(.agg (jw x).toArray)]) (fun (r : Bool) => (.bool r)) f1) (hm : qx a0 f1 = some r) :
  lH false pg0 195 [j, H] w (t ++ []) (fun v L1 W' => ∃ q S2, v = q ∧ L1 = (S2 ++ []) ∧ jX 52 jw 9 q r S2) := by
 refine Ab h0 42 func195 rfl (fun d => sg (Wa (lr (Wm (Wm (bS hm fun n d3 hm => VE (Eg d call180 (wT j a0 H f1 _ _ (T.sl kC (fun b o h => d.at_ (Ml h))) (a4.mono d.jB) d3) (fun W3 d => Wa (ln ?_)))))))))
 refine jI (sg (Wm (Wi rfl (ln (CI hm rfl (fun d2 hm => ?_) (fun d2 hm => ?_))))))
 ·refine sg (Wm (Wa (lt (km ?_))))
  obtain rfl := sj hm
  exact kO (v := j) rfl rfl ⟨_, _, rfl, (d.mc (Kr Sn)), j, t, rfl, rfl, T⟩
 refine kS (Wm (Wi rfl (Wa (ln (lA (nc (fun m E W => ∃ U I B D a2, ST false (keys (t ++ [])) w W μ0 (I ++ a2) ∧ E 0 = j ∧ E 1 = H ∧ E 5 = (.int .i64 B) ∧ E 6 = (.int .i64 D) ∧ jX 52 jw 9 j U I ∧ nx f1 m U B D = some r) jY ⟨a0, t, n, (wi0 .i64 (n + 1)), _, (d.ju St), rfl, rfl, rfl, rfl, T, hm⟩ ?_))))))
 rintro m E W ⟨U, I, B, D, a2, d, y, Q, G, K, g, a⟩
 cases m with
 | zero => rw [nx] at a; cases a
 | succ c8 =>
  refine jI (sg (Wh K (Wh y (V (ns aR rfl g) (Wi rfl (ln (CI a rfl (fun A a => ?_) (fun A a => ?_))))))))
  ·refine kn (jI (CJ a (fun Y E W => ∃ J a3, ST false (keys (t ++ [])) w W μ0 (J ++ a3) ∧ E 0 = j ∧ E 1 = H ∧ E 5 = (.int .i64 Y.2) ∧ E 6 = (.int .i64 D) ∧ jX 52 jw 9 j Y.1 J) (fun Y c => ?_) ?_))
   ·refine bg (Wh y (Wh K (bS c fun k M c => VQ (nv (i := D) (x0 := k) aR aM rfl rfl g (kl M) (ki M)) (fun e4 P => V (jv rfl (tj d.has (fun p h => (Ml h)) g kC P (ki M) bU aM)) (VE (kh d cT (fun d7 e2 d => VO (jL (.agg (jw k).toArray) ((jw k).toArray) d rfl rfl aM (nw k) nb rfl (fun d8 d => lr (Wh Q ?_))))))))))
    refine VA d Mh (jw k) bU aM (bS c fun e6 b5 c => VE (OV k d a4 (kf.refl _) rfl (vg rfl) b5 (fun d9 d => V (nj rfl) (ln (CI c rfl (fun L c => ?_) (fun L c => ?_))))))
    ·refine sg (Wh y (Wh G (VA d Mh (jw k) bU aM (bS c fun d0 N c => VQ (nv (i := B) (x0 := d0) aR aM rfl rfl g (kl N) (ki N)) (fun e5 R => ?_)))))
     replace d := d.perm (Nr (Qb Qz) Nz)
     refine VO (CK (u := (.agg (jw k).toArray)) (x1 := k)  d g kC nw rfl rfl rfl R (ki N) aM (fun e0 c1 d s => ln ?_))
     replace d := d.ju (Kr (Db St))
     refine jG (Wh G (Wi rfl (Wa (jU (ke (jE ?_))))))
     obtain rfl := sj c
     exact ⟨c1, _, (d.ju St), y, Q, rfl, K, s⟩
    refine kG (ke (jE ?_))
    obtain rfl := sj c
    exact ⟨I, _, (d.ju (Db St)), y, Q, G, K, g⟩
   rintro ⟨c7, c9⟩ E W ⟨J, a3, d, c3, c4, c5, c6, b6⟩ O
   exact jG (Wh c6 (Wi rfl (Wa (ln ⟨c8, bI _, c7, J, c9, (wi0 .i64 (D + 1)), _, (d.ju St), c3, c4, c5, rfl, b6, O⟩))))
  refine na (mR (mR (qp (jE (sg (Wh y (Wh G (bS a fun _ Z a => VQ (zn (i := B) aR aM rfl rfl g (uw Z) (uu Z)) (fun e7 b7 => VO (B9 (z := K6)  d g kC nw aR cT b7 rfl rfl (fun e1 c2 d a9 => lr (Wh y ?_))))))))))))
  refine Wh G (bS a fun _ l a => VQ (Bq (i := B) aR aM rfl rfl a9 kC (uw l) (uu l)) (fun a5 b9 => Wa (lt ?_)))
  obtain rfl := sj a
  exact kO (v := a5) rfl rfl ⟨_, _, rfl, (d.mc (Kr Sn)), a5, c2, rfl, rfl, b9⟩
theorem Iq (a : jr) (r : Bool) (w : World) (hm : xB a = some r) :
  jT true pg0 197 [(.agg (jw a).toArray)] w (.bool r) := by
 refine cG 6 func197 rfl (fun b => sg (VE (kj b rfl (fun g j b => Wa (lr (VA b Mh (jw a) bU aM (bS hm fun k c hm => VE (Eg b call144 (yB a _ _  c) (fun i b => V (nj rfl) (Wa (jU ?_)))))))))))
 refine jE ?_
 exact jZ (rQ hm b)
theorem Mg (c : Value) (k : List jr) (a : LO) (g : Value) (t : (jr × jr) → Option Int) (r : List jr) (w : World) {y : kk} (u : nz y (a ++ []) w) (i : jX 52 jw 9 c k a) (j : JJ pg0 g y (fun (x : (jr × jr)) => [(.agg (jw x.1).toArray), (.agg (jw x.2).toArray)]) (fun (r : Int) => (.int .i64 r)) t) (hm : zt t k = some r) :
  lH true pg0 198 [c, g] w (a ++ []) (fun v z W' => ∃ S, v = (.tuple #[]) ∧ z = (S ++ []) ∧ jX 52 jw 9 c r S) := KD (P := pg0) (ρ := NK) RX 9 bU aM jw kC nw u.H u.S i j hm
theorem EH (c : jr) (r : List Int) (w : World) (hm : wj c = some r) :
  kY true pg0 152 [(.agg (jw c).toArray)] w 5 (kN .u8) 1 r := by
 refine sP 53 func152 rfl (fun d => sg (VE (kj d rfl (fun W2 b1 d => Wa (lS (VA d Mh (jw c) bU aM (bS hm fun r3 g3 hm => VE (Eg d call144 (yB c _ _  g3) (fun W5 d => V (nj rfl) (jU ?_))))))))))
 refine jE (CI hm rfl (fun g0 hm => ?_) (fun g0 hm => ?_))
 ·refine sg (Wa (ln ?_))
  replace d := d.ju (Db St)
  refine jZ (km ?_)
  obtain rfl := sj hm
  exact kO (v := (.slice none 0 0)) rfl rfl ⟨_, [], rfl, d.mC (fun p m => by cases m) (by simp), jX.nil _ _ _⟩
 refine kg (V (lC (v := (.agg #[(.slice none 0 0)])) qa (kI zeroValue215 fS (Pg _ fS) kr)) (VE (kj d rfl (fun W8 g d => Wa (lr (Wm (Wf pY (VB d (Mt Mh) rfl rfl bX (bS hm fun r9 e2 hm => ?_)))))))))
 refine VE (eM d (Cb Pz (C0 Cn)) call170 (fun l _ => (qU g (.slice none 0 0) ([]) [] c.Kind _ _ l (jX.nil _ _ _) e2)) ?_)
 rintro _ k3 k5 j9 d g7 R h ⟨g4, f9, I, rfl, e4⟩
 obtain rfl := I.symm
 replace d := d.perm (Tb (Tr Tn))
 refine lr (Wm (Wf qT (VA d (Mt (Ma Mh)) (jA c.Head) bF aS (bS hm fun N e3 hm => ?_))))
 refine VE (eM d (Cb Pz (Cr Qz Cn)) call212 (fun l _ => (uM g g4 r9.2 f9 c.Head _ _ l e4 e3)) ?_)
 rintro _ k4 d1 k0 d g8 a6 h ⟨G, D, J, rfl, i⟩
 obtain rfl := J.symm
 replace d := d.perm (Tb (Tr Tn))
 refine ln (jI (CJ hm (fun a3 E W => ∃ B H K Q, kf d1 K ∧ ST true kp w W K ((g, Ob #[B] 215) :: (H ++ Q)) ∧ E 3 = (.pointer (some ⟨g, 0, none⟩)) ∧ jX 5 (kN .u8) 1 B a3 H) (fun a3 a => ?_) ?_))
 ·refine sg (Wf pY (VB d (Mt (Ma Mh)) rfl rfl bX (ln (bg (Wi rfl (Wa (ln (CI a rfl (fun b0 a => ?_) (fun b0 a => ?_)))))))))
  ·refine jG (Wm (Wf wg (VB d (Mt (Ma Mh)) rfl rfl bT (bS a fun i3 b6 a => ?_))))
   refine VE (eM d (Cb Pz (Cr Qz Cn)) call213 (fun l _ => (yj g G N.2 D c.kz _ _ l i b6)) ?_)
   rintro _ i8 f5 g9 d T q h ⟨e9, d3, k, rfl, c5⟩
   obtain rfl := k.symm
   replace d := d.perm (Tb (Tr Tn))
   refine jU (ke (jE ?_))
   obtain rfl := sj a
   exact ⟨e9, d3, f5, _, T, (d.ju (Kb (Kr (Db St)))), rfl, c5⟩
  refine sg (Wi rfl (Wa (ln (CI a rfl (fun b2 a => ?_) (fun b2 a => ?_)))))
  ·refine jG (Wm (Wf ny (VA d (Mt (Ma Mh)) (jA c.B) bF aS (bS a fun i4 b9 a => ?_))))
   refine VE (eM d (Cb Pz (Cr Qz Cn)) call212 (fun l _ => (uM g G N.2 D c.B _ _ l i b9)) ?_)
   rintro _ i9 f6 h0 d U s h ⟨f0, d4, t, rfl, c6⟩
   obtain rfl := t.symm
   replace d := d.perm (Tb (Tr Tn))
   refine jU (ke (jE ?_))
   obtain rfl := sj a
   exact ⟨f0, d4, f6, _, U, (d.ju (Kb (Kr (Db St)))), rfl, c6⟩
  refine sg (Wi rfl (Wa (ln (CI a rfl (fun b3 a => ?_) (fun b3 a => ?_)))))
  ·refine sg (Wm (Wf ny (VA d (Mt (Ma Mh)) (jA c.B) bF aS (bS a fun e6 c0 a => ?_))))
   refine VE (eM d (Cb Pz (Cr Qz Cn)) call212 (fun l _ => (uM g G N.2 D c.B _ _ l i c0)) ?_)
   rintro _ j0 j7 h1 d Y A h ⟨f1, d5, u, rfl, c7⟩
   obtain rfl := u.symm
   replace d := d.perm (Tb (Tr Tn))
   refine ln (jG (Wm (Wf tX (VB d (Mt (Ma Mh)) rfl rfl bT (bS a fun i5 c1 a => ?_)))))
   refine VE (eM d (Cb Pz (Cr Qz Cn)) call213 (fun l _ => (yj g f1 e6.2 d5 c.kK _ _ l c7 c1)) ?_)
   rintro _ j3 f7 h2 d Z L h ⟨f2, d6, x, rfl, c8⟩
   obtain rfl := x.symm
   replace d := d.perm (Tb (Tr Tn))
   refine jU (ke (jE ?_))
   obtain rfl := sj a
   exact ⟨f2, d6, f7, _, (Y.trans Z), (d.ju (Kb (Kr (Db St)))), rfl, c8⟩
  refine sg (Wi rfl (Wa (ln (CI a rfl (fun b4 a => ?_) (fun b4 a => ?_)))))
  ·refine sg (Wm (Wf ny (VA d (Mt (Ma Mh)) (jA c.B) bF aS (bS a fun e7 c2 a => ?_))))
   refine VE (eM d (Cb Pz (Cr Qz Cn)) call212 (fun l _ => (uM g G N.2 D c.B _ _ l i c2)) ?_)
   rintro _ j4 j8 h3 d a1 O h ⟨f3, d7, y, rfl, c9⟩
   obtain rfl := y.symm
   replace d := d.perm (Tb (Tr Tn))
   refine ln (jG (Wm (Wf rI (VA d (Mt (Ma Mh)) (jA c.C) bF aS (bS a fun i6 c3 a => ?_)))))
   refine VE (eM d (Cb Pz (Cr Qz Cn)) call212 (fun l _ => (uM g f3 e7.2 d7 c.C _ _ l c9 c3)) ?_)
   rintro _ j5 f8 h4 d a2 P h ⟨f4, d8, z, rfl, d0⟩
   obtain rfl := z.symm
   replace d := d.perm (Tb (Tr Tn))
   refine jU (ke (jE ?_))
   obtain rfl := sj a
   exact ⟨f4, d8, f8, _, (a1.trans a2), (d.ju (Kb (Kr (Db St)))), rfl, d0⟩
  refine kG (ke (jE ?_))
  obtain rfl := sj a
  exact ⟨G, D, d1, _, (kf.refl _), (d.ju (Kb (Kr (Db St)))), rfl, i⟩
 rintro e5 E W ⟨B, H, K, Q, g1, d, d9, c4⟩ j
 refine sg (Wh d9 (bS j fun i2 b5 j => VE (oW d call173 (AP g B e5 _ _ (c4.sl (fun _ => rfl) (fun b o m => d.at_ (Mt (Ml m)))) (At.of (d.at_ Mh) _ rfl) b5) (fun h5 e8 j6 d2 d g2 n M => Wa (ln ?_)))))
 replace d := d.ju (Kr (Db (Dr St)))
 refine jZ ?_
 obtain rfl := sj j
 exact kO (v := e8) rfl rfl ⟨_, d2, rfl, d.mC (fun p m => (Ml m)) M.nd, M⟩
theorem Hr (g i : jr) (r : Int) (w : World) (hm : sW g i = some r) :
  jT true pg0 81 [(.agg (jw g).toArray), (.agg (jw i).toArray)] w (.int .i64 r) := by
 refine cG 10 func81 rfl (fun d => sg (VE (kj d rfl (fun T Y d => VE (kj d rfl (fun U Z d => Wa (ln (jI ?_))))))))
 replace d := d.drew
 have h := d.has.ju (Kb (Kb Sn))
 refine ky h kd (XH 0 rfl h (fun _ l => jv rfl (jy l (Mt Mh) (jw g) rfl bU aM)) (XH 2 rfl h (fun _ l => jv rfl (jy l Mh (jw i) rfl bU aM)) (bS hm fun y t hm => XE 1 rfl (oW d call152 (EH g _ _  t) (fun I B N G d a n j => ?_)))))
 have h := d.has.ox a (Dr (Kb (Kb Sn)))
 refine ⟨h, (bS hm fun z u hm => XE 3 rfl (oW d call152 (EH i _ _  u) (fun J D Q H d c p k => ?_)))⟩
 have h := d.has.ox (a.trans c) (Dr (Dr (Kb (Kb Sn))))
 refine ⟨h, (bS hm fun M x hm => XE 4 rfl (Eg d call151 (Bs B y D z _ _ (j.sl (fun _ => rfl) (fun b o m => d.at_ (Ma (Ml m)))) (k.sl (fun _ => rfl) (fun b o m => d.at_ (Ml m))) x) (fun K d => ?_)))⟩
 have h := d.has.ox (a.trans c) (Dr (Dr (Kb (Kb Sn))))
 refine ⟨h, (X 5 rfl h (lO rfl) (kM kr (jE ?_)))⟩
 exact jZ (rQ hm d)
theorem CE (j : Value) (a0 : List jr) (x : LO) (r : List jr) (w : World) {μ0 : kk} (h0 : nz μ0 (x ++ []) w) (B : jX 52 jw 9 j a0 x) (hm : rX a0 = some r) :
  lH true pg0 199 [j] w (x ++ []) (fun v L1 W' => ∃ y1 S2, v = y1 ∧ L1 = (S2 ++ []) ∧ jX 52 jw 9 y1 r S2) := by
 refine Ab h0 61 func199 rfl (fun b => sg (Wa (lS (Wm (V (ns aR rfl B) (Wi rfl (ln (CI hm rfl (fun g0 hm => ?_) (fun g0 hm => ?_)))))))))
 ·refine sg (Wm (Wa (lt (km ?_))))
  obtain rfl := sj hm
  exact kO (v := j) rfl rfl ⟨_, _, rfl, (b.mc (Kr Sn)), j, x, rfl, rfl, B⟩
 refine kS (Wa (ln (lA (nc (fun m E W => ∃ t b4, ST true (keys (x ++ [])) w W μ0 (x ++ b4) ∧ E 0 = j ∧ E 3 = (.int .i64 t) ∧ nV a0 m t = some r) jY ⟨1, _, (b.ju St), rfl, rfl, hm⟩ ?_))))
 rintro m E W ⟨t, b4, b, D, H, a⟩
 cases m with
 | zero => rw [nV] at a; cases a
 | succ f5 =>
  refine jI (sg (Wh H (Wh D (V (ns aR rfl B) (Wi rfl (ln (CI a rfl (fun d0 a => ?_) (fun d0 a => ?_))))))))
  ·refine kn (jI (lA (jI ?_)))
   replace b := b.drew
   have d := b.has.ju (Kr Sn)
   refine ky d kd (X 0 rfl d (jC D) (X 1 rfl d (jC H) (bS a fun c3 Z a => XQ 2 rfl d (nv (i := t) (x0 := c3) aR aM rfl rfl B (kl Z) (ki Z)) (fun g7 d6 => XH 3 rfl d (fun _ l => jv rfl (tj l (fun p h => (Ml h)) B kC d6 (ki Z) bU aM)) (X 4 rfl d (jC D) (X 5 rfl d (jC H) (X 6 rfl d (kv rfl rfl rfl) (bS a fun c4 n a => XQ 7 rfl d (nv (i := (wi0 .i64 (t - 1))) (x0 := c4) aR aM rfl rfl B (kl n) (ki n)) (fun g8 d7 => XH 8 rfl d (fun _ l => jv rfl (tj l (fun p h => (Ml h)) B kC d7 (ki n) bU aM)) (X 9 rfl d (uY rfl rfl (nm eY) (ru (wo _ c3 c4))) (kM kr (jE ?_))))))))))))
   refine CI a rfl (fun d1 a => ?_) (fun d1 a => ?_)
   ·refine sg (Wh D (Wh H (bS a fun _ L a => VQ (zn (i := t) aR aM rfl rfl B (uw L) (uu L)) (fun c1 M => Wa (lS (Wa (ln ?_)))))))
    refine CJ a (fun U E W => ∃ q b5, ST true (keys (x ++ [])) w W μ0 (q ++ b5) ∧ E 0 = j ∧ E 3 = (.int .i64 U.2) ∧ jX 52 jw 9 j U.1 q) (fun U d4 => ?_) ?_
    ·refine lA (nc (fun m E W => ∃ s K Y y b6, ST true (keys (x ++ [])) w W μ0 (K ++ b6) ∧ E 0 = j ∧ E 3 = (.int .i64 Y) ∧ E 4 = c1 ∧ E 5 = (.int .i64 y) ∧ jX 52 jw 9 j s K ∧ nS t m s Y y = some U) jY ⟨a0, x, t, 1, _, (b.ju St), D, H, rfl, rfl, B, d4⟩ ?_)
     rintro m E W ⟨s, K, Y, y, b6, b, Q, T, I, J, g, k⟩
     cases m with
     | zero => rw [nS] at k; cases k
     | succ f6 =>
      refine jI (sg (Wh J (Wh I (V (H3 aR rfl M g) (Wi rfl (ln (CI k rfl (fun d2 k => ?_) (fun d2 k => ?_))))))))
      ·refine kn (jI (CJ k (fun A E W => ∃ N b7, ST true (keys (x ++ [])) w W μ0 (N ++ b7) ∧ E 0 = j ∧ E 3 = (.int .i64 A.2) ∧ E 4 = c1 ∧ E 5 = (.int .i64 y) ∧ jX 52 jw 9 j A.1 N) (fun A c => ?_) ?_))
       ·refine lA (jI ?_)
        replace b := b.drew
        have d := b.has.ju (Kr Sn)
        refine ky d kd (X 0 rfl d (jC I) (X 1 rfl d (jC J) (bS c fun c6 a2 c => XQ 2 rfl d (zy (i := y) (x0 := c6) aR aM rfl rfl g M (kl a2) (ki a2)) (fun g9 d8 => XH 3 rfl d (fun _ l => jv rfl (tj l (fun p h => (Ml h)) g kC d8 (A6 (ki a2)) bU aM)) (X 4 rfl d (jC I) (X 5 rfl d (jC J) (X 6 rfl d (kv rfl rfl rfl) (bS c fun c7 a3 c => XQ 7 rfl d (zy (i := (wi0 .i64 (y - 1))) (x0 := c7) aR aM rfl rfl g M (kl a3) (ki a3)) (fun h1 d9 => XH 8 rfl d (fun _ l => jv rfl (tj l (fun p h => (Ml h)) g kC d9 (A6 (ki a3)) bU aM)) (X 9 rfl d (E1 rfl rfl (nm eY) (Ax (wo _ c6 c7))) (kM kr (jE ?_))))))))))))
        refine CI c rfl (fun d3 c => ?_) (fun d3 c => ?_)
        ·refine sg (Wh Q (Wh T (Wh I (Wh J (bS c fun a9 a4 c => VQ (zy (i := y) (x0 := a9) aR aM rfl rfl g M (kl a4) (ki a4)) (fun h2 e0 => V (jv rfl (tj b.has (fun p h => (Ml h)) g kC e0 (A6 (ki a4)) bU aM)) (bS c fun f8 a5 c => VQ (nv (i := Y) (x0 := f8) aR aM rfl rfl g (kl a5) (ki a5)) (fun h3 e1 => VO (CK (u := (.agg (jw a9).toArray)) (x1 := a9)  b g kC nw rfl rfl rfl e1 (ki a5) aM (fun g3 e8 b c9 => ln (jG ?_)))))))))))
         refine Wh T (Wi rfl (Wa (jU (ke (jE ?_)))))
         obtain rfl := sj c
         exact ⟨e8, _, (b.ju St), Q, rfl, I, J, c9⟩
        refine kG (ke (jE ?_))
        obtain rfl := sj c
        exact ⟨K, _, (b.ju St), Q, T, I, J, g⟩
       rintro ⟨f4, f7⟩ E W ⟨N, b7, b, f0, f1, f2, f3, e4⟩ d5
       exact jG (Wh f3 (Wi rfl (Wa (ln ⟨f6, bI _, f4, N, f7, (wi0 .i64 (y + 1)), _, (b.ju St), f0, f1, f2, rfl, e4, d5⟩))))
      refine na (mR (mR (qp (jE ?_))))
      obtain rfl := sj k
      exact ⟨K, _, (b.ju St), Q, T, g⟩
    rintro ⟨g4, c5⟩ E W ⟨q, b5, b, b9, c0, R⟩ G
    refine sg (Wh b9 (Wh c0 (bS G fun _ O G => VQ (zn (i := c5) aR aM rfl rfl R (uw O) (uu O)) (fun h4 e2 => VO (B9 (z := K6)  b R kC nw aR cT e2 rfl rfl (fun g2 e7 b c8 => lr (Wh b9 (Wh c0 (bS G fun _ P G => VQ (Bq (i := c5) aR aM rfl rfl c8 kC (uw P) (uu P)) (fun c2 e3 => ?_))))))))))
    refine Wa (lt (mn (km (km (mn (km ?_))))))
    obtain rfl := sj G
    exact kO (v := c2) rfl rfl ⟨_, _, rfl, (b.mc (Kr Sn)), c2, e7, rfl, rfl, e3⟩
   exact kG (ke (jE (jG (Wh H (Wi rfl (Wa (ln ⟨f5, bI _, (wi0 .i64 (t + 1)), _, (b.ju St), D, rfl, a⟩)))))))
  refine na (mR (mR (qp (jE (sg (Wh D (Wa (lt ?_))))))))
  obtain rfl := sj a
  exact kO (v := j) rfl rfl ⟨_, _, rfl, (b.mc (Kr Sn)), j, x, rfl, rfl, B⟩
theorem L5 (i : Value) (t r : List jr) (w : World) (B : Sl (Pl jw) 9 (hp w) i t) (hm : yt t = some r) :
  kY false pg0 125 [i] w 52 jw 9 r := by
 refine sP 11 func125 rfl (fun b => sg (Wa (lr (Wm (bS hm fun y T hm => VE (oW b call196 (kY.lz (DL i t _ _ (B.mono (Pl.mono _) b.jB) T)) (fun W3 v7 z R8 b a5 q Q => bS hm fun U D hm => ?_)))))))
 refine VE (eM b (Cr Qz Cn) call195 (fun h _ => (Ba v7 y R8 (.func (.func 197) #[] #[]) (fun (x : jr) => xB x) _ _ h Q ⟨197, #[], #[], rfl, call197, fun W x r u hm => (Iq x r W  hm).lz⟩ D)) ?_)
 rintro _ P b9 E b A l d ⟨k, K, a, rfl, I⟩
 obtain rfl := a.symm
 replace b := b.perm (Tr Tn)
 refine Wa (lr (Wm (bS hm fun Y G hm => ?_)))
 refine VE (eM b (Cr Qz Cn) call198 (fun h _ => lH.lz (Mg k U K (.func (.func 81) #[] #[]) (fun (x : (jr × jr)) => sW x.1 x.2) _ _ h I ⟨81, #[], rfl, call81, fun W x r u hm => Hr x.1 x.2 r W  hm⟩ G)) ?_)
 rintro _ R c0 a9 b a2 m d ⟨M, c, rfl, J⟩
 obtain rfl := c.symm
 replace b := b.perm (Tr Tn)
 refine lr (Wm (bS hm fun O H hm => ?_))
 refine VE (eM b (Cr Qz Cn) call199 (fun h _ => lH.lz (CE k Y M _ _ h J H)) ?_)
 rintro _ b7 c1 L b a3 n d ⟨Z, N, g, rfl, j⟩
 obtain rfl := g.symm
 replace b := b.perm (Tr Tn)
 refine Wa (lt ?_)
 obtain rfl := sj hm
 exact kO (v := Z) rfl rfl ⟨_, N, rfl, b.mC (fun p s => (Ml s)) j.nd, j⟩
theorem AJ (k : kx) (H K c1 : Value) (O : List jr) (a2 : ByteArray) (r : List jr) (w : World) (g : Sl ko 15 (hp w) H k.jF) (J : Sl kQ 8 (hp w) K k.jP) (h5 : Sl (Pl jw) 9 (hp w) c1 O) (hm : qv k O a2 = some r) :
  kY false pg0 52 [(.agg #[(.string k.Name), H, K]), c1, (.string a2)] w 52 jw 9 r := by
 refine sP 47 func52 rfl (fun d => sg ?_)
 obtain ⟨A1, c2, rfl⟩ := g.form
 let c8 : Value := (.slice A1 k.jF.length c2)
 obtain ⟨A3, c4, rfl⟩ := J.form
 let P := (C3 k.Name A1 k.jF.length c2 A3 k.jP.length c4)
 refine VE (kj d rfl (fun W6 A d => Wa (lr (Wm (Wm (bS hm fun B i5 hm => ?_))))))
 refine VE (Fo d (bW _) call123 (fun _ _ _ _ => (JV c1 O a2 _ _ (h5.mono (Pl.mono _) d.jB) i5)) (fun W9 l1 g4 l0 d a5 af ae h4 => ?_) (L0 := []))
 obtain ⟨N, q, e0, f9, e1, g0, e2, g1, e3, g2, e4, g3, Q, c0, rfl, h6, h7, h8, h9, i0⟩ := h4
 replace c0 := c0.symm; subst c0
 replace d := d.perm (Tb (Tb (Tb (Tr (Tr (Tr (Tr (Tr Tn))))))))
 refine Wa (lr (Wa (lS (Wf xd (VB d (Mt (Mt (Mt (Ma (Ma (Ma (Ma (Ma Mh)))))))) rfl rfl gV (V (kJ dt rfl g) (Wm ?_)))))))
 refine ln (ku (fun i E W => ∃ D I G s b4, (E 19 = .int .i64 (i : Nat) ∧ E 18 = .int .i64 (k.jF.length : Nat)) ∧ kf g4 s ∧ ST false kp w W s ((N, Ob #[(.pointer (some ⟨q, 0, none⟩))] 183) :: ((q, Ob #[e0, e1, e2, e3, e4, (.int .i64 B.2.2.2.2.2.1)] 246) :: ((Q, Ob #[(.string B.2.2.2.2.2.2)] 9) :: ((A, Ol P 25) :: (G ++ (f9 ++ (g0 ++ (g1 ++ (g2 ++ (g3 ++ b4)))))))))) ∧ E 3 = (.pointer (some ⟨A, 0, none⟩)) ∧ E 7 = (.func (.func 191) #[] #[(.pointer (some ⟨N, 0, none⟩)), (.pointer (some ⟨Q, 0, none⟩))]) ∧ E 8 = D ∧ E 17 = c8 ∧ jX 52 jw 9 D I G ∧ qC k B (k.jF.drop i) I = some r) k.jF.length g.len ⟨(.slice none 0 0), ([]), [], g4, _, ⟨rfl, rfl⟩, (kf.refl _), (d.ju (Kb (Kb (Kb (Sb (Pr (Pr (Pr (Pr (Pr Pz))))) St))))), rfl, rfl, rfl, rfl, (jX.nil _ _ _), hm⟩ dc dc dc (fun _ _ _ h => by obtain ⟨_, _, _, _, _, aa, _⟩ := h; exact aa) ?_ ?_)
 ·let b6 : Value := (.func (.func 191) #[] #[(.pointer (some ⟨N, 0, none⟩)), (.pointer (some ⟨Q, 0, none⟩))])
  rintro d8 E W f0 ⟨D, I, G, s, b4, ⟨L, eN⟩, u, d, Y, Z, a3, a4, M, j⟩
  obtain ⟨a, i6, f8, f7, c6⟩ := kc f0
  rw [f8] at j
  refine bg (VQ (lF (i := (d8 : Int)) (x0 := a) ko.out dt dn a4 L (g.mono kB.mono (a5.trans u)) (aG _) f7) (fun k1 ⟨_, ⟨k4, k5, rfl, f5, f6⟩, f1⟩ => V (jv rfl (jQ d.has f1 gw dn)) (VE (kh d eO (fun i9 d0 d => ?_)))))
  obtain ⟨b2, b7, rfl⟩ := f5.form
  obtain ⟨b3, b9, rfl⟩ := f6.form
  let a0 := (C2 a.Signed.jr.Kind a.Signed.jr.Head.js a.Signed.jr.Head.Word a.Signed.jr.kz a.Signed.jr.B.js a.Signed.jr.B.Word a.Signed.jr.C.js a.Signed.jr.C.Word a.Signed.jr.kK b2 a.Signed.Tag.length b7 a.jx.Op a.jx.K a.jx.jq.js a.jx.jq.Word b3 a.jx.Kids.length b9)
  refine VO (jL (.agg a0.toArray) (a0.toArray) d rfl rfl dn oc nb rfl (fun j0 d => lr (V (jv Y (jy d.has (Mt (Mt (Mt (Mt Mh)))) P rfl cY cM)) (Wf uL (Wf ux (VA d Mh (jw a.Signed.jr) bU aM (bS j fun c f2 j => ?_)))))))
  let e5 : Value := (.string (((c.1).jq).Word))
  let d1 : Value := (.string (((c.1).jq).js))
  refine VE (eD d (bW _) call124 (fun hh => (Mv k c8 (.slice A3 k.jP.length c4) a.Signed.jr _ _ hh (g.mono kB.mono (a5.trans u)) (J.mono mi.mono (a5.trans u)) f2)) ?_ (L0 := []))
  rintro _ k6 c3 i8 d a9 ab ⟨k8, a6, rfl, c7⟩
  obtain rfl := a6.symm
  refine Wm (Wx rfl (Wx rfl (VE (kh d aP (fun j4 k0 d => ?_)))))
  obtain ⟨T, U, rfl⟩ := c7.form
  let b8 : Value := (.slice T ((c.1).Kids).length U)
  refine VO (jL (.agg #[(.int .i64 ((c.1).Op)), (.int .i64 ((c.1).K)), d1, e5, b8]) (#[(.int .i64 ((c.1).Op)), (.int .i64 ((c.1).K)), d1, e5, b8]) d rfl rfl aC oc nb rfl (fun j5 d => Wa (lr (Wm (Wi rfl (Wm (LJ j (fun d9 E W => ∃ c9, ST false kp w W c3 ((d0, Ol a0 57) :: ((N, Ob #[(.pointer (some ⟨q, 0, none⟩))] 183) :: ((q, Ob #[e0, e1, e2, e3, e4, (.int .i64 B.2.2.2.2.2.1)] 246) :: ((Q, Ob #[(.string B.2.2.2.2.2.2)] 9) :: ((A, Ol P 25) :: (G ++ (f9 ++ (g0 ++ (g1 ++ (g2 ++ (g3 ++ c9))))))))))) ∧ E 3 = (.pointer (some ⟨A, 0, none⟩)) ∧ E 7 = b6 ∧ E 8 = D ∧ E 10 = (.pointer (some ⟨d0, 0, none⟩)) ∧ E 17 = c8 ∧ E 18 = (.int .i64 (k.jF.length : Int)) ∧ E 19 = (.int .i64 (d8 : Int)) ∧ E 37 = (.bool d9)) 4 ?_ (fun d9 z b0 => ?_))))))))
  ·rintro k7 E W ⟨c9, d, d2, d3, d4, h2, d5, d6, d7, h3⟩ y
   refine ln (CI y h3 (fun e8 y => ?_) (fun e8 y => ?_))
   ·refine jG (Wh d4 (V (jz uL h2) (Wf ux (VA d Mh (jw a.Signed.jr) bU aM (VE (jW (cs := (jw a.Signed.jr).toArray) d (kX rfl) (lM aR aM cT) (fun j6 h1 d => ?_)))))))
    replace d := d.perm (Nr (Qb (Qb (Qb (Qb (Qb (Qb Qz)))))) Nz)
    refine bS y fun i1 e9 y => VE (mz (enc := jw) (v := D) (vs := (.slice (some ⟨h1, 0, none⟩) 1 1)) (R := G) d kC dc nw aR mT.1 mT.2.1 rfl mT.2.2.1 mT.2.2.2 rfl rfl M (Sl.lit (enc := jw) (l := [a.Signed.jr]) kC rfl nb rfl (d.at_ (Ma Mh))) e9 (fun j7 i2 g7 d e7 => Wa (jU (ke (jE ?_)))))
    replace d := d.ju (Kr (Db (Db St)))
    exact ⟨d7, i2, i1, g7, c3, _, ⟨rfl, d6⟩, (u.trans a9), (d.ju (Sb (Pr Pz) (Sb (Pr Pz) (Sb (Pr Pz) (Sb (Pr Pz) St))))), d2, d3, rfl, d5, e7, (by rw [c6]; exact y)⟩
   refine kG (ke (jE ?_))
   replace d := d.ju (Db St)
   exact ⟨d7, D, I, G, c3, _, ⟨rfl, d6⟩, (u.trans a9), (d.ju St), d2, d3, d4, d5, M, (by rw [c6]; exact y)⟩
  refine bC z (fun t z => ?_) (fun t z => ?_)
  ·refine ug t (jv rfl (jy d.has Mh [(.int .i64 ((c.1).Op)), (.int .i64 ((c.1).K)), d1, e5, b8] rfl aK aC)) (ug t (jC Z) (bS z fun k2 f3 z => rB t (Eg d call54 (Ch c.1 b8 b6 (fun (x : jq) => pq x B.1 B.2.1 B.2.2.1 B.2.2.2.1 B.2.2.2.2.1 B.2.2.2.2.2.1 B.2.2.2.2.2.2) _ _ (c7.mono jD.mono d.jB) ⟨191, #[], #[(.pointer (some ⟨N, 0, none⟩)), (.pointer (some ⟨Q, 0, none⟩))], rfl, call191, fun W x r n hm => (GF x N q e0 B.1 e1 B.2.1 e2 B.2.2.1 e3 B.2.2.2.1 e4 B.2.2.2.2.1 B.2.2.2.2.2.1 Q B.2.2.2.2.2.2 r W (h6.at (fun b o m => n _ _ ((fun b o m => d.at_ (Mt (Mt (Mt (Mt (Mt (Mt (Ma (Ml m))))))))) b o m))) (h7.sl kC (fun b o m => n _ _ ((fun b o m => d.at_ (Mt (Mt (Mt (Mt (Mt (Mt (Ma (Ma (Ml m)))))))))) b o m))) (h8.at (fun b o m => n _ _ ((fun b o m => d.at_ (Mt (Mt (Mt (Mt (Mt (Mt (Ma (Ma (Ma (Ml m))))))))))) b o m))) (h9.at (fun b o m => n _ _ ((fun b o m => d.at_ (Mt (Mt (Mt (Mt (Mt (Mt (Ma (Ma (Ma (Ma (Ml m)))))))))))) b o m))) ((i0.DD pv).mono (Pl.mono _) (lI (fun b o m => n _ _ ((fun b o m => d.at_ (Mt (Mt (Mt (Mt (Mt (Mt (Ma (Ma (Ma (Ma (Ma (Ml m))))))))))))) b o m)))) (At.of (n _ _ (d.at_ (Mt (Mt (Mt Mh))))) _ rfl) (At.of (n _ _ (d.at_ (Mt (Mt Mh)))) _ rfl) (At.of (n _ _ (d.at_ (Mt (Mt (Mt (Mt Mh)))))) _ rfl) hm).lz⟩ f3) (fun j8 d => V (jM (cB t) rfl) ?_))))
   obtain rfl := sj z
   exact b0 _ _ ⟨_, (d.ju (Db St)), Y, Z, a3, rfl, a4, eN, L, rfl⟩
  refine un t (un t (un t (V (jO (cB t) rfl) ?_)))
  obtain rfl := sj z
  exact b0 _ _ ⟨_, (d.ju (Db St)), Y, Z, a3, rfl, a4, eN, L, rfl⟩
 rintro E W ⟨D, I, G, s, b4, ⟨L, eN⟩, u, d, Y, Z, a3, a4, M, j⟩
 rw [aH] at j
 refine jE ?_
 replace d := d.ju (Db (Db (Db (Db (Kr (Dr (Dr (Dr (Dr (Dr St))))))))))
 refine sg (Wh a3 (bS j fun k3 f4 j => VE (oW d call125 (L5 D I _ _ (M.sl kC (fun b o m => d.at_ (Ml m))) f4) (fun j9 i3 k9 g8 d i4 ad c5 => Wa (ln ?_)))))
 replace d := d.ju (Kr (Dr St))
 refine jZ ?_
 obtain rfl := sj j
 exact kO (v := i3) rfl rfl ⟨_, g8, rfl, d.mC (fun p m => (Ml m)) c5.nd, c5⟩
theorem Fv (g : kx) (D K : Value) (i : kx) (G M : Value) (r : ((List jr) × (List jr) × Int)) (w : World) (x : Sl ko 15 (hp w) D g.jF) (I : Sl kQ 8 (hp w) K g.jP) (y : Sl ko 15 (hp w) G i.jF) (J : Sl kQ 8 (hp w) M i.jP) (hm : ue g i = some r) :
  lH false pg0 17 [(.agg #[(.string g.Name), D, K]), (.agg #[(.string i.Name), G, M])] w [] (fun v L1 W' => ∃ y1 S2 y4 S5, v = (.tuple #[y1, y4, (.int .i64 (r.2.2))]) ∧ L1 = (S2 ++ (S5 ++ [])) ∧ jX 52 jw 9 y1 r.1 S2 ∧ jX 52 jw 9 y4 r.2.1 S5) := by
 refine sP 41 func17 rfl (fun d => sg ?_)
 obtain ⟨A1, c2, rfl⟩ := x.form
 obtain ⟨A3, c4, rfl⟩ := I.form
 let q := (C3 g.Name A1 g.jF.length c2 A3 g.jP.length c4)
 refine VE (kj d rfl (fun W6 p d => ?_))
 obtain ⟨A7, c8, rfl⟩ := y.form
 obtain ⟨A9, O, rfl⟩ := J.form
 let a0 := (C3 i.Name A7 i.jF.length c8 A9 i.jP.length O)
 refine VE (kj d rfl (fun f8 n d => Wa (Wa (Wa (lr (Wa (Wa (lr (Wa ?_)))))))))
 refine ln (rb (lA (nc (fun m E W => ∃ t a4 N u a5 Q H a9 b9, kf (hp w) a9 ∧ ST false kp w W a9 ((n, Ol a0 25) :: ((p, Ol q 25) :: (Q ++ (N ++ b9)))) ∧ E 2 = (.pointer (some ⟨p, 0, none⟩)) ∧ E 3 = (.pointer (some ⟨n, 0, none⟩)) ∧ E 7 = t ∧ E 8 = u ∧ E 9 = (.int .i64 H) ∧ jX 52 jw 9 t a4 N ∧ jX 52 jw 9 u a5 Q ∧ oX g i m a4 a5 H = some r) jY ⟨(.slice none 0 0), ([]), [], (.slice none 0 0), ([]), [], 0, (hp w), _, (kf.refl _), (d.ju St), rfl, rfl, rfl, rfl, rfl, (jX.nil _ _ _), (jX.nil _ _ _), hm⟩ ?_)))
 rintro m E W ⟨t, a4, N, u, a5, Q, H, a9, b9, j, d, T, U, Y, Z, c9, a2, a3, c⟩
 cases m with
 | zero => rw [oX] at c; cases c
 | succ e6 =>
  refine jI (lA (jI ?_))
  replace d := d.drew
  have h := d.has.ju (Kb (Kb Sn))
  refine ky h kd (XH 0 rfl h (fun _ l => jv T (jy l (Mt Mh) q rfl cY cM)) (X 1 rfl h (jC Z) (X 2 rfl h (jz yu U) (XH 3 rfl h (fun _ l => jv rfl (jK l Mh rfl bT)) (XH 5 rfl h (fun _ l => jv U (jy l Mh a0 rfl cY cM)) (X 6 rfl h (jC Y) (X 7 rfl h (jz yu T) (XH 8 rfl h (fun _ l => jv rfl (jK l (Mt Mh) rfl bT)) (bS c fun e7 d7 c => XE 4 rfl (oW d call52 (AJ g (.slice A1 g.jF.length c2) (.slice A3 g.jP.length c4) u a5 i.Name _ _ (x.mono kB.mono (j.trans d.jB)) (I.mono mi.mono (j.trans d.jB)) (a3.sl kC (fun b o L => d.at_ (Mt (Mt (Ml L))))) d7) (fun f4 d2 f7 c1 d k s b1 => ?_)))))))))))
  have h := d.has.ox k (Dr (Kb (Kb Sn)))
  refine ⟨h, (bS c fun e8 d8 c => XE 9 rfl (oW d call52 (AJ i (.slice A7 i.jF.length c8) (.slice A9 i.jP.length O) t a4 g.Name _ _ (y.mono kB.mono ((j.trans k).trans d.jB)) (J.mono mi.mono ((j.trans k).trans d.jB)) (a2.sl kC (fun b o L => d.at_ (Ma (Mt (Mt (Ma (Ml L))))))) d8) (fun f5 d3 d4 c3 d P A b2 => ?_)))⟩
  have h := d.has.ox (k.trans P) (Dr (Dr (Kb (Kb Sn))))
  refine ⟨h, (X 10 rfl h (lO rfl) (X 11 rfl h (lO rfl) (kM kr (jE (jI (sg (Wm (V (ns aR rfl b1) (Wh Y (V (ns aR rfl a2) (Wi rfl (Wm (LJ c (fun d1 E W => ∃ c0, ST false kp w W d4 ((n, Ol a0 25) :: ((p, Ol q 25) :: (c3 ++ (c1 ++ (Q ++ (N ++ c0)))))) ∧ E 2 = (.pointer (some ⟨p, 0, none⟩)) ∧ E 3 = (.pointer (some ⟨n, 0, none⟩)) ∧ E 7 = t ∧ E 8 = u ∧ E 9 = (.int .i64 H) ∧ E 10 = d2 ∧ E 11 = d3 ∧ E 35 = (.bool d1)) 6 ?_ (fun d1 B R => ?_))))))))))))))⟩
  ·rintro f6 E W ⟨c0, d, d9, e0, e1, e2, d0, e3, e4, e5⟩ z
   refine ln (CI z e5 (fun d6 z => ?_) (fun d6 z => ?_))
   ·refine sg (Wh e1 (Wh e2 (Wh d0 (Wa (Wa (Wa (ln ?_)))))))
    replace d := d.ju (Db (Db (Dr (Dr St))))
    refine jZ (km (mn (km (km (mn (km ?_))))))
    obtain rfl := sj z
    exact J6 (v0 := t) (v1 := u) (v2 := (.int .i64 H)) rfl rfl rfl rfl ⟨_, _, rfl, (d.K7 (Sr (Qr Qz) (Kr Sn))), t, N, u, Q, rfl, rfl, a2, a3⟩
   refine kn ?_
   replace d := d.ju (Kb (Kb (Kr (Kr (Dr (Dr St))))))
   exact jG (Wh e3 (Wh e4 (Wa (Wa (jU (ke (jE (jG (Wh d0 (Wi rfl (Wa (ln ⟨e6, bI _, d2, e7, c1, d3, e8, c3, (wi0 .i64 (H + 1)), d4, _, ((j.trans k).trans P), (d.ju St), d9, e0, rfl, rfl, rfl, b1, b2, z⟩))))))))))))
  refine bC B (fun a B => ?_) (fun a B => ?_)
  ·refine ug a (jC rfl) (ug a (ns aR rfl b2) (ug a (jC Z) (ug a (ns aR rfl a3) (ug a (kv rfl rfl rfl) (V (jM (cB a) rfl) ?_)))))
   obtain rfl := sj B
   exact R _ _ ⟨_, (d.ju (Sb (Pr (Pr Pz)) (Sb (Pr (Pr Pz)) St))), T, U, Y, Z, c9, rfl, rfl, rfl⟩
  refine un a (un a (un a (un a (un a (V (jO (cB a) rfl) ?_)))))
  obtain rfl := sj B
  exact R _ _ ⟨_, (d.ju (Sb (Pr (Pr Pz)) (Sb (Pr (Pr Pz)) St))), T, U, Y, Z, c9, rfl, rfl, rfl⟩
theorem GU (y : kx) (j u : Value) (r : List jr) (w : World) (c : Sl ko 15 (hp w) j y.jF) (B : Sl kQ 8 (hp w) u y.jP) (hm : yF y = some r) :
  kY true pg0 110 [(.agg #[(.string y.Name), j, u])] w 52 jw 9 r := by
 refine sP 21 func110 rfl (fun b => sg ?_)
 obtain ⟨A1, c2, rfl⟩ := c.form
 obtain ⟨A3, c4, rfl⟩ := B.form
 refine VE (kj b rfl (fun W6 b5 b => Wa (lr (Wa (lS (Wf xd (VB b Mh rfl rfl gV (V (kJ dt rfl c) ?_))))))))
 refine Wm (ln ?_)
 replace b := b.ju (Db St)
 refine ku (fun i E W => ∃ t z k D, (E 9 = .int .i64 (i : Nat) ∧ E 8 = .int .i64 (y.jF.length : Nat)) ∧ ST true kp w W (hp w) (k ++ D) ∧ E 3 = t ∧ E 7 = (.slice A1 y.jF.length c2) ∧ jX 52 jw 9 t z k ∧ tH (y.jF.drop i) z = some r) y.jF.length c.len ⟨(.slice none 0 0), ([]), [], _, ⟨rfl, rfl⟩, (b.ju St), rfl, rfl, (jX.nil _ _ _), hm⟩ dc dc dc (fun _ _ _ h => by obtain ⟨_, _, _, _, m, _⟩ := h; exact m) ?_ ?_
 ·rintro L E W T ⟨t, z, k, D, ⟨d, n⟩, b, G, H, x, g⟩
  obtain ⟨a, c5, a4, a3, a5⟩ := kc T
  rw [a4] at g
  refine bg (VQ (lF (i := (L : Int)) (x0 := a) ko.out dt dn H d c (aG _) a3) (fun c0 ⟨_, ⟨c1, c3, rfl, Y, Z⟩, U⟩ => V (jv rfl (jQ b.has U gw dn)) (VE (kh b eO (fun P b7 b => ?_)))))
  obtain ⟨I, K, rfl⟩ := Y.form
  obtain ⟨J, M, rfl⟩ := Z.form
  let a0 := (C2 a.Signed.jr.Kind a.Signed.jr.Head.js a.Signed.jr.Head.Word a.Signed.jr.kz a.Signed.jr.B.js a.Signed.jr.B.Word a.Signed.jr.C.js a.Signed.jr.C.Word a.Signed.jr.kK I a.Signed.Tag.length K a.jx.Op a.jx.K a.jx.jq.js a.jx.jq.Word J a.jx.Kids.length M)
  refine VO (jL (.agg a0.toArray) (a0.toArray) b rfl rfl dn oc nb rfl (fun b3 b => ln (jG (Wh G (Wf uL (Wf ux (VA b Mh (jw a.Signed.jr) bU aM (VE (jW (cs := (jw a.Signed.jr).toArray) b (kX rfl) (lM aR aM cT) (fun b4 a2 b => ?_))))))))))
  replace b := b.perm (Nr (Qb (Qb Qz)) Nz)
  refine bS g fun s Q g => VE (mz (enc := jw) (v := t) (vs := (.slice (some ⟨a2, 0, none⟩) 1 1)) (R := k) b kC dc nw aR mT.1 mT.2.1 rfl mT.2.2.1 mT.2.2.2 rfl rfl x (Sl.lit (enc := jw) (l := [a.Signed.jr]) kC rfl nb rfl (b.at_ (Ma Mh))) Q (fun b6 A q b N => Wa (jU (ke (jE ?_)))))
  replace b := b.ju (Kr (Db (Db St)))
  exact ⟨d, A, s, q, _, ⟨rfl, n⟩, (b.ju St), rfl, H, N, (by rw [a5]; exact g)⟩
 rintro E W ⟨t, z, k, D, ⟨d, n⟩, b, G, H, x, g⟩
 rw [aH] at g
 refine jE (sg (Wh G (Wa (lt ?_))))
 obtain rfl := sj g
 exact kO (v := t) rfl rfl ⟨_, k, rfl, b.mC (fun p O => (Ml O)) x.nd, x⟩
theorem EA (z : Int) (t : kx) (G M : Value) (B : kx) (H N A : Value) (a3 : List jr) (r : List jV) (w : World) (g : Sl ko 15 (hp w) G t.jF) (J : Sl kQ 8 (hp w) M t.jP) (D : Sl ko 15 (hp w) H B.jF) (K : Sl kQ 8 (hp w) N B.jP) (e8 : Sl (Pl jw) 9 (hp w) A a3) (hm : yA z t B a3 = some r) :
  kY false pg0 42 [(.int .i64 z), (.agg #[(.string t.Name), G, M]), (.agg #[(.string B.Name), H, N]), A] w 40 jN 3 r := by
 refine sP 55 func42 rfl (fun d => sg ?_)
 obtain ⟨A1, c2, rfl⟩ := g.form
 obtain ⟨A3, c4, rfl⟩ := J.form
 refine VE (kj d rfl (fun W6 b5 d => ?_))
 obtain ⟨A7, c8, rfl⟩ := D.form
 obtain ⟨A9, b0, rfl⟩ := K.form
 refine VE (kj d rfl (fun h7 i0 d => Wa (ln (jI ?_))))
 replace d := d.drew
 have m := d.has.ju (Kb (Kb Sn))
 refine ky m kd (XH 0 rfl m (fun _ q => jv rfl (jy q (Mt Mh) (C3 t.Name A1 t.jF.length c2 A3 t.jP.length c4) rfl cY cM)) (XH 1 rfl m (fun _ q => jv rfl (jy q Mh (C3 B.Name A7 B.jF.length c8 A9 B.jP.length b0) rfl cY cM)) (X 3 rfl m (jz yu rfl) (XH 4 rfl m (fun _ q => jv rfl (jK q Mh rfl bT)) (bS hm fun f6 e9 hm => XE 2 rfl (oW d call110 (kY.lz (GU B (.slice A7 B.jF.length c8) (.slice A9 B.jP.length b0) _ _ (D.mono kB.mono d.jB) (K.mono mi.mono d.jB) e9)) (fun h8 f7 i1 h6 d x ab e6 => ?_)))))))
 have m := d.has.ox x (Dr (Kb (Kb Sn)))
 refine ⟨m, (bS hm fun d5 f0 hm => XE 5 rfl (oW d call52 (AJ t (.slice A1 t.jF.length c2) (.slice A3 t.jP.length c4) f7 f6 B.Name _ _ (g.mono kB.mono (x.trans d.jB)) (J.mono mi.mono (x.trans d.jB)) (e6.sl kC (fun b o s => d.at_ (Ml s))) f0) (fun h9 d6 f8 f5 d a4 ad e7 => ?_)))⟩
 have m := d.has.ox (x.trans a4) (Dr (Dr (Kb (Kb Sn))))
 refine ⟨m, (X 6 rfl m (lO rfl) (kM kr (jE ?_)))⟩
 replace d := d.ju (Kr (Dr (Db St)))
 refine sg (Wa (lS (Wf xd (VB d (Ma Mh) rfl rfl gV (V (kJ dt rfl g) (Wm (ln ?_)))))))
 replace d := d.ju (Kr (Db St))
 refine ku (fun i E W => ∃ u Z k P, (E 22 = .int .i64 (i : Nat) ∧ E 21 = .int .i64 (t.jF.length : Nat)) ∧ ST false kp w W f8 (k ++ (f5 ++ P)) ∧ E 0 = (.int .i64 z) ∧ E 3 = A ∧ E 9 = d6 ∧ E 10 = u ∧ E 20 = (.slice A1 t.jF.length c2) ∧ jX 40 jN 3 u Z k ∧ pj d5 z a3 (t.jF.drop i) i Z = some r) t.jF.length g.len ⟨(.slice none 0 0), ([]), [], _, ⟨rfl, rfl⟩, (d.ju St), rfl, rfl, rfl, rfl, rfl, (jX.nil _ _ _), hm⟩ dc dc dc (fun _ _ _ h => by obtain ⟨_, _, _, _, aa, _⟩ := h; exact aa) ?_ ?_
 ·rintro j E W c6 ⟨u, Z, k, P, ⟨n, L⟩, d, I, Q, T, U, Y, y, c⟩
  let a2 := (⟨1, z, (j : Int)⟩ : jV)
  let O := (⟨2, z, (j : Int)⟩ : jV)
  obtain ⟨a, f9, d4, d3, a5⟩ := kc c6
  rw [d4] at c
  refine bg (Wh n (VQ (lF (i := (j : Int)) (x0 := a) ko.out dt dn Y n (g.mono kB.mono (x.trans a4)) (aG _) d3) (fun h1 ⟨_, ⟨h4, h5, rfl, d1, d2⟩, c7⟩ => V (jv rfl (jQ d.has c7 gw dn)) (VE (kh d eO (fun g0 h0 d => Wa ?_))))))
  obtain ⟨a8, b1, rfl⟩ := d1.form
  obtain ⟨a9, b2, rfl⟩ := d2.form
  let a0 := (C2 a.Signed.jr.Kind a.Signed.jr.Head.js a.Signed.jr.Head.Word a.Signed.jr.kz a.Signed.jr.B.js a.Signed.jr.B.Word a.Signed.jr.C.js a.Signed.jr.C.Word a.Signed.jr.kK a8 a.Signed.Tag.length b1 a.jx.Op a.jx.K a.jx.jq.js a.jx.jq.Word a9 a.jx.Kids.length b2)
  refine VO (jL (.agg a0.toArray) (a0.toArray) d rfl rfl dn oc nb rfl (fun g1 d => ln (bg (Wh T (Wf uL (Wf ux (VA d Mh (jw a.Signed.jr) bU aM (bS c fun h2 c9 c => VE (Eg d call111 (jT.lz (ym d6 d5 a.Signed.jr _ _ (e7.sl kC (fun b o s => d.at_ (Mt (Ma (Ml s))))) c9)) (fun g2 d => V (nj rfl) (Wa (jU ?_))))))))))))
  refine jE (CI c rfl (fun c0 c => ?_) (fun c0 c => ?_))
  ·refine jG (Wh U (Wh I (Wm (V (lC (v := (.agg (jN (O)).toArray)) (xv rfl rfl rfl) (kI dl cL (BT _ cL) kr)) (VE (jW (cs := (jN (O)).toArray) d (kX rfl) (lM bN dG dl) (fun g3 e2 d => ?_)))))))
   replace d := d.perm (Nr (Qb (Qb Qz)) Nz)
   refine bS c fun f1 c1 c => VE (mz (enc := jN) (v := u) (vs := (.slice (some ⟨e2, 0, none⟩) 1 1)) (R := k) d lh dc oY bN mr.1 mr.2.1 rfl mr.2.2.1 mr.2.2.2 rfl rfl y (Sl.lit (enc := jN) (l := [O]) lh rfl nb rfl (d.at_ (Ma Mh))) c1 (fun g4 f3 e0 d b7 => Wa (jU (ke (ke (jE ?_))))))
   replace d := d.ju (Kr (Db (Db St)))
   exact ⟨n, f3, f1, e0, _, ⟨rfl, L⟩, (d.ju St), I, Q, T, rfl, Y, b7, (by rw [a5]; exact c)⟩
  refine sg (Wh Q (Wf uL (Wf ux (VA d Mh (jw a.Signed.jr) bU aM (bS c fun h3 d0 c => VE (Eg d call111 (jT.lz (ym A a3 a.Signed.jr _ _ (e8.mono (Pl.mono _) ((x.trans a4).trans d.jB)) d0)) (fun g7 d => V (nj rfl) (Wa (ln ?_)))))))))
  replace d := d.ju (Db St)
  refine CI c rfl (fun c3 c => ?_) (fun c3 c => ?_)
  ·refine jG (Wh U (Wh I (Wm (V (lC (v := (.agg (jN (a2)).toArray)) (xv rfl rfl rfl) (kI dl cL (BT _ cL) kr)) (VE (jW (cs := (jN (a2)).toArray) d (kX rfl) (lM bN dG dl) (fun g8 e3 d => ?_)))))))
   replace d := d.perm (Nr (Qb Qz) Nz)
   refine bS c fun f2 c5 c => VE (mz (enc := jN) (v := u) (vs := (.slice (some ⟨e3, 0, none⟩) 1 1)) (R := k) d lh dc oY bN mr.1 mr.2.1 rfl mr.2.2.1 mr.2.2.2 rfl rfl y (Sl.lit (enc := jN) (l := [a2]) lh rfl nb rfl (d.at_ (Ma Mh))) c5 (fun g9 f4 e1 d b9 => Wa (jU (ke (ke (jE ?_))))))
   replace d := d.ju (Kr (Db St))
   exact ⟨n, f4, f2, e1, _, ⟨rfl, L⟩, (d.ju St), I, Q, T, rfl, Y, b9, (by rw [a5]; exact c)⟩
  exact kG (ke (ke (jE ⟨n, u, Z, k, _, ⟨rfl, L⟩, (d.ju St), I, Q, T, U, Y, y, (by rw [a5]; exact c)⟩)))
 rintro E W ⟨u, Z, k, P, ⟨n, L⟩, d, I, Q, T, U, Y, y, c⟩
 rw [aH] at c
 refine jE ?_
 replace d := d.ju (Kr (Dr St))
 refine sg (Wh U (Wa (lt ?_)))
 obtain rfl := sj c
 exact kO (v := u) rfl rfl ⟨_, k, rfl, d.mC (fun p s => (Ml s)) y.nd, y⟩
theorem zW (a : Value) (g : List jr) (c : Value) (i : jr → Option Bool) (r : Bool) (w : World) (j : Sl (Pl jw) 9 (hp w) a g) (k : yN pg0 c (hp w) (fun (x : jr) => [(.agg (jw x).toArray)]) (fun (r : Bool) => (.bool r)) i) (hm : pK g i = some r) :
  jT false pg0 112 [a, c] w (.bool r) := by
 refine cG 9 func112 rfl (fun b => sg (Wa (lr (Wm (Wm (bS hm fun y t hm => VE (Eg b call180 (wT a g c i _ _ (j.mono (Pl.mono _) b.jB) (k.mono b.jB) t) (fun u b => Wi rfl (Wa (jU ?_))))))))))
 exact jE (jZ (rQ hm b))
theorem Hu (c : jr) (g : Nat) (a : Value) (j : List jr) (r : Bool) (w : World) (k : Sl (Pl jw) 9 (hp w) a j) (i : At (hp w) (.pointer (some ⟨g, 0, none⟩)) [a]) (hm : wA c j = some r) :
  jT true pg0 113 [(.agg (jw c).toArray), (.pointer (some ⟨g, 0, none⟩))] w (.bool r) := by
 refine cG 7 func113 rfl (fun b => sg (VE (kj b rfl (fun u z b => Wa (lr (V (jv rfl (oE b.has (y := a) i iZ)) (VA b Mh (jw c) bU aM (bS hm fun B t hm => VE (Eg b call111 (ym a j c _ _ (k.mono (Pl.mono _) b.jB) t) (fun x b => Wa (jU ?_)))))))))))
 refine jE ?_
 exact jZ (rQ hm b)
theorem Ft (H : Int) (j : kx) (B D : Value) (r : List jV) (w : World) (y : Sl ko 15 (hp w) B j.jF) (g : Sl kQ 8 (hp w) D j.jP) (hm : zp H j = some r) :
  kY false pg0 43 [(.int .i64 H), (.agg #[(.string j.Name), B, D])] w 40 jN 3 r := by
 refine sP 32 func43 rfl (fun d => sg ?_)
 obtain ⟨A1, c2, rfl⟩ := y.form
 obtain ⟨A3, A, rfl⟩ := g.form
 refine VE (kj d rfl (fun W6 b5 d => Wa (lr (VA d Mh (C3 j.Name A1 j.jF.length c2 A3 j.jP.length A) cY cM (bS hm fun Y d1 hm => VE (oW d call110 (kY.lz (GU j (.slice A1 j.jF.length c2) (.slice A3 j.jP.length A) _ _ (y.mono kB.mono d.jB) (g.mono mi.mono d.jB) d1)) (fun W9 e6 d2 d0 d b4 aa P => VE (kh d iI (fun e4 N d => ?_)))))))))
 obtain ⟨Z, a2, rfl⟩ := P.form
 let q : Value := (.slice Z Y.length a2)
 refine VO (jL q (#[q]) d rfl rfl sizeOf45 oc nb rfl (fun e5 d => lr (Wa (lS (Wf Ef (VB d (Mt (Ma Mh)) rfl rfl isAgg23 (V (kJ cX rfl g) (Wm ?_))))))))
 refine ln ?_
 replace d := d.ju (Kb (Kr (Db St)))
 refine ku (fun i E W => ∃ u G k T, (E 14 = .int .i64 (i : Nat) ∧ E 13 = .int .i64 (j.jP.length : Nat)) ∧ ST false kp w W d2 ((N, Ob #[q] 45) :: (k ++ (d0 ++ T))) ∧ E 0 = (.int .i64 H) ∧ E 5 = (.pointer (some ⟨N, 0, none⟩)) ∧ E 6 = u ∧ E 12 = (.slice A3 j.jP.length A) ∧ jX 40 jN 3 u G k ∧ rj Y H (j.jP.drop i) i G = some r) j.jP.length g.len ⟨(.slice none 0 0), ([]), [], _, ⟨rfl, rfl⟩, (d.ju St), rfl, rfl, rfl, rfl, (jX.nil _ _ _), hm⟩ dc dc dc (fun _ _ _ h => by obtain ⟨_, _, _, _, L, _⟩ := h; exact L) ?_ ?_
 ·rintro t E W b3 ⟨u, G, k, T, ⟨m, O⟩, d, I, J, K, M, z, a⟩
  let s := (⟨3, H, (t : Int)⟩ : jV)
  obtain ⟨c, d3, c1, c0, a4⟩ := kc b3
  rw [c1] at a
  refine bg (Wh m (VQ (lF (i := (t : Int)) (x0 := c) kQ.out cX dv M m (g.mono mi.mono b4) (aG _) c0) (fun e0 ⟨_, ⟨e2, e3, rfl, b9, a3⟩, b6⟩ => V (jv rfl (jQ d.has b6 gK dv)) (VE (kh d fp (fun d4 d9 d => Wa ?_))))))
  obtain ⟨a5, a6, rfl⟩ := b9.form
  obtain ⟨Q, U, rfl⟩ := a3.form
  let a0 := (C6 c.jq.js c.jq.Word c.jx.Op c.jx.K c.jx.jq.js c.jx.jq.Word a5 c.jx.Kids.length a6 Q c.lj.length U)
  refine VO (jL (.agg a0.toArray) (a0.toArray) d rfl rfl dv oc nb rfl (fun d5 d => lr (Wf Cq (VB d Mh rfl rfl iZ (V (uf (by exact vg J) rfl) (bS a fun e1 b7 a => VE (Eg d call112 (zW (.slice Q c.lj.length U) c.lj (.func (.func 113) #[] #[(.pointer (some ⟨N, 0, none⟩))]) (fun (x : jr) => wA x Y) _ _ (a3.mono (Pl.mono _) d.jB) ⟨113, #[], #[(.pointer (some ⟨N, 0, none⟩))], rfl, call113, fun W x r hs hm => (Hu x N q Y r W (P.sl kC (fun b o n => hs _ _ ((fun b o n => d.at_ (Mt (Mt (Ma (Ml n))))) b o n))) (At.of (hs _ _ (d.at_ (Mt Mh))) _ rfl) hm).lz⟩ b7) (fun d6 d => V (nj rfl) (ln ?_)))))))))
  replace d := d.ju (Db St)
  refine CI a rfl (fun b1 a => ?_) (fun b1 a => ?_)
  ·refine jG (Wh K (Wh I (Wm (V (lC (v := (.agg (jN (s)).toArray)) (xv rfl rfl rfl) (kI dl cL (BT _ cL) kr)) (VE (jW (cs := (jN (s)).toArray) d (kX rfl) (lM bN dG dl) (fun d7 c6 d => ?_)))))))
   replace d := d.perm (Nr (Qb (Qb Qz)) Nz)
   refine bS a fun c8 b2 a => VE (mz (enc := jN) (v := u) (vs := (.slice (some ⟨c6, 0, none⟩) 1 1)) (R := k) d lh dc oY bN mr.1 mr.2.1 rfl mr.2.2.1 mr.2.2.2 rfl rfl z (Sl.lit (enc := jN) (l := [s]) lh rfl nb rfl (d.at_ (Ma Mh))) b2 (fun d8 c9 c5 d b0 => Wa (jU (ke (jE ?_)))))
   replace d := d.ju (Kr (Db St))
   exact ⟨m, c9, c8, c5, _, ⟨rfl, O⟩, (d.ju (Sb (Pr Pz) St)), I, J, rfl, M, b0, (by rw [a4]; exact a)⟩
  exact kG (ke (jE ⟨m, u, G, k, _, ⟨rfl, O⟩, (d.ju St), I, J, K, M, z, (by rw [a4]; exact a)⟩))
 rintro E W ⟨u, G, k, T, ⟨m, O⟩, d, I, J, K, M, z, a⟩
 rw [aH] at a
 refine jE ?_
 replace d := d.ju (Db (Kr (Dr St)))
 refine sg (Wh K (Wa (lt ?_)))
 obtain rfl := sj a
 exact kO (v := u) rfl rfl ⟨_, k, rfl, d.mC (fun p n => (Ml n)) z.nd, z⟩
theorem ID (k : kx) (j B : Value) (t : kx) (a c : Value) (r : ((List jr) × (List (jq × (List (ByteArray × Bool)))) × (List jr) × (List (jq × (List jr))) × (List (ByteArray × (List jr))) × (List jJ) × Int × ByteArray)) (w : World) (g : Sl ko 15 (hp w) j k.jF) (y : Sl kQ 8 (hp w) B k.jP) (i : Sl ko 15 (hp w) a t.jF) (z : Sl kQ 8 (hp w) c t.jP) (hm : zO k t = some r) :
  lH false pg0 53 [(.agg #[(.string k.Name), j, B]), (.agg #[(.string t.Name), a, c])] w [] (fun v L1 W' => ∃ A S2 m l E S7 L M a2 N a3 Q a4 T Y, v = (.tuple #[A, (.func (.func 127) #[] #[(.pointer (some ⟨m, 0, none⟩)), (.pointer (some ⟨Y, 0, none⟩))])]) ∧ L1 = ((m, Ob #[(.pointer (some ⟨l, 0, none⟩))] 183) :: ((l, Ob #[E, L, a2, a3, a4, (.int .i64 (r.2.2.2.2.2.2.1))] 246) :: ((Y, Ob #[(.string (r.2.2.2.2.2.2.2)), a, c] 25) :: (S2 ++ (S7 ++ (M ++ (N ++ (Q ++ (T ++ []))))))))) ∧ jX 52 jw 9 A r.1 S2 ∧ lQ (fun (x : jq) => (.agg (jA x).toArray)) (lN Value.string (fun (x : Bool) => (Value.bool x))) E r.2.1 S7 ∧ jX 52 jw 9 L r.2.2.1 M ∧ lQ (fun (x : jq) => (.agg (jA x).toArray)) (jX 52 jw 9) a2 r.2.2.2.1 N ∧ lQ Value.string (jX 52 jw 9) a3 r.2.2.2.2.1 Q ∧ pN 285 kq 3 a4 r.2.2.2.2.2.1 T) := by
 refine sP 21 func53 rfl (fun d => sg ?_)
 obtain ⟨A1, c2, rfl⟩ := g.form
 obtain ⟨A3, n, rfl⟩ := y.form
 refine VE (kj d rfl (fun W6 l d => ?_))
 obtain ⟨A7, p, rfl⟩ := i.form
 obtain ⟨A9, I, rfl⟩ := z.form
 refine VE (kj d rfl (fun f4 U d => Wa (Wa (lr (VA d (Mt Mh) (C3 k.Name A1 k.jF.length c2 A3 k.jP.length n) cY cM (VA d Mh (C3 t.Name A7 t.jF.length p A9 t.jP.length I) cY cM (bS hm fun d7 R hm => ?_)))))))
 refine VE (Fo d (bW _) call17 (fun _ _ _ _ => (Fv k (.slice A1 k.jF.length c2) (.slice A3 k.jP.length n) t (.slice A7 t.jF.length p) (.slice A9 t.jP.length I) _ _ (g.mono kB.mono d.jB) (y.mono mi.mono d.jB) (i.mono kB.mono d.jB) (z.mono mi.mono d.jB) R)) (fun f5 g0 g3 f1 d e6 q h O => ?_) (L0 := []))
 obtain ⟨g2, f3, K, c9, D, rfl, f0, J⟩ := O
 replace D := D.symm; subst D
 replace d := d.perm (Tr (Tr Tn))
 refine Wm (Wx rfl (Wx rfl (Wx rfl (Wa (Wa (Wa (ln ?_)))))))
 replace d := d.ju (Dr (Kr (Kb (Db St))))
 refine sg (Wm (bS hm fun f9 W hm => ?_))
 refine VE (Fo d (bW _) call126 (fun _ _ _ _ => (GY K d7.2.1 _ _ (J.sl kC (fun b o hq => d.at_ (Ml hq))) W)) (fun f6 g1 g4 f2 d e7 s h P => ?_) (L0 := []))
 obtain ⟨H, d9, d0, e0, d1, e1, d2, e2, d3, e3, d4, G, rfl, c0, c1, c3, c5, c6⟩ := P
 replace G := G.symm; subst G
 replace d := d.perm (Tb (Tr (Tr (Tr (Tr (Tr Tn))))))
 refine VE (kh d zeroValue183 (fun f7 Z d => VO (jL (.pointer (some ⟨H, 0, none⟩)) (#[(.pointer (some ⟨H, 0, none⟩))]) d rfl rfl sizeOf183 oc nb rfl (fun f8 d => lr (Wm (V (uf (by exact wP rfl rfl) rfl) (Wa (Wa (lt ?_)))))))))
 obtain rfl := sj hm
 exact D3 (v := K) (u := (.func (.func 127) #[] #[(.pointer (some ⟨Z, 0, none⟩)), (.pointer (some ⟨U, 0, none⟩))])) rfl rfl rfl ⟨_, _, rfl, (d.K7 (Kb (Kb (Sb (Pr (Pr (Pr (Pr (Pr (Pr Pz)))))) (Sr (Qr (Qr (Qr (Qr (Qr Qz))))) (Kr (Kr (Kr (Kr (Kr Sn)))))))))), K, c9, Z, H, d9, d0, e0, d1, e1, d2, e2, d3, e3, d4, U, rfl, rfl, J, c0, c1, c3, c5, c6⟩
theorem FJ (Z : jq) (d I : Nat) (u : Value) (G : List (jq × (List (ByteArray × Bool)))) (a : Value) (k : List jr) (j : Value) (B : List (jq × (List jr))) (c : Value) (t : List (ByteArray × (List jr))) (i : Value) (z : List jJ) (Q : Int) (a2 : Nat) (g : ByteArray) (D : Value) (J : List lD) (H : Value) (N : List nI) (r : Bool) (w : World) (Y : pZ (fun (x : jq) => (.agg (jA x).toArray)) (lN Value.string (fun (x : Bool) => (Value.bool x))) (hp w) u G) (K : Sl (Pl jw) 9 (hp w) a k) (U : pZ (fun (x : jq) => (.agg (jA x).toArray)) (jX 52 jw 9) (hp w) j B) (M : pZ Value.string (jX 52 jw 9) (hp w) c t) (T : Sl (Pl kq) 3 (hp w) i z) (a3 : At (hp w) (.pointer (some ⟨I, 0, none⟩)) [u, a, j, c, i, (.int .i64 Q)]) (a4 : At (hp w) (.pointer (some ⟨d, 0, none⟩)) [(.pointer (some ⟨I, 0, none⟩))]) (l : Sl ko 15 (hp w) D J) (m : Sl kQ 8 (hp w) H N) (a5 : At (hp w) (.pointer (some ⟨a2, 0, none⟩)) [(.string g), D, H]) (hm : vd Z G k B t z Q g J N = some r) :
  jT true pg0 127 [(.agg (jA Z).toArray), (.pointer (some ⟨d, 0, none⟩)), (.pointer (some ⟨a2, 0, none⟩))] w (.bool r) := by
 refine cG 10 func127 rfl (fun b => sg (VE (kj b rfl (fun W2 n b => Wa (lr (V (jv rfl (oE b.has (y := (.pointer (some ⟨I, 0, none⟩))) a4 isAgg183)) (VA b Mh (jA Z) bF aS (VQ (wu [(.string g)] yu rfl a5 rfl) (fun p h => V (jv rfl (oE b.has (y := (.string g)) h bT)) (bS hm fun q a9 hm => VE (Eg b call128 (AY I u G a k j B c t i z Q Z g _ _ (Y.mono b.jB) (K.mono (Pl.mono _) b.jB) (U.mono b.jB) (M.mono b.jB) (T.mono (Pl.mono _) b.jB) (a3.mono b.jB) a9) (fun W8 b => ?_))))))))))))
 refine Wa (ln ?_)
 exact jZ (rQ hm b)
theorem GB (y : kx) (t D : Value) (c : kx) (u G : Value) (i : Formula) (H : Value) (r : Bool) (w : World) (k : Sl ko 15 (hp w) t y.jF) (z : Sl kQ 8 (hp w) D y.jP) (g : Sl ko 15 (hp w) u c.jF) (j : Sl kQ 8 (hp w) G c.jP) (B : Sl jt 5 (hp w) H i.Kids) (hm : tZ y c i = some r) :
  jT false pg0 19 [(.agg #[(.string y.Name), t, D]), (.agg #[(.string c.Name), u, G]), (.agg #[(.int .i64 i.Op), (.int .i64 i.K), (.string i.jq.js), (.string i.jq.Word), H])] w (.bool r) := by
 refine cG 18 func19 rfl (fun d => sg ?_)
 obtain ⟨A1, c2, rfl⟩ := k.form
 obtain ⟨A3, n, rfl⟩ := z.form
 refine VE (kj d rfl (fun W6 b5 d => ?_))
 obtain ⟨U, Z, rfl⟩ := g.form
 obtain ⟨Y, K, rfl⟩ := j.form
 refine VE (kj d rfl (fun d4 d8 d => ?_))
 obtain ⟨M, T, rfl⟩ := B.form
 refine VE (kj d rfl (fun d5 d9 d => Wa (lr (VA d (Mt (Mt Mh)) (C3 y.Name A1 y.jF.length c2 A3 y.jP.length n) cY cM (VA d (Mt Mh) (C3 c.Name U c.jF.length Z Y c.jP.length K) cY cM (bS hm fun a s hm => ?_))))))
 refine VE (Fo d (bW _) call53 (fun _ _ _ _ => (ID y (.slice A1 y.jF.length c2) (.slice A3 y.jP.length n) c (.slice U c.jF.length Z) (.slice Y c.jP.length K) _ _ (k.mono kB.mono d.jB) (z.mono mi.mono d.jB) (g.mono kB.mono d.jB) (j.mono mi.mono d.jB) s)) (fun d6 e1 e3 c6 d I p m q => ?_) (L0 := []))
 obtain ⟨e2, c7, N, P, R, c9, b9, d0, c0, d1, c1, d2, c3, d3, Q, J, rfl, c5, v, A, E, L, O⟩ := q
 replace J := J.symm; subst J
 replace d := d.perm (Tb (Tb (Tb (Tr (Tr (Tr (Tr (Tr (Tr Tn)))))))))
 refine Wm (Wx rfl (Wx rfl (Wa (Wa (ln ?_)))))
 replace d := d.ju (Kb (Kb (Kb (Dr (Kr (Kr (Kr (Kr (Kr (Kb (Db (Db St))))))))))))
 refine sg (VA d (Mt (Mt (Mt (Ma (Ma (Ma (Ma (Ma Mh)))))))) (C1 i.Op i.K i.jq.js i.jq.Word M i.Kids.length T) aK aC (Wm (bS hm fun e0 a9 hm => VE (Eg d call54 (Ch i (.slice M i.Kids.length T) (.func (.func 127) #[] #[(.pointer (some ⟨N, 0, none⟩)), (.pointer (some ⟨Q, 0, none⟩))]) (fun (x : jq) => vd x a.2.1 a.2.2.1 a.2.2.2.1 a.2.2.2.2.1 a.2.2.2.2.2.1 a.2.2.2.2.2.2.1 a.2.2.2.2.2.2.2 c.jF c.jP) _ _ (B.mono jD.mono (I.trans d.jB)) ⟨127, #[], #[(.pointer (some ⟨N, 0, none⟩)), (.pointer (some ⟨Q, 0, none⟩))], rfl, call127, fun W x r l hm => (FJ x N P R a.2.1 b9 a.2.2.1 c0 a.2.2.2.1 c1 a.2.2.2.2.1 c3 a.2.2.2.2.2.1 a.2.2.2.2.2.2.1 Q a.2.2.2.2.2.2.2 (.slice U c.jF.length Z) c.jF (.slice Y c.jP.length K) c.jP r W (v.at (fun b o h => l _ _ ((fun b o h => d.at_ (Mt (Mt (Mt (Ml h))))) b o h))) (A.sl kC (fun b o h => l _ _ ((fun b o h => d.at_ (Mt (Mt (Mt (Ma (Ml h)))))) b o h))) (E.at (fun b o h => l _ _ ((fun b o h => d.at_ (Mt (Mt (Mt (Ma (Ma (Ml h))))))) b o h))) (L.at (fun b o h => l _ _ ((fun b o h => d.at_ (Mt (Mt (Mt (Ma (Ma (Ma (Ml h)))))))) b o h))) ((O.DD pv).mono (Pl.mono _) (lI (fun b o h => l _ _ ((fun b o h => d.at_ (Mt (Mt (Mt (Ma (Ma (Ma (Ma (Ml h))))))))) b o h)))) (At.of (l _ _ (d.at_ (Mt Mh))) _ rfl) (At.of (l _ _ (d.at_ Mh)) _ rfl) (g.mono kB.mono ((I.trans d.jB).trans l)) (j.mono mi.mono ((I.trans d.jB).trans l)) (At.of (l _ _ (d.at_ (Mt (Mt Mh)))) _ rfl) hm).lz⟩ a9) (fun d7 d => Wa (ln ?_))))))
 exact jZ (rQ hm d)
theorem JO (a : pU) (D H k B t M : Value) (r : List jV) (w : World) (z : Sl ko 15 (hp w) D a.js.jF) (G : Sl kQ 8 (hp w) H a.js.jP) (j : Sl ko 15 (hp w) k a.Client.jF) (y : Sl kQ 8 (hp w) B a.Client.jP) (g : Sl jt 5 (hp w) t a.Formula.Kids) (Y : Sl tW 2 (hp w) M a.Keys) (hm : yC a = some r) :
  kY false pg0 44 [(.agg #[(.string a.js.Name), D, H, (.string a.Client.Name), k, B, (.int .i64 a.Formula.Op), (.int .i64 a.Formula.K), (.string a.Formula.jq.js), (.string a.Formula.jq.Word), t, (.int .i64 a.zP), (.int .i64 a.pL.Ck), (.int .i64 a.pL.Cz), (.int .i64 a.tK), (.int .i64 a.xz), (.int .i64 a.vl), M])] w 40 jN 3 r := by
 refine sP 32 func44 rfl (fun b => sg ?_)
 obtain ⟨A1, c2, rfl⟩ := z.form
 obtain ⟨A3, L, rfl⟩ := G.form
 obtain ⟨A5, O, rfl⟩ := j.form
 obtain ⟨A7, P, rfl⟩ := y.form
 obtain ⟨A9, N, rfl⟩ := g.form
 let a4 := (C1 a.Formula.Op a.Formula.K a.Formula.jq.js a.Formula.jq.Word A9 a.Formula.Kids.length N)
 obtain ⟨d0, d2, rfl⟩ := Y.form
 refine VE (kj b rfl (fun f3 d1 b => Wa (lr (Wf Cx (VA b Mh a4 aK aC (bS hm fun c d6 hm => ?_))))))
 let s : Value := (.int .i64 ((c.1).K))
 let q : Value := (.int .i64 ((c.1).Op))
 let n : Value := (.string (((c.1).jq).Word))
 let m : Value := (.string (((c.1).jq).js))
 refine VE (eD b (bW _) call114 (fun R => (B3 a.Formula (.slice A9 a.Formula.Kids.length N) _ _ R (g.mono jD.mono (kf.refl _)) d6)) ?_ (L0 := []))
 rintro _ f7 d3 f2 b K ab ⟨f8, a2, rfl, a8⟩
 obtain rfl := a2.symm
 refine Wm (Wx rfl (Wx rfl (VE (kh b aP (fun f5 e0 b => ?_)))))
 obtain ⟨T, U, rfl⟩ := a8.form
 let a0 : Value := (.slice T ((c.1).Kids).length U)
 refine VO (jL (.agg #[q, s, m, n, a0]) (#[q, s, m, n, a0]) b rfl rfl aC oc nb rfl (fun f6 b => Wa (ln (jI (lA (jI ?_))))))
 replace b := b.drew
 have d := b.has.ju (Kb Sn)
 refine ky d kd (X 0 rfl d (jC rfl) (X 1 rfl d (kv rfl rfl rfl) (X 2 rfl d (jC rfl) (PJ hm (fun a9 E W => ∃ a3 a5, kf d3 a3 ∧ ST false kp w W a3 ((e0, Ob #[q, s, m, n, a0] 30) :: ((d1, Ol (C5 a.js.Name A1 a.js.jF.length c2 A3 a.js.jP.length L a.Client.Name A5 a.Client.jF.length O A7 a.Client.jP.length P a.Formula.Op a.Formula.K a.Formula.jq.js a.Formula.jq.Word A9 a.Formula.Kids.length N a.zP a.pL.Ck a.pL.Cz a.tK a.xz a.vl d0 a.Keys.length d2) 34) :: a5)) ∧ E 1 = (.pointer (some ⟨d1, 0, none⟩)) ∧ E 18 = (.bool a9)) (bm 8 127) 1 ?_ (fun a9 x Z => ?_)))))
 ·rintro f1 E W ⟨a3, a5, I, b, A, d4⟩ i
  have d := b.has.ox I (Kb Sn)
  refine X 7 rfl d (lO d4) (kM kr (jE ?_))
  replace b := b.ju (Db St)
  refine CI i rfl (fun c0 i => ?_) (fun c0 i => ?_)
  ·refine sg (V (lC (v := (.agg (jN K1).toArray)) (kX rfl) (kI dl cL (BT _ cL) kr)) (VE (jW (cs := (jN K1).toArray) b (kX rfl) (lM bN dG dl) (fun e3 a6 b => Wa (ln ?_)))))
   replace b := b.ju (Kb (Db St))
   refine jZ (mn (km ?_))
   obtain rfl := sj i
   exact kO (v := (.slice (some ⟨a6, 0, none⟩) 1 1)) rfl rfl ⟨_, [(a6, Ol (jN K1) 40)], rfl, b.mC (fun p h => by rw [bV] at h; subst h; exact Mh) (by simp), (jX.lit (l := [K1]) (enc := jN) rfl dc rfl rfl)⟩
  refine sg (V (jz xi A) (VA b Mh (C3 a.js.Name A1 a.js.jF.length c2 A3 a.js.jP.length L) cY cM (V (jz xg A) (VA b Mh (C3 a.Client.Name A5 a.Client.jF.length O A7 a.Client.jP.length P) cY cM (V (jz Cx A) (VA b Mh a4 aK aC (bS i fun e8 c3 i => VE (Eg b call19 (GB a.js (.slice A1 a.js.jF.length c2) (.slice A3 a.js.jP.length L) a.Client (.slice A5 a.Client.jF.length O) (.slice A7 a.Client.jP.length P) a.Formula (.slice A9 a.Formula.Kids.length N) _ _ (z.mono kB.mono ((K.trans I).trans b.jB)) (G.mono mi.mono ((K.trans I).trans b.jB)) (j.mono kB.mono ((K.trans I).trans b.jB)) (y.mono mi.mono ((K.trans I).trans b.jB)) (g.mono jD.mono ((K.trans I).trans b.jB)) c3) (fun e4 b => V (nj rfl) (Wa (ln ?_)))))))))))
  replace b := b.ju (Db St)
  refine CI i rfl (fun c1 i => ?_) (fun c1 i => ?_)
  ·refine sg (V (lC (v := (.agg (jN K2).toArray)) (kX rfl) (kI dl cL (BT _ cL) kr)) (VE (jW (cs := (jN K2).toArray) b (kX rfl) (lM bN dG dl) (fun e5 a7 b => Wa (lt (mn (km ?_)))))))
   obtain rfl := sj i
   exact kO (v := (.slice (some ⟨a7, 0, none⟩) 1 1)) rfl rfl ⟨_, [(a7, Ol (jN K2) 40)], rfl, b.mC (fun p h => by rw [bV] at h; subst h; exact Mh) (by simp), (jX.lit (l := [K2]) (enc := jN) rfl dc rfl rfl)⟩
  refine kG (ke (jE (sg (Wa (lt ?_)))))
  obtain rfl := sj i
  exact kO (v := (.slice none 0 0)) rfl rfl ⟨_, [], rfl, b.mC (fun p h => by cases h) (by simp), jX.nil _ _ _⟩
 refine bC x (fun u x => ?_) (fun u x => ?_)
 ·refine su 3 rfl rfl (cB u) d (fun _ hS => jv rfl (jy hS Mh [q, s, m, n, a0] rfl aK aC)) (bS x fun d7 c5 x => ?_)
  refine Ac 4 rfl rfl (cB u) (eD b (bW _) call115 (fun R => lP.lz (Bi  _ _ R  c5)) ?_ (L0 := []))
  rintro _ f0 d9 e2 b J aa ⟨d8, Q, rfl, c9⟩
  obtain rfl := Q.symm
  have d := b.has.ox J (Kb Sn)
  refine ⟨d, (bS x fun e9 c7 x => Ac 5 rfl rfl (cB u) (Eg b call61 ((yZ jY) c.1 a0 d7 d8 _ _ (a8.mono jD.mono (J.trans b.jB)) (c9.mono jD.mono b.jB) c7) (fun e7 b => ?_)))⟩
  have d := b.has.ox J (Kb Sn)
  refine ⟨d, (X 6 rfl d (jM (cB u) rfl) ?_)⟩
  obtain rfl := sj x
  refine mX kr (Z _ _ ⟨d9, _, J, (b.ju St), rfl, rfl⟩)
 refine Xn 3 rfl rfl (cB u) d (Xn 4 rfl rfl (cB u) d (Xn 5 rfl rfl (cB u) d (X 6 rfl d (jO (cB u) rfl) ?_)))
 obtain rfl := sj x
 refine mX kr (Z _ _ ⟨d3, _, (kf.refl _), (b.ju St), rfl, rfl⟩)
theorem Ar (I : Int) (r : List jV) (w : World) (hm : qi I = some r) :
  kY true pg0 109 [(.slice none 0 0), (.int .i64 I)] w 40 jN 3 r := by
 refine sP 27 func109 rfl (fun b => sg (Wa (lS (Wm (Wi rfl (ln (CI hm rfl (fun K hm => ?_) (fun K hm => ?_))))))))
 ·cases hm
 refine kn (jI (CJ hm (fun u E W => ∃ g c t, ST true kp w W (hp w) (c ++ t) ∧ E 0 = g ∧ jX 40 jN 3 g u c) (fun u a => ?_) ?_))
 ·refine sg (Wm (Wm (V (JD bN rfl) (Wm (V (ze bN rfl) (Wi rfl (Wi rfl (Wa (lr (Wm ?_))))))))))
  refine Wi rfl (ln (CI a rfl (fun y a => ?_) (fun y a => ?_)))
  ·refine jG (Wm (Wm (V (JD bN rfl) (V (MK bN dG rfl rfl) (Wm (bS a fun T B a => VE (Jg (enc := jN) (z := (⟨0, 0, 0⟩ : jV)) b lh dc bN dR mr.1 mr.2.1 mr.2.2.1 mr.2.2.2 rfl rfl rfl B (fun N U H b x => Wm (V (ze bN rfl) (bS a fun _ j a => VQ (Bq (i := 0) bN dG rfl rfl x lh (uw j) (uu j)) (fun M G => Wa (ln ?_))))))))))))
   obtain rfl := sj a
   exact ⟨M, H, _, (b.ju St), rfl, G⟩
  refine kn ?_
  obtain rfl := sj a
  exact ⟨(.slice none 0 0), [], _, (b.ju St), rfl, (jX.nil _ _ _)⟩
 rintro Q E W ⟨g, c, t, b, J, k⟩ D
 refine sg (Wh J (Wa (lt ?_)))
 obtain rfl := sj D
 exact kO (v := g) rfl rfl ⟨_, c, rfl, b.mC (fun p d => (Ml d)) k.nd, k⟩
theorem Bf (t : Value) (z : List (List jV)) (r : List jV) (w : World) (j : Sl (Ie jN 3) 1 (hp w) t z) (hm : qQ z = some r) :
  kY true pg0 41 [t] w 40 jN 3 r := by
 refine sP 36 func41 rfl (fun b => sg (Wa (lr (Wa (lS (Wm ?_))))))
 refine V (kJ gE rfl j) (Wm (ln (ku (fun i E W => ∃ u Q, (E 11 = .int .i64 (i : Nat) ∧ E 10 = .int .i64 (z.length : Nat)) ∧ ST true kp w W (hp w) Q ∧ E 0 = t ∧ E 3 = (.int .i64 u) ∧ E 9 = t ∧ nA z (z.drop i) u = some r) z.length j.len ⟨0, _, ⟨rfl, rfl⟩, (b.ju St), rfl, rfl, rfl, hm⟩ dc dc dc (fun _ _ _ h => by obtain ⟨_, _, l, _⟩ := h; exact l) ?_ ?_)))
 ·rintro d1 E W b9 ⟨u, Q, ⟨d, m⟩, b, T, U, Y, a⟩
  obtain ⟨n, e0, c4, c3, c5⟩ := kc b9
  rw [c4] at a
  refine bg (VQ (JB (enc := jN) (k2 := 3) (i := (d1 : Int)) (x0 := n) gE sizeOf37 Y d j (aG _) c3) (fun e2 ⟨d3, c0, c2⟩ => V (jv rfl (oE b.has (y := d3) c0 isAgg37)) (Wa (lr (Wh U (Wm (V (kJ bN rfl c2) (Wi rfl (Wa ?_)))))))))
  refine lr (Wm (Wi rfl (ln (CI a rfl (fun b7 a => ?_) (fun b7 a => ?_)))))
  ·cases a
  exact kG (ke (jE ⟨d, (wi0 .i64 (u + (n.length : Int))), _, ⟨rfl, m⟩, (b.ju St), T, rfl, Y, (by rw [c5]; exact a)⟩))
 rintro E W ⟨u, Q, ⟨d, m⟩, b, T, U, Y, a⟩
 rw [aH] at a
 refine jE (sg (Wh U (bS a fun d2 c1 a => VE (oW b call109 (Ar u _ _  c1) (fun e1 d4 q d0 b a4 s b6 => Wa (lS (Wh T (V (kJ gE rfl j) (Wm ?_)))))))))
 refine ln (CJ a (fun K E W => ∃ G x N, ST true kp w W q (x ++ N) ∧ E 6 = G ∧ jX 40 jN 3 G K x) (fun K L => ?_) ?_)
 ·refine ku (fun i E W => ∃ k D g H, (E 27 = .int .i64 (i : Nat) ∧ E 26 = .int .i64 (z.length : Nat)) ∧ ST true kp w W q (g ++ H) ∧ E 6 = k ∧ E 25 = t ∧ jX 40 jN 3 k D g ∧ nC (z.drop i) D = some K) z.length j.len ⟨d4, d2, d0, _, ⟨rfl, rfl⟩, (b.ju St), rfl, rfl, b6, L⟩ dc dc dc (fun _ _ _ h => by obtain ⟨_, _, _, _, l, _⟩ := h; exact l) ?_ ?_
  ·rintro c6 E W a3 ⟨k, D, g, H, ⟨d, m⟩, b, I, J, B, c⟩
   obtain ⟨c9, d5, b0, a9, b1⟩ := kc a3
   rw [b0] at c
   refine bg (VQ (JB (enc := jN) (k2 := 3) (i := (c6 : Int)) (x0 := c9) gE sizeOf37 J d (j.mono (Ie.mono _ _) a4) (aG _) a9) (fun d8 ⟨Z, O, P⟩ => V (jv rfl (oE b.has (y := Z) O isAgg37)) (Wa (ln (jG (Wh I (Wm (bS c fun c7 a2 c => VE (mz (enc := jN) (v := k) (vs := Z) (R := g) b lh dc oY bN mr.1 mr.2.1 rfl mr.2.2.1 mr.2.2.2 rfl rfl B (P.mono (Pl.mono _) b.jB) a2 (fun d6 c8 b4 b A => Wa (jU ?_)))))))))))
   exact ke (jE ⟨d, c8, c7, b4, _, ⟨rfl, m⟩, (b.ju St), rfl, J, A, (by rw [b1]; exact c)⟩)
  rintro E W ⟨k, D, g, H, ⟨d, m⟩, b, I, J, B, c⟩
  rw [aH] at c
  refine jE ?_
  obtain rfl := sj c
  exact ⟨k, g, _, (b.ju St), I, B⟩
 rintro d7 E W ⟨G, x, N, b, b5, M⟩ a5
 refine sg (Wh b5 (Wa (lt ?_)))
 obtain rfl := sj a5
 exact kO (v := G) rfl rfl ⟨_, x, rfl, b.mC (fun p hq => (Ml hq)) M.nd, M⟩
theorem B6 (a : pU) (H I B G D U : Value) (r : List jV) (w : World) (k : Sl ko 15 (hp w) H a.js.jF) (t : Sl kQ 8 (hp w) I a.js.jP) (g : Sl ko 15 (hp w) B a.Client.jF) (j : Sl kQ 8 (hp w) G a.Client.jP) (z : Sl jt 5 (hp w) D a.Formula.Kids) (T : Sl tW 2 (hp w) U a.Keys) (hm : uj a = some r) :
  kY false pg0 12 [(.agg #[(.string a.js.Name), H, I, (.string a.Client.Name), B, G, (.int .i64 a.Formula.Op), (.int .i64 a.Formula.K), (.string a.Formula.jq.js), (.string a.Formula.jq.Word), D, (.int .i64 a.zP), (.int .i64 a.pL.Ck), (.int .i64 a.pL.Cz), (.int .i64 a.tK), (.int .i64 a.xz), (.int .i64 a.vl), U])] w 40 jN 3 r := by
 refine sP 37 func12 rfl (fun d => sg ?_)
 obtain ⟨Y, c2, rfl⟩ := k.form
 let a4 : Value := (.slice Y a.js.jF.length c2)
 obtain ⟨Z, E, rfl⟩ := t.form
 let a5 : Value := (.slice Z a.js.jP.length E)
 let q := (C3 a.js.Name Y a.js.jF.length c2 Z a.js.jP.length E)
 obtain ⟨A5, L, rfl⟩ := g.form
 let a2 : Value := (.slice A5 a.Client.jF.length L)
 obtain ⟨A7, O, rfl⟩ := j.form
 let a3 : Value := (.slice A7 a.Client.jP.length O)
 let a0 := (C3 a.Client.Name A5 a.Client.jF.length L A7 a.Client.jP.length O)
 obtain ⟨A9, d1, rfl⟩ := z.form
 obtain ⟨d0, d2, rfl⟩ := T.form
 refine VE (kj d rfl (fun i0 i2 d => Wa (lr (Wf xi (VA d Mh q cY cM (Wf xg (VA d Mh a0 cY cM (bS hm fun e0 e5 hm => ?_))))))))
 refine VE (Fo d (bW _) call17 (fun _ _ _ _ => (Fv a.js a4 a5 a.Client a2 a3 _ _ (k.mono kB.mono d.jB) (t.mono mi.mono d.jB) (g.mono kB.mono d.jB) (j.mono mi.mono d.jB) e5)) (fun i1 i3 i4 h7 d u ae ad e4 => ?_) (L0 := []))
 obtain ⟨e9, h8, f0, h9, A, rfl, e6, e7⟩ := e4
 replace A := A.symm; subst A
 replace d := d.perm (Tr (Tr Tn))
 refine Wm (Wx rfl (Wx rfl (Wx rfl (Wa (Wa (Wa (ln (jI ?_))))))))
 replace d := d.drew
 have h := d.has.ju (Dr (Dr (Kb Sn)))
 refine ky h kd (X 0 rfl h (jz xi rfl) (XH 1 rfl h (fun _ n => jv rfl (jy n Mh q rfl cY cM)) (X 2 rfl h (jz xg rfl) (XH 3 rfl h (fun _ n => jv rfl (jy n Mh a0 rfl cY cM)) (X 4 rfl h (jC rfl) (X 6 rfl h (jz xi rfl) (XH 7 rfl h (fun _ n => jv rfl (jy n Mh q rfl cY cM)) (X 9 rfl h (jz xg rfl) (XH 10 rfl h (fun _ n => jv rfl (jy n Mh a0 rfl cY cM)) (X 11 rfl h (jz xi rfl) (XH 12 rfl h (fun _ n => jv rfl (jy n Mh q rfl cY cM)) (X 13 rfl h (jC rfl) (X 15 rfl h (jz xg rfl) (XH 16 rfl h (fun _ n => jv rfl (jy n Mh a0 rfl cY cM)) ?_))))))))))))))
 refine XH 18 rfl h (fun _ n => jv rfl (jy n Mh (C5 a.js.Name Y a.js.jF.length c2 Z a.js.jP.length E a.Client.Name A5 a.Client.jF.length L A7 a.Client.jP.length O a.Formula.Op a.Formula.K a.Formula.jq.js a.Formula.jq.Word A9 a.Formula.Kids.length d1 a.zP a.pL.Ck a.pL.Cz a.tK a.xz a.vl d0 a.Keys.length d2) rfl isAgg34 iV)) (bS hm fun J d4 hm => XE 5 rfl (oW d call42 (EA 0 a.js a4 a5 a.Client a2 a3 e9 e0.1 _ _ (k.mono kB.mono (u.trans d.jB)) (t.mono mi.mono (u.trans d.jB)) (g.mono kB.mono (u.trans d.jB)) (j.mono mi.mono (u.trans d.jB)) (e6.sl kC (fun b o m => d.at_ (Ml m))) d4) (fun f6 g4 h1 f1 d c P c0 => ?_)))
 have h := d.has.ox c (Dr (Dr (Dr (Kb Sn))))
 refine ⟨h, (bS hm fun K d5 hm => XE 8 rfl (oW d call43 (Ft 0 a.js a4 a5 _ _ (k.mono kB.mono ((u.trans c).trans d.jB)) (t.mono mi.mono ((u.trans c).trans d.jB)) d5) (fun f7 g7 h2 f2 d i R c1 => ?_)))⟩
 have h := d.has.ox (c.trans i) (Dr (Dr (Dr (Dr (Kb Sn)))))
 refine ⟨h, (bS hm fun M d6 hm => XE 14 rfl (oW d call42 (EA 1 a.Client a2 a3 a.js a4 a5 f0 e0.2.1 _ _ (g.mono kB.mono (((u.trans c).trans i).trans d.jB)) (j.mono mi.mono (((u.trans c).trans i).trans d.jB)) (k.mono kB.mono (((u.trans c).trans i).trans d.jB)) (t.mono mi.mono (((u.trans c).trans i).trans d.jB)) (e7.sl kC (fun b o m => d.at_ (Ma (Ma (Ma (Ml m)))))) d6) (fun f8 g8 h3 f3 d x W c3 => ?_)))⟩
 have h := d.has.ox ((c.trans i).trans x) (Dr (Dr (Dr (Dr (Dr (Kb Sn))))))
 refine ⟨h, (bS hm fun N d7 hm => XE 17 rfl (oW d call43 (Ft 1 a.Client a2 a3 _ _ (g.mono kB.mono ((((u.trans c).trans i).trans x).trans d.jB)) (j.mono mi.mono ((((u.trans c).trans i).trans x).trans d.jB)) d7) (fun f9 g9 h4 f4 d y a6 c5 => ?_)))⟩
 have h := d.has.ox (((c.trans i).trans x).trans y) (Dr (Dr (Dr (Dr (Dr (Dr (Kb Sn)))))))
 refine ⟨h, (bS hm fun Q d8 hm => XE 19 rfl (oW d call44 (JO a a4 a5 a2 a3 (.slice A9 a.Formula.Kids.length d1) (.slice d0 a.Keys.length d2) _ _ (k.mono kB.mono (((((u.trans c).trans i).trans x).trans y).trans d.jB)) (t.mono mi.mono (((((u.trans c).trans i).trans x).trans y).trans d.jB)) (g.mono kB.mono (((((u.trans c).trans i).trans x).trans y).trans d.jB)) (j.mono mi.mono (((((u.trans c).trans i).trans x).trans y).trans d.jB)) (z.mono jD.mono (((((u.trans c).trans i).trans x).trans y).trans d.jB)) (T.mono Jz.mono (((((u.trans c).trans i).trans x).trans y).trans d.jB)) d8) (fun g0 h0 h5 f5 d s aa c7 => ?_)))⟩
 have h := d.has.ox ((((c.trans i).trans x).trans y).trans s) (Dr (Dr (Dr (Dr (Dr (Dr (Dr (Kb Sn))))))))
 refine ⟨h, ?_⟩
 obtain ⟨a8, b3, rfl⟩ := c0.form
 obtain ⟨a9, b4, rfl⟩ := c1.form
 obtain ⟨b0, b5, rfl⟩ := c3.form
 obtain ⟨b1, b6, rfl⟩ := c5.form
 obtain ⟨b2, b7, rfl⟩ := c7.form
 refine XE 20 rfl (jW (cs := #[(.slice a8 J.length b3), (.slice a9 K.length b4), (.slice b0 M.length b5), (.slice b1 N.length b6), (.slice b2 Q.length b7)]) d (RA rfl rfl rfl rfl rfl) (lM gE sizeOf37 zeroValue37) (fun g1 e3 d => ?_))
 have h := d.has.ox ((((c.trans i).trans x).trans y).trans s) (Db (Dr (Dr (Dr (Dr (Dr (Dr (Dr (Kb Sn)))))))))
 refine ⟨h, (bS hm fun g3 d9 hm => XE 21 rfl (oW d call41 (kY.lz (Bf (.slice (some ⟨e3, 0, none⟩) 5 5) ([J, K, M, N, Q]) _ _ (Ie.lit (l := [J, K, M, N, Q]) (vs := [(.slice a8 J.length b3), (.slice a9 K.length b4), (.slice b0 M.length b5), (.slice b1 N.length b6), (.slice b2 Q.length b7)]) rfl nb (d.at_ Mh) (.cons (c0.sl lh (fun b o m => d.at_ (Mt (Ma (Ma (Ma (Ma (Ml m)))))))) (.cons (c1.sl lh (fun b o m => d.at_ (Mt (Ma (Ma (Ma (Ml m))))))) (.cons (c3.sl lh (fun b o m => d.at_ (Mt (Ma (Ma (Ml m)))))) (.cons (c5.sl lh (fun b o m => d.at_ (Mt (Ma (Ml m))))) (.cons (c7.sl lh (fun b o m => d.at_ (Mt (Ml m)))) .nil)))))) d9)) (fun g2 e8 h6 e2 d d3 ab c9 => ?_)))⟩
 have h := d.has.ox (((((c.trans i).trans x).trans y).trans s).trans d3) (Dr (Db (Dr (Dr (Dr (Dr (Dr (Dr (Dr (Kb Sn))))))))))
 refine ⟨h, (X 22 rfl h (lO rfl) (kM kr (jE ?_)))⟩
 replace d := d.ju (Kr (Db (Dr (Dr (Dr (Dr (Dr (Dr (Dr (Db St))))))))))
 refine jZ ?_
 obtain rfl := sj hm
 exact kO (v := e8) rfl rfl ⟨_, e2, rfl, d.mC (fun p m => (Ml m)) c9.nd, c9⟩
theorem yW (c : Int) (r : ByteArray) (w : World) (a : BH pg0 (hp w)) (hm : zr c = some r) :
  jT true pg0 50 [(.int .i64 c)] w (.string r) := MG QU rfl a hm
theorem O0 : lG pg0 93 0 0 := kH underlying93 rfl sizeOf91 (by decide) rfl
theorem Mu : lG pg0 93 1 1 := kH underlying93 rfl iv (by decide) rfl
theorem L6 : Tryz.prog.info? 5 = some Tryz.t5 ∧ Tryz.t5.zero = some (.int .u8 0) ∧ Tryz.t5.size = 1 ∧ Tryz.t5.bytes = 1 := ⟨by kernel_rfl, rfl, rfl, rfl⟩
theorem JP : Tryz.prog.info? 93 = some Tryz.t93 ∧ Tryz.t93.size ≠ 0 := ⟨by kernel_rfl, by decide⟩
theorem Ss : liesAt pg0 Tryz.prog.depth 93 (2 / Tryz.prog.cellsOf 93) 0 93 1 = true := by kernel_rfl
theorem Rz (x : Value) (w : World) : (callFunc 189 [x].toArray).run pg0 w = .ok (.value x) w := by
 rw [fP (e := Extern.AbiNoEscape.same) func189 (by kernel_rfl) (by kernel_rfl) (by kernel_rfl) (by kernel_rfl)]
 rfl
theorem My (b : Nat) (a u : Value) (w : World) {i : kk} (g : nz i ((b, Ob #[a, u] 93) :: []) w) (ha : a = .pointer none ∨ a = .pointer (some ⟨b, 0, none⟩)) :
  lH true pg0 121 [(.pointer (some ⟨b, 0, none⟩))] w ((b, Ob #[a, u] 93) :: []) (fun v c W' => v = (.tuple #[]) ∧ c = ((b, Ob #[(.pointer (some ⟨b, 0, none⟩)), u] 93) :: [])) := by
 let k : Value := (.pointer (some ⟨b, 0, none⟩))
 refine Ab g 20 func121 rfl (fun d => sg (Wm (Wn (Wf O0 (VB d Mh rfl rfl isAgg91 ?_)))))
 rcases ha with rfl | rfl
 ·refine V (ua gW rfl rfl) (ln (wy rfl (jG (Wm (Wm ?_)))))
  have h := (d.box b _ (.head _)).1
  exact V (NV rfl (Go.Lib.run_to_unsafe (P := pg0) _ ⟨b, 0, none⟩ gW underlying233 JP.1 JP.2 (FH h) nb)) (VE (IK (args := [k]) rfl (by exact vg rfl) (Rz _ _) (V (NV rfl (Go.Lib.run_from_unsafe (P := pg0) _ ⟨b, 0, none⟩ underlying233 gW JP.1 (FH h) Ss)) (Wn (Wf O0 (VO (jL k (#[k, u]) d rfl rfl sizeOf91 oc nb rfl (fun j d => jU (pd (ob rfl ⟨_, _, rfl, (d.mc (Kb Sn)), rfl, rfl⟩))))))))))
 ·refine V (ua gW rfl rfl) (ln (ql rfl (sg (Wm (Wn (Wf O0 (VB d Mh rfl rfl isAgg91 (Wm (V (Kp gW sizeOf93 rfl rfl) (ln (ql rfl ?_)))))))))))
  exact kG (pd (ob rfl ⟨_, _, rfl, (d.mc (Kb Sn)), rfl, rfl⟩))
theorem Mj (k : Value) (D : ByteArray) (i : LO) (z r : ByteArray) (w : World) {K : kk} (I : nz K (i ++ []) w) (B : Je 93 5 k D i) (hm : F7 D z = some r) :
  lH true pg0 49 [k, (.string z)] w (i ++ []) (fun v H W' => ∃ y S, v = y ∧ H = S ++ [] ∧ Je 93 5 k r S) := by
 obtain ⟨b, a, u, S, rfl, ha, rfl, q, L⟩ := B
 have d := ST.G0 (dd := true) I
 have p := fun h => OD (r := r) hm h
 have hm := Oa hm
 refine cF 19 func49 rfl (sg (Wa (Wa (lr (Wm ?_)))))
 refine VE (eM d (Cb Pz Cn) call121 (fun A _ => (My b a u _ A ha)) ?_)
 rintro _ Y Z M d J E n ⟨j, rfl⟩
 obtain rfl := j.symm
 replace d := d.perm (Tb Tn)
 refine lr (Wm (Wm (Wn (Wf Mu (VB d Mh rfl rfl iJ (Wm (VE (Ky (v := u) (str := z) [(b, Ob #[(.pointer (some ⟨b, 0, none⟩)), u] 93)] d cU bZ L6.1 L6.2.1 L6.2.2.1 L6.2.2.2 rfl rfl q hm (fun N T t d x l => Wn (Wf Mu ?_))))))))))
 have m := fun h : r.size = 0 => l (L (p h).1) (p h).2
 obtain ⟨c, g, rfl⟩ := x.form
 let U : Value := (.slice c (my r).length g)
 let G := (#[(.pointer (some ⟨b, 0, none⟩)), U] : Array Value)
 let a0 := ((b, Obj.cells G 93 (0, 0)) :: (t ++ []))
 refine VO (jL U (#[(.pointer (some ⟨b, 0, none⟩)), U]) d rfl rfl iv oc nb rfl (fun Q d => lr (Wm (V (nR bZ rfl) (Wa (Wa (lt (D3 (v := .int .i64 (z.size : Int)) (u := .nilIface) rfl rfl rfl ?_))))))))
 have s : mA a0 a0 := Kb (Kr Sn)
 exact ⟨_, _, rfl, d.mc s, _, ((b, Obj.cells G 93 (0, 0)) :: t), rfl, rfl, ⟨b, _, _, _, rfl, .inr rfl, rfl, x, m⟩⟩
theorem Kz (k : Value) (i : ByteArray) (g : LO) (r : ByteArray) (w : World) {D : kk} (t : nz D (g ++ []) w) (x : Je 93 5 k i g) (hm : Q1 i = some r) :
  lH true pg0 51 [k] w (g ++ []) (fun v z W' => v = (.string r) ∧ z = []) := by
 obtain ⟨b, a, u, S, rfl, ha, rfl, n, q⟩ := x
 obtain rfl := fW hm
 have h := ST.G0 (dd := true) t
 obtain ⟨A, c, rfl⟩ := n.form
 refine cF 14 func51 rfl (sg (Wa (ln (jI ?_))))
 replace h := h.drew
 have d := h.has.ju (A := [(b, Ob #[a, .slice A (my i).length c] 93)]) (Kb Sn)
 have m : A = none ∨ c ≠ 0 := by
  by_cases t : i.size = 0
  ·have q := q t
   injection q with j
   exact .inl j
  ·rcases n with ⟨j, _, _⟩ | ⟨E, cap, s, j, _, B, _, _, _⟩
   ·injection j with y; exact .inl y
   ·injection j with _ _ y
    rw [mU] at B
    exact .inr (by omega)
 refine ky d kd (X 0 rfl d (jC rfl) (X 1 rfl d (mJ rfl) (X 2 rfl d (jz Mu rfl) (XH 3 rfl d (fun _ p => jv rfl (jK p Mh rfl iJ)) (X 4 rfl d (OM rfl ⟨A, _, c, rfl, m, rfl⟩) (X 5 rfl d (jC rfl) (X 6 rfl d (mJ rfl) (X 7 rfl d (jz Mu rfl) (XH 8 rfl d (fun _ p => jv rfl (jK p Mh rfl iJ)) (X 9 rfl d (ns cU rfl n) ?_))))))))))
 replace h := h.perm (L' := S ++ [(b, Ob #[a, .slice A (my i).length c] 93)]) (by rw [bA]; exact eu (l₁ := [_]) (l₂ := S))
 refine XE 10 rfl (Ko (l := i) h underlying179 kr rfl rfl n (fun G h => ?_))
 have d := h.has
 exact ⟨d, X 11 rfl d (lO rfl) (kM kr (jE (jZ (kO (v := .string i) rfl rfl ⟨_, _, rfl, (h.mc Sn), rfl, rfl⟩))))⟩
theorem Fx (J : Value) (K : List jV) (r : ByteArray) (w : World) (I : BH pg0 (hp w)) (H : Sl (Pl jN) 3 (hp w) J K) (hm : xu K = some r) :
  jT true pg0 14 [J] w (.string r) := by
 refine cG 29 func14 rfl (fun b => sg (Wa (lr (VE (LC (e := 5) b zeroValue93 (fun W1 v4 R2 b b9 => lS (Wm ?_)))))))
 refine V (kJ bN rfl H) (Wm (ln (ku (fun i E W => ∃ k j z D, (E 8 = .int .i64 (i : Nat) ∧ E 7 = .int .i64 (K.length : Nat)) ∧ kf (hp w) z ∧ ST true kp w W z (j ++ D) ∧ E 3 = v4 ∧ E 6 = J ∧ Je 93 5 v4 k j ∧ sR (K.drop i) k = some r) K.length H.len ⟨zS, R2, (hp w), _, ⟨rfl, rfl⟩, (kf.refl _), (b.ju St), rfl, rfl, b9, hm⟩ dc dc dc (fun _ _ _ h => by obtain ⟨_, _, _, _, p, _⟩ := h; exact p) ?_ ?_)))
 ·rintro b4 E W Q ⟨k, j, z, D, ⟨n, A⟩, c, b, t, G, u, a⟩
  obtain ⟨g, c1, a9, P, R⟩ := kc Q
  rw [a9] at a
  refine bg (VQ (mQ (enc := jN) (i := (b4 : Int)) (x0 := g) bN dG G n (H.mono (Pl.mono _) c) (aG _) P) (fun d3 T => V (jv rfl (jQ b.has T isAgg40 dG)) (VE (kh b dl (fun c5 d2 b => VO (jL (.agg (jN g).toArray) ((jN g).toArray) b rfl rfl dG (oY g) nb rfl (fun c6 b => ln ?_)))))))
  replace b := b.drew
  have d := b.has.ju (Kb Sn)
  refine ky d kd (X 0 rfl d (jz CG rfl) (XH 1 rfl d (fun _ m => jv rfl (jK m Mh rfl bX)) (X 4 rfl d (jz Nc rfl) (XH 5 rfl d (fun _ m => jv rfl (jK m Mh rfl bX)) (X 9 rfl d (jz NI rfl) (XH 10 rfl d (fun _ m => jv rfl (jK m Mh rfl bX)) (bS a fun d4 U a => XE 2 rfl (Eg b call50 (yW g.Kind _ _ (I.mono (c.trans b.jB)) U) (fun c7 b => ?_)))))))))
  have d := b.has.ju (Kb Sn)
  refine ⟨d, (bS a fun d8 a3 a => X 3 rfl d (qe rfl rfl a3) (bS a fun d5 Y a => XE 6 rfl (Eg b call50 (yW g.End _ _ (I.mono (c.trans b.jB)) Y) (fun c8 b => ?_))))⟩
  have d := b.has.ju (Kb Sn)
  refine ⟨d, (bS a fun d9 a4 a => X 7 rfl d (qe rfl rfl a4) (bS a fun e0 a5 a => X 8 rfl d (qe rfl rfl a5) (bS a fun d6 Z a => XE 11 rfl (Eg b call50 (yW g.At _ _ (I.mono (c.trans b.jB)) Z) (fun c9 b => ?_)))))⟩
  have d := b.has.ju (Kb Sn)
  refine ⟨d, (bS a fun e1 M a => X 12 rfl d (qe rfl rfl M) (bS a fun b6 O a => X 13 rfl d (qe rfl rfl O) (bS a fun b5 L a => ?_)))⟩
  refine XE 14 rfl (eM b (Cr (Qb Qz) Cn) call49 (fun q _ => (Mj v4 k j b6 _ _ q u L)) ?_ (ha := SX t rfl))
  rintro _ e2 b7 c2 b B s l ⟨e4, b3, x, rfl, b1⟩
  obtain rfl := x.symm
  replace b := b.perm (Tr Tn)
  have d := b.has.ox B (Dr (Kb Sn))
  refine ⟨d, (kM kr (ke (jE ?_)))⟩
  replace b := b.ju (Kr (Db St))
  exact ⟨n, b5, b3, b7, _, ⟨rfl, A⟩, (c.trans B), (b.ju St), t, G, b1, (by rw [R]; exact a)⟩
 rintro E W ⟨k, j, z, D, ⟨n, A⟩, c, b, t, G, u, a⟩
 rw [aH] at a
 refine jE (sg (bS a fun d7 a2 a => ?_))
 refine VE (eM b (Cr Qz Cn) call51 (fun q _ => (Kz v4 k j _ _ q u a2)) ?_ (ha := Pu t))
 rintro _ e3 e5 c3 b c0 v l ⟨y, rfl⟩
 obtain rfl := y.symm
 exact Wa (lt (rQ a b))
theorem AE (j : Value) (z : List jV) (D r : Int) (w : World) (g : Sl (Pl jN) 3 (hp w) j z) (hm : uN z D = some r) :
  jT true pg0 16 [j, (.int .i64 D)] w (.int .i64 r) := by
 refine cG 22 func16 rfl (fun b => sg (Wa (lr (Wa (lS (Wm ?_))))))
 refine V (kJ bN rfl g) (Wm (ln (ku (fun i E W => ∃ c y, (E 10 = .int .i64 (i : Nat) ∧ E 9 = .int .i64 (z.length : Nat)) ∧ ST true kp w W (hp w) y ∧ E 1 = (.int .i64 D) ∧ E 5 = (.int .i64 c) ∧ E 8 = j ∧ qz D (z.drop i) c = some r) z.length g.len ⟨0, _, ⟨rfl, rfl⟩, (b.ju St), rfl, rfl, rfl, hm⟩ dc dc dc (fun _ _ _ h => by obtain ⟨_, _, l, _⟩ := h; exact l) ?_ ?_)))
 ·rintro M E W H ⟨c, y, ⟨d, m⟩, b, k, t, u, a⟩
  obtain ⟨x, N, K, J, B⟩ := kc H
  rw [K] at a
  refine bg (VQ (mQ (enc := jN) (i := (M : Int)) (x0 := x) bN dG u d g (aG _) J) (fun Y I => V (jv rfl (jQ b.has I isAgg40 dG)) (VE (kh b dl (fun Q U b => VO (jL (.agg (jN x).toArray) ((jN x).toArray) b rfl rfl dG (oY x) nb rfl (fun T b => lr (Wf CG (VB b Mh rfl rfl bX (Wh k (Wi rfl ?_)))))))))))
  refine ln ?_
  replace b := b.ju (Db St)
  refine CI a rfl (fun G a => ?_) (fun G a => ?_)
  ·exact jG (Wh t (Wi rfl (Wa (jU (ke (jE ⟨d, (wi0 .i64 (c + 1)), _, ⟨rfl, m⟩, (b.ju St), k, rfl, u, (by rw [B]; exact a)⟩))))))
  exact kG (ke (jE ⟨d, c, _, ⟨rfl, m⟩, (b.ju St), k, t, u, (by rw [B]; exact a)⟩))
 rintro E W ⟨c, y, ⟨d, m⟩, b, k, t, u, a⟩
 rw [aH] at a
 exact jE (sg (Wh t (Wa (lt (rQ a b)))))
theorem IF (r : Bool) (w : World) (e7 : BH pg0 (hp w)) (hm : vu  = some r) :
  jT false pg0 10 [] w (.bool r) := by
 refine cG 51 func10 rfl (fun d => sg (Wa (lr (V (lC (v := (.agg #[(.string K3), (.slice none 0 0), (.slice none 0 0)])) (kX rfl) (kI zeroValue25 fk (RI _ fk) kr)) (V (lC (v := (.agg #[(.string K4), (.slice none 0 0), (.slice none 0 0)])) (kX rfl) (kI zeroValue25 fk (RI _ fk) kr)) (V (lC (v := (.agg Ez.toArray)) (kX rfl) (kI aP bG (tE _ bG) kr)) (V (lC (v := (.agg Pw.toArray)) (xv rfl rfl rfl) (kI zeroValue34 fK (TB _ fK) kr)) (VE (kh d zeroValue34 (fun W2 b1 d => VO (jL (.agg Pw.toArray) (Pw.toArray) d rfl rfl iV oc nb rfl (fun W3 d => jU ?_))))))))))))
 refine jE (sg (VA d Mh Pw isAgg34 iV (bS hm fun q f7 hm => VE (oW d call12 (B6 (⟨(⟨K3, [], []⟩ : kx), (⟨K4, [], []⟩ : kx), (⟨2, 0, K0, []⟩ : Formula), 0, (⟨0, 0⟩ : yQ), 0, 0, 0, []⟩ : pU) (.slice none 0 0) (.slice none 0 0) (.slice none 0 0) (.slice none 0 0) (.slice none 0 0) (.slice none 0 0) _ _ (Sl.nil _ _ _) (Sl.nil _ _ _) (Sl.nil _ _ _) (Sl.nil _ _ _) (Sl.nil _ _ _) (Sl.nil _ _ _) f7) (fun W6 I ad N d d8 ab H => Wa (lr (Wf Cx (Wf mZ ?_))))))))
 replace d := d.perm (Nb (Pr Pz) Nz)
 refine VO (jL (.int .i64 3) (#[(.string K3), (.slice none 0 0), (.slice none 0 0), (.string K4), (.slice none 0 0), (.slice none 0 0), (.int .i64 3), (.int .i64 0), (.string zS), (.string zS), (.slice none 0 0), (.int .i64 0), (.int .i64 0), (.int .i64 0), (.int .i64 0), (.int .i64 0), (.int .i64 0), (.slice none 0 0)]) d rfl rfl gu (EK _ 3) nb rfl (fun g9 d => lr (VA d Mh [(.string K3), (.slice none 0 0), (.slice none 0 0), (.string K4), (.slice none 0 0), (.slice none 0 0), (.int .i64 3), (.int .i64 0), (.string zS), (.string zS), (.slice none 0 0), (.int .i64 0), (.int .i64 0), (.int .i64 0), (.int .i64 0), (.int .i64 0), (.int .i64 0), (.slice none 0 0)] isAgg34 iV (bS hm fun h3 e5 hm => VE (oW d call12 (B6 (⟨(⟨K3, [], []⟩ : kx), (⟨K4, [], []⟩ : kx), (⟨3, 0, K0, []⟩ : Formula), 0, (⟨0, 0⟩ : yQ), 0, 0, 0, []⟩ : pU) (.slice none 0 0) (.slice none 0 0) (.slice none 0 0) (.slice none 0 0) (.slice none 0 0) (.slice none 0 0) _ _ (Sl.nil _ _ _) (Sl.nil _ _ _) (Sl.nil _ _ _) (Sl.nil _ _ _) (Sl.nil _ _ _) (Sl.nil _ _ _) e5) (fun h0 p J a4 d b4 aa a0 => Wa (ln ?_)))))))
 replace d := d.ju (Kr (Db St))
 refine sg (Wm (V (ns bN rfl H) (Wi rfl (Wm (LJ hm (fun L E W => ∃ c2, ST false kp w W J (a4 ++ (N ++ c2)) ∧ E 0 = (.bool false) ∧ E 2 = I ∧ E 3 = p ∧ E 23 = (.bool L)) 6 ?_ (fun L z Z => ?_))))))
 ·rintro h5 E W ⟨c2, d, c8, a5, c9, e9⟩ d9
  refine Wh e9 (LJ d9 (fun A E W => ∃ O, ST false kp w W J (a4 ++ (N ++ O)) ∧ E 0 = (.bool false) ∧ E 2 = I ∧ E 3 = p ∧ E 28 = (.bool A)) 4 ?_ (fun A x Y => ?_))
  ·rintro h6 E W ⟨O, d, d0, d1, m, f0⟩ e0
   refine Wh f0 (LJ e0 (fun a9 E W => ∃ P, ST false kp w W J (a4 ++ (N ++ P)) ∧ E 0 = (.bool false) ∧ E 2 = I ∧ E 3 = p ∧ E 33 = (.bool a9)) 4 ?_ (fun a9 G U => ?_))
   ·rintro h7 E W ⟨P, d, d2, d3, f1, f2⟩ e1
    refine Wh f2 (LJ e1 (fun s E W => ∃ R, ST false kp w W J (N ++ R) ∧ E 0 = (.bool false) ∧ E 2 = I ∧ E 40 = (.bool s)) 6 ?_ (fun s u T => ?_))
    ·rintro h8 E W ⟨R, d, d4, n, f3⟩ e2
     refine Wh f3 (LJ e2 (fun d7 E W => ∃ c6, ST false kp w W J (N ++ c6) ∧ E 0 = (.bool false) ∧ E 2 = I ∧ E 45 = (.bool d7)) 4 ?_ (fun d7 D Q => ?_))
     ·rintro h9 E W ⟨c6, d, d5, f4, f5⟩ e3
      refine Wh f5 (LJ e3 (fun d6 E W => ∃ c7, ST false kp w W J c7 ∧ E 0 = (.bool false) ∧ E 50 = (.bool d6)) 4 ?_ (fun d6 B a3 => ?_))
      ·rintro i0 E W ⟨c7, d, h2, f6⟩ e4
       exact Wg f6 (lt (rQ e4 d))
      refine bC B (fun t B => ?_) (fun t B => ?_)
      ·refine ug t (jC f4) (bS B fun h4 e6 B => rB t (Eg d call16 (jT.lz (AE I q 5 _ _ (H.sl lh (fun b o h => d.at_ (Ml h))) e6)) (fun h1 d => ug t (kv rfl rfl rfl) (V (jM (cB t) rfl) ?_))))
       obtain rfl := sj B
       exact a3 _ _ ⟨_, (d.ju (Dr St)), d5, rfl⟩
      refine un t (un t (un t (V (jO (cB t) rfl) ?_)))
      obtain rfl := sj B
      exact a3 _ _ ⟨_, (d.ju (Dr St)), d5, rfl⟩
     refine bC D (fun k D => ?_) (fun k D => ?_)
     ·refine ug k (jC n) (bS D fun g4 c0 D => rB k (Eg d call16 (jT.lz (AE I q 4 _ _ (H.sl lh (fun b o h => d.at_ (Ml h))) c0)) (fun f8 d => ug k (kv rfl rfl rfl) (V (jM (cB k) rfl) ?_))))
      obtain rfl := sj D
      exact Q _ _ ⟨_, (d.ju St), d4, n, rfl⟩
     refine un k (un k (un k (V (jO (cB k) rfl) ?_)))
     obtain rfl := sj D
     exact Q _ _ ⟨_, (d.ju St), d4, n, rfl⟩
    refine bC u (fun c u => ?_) (fun c u => ?_)
    ·refine ug c (jC f1) (bS u fun l K u => Nq c (nv (i := 0) (x0 := l) bN dG rfl rfl a0 (kl K) (ki K)) (fun g0 b5 => Nq c (wu [(.int .i64 l.Kind)] CG rfl (yH.at a0 lh b5 (ki K)) rfl) (fun g1 b6 => ug c (jv rfl (oE (nn.hp _) (y := (.int .i64 l.Kind)) (b6.mono (lI (fun b o h => d.has.2 b o (Ml h)))) bX)) (ug c (kv rfl rfl rfl) (V (jM (cB c) rfl) ?_)))))
     obtain rfl := sj u
     exact T _ _ ⟨_, (d.ju (Dr St)), d2, d3, rfl⟩
    refine un c (un c (un c (un c (un c (V (jO (cB c) rfl) ?_)))))
    obtain rfl := sj u
    exact T _ _ ⟨_, (d.ju (Dr St)), d2, d3, rfl⟩
   refine bC G (fun j G => ?_) (fun j G => ?_)
   ·refine ug j (jC m) (ug j (ns bN rfl a0) (ug j (kv rfl rfl rfl) (V (jM (cB j) rfl) ?_)))
    obtain rfl := sj G
    exact U _ _ ⟨_, (d.ju St), d0, d1, m, rfl⟩
   refine un j (un j (un j (V (jO (cB j) rfl) ?_)))
   obtain rfl := sj G
   exact U _ _ ⟨_, (d.ju St), d0, d1, m, rfl⟩
  refine bC x (fun g x => ?_) (fun g x => ?_)
  ·refine ug g (jC a5) (bS x fun g7 c1 x => rB g (Eg d call14 (jT.lz (Fx I q _ _ (e7.mono ((d8.trans b4).trans d.jB)) (H.sl lh (fun b o h => d.at_ (Ma (Ml h)))) c1)) (fun f9 d => ug g (qh rfl rfl rfl) (V (jM (cB g) rfl) ?_))))
   obtain rfl := sj x
   exact Y _ _ ⟨_, (d.ju St), c8, a5, c9, rfl⟩
  refine un g (un g (un g (V (jO (cB g) rfl) ?_)))
  obtain rfl := sj x
  exact Y _ _ ⟨_, (d.ju St), c8, a5, c9, rfl⟩
 refine bC z (fun a z => ?_) (fun a z => ?_)
 ·refine ug a (jC rfl) (bS z fun a2 M z => Nq a (nv (i := 0) (x0 := a2) bN dG rfl rfl H (kl M) (ki M)) (fun g2 b7 => Nq a (wu [(.int .i64 a2.Kind)] CG rfl (yH.at H lh b7 (ki M)) rfl) (fun g3 b9 => ug a (jv rfl (oE (nn.hp _) (y := (.int .i64 a2.Kind)) (b9.mono (lI (fun b o h => d.has.2 b o (Ma (Ml h))))) bX)) (ug a (kv rfl rfl rfl) (V (jM (cB a) rfl) ?_)))))
  obtain rfl := sj z
  exact Z _ _ ⟨_, (d.ju St), rfl, rfl, rfl, rfl⟩
 refine un a (un a (un a (un a (un a (V (jO (cB a) rfl) ?_)))))
 obtain rfl := sj z
 exact Z _ _ ⟨_, (d.ju St), rfl, rfl, rfl, rfl⟩
theorem DE (k : Value) (u : List jr) (r : Int) (w : World) (j : Sl (Pl jw) 9 (hp w) k u) (hm : vk u = some r) :
  jT true pg0 108 [k] w (.int .i64 r) := by
 refine cG 54 func108 rfl (fun b => sg (Wa (lr (Wa (lS (Wm ?_))))))
 refine V (kJ aR rfl j) (Wm (ln (ku (fun i E W => ∃ g t, (E 8 = .int .i64 (i : Nat) ∧ E 7 = .int .i64 (u.length : Nat)) ∧ ST true kp w W (hp w) t ∧ E 3 = (.int .i64 g) ∧ E 6 = k ∧ ra (u.drop i) g = some r) u.length j.len ⟨0, _, ⟨rfl, rfl⟩, (b.ju St), rfl, rfl, hm⟩ dc dc dc (fun _ _ _ h => by obtain ⟨_, _, l, _⟩ := h; exact l) ?_ ?_)))
 ·rintro I E W z ⟨g, t, ⟨d, m⟩, b, x, y, c⟩
  obtain ⟨a, J, G, D, H⟩ := kc z
  rw [G] at c
  refine bg (VQ (mQ (enc := jw) (i := (I : Int)) (x0 := a) aR aM y d j (aG _) D) (fun Q B => V (jv rfl (jQ b.has B bU aM)) (VE (kh b cT (fun K N b => VO (jL (.agg (jw a).toArray) ((jw a).toArray) b rfl rfl aM (nw a) nb rfl (fun M b => ln (jG (Wh x (Wf qT (Wf oR (VB b Mh rfl rfl bT (V (nR bZ rfl) ?_)))))))))))))
  refine Wi rfl (Wf qT (Wf tO (VB b Mh rfl rfl bT (V (nR bZ rfl) (Wi rfl (Wf wg (VB b Mh rfl rfl bT (V (nR bZ rfl) (Wi rfl (Wf ny (Wf oR (VB b Mh rfl rfl bT (V (nR bZ rfl) (Wi rfl ?_))))))))))))))
  refine Wf ny (Wf tO (VB b Mh rfl rfl bT (V (nR bZ rfl) (Wi rfl (Wf rI (Wf oR (VB b Mh rfl rfl bT (V (nR bZ rfl) (Wi rfl (Wf rI (Wf tO (VB b Mh rfl rfl bT (V (nR bZ rfl) (Wi rfl ?_))))))))))))))
  refine Wf tX (VB b Mh rfl rfl bT (V (nR bZ rfl) (Wi rfl (Wi rfl (Wa (jU (ke (jE ?_))))))))
  replace b := b.ju (Db St)
  exact ⟨d, (wi0 .i64 (g + (wi0 .i64 ((wi0 .i64 ((wi0 .i64 ((wi0 .i64 ((wi0 .i64 ((wi0 .i64 ((wi0 .i64 ((wi0 .i64 (20 + (a.Head.js.size : Int))) + (a.Head.Word.size : Int))) + (a.kz.size : Int))) + (a.B.js.size : Int))) + (a.B.Word.size : Int))) + (a.C.js.size : Int))) + (a.C.Word.size : Int))) + (a.kK.size : Int))))), _, ⟨rfl, m⟩, (b.ju St), rfl, y, (by rw [H]; exact c)⟩
 rintro E W ⟨g, t, ⟨d, m⟩, b, x, y, c⟩
 rw [aH] at c
 exact jE (sg (Wh x (Wa (lt (rQ c b)))))
theorem xy (H : Value) (Q : List Key) (u : Value) (J : List Signed) (r : Int) (w : World) (B : Sl tW 2 (hp w) H Q) (D : Sl sL 10 (hp w) u J) (hm : tL Q J = some r) :
  jT true pg0 40 [H, u] w (.int .i64 r) := by
 refine cG 45 func40 rfl (fun b => sg (Wa (lr (Wa (lS (Wm ?_))))))
 refine V (kJ underlying32 rfl B) (Wm (ln (ku (fun i E W => ∃ t N, (E 12 = .int .i64 (i : Nat) ∧ E 11 = .int .i64 (Q.length : Nat)) ∧ ST true kp w W (hp w) N ∧ E 1 = u ∧ E 5 = (.int .i64 t) ∧ E 10 = H ∧ pS J (Q.drop i) t = some r) Q.length B.len ⟨0, _, ⟨rfl, rfl⟩, (b.ju St), rfl, rfl, rfl, hm⟩ dc dc dc (fun _ _ _ h => by obtain ⟨_, _, n, _⟩ := h; exact n) ?_ ?_)))
 ·rintro c3 E W b5 ⟨t, N, ⟨m, p⟩, b, U, Y, Z, g⟩
  obtain ⟨k, d4, b9, b7, c0⟩ := kc b5
  rw [b9] at g
  refine bg (VQ (lF (i := (c3 : Int)) (x0 := k) tW.out underlying32 sizeOf119 Z m B (aG _) b7) (fun d8 ⟨_, ⟨d9, rfl, a2⟩, b6⟩ => V (jv rfl (jQ b.has b6 isAgg119 sizeOf119)) (VE (kh b zeroValue119 (fun d5 d7 b => ?_)))))
  obtain ⟨s, v, rfl⟩ := a2.form
  refine VO (jL (.agg #[(.string k.kz), (.slice s k.Key.length v)]) (#[(.string k.kz), (.slice s k.Key.length v)]) b rfl rfl sizeOf119 oc nb rfl (fun d6 b => ln (jG (Wh Y (Wf QD (VB b Mh rfl rfl bT (V (nR bZ rfl) (Wi rfl (Wf Qm (VB b Mh rfl rfl iJ (V (kJ cU rfl a2) (Wi rfl (Wi rfl (Wa ?_))))))))))))))
  refine jU (ke (jE ?_))
  replace b := b.ju (Db St)
  exact ⟨m, (wi0 .i64 (t + (wi0 .i64 ((wi0 .i64 (10 + (k.kz.size : Int))) + (k.Key.length : Int))))), _, ⟨rfl, p⟩, (b.ju St), U, rfl, Z, (by rw [c0]; exact g)⟩
 rintro E W ⟨t, N, ⟨m, p⟩, b, U, Y, Z, g⟩
 rw [aH] at g
 refine jE (jI (sg (Wh U (V (kJ jc rfl D) (Wm (ln (CJ g (fun G E W => ∃ M, ST true kp w W (hp w) M ∧ E 5 = (.int .i64 G)) (fun G a5 => ?_) ?_)))))))
 ·refine ku (fun i E W => ∃ j x, (E 29 = .int .i64 (i : Nat) ∧ E 28 = .int .i64 (J.length : Nat)) ∧ ST true kp w W (hp w) x ∧ E 5 = (.int .i64 j) ∧ E 27 = u ∧ ri (J.drop i) j = some G) J.length D.len ⟨t, _, ⟨rfl, rfl⟩, (b.ju St), Y, rfl, a5⟩ dc dc dc (fun _ _ _ h => by obtain ⟨_, _, n, _⟩ := h; exact n) ?_ ?_
  ·rintro c1 E W a3 ⟨j, x, ⟨m, p⟩, b, y, z, c⟩
   obtain ⟨a, c4, a9, O, P⟩ := kc a3
   rw [a9] at c
   refine bg (VQ (lF (i := (c1 : Int)) (x0 := a) sL.out jc iU z m D (aG _) O) (fun d0 ⟨_, ⟨d1, rfl, I⟩, A⟩ => V (jv rfl (jQ b.has A isAgg55 iU)) (VE (kh b zeroValue55 (fun c5 c9 b => ?_)))))
   obtain ⟨K, T, rfl⟩ := I.form
   let a0 := (C7 a.jr.Kind a.jr.Head.js a.jr.Head.Word a.jr.kz a.jr.B.js a.jr.B.Word a.jr.C.js a.jr.C.Word a.jr.kK K a.Tag.length T)
   refine VO (jL (.agg a0.toArray) (a0.toArray) b rfl rfl iU oc nb rfl (fun c6 b => ln ?_))
   replace b := b.drew
   have d := b.has.ju (Kb Sn)
   refine ky d kd (X 0 rfl d (jC y) (X 1 rfl d (jz ux rfl) (XH 2 rfl d (fun _ q => jv rfl (jy q Mh (jw a.jr) rfl bU aM)) (X 5 rfl d (jz Q3 rfl) (XH 6 rfl d (fun _ q => jv rfl (jK q Mh rfl iJ)) (X 7 rfl d (kJ cU rfl I) (XE 3 rfl (jW (cs := (jw a.jr).toArray) b (kX rfl) (lM aR aM cT) (fun c7 R b => ?_)))))))))
   have d := b.has.ju (Db (Kb Sn))
   refine ⟨d, (bS c fun c2 L c => XE 4 rfl (Eg b call108 (DE (.slice (some ⟨R, 0, none⟩) 1 1) ([a.jr]) _ _ (Sl.lit (enc := jw) (l := [a.jr]) kC rfl nb rfl (b.at_ Mh)) L) (fun c8 b => ?_)))⟩
   have d := b.has.ju (Db (Kb Sn))
   refine ⟨d, (X 8 rfl d (kv rfl rfl rfl) (X 9 rfl d (kv rfl rfl rfl) (X 10 rfl d (lO rfl) (kM kr (ke (jE ?_))))))⟩
   replace b := b.ju (Db (Db St))
   exact ⟨m, (wi0 .i64 (j + (wi0 .i64 (c2 + (a.Tag.length : Int))))), _, ⟨rfl, p⟩, (b.ju St), rfl, z, (by rw [P]; exact c)⟩
  rintro E W ⟨j, x, ⟨m, p⟩, b, y, z, c⟩
  rw [aH] at c
  refine jE ?_
  obtain rfl := sj c
  exact ⟨_, (b.ju St), y⟩
 rintro d3 E W ⟨M, b, b4⟩ a4
 exact sg (Wh b4 (Wa (lt (rQ a4 b))))
theorem EG (I : (List Formula) → Option Int) (N : ∀ (j : Value) (u : List Formula) (r : Int) (w : World) (t : Sl jt 5 (hp w) j u), I u = some r → jT false pg0 39 [j] w (.int .i64 r)) (j : Value) (u : List Formula) (r : Int) (w : World) (t : Sl jt 5 (hp w) j u) (hm : vX I u = some r) :
  jT false pg0 39 [j] w (.int .i64 r) := by
 refine cG 31 func39 rfl (fun l => sg (Wa (lr (Wa (lS (Wm ?_))))))
 refine V (kJ aD rfl t) (Wm (ln (ku (fun i E W => ∃ x z, (E 8 = .int .i64 (i : Nat) ∧ E 7 = .int .i64 (u.length : Nat)) ∧ ST false kp w W (hp w) z ∧ E 3 = (.int .i64 x) ∧ E 6 = j ∧ rh I (u.drop i) x = some r) u.length t.len ⟨0, _, ⟨rfl, rfl⟩, (l.ju St), rfl, rfl, hm⟩ dc dc dc (fun _ _ _ h => by obtain ⟨_, _, p, _⟩ := h; exact p) ?_ ?_)))
 ·rintro Z E W M ⟨x, z, ⟨n, s⟩, l, D, G, g⟩
  obtain ⟨c, O, T, Q, U⟩ := kc M
  let a0 := ((c.jq.js.size : Int) + (c.jq.Word.size : Int))
  rw [T] at g
  refine bg (VQ (lF (i := (Z : Int)) (x0 := c) jt.out aD aC G n t (aG _) Q) (fun a5 ⟨_, ⟨L, rfl, H⟩, J⟩ => V (jv rfl (jQ l.has J aK aC)) (VE (kh l aP (fun A a4 l => ?_)))))
  obtain ⟨y, B, rfl⟩ := H.form
  let q := (C1 c.Op c.K c.jq.js c.jq.Word y c.Kids.length B)
  refine VO (jL (.agg q.toArray) (q.toArray) l rfl rfl aC oc nb rfl (fun a2 l => ln ?_))
  replace l := l.drew
  have d := l.has.ju (Kb Sn)
  refine ky d kd (X 0 rfl d (jC D) (X 1 rfl d (jz tb rfl) (X 2 rfl d (jz oR rfl) (XH 3 rfl d (fun _ m => jv rfl (jK m Mh rfl bT)) (X 4 rfl d (nR bZ rfl) (X 5 rfl d (jz tb rfl) (X 6 rfl d (jz tO rfl) (XH 7 rfl d (fun _ m => jv rfl (jK m Mh rfl bT)) (X 8 rfl d (nR bZ rfl) (X 9 rfl d (kv rfl rfl rfl) (X 10 rfl d (IJ (k := .i64) (a := (wi0 .i64 a0)) (b := 16) (v := (.int .i64 (wi0 .i64 (Int.tdiv (wi0 .i64 a0) 16)))) rfl rfl dc rfl) (X 11 rfl d (kv rfl rfl rfl) (X 12 rfl d (jz ng rfl) (XH 13 rfl d (fun _ m => jv rfl (jK m Mh rfl dI)) ?_))))))))))))))
  refine bS g fun Y K g => XE 14 rfl (Eg l call39 (N (.slice y c.Kids.length B) c.Kids _ _ (H.mono jD.mono l.jB) K) (fun a3 l => ?_))
  have d := l.has.ju (Kb Sn)
  refine ⟨d, (X 15 rfl d (kv rfl rfl rfl) (X 16 rfl d (kv rfl rfl rfl) (X 17 rfl d (lO rfl) (kM kr (ke (jE ?_))))))⟩
  replace l := l.ju (Db St)
  exact ⟨n, (wi0 .i64 (x + (wi0 .i64 ((wi0 .i64 (1 + (wi0 .i64 (Int.tdiv (wi0 .i64 a0) 16)))) + Y)))), _, ⟨rfl, s⟩, (l.ju St), rfl, G, (by rw [U]; exact g)⟩
 rintro E W ⟨x, z, ⟨n, s⟩, l, D, G, g⟩
 rw [aH] at g
 exact jE (sg (Wh D (Wa (lt (rQ g l)))))
theorem xI : ∀ (n : Nat) (a : Value) (c : List Formula) (r : Int) (w : World) (g : Sl jt 5 (hp w) a c) (_ : oy n c = some r),
  jT false pg0 39 [a] w (.int .i64 r)
 | 0 => by intros; rename_i h; simp only [oy] at h; cases h
 | n + 1 => EG (oy n) (xI n)
set_option maxHeartbeats 4000000 in
theorem vn (x : kx) (J N : Value) (r : Int) (w : World) (y : Sl ko 15 (hp w) J x.jF) (G : Sl kQ 8 (hp w) N x.jP) (hm : vw x = some r) :
  jT false pg0 38 [(.agg #[(.string x.Name), J, N])] w (.int .i64 r) := by
 refine cG 61 func38 rfl (fun d => sg ?_)
 obtain ⟨A1, c2, rfl⟩ := y.form
 obtain ⟨A3, c4, rfl⟩ := G.form
 let g6 := (C3 x.Name A1 x.jF.length c2 A3 x.jP.length c4)
 refine VE (kj d rfl (fun W6 O d => Wa (lr (Wf yu (VB d Mh rfl rfl bT (V (nR bZ rfl) (Wa (lS ?_))))))))
 refine Wf xd (VB d Mh rfl rfl gV (V (kJ dt rfl y) (Wm (ln (ku (fun i E W => ∃ I b1, (E 14 = .int .i64 (i : Nat) ∧ E 13 = .int .i64 (x.jF.length : Nat)) ∧ ST false kp w W (hp w) ((O, Ol g6 25) :: b1) ∧ E 1 = (.pointer (some ⟨O, 0, none⟩)) ∧ E 3 = (.int .i64 I) ∧ E 12 = (.slice A1 x.jF.length c2) ∧ rc x (x.jF.drop i) I = some r) x.jF.length y.len ⟨(x.Name.size : Int), _, ⟨rfl, rfl⟩, (d.ju St), rfl, rfl, rfl, hm⟩ dc dc dc (fun _ _ _ h => by obtain ⟨_, _, v, _⟩ := h; exact v) ?_ ?_)))))
 ·rintro d5 E W e1 ⟨I, b1, ⟨q, A⟩, d, U, M, Y, H⟩
  obtain ⟨a, h9, e9, e8, f0⟩ := kc e1
  rw [e9] at H
  refine bg (VQ (lF (i := (d5 : Int)) (x0 := a) ko.out dt dn Y q y (aG _) e8) (fun j4 ⟨_, ⟨j8, j9, rfl, Q, T⟩, e2⟩ => V (jv rfl (jQ d.has e2 gw dn)) (VE (kh d eO (fun i0 f4 d => ?_)))))
  obtain ⟨t, u, rfl⟩ := Q.form
  let g5 : Value := (.slice t a.Signed.Tag.length u)
  let b8 := (C7 a.Signed.jr.Kind a.Signed.jr.Head.js a.Signed.jr.Head.Word a.Signed.jr.kz a.Signed.jr.B.js a.Signed.jr.B.Word a.Signed.jr.C.js a.Signed.jr.C.Word a.Signed.jr.kK t a.Signed.Tag.length u)
  obtain ⟨g, j, rfl⟩ := T.form
  let d9 : Value := (.slice g a.jx.Kids.length j)
  let s := (C1 a.jx.Op a.jx.K a.jx.jq.js a.jx.jq.Word g a.jx.Kids.length j)
  let a0 := (C2 a.Signed.jr.Kind a.Signed.jr.Head.js a.Signed.jr.Head.Word a.Signed.jr.kz a.Signed.jr.B.js a.Signed.jr.B.Word a.Signed.jr.C.js a.Signed.jr.C.Word a.Signed.jr.kK t a.Signed.Tag.length u a.jx.Op a.jx.K a.jx.jq.js a.jx.jq.Word g a.jx.Kids.length j)
  refine VO (jL (.agg a0.toArray) (a0.toArray) d rfl rfl dn oc nb rfl (fun i1 d => ln ?_))
  replace d := d.drew
  have m := d.has.ju (Kb Sn)
  refine ky m kd (X 0 rfl m (jC M) (X 1 rfl m (jz uL rfl) (XH 2 rfl m (fun _ p => jv rfl (jy p Mh b8 rfl isAgg55 iU)) (X 5 rfl m (jz JQ rfl) (XH 6 rfl m (fun _ p => jv rfl (jy p Mh s rfl aK aC)) (PJ H (fun b4 E W => ∃ L b2 b9, ST false kp w W (hp w) ((f4, Ol a0 57) :: ((O, Ol g6 25) :: (b2 ++ b9))) ∧ E 1 = (.pointer (some ⟨O, 0, none⟩)) ∧ E 3 = (.int .i64 I) ∧ E 12 = (.slice A1 x.jF.length c2) ∧ E 13 = (.int .i64 (x.jF.length : Int)) ∧ E 14 = (.int .i64 (d5 : Int)) ∧ E 18 = (.int .i64 I) ∧ E 22 = (.int .i64 b4.1) ∧ E 25 = L ∧ kE 30 jt 5 (hp w) L b4.2 b2) (bm 13 255) 5 ?_ (fun b4 z Z => ?_)))))))
  ·rintro ⟨g7, g3⟩ E W ⟨L, b2, b9, d, f6, j3, f7, f8, f9, g0, g1, g2, e7⟩ P
   refine bS P fun g4 e3 P => XE 8 rfl (Eg d call39 ((xI jY) L g3 _ _ (e7.sl jD d.jB (fun b o n => d.at_ (Mt (Mt (Ml n))))) e3) (fun i2 d => ?_) (ha := Pu g2))
   have m := d.has.ju (Kb Sn)
   refine ⟨m, (X 9 rfl m (kv rfl rfl rfl) (X 10 rfl m (kv g1 rfl rfl) (X 11 rfl m (kv g0 rfl rfl) (X 12 rfl m (lO rfl) (kM kr (ke (jE ?_)))))))⟩
   replace d := d.ju (Db (Kb (Dr St)))
   exact ⟨f9, (wi0 .i64 (I + (wi0 .i64 (g7 + (wi0 .i64 (20 * g4)))))), _, ⟨rfl, f8⟩, (d.ju St), f6, rfl, f7, (by rw [f0]; exact P)⟩
  refine Gw 3 7 rfl rfl kr (.inl rfl) (.inl rfl) rfl rfl dc dc ?_ ?_
  ·refine jW (cs := b8.toArray) d (kX rfl) (lM jc iU zeroValue55) (fun i3 b3 d => ?_)
   let d8 : Value := (.slice (some ⟨b3, 0, none⟩) 1 1)
   have m := d.has.ju (Db (Kb Sn))
   refine ⟨m, (Gw 4 7 rfl rfl kr (.inl rfl) (.inl rfl) rfl rfl dc dc ?_ ?_)⟩
   ·refine bS z fun j5 e4 z => ES (args := [(.slice none 0 0), d8]) d rfl call40 (by exact wP rfl rfl) (jT.lz (xy (.slice none 0 0) ([]) d8 ([a.Signed]) _ _ (Sl.nil _ _ _) ((kE.lit Aw (l := [a.Signed]) (.cons (ys := C7 a.Signed.jr.Kind a.Signed.jr.Head.js a.Signed.jr.Head.Word a.Signed.jr.kz a.Signed.jr.B.js a.Signed.jr.B.Word a.Signed.jr.C.js a.Signed.jr.C.Word a.Signed.jr.kK t a.Signed.Tag.length u) (sL.mk ⟨g5, rfl, Q⟩) .nil) rfl nb rfl).sl Aw d.jB (fun b o n => (by rw [bV] at n; cases n; exact d.at_ Mh))) e4)) (fun i4 d => ?_)
    have m := d.has.ju (Db (Kb Sn))
    refine ⟨m, (XE 7 rfl (jW (cs := s.toArray) d (kX rfl) (lM aD aC aP) (fun i5 c0 d => ?_)))⟩
    have m := d.has.ju (Db (Db (Kb Sn)))
    refine ⟨m, ?_⟩
    obtain rfl := sj z
    replace d := d.Ep
    refine mX kr (Z _ _ ⟨(.slice (some ⟨c0, 0, none⟩) 1 1), [(c0, Ol s 30)], _, (d.ju (Sb (Pr (Pb Pz)) (Sb (Pr (Pb Pz)) (Kr (Db St))))), U, M, Y, A, q, rfl, rfl, rfl, (kE.lit jD (l := [a.jx]) (.cons (ys := C1 a.jx.Op a.jx.K a.jx.jq.js a.jx.jq.Word g a.jx.Kids.length j) (jt.mk ⟨d9, rfl, T⟩) .nil) rfl nb rfl)⟩)
   ·refine jW (cs := s.toArray) d (kX rfl) (lM aD aC aP) (fun i6 c1 d => ?_)
    have m := d.has.ju (Db (Db (Kb Sn)))
    refine ⟨m, (bS z fun j6 e5 z => XE 4 rfl (Eg d call40 (jT.lz (xy (.slice none 0 0) ([]) d8 ([a.Signed]) _ _ (Sl.nil _ _ _) ((kE.lit Aw (l := [a.Signed]) (.cons (ys := C7 a.Signed.jr.Kind a.Signed.jr.Head.js a.Signed.jr.Head.Word a.Signed.jr.kz a.Signed.jr.B.js a.Signed.jr.B.Word a.Signed.jr.C.js a.Signed.jr.C.Word a.Signed.jr.kK t a.Signed.Tag.length u) (sL.mk ⟨g5, rfl, Q⟩) .nil) rfl nb rfl).sl Aw d.jB (fun b o n => (by rw [bV] at n; cases n; exact d.at_ (Mt Mh)))) e5)) (fun i7 d => ?_)))⟩
    have m := d.has.ju (Db (Db (Kb Sn)))
    refine ⟨m, ?_⟩
    obtain rfl := sj z
    replace d := d.Ep
    refine mX kr (Z _ _ ⟨(.slice (some ⟨c1, 0, none⟩) 1 1), [(c1, Ol s 30)], _, (d.ju (Sb (Pr (Pb Pz)) (Sb (Pr (Pb Pz)) (Kr (Db St))))), U, M, Y, A, q, rfl, rfl, rfl, (kE.lit jD (l := [a.jx]) (.cons (ys := C1 a.jx.Op a.jx.K a.jx.jq.js a.jx.jq.Word g a.jx.Kids.length j) (jt.mk ⟨d9, rfl, T⟩) .nil) rfl nb rfl)⟩)
  ·refine jW (cs := s.toArray) d (kX rfl) (lM aD aC aP) (fun i8 c3 d => ?_)
   have m := d.has.ju (Db (Kb Sn))
   refine ⟨m, (XE 3 rfl (jW (cs := b8.toArray) d (kX rfl) (lM jc iU zeroValue55) (fun i9 f5 d => ?_)))⟩
   have m := d.has.ju (Db (Db (Kb Sn)))
   refine ⟨m, (bS z fun j7 e6 z => XE 4 rfl (Eg d call40 (jT.lz (xy (.slice none 0 0) ([]) (.slice (some ⟨f5, 0, none⟩) 1 1) ([a.Signed]) _ _ (Sl.nil _ _ _) ((kE.lit Aw (l := [a.Signed]) (.cons (ys := C7 a.Signed.jr.Kind a.Signed.jr.Head.js a.Signed.jr.Head.Word a.Signed.jr.kz a.Signed.jr.B.js a.Signed.jr.B.Word a.Signed.jr.C.js a.Signed.jr.C.Word a.Signed.jr.kK t a.Signed.Tag.length u) (sL.mk ⟨g5, rfl, Q⟩) .nil) rfl nb rfl).sl Aw d.jB (fun b o n => (by rw [bV] at n; cases n; exact d.at_ Mh))) e6)) (fun j0 d => ?_)))⟩
   have m := d.has.ju (Db (Db (Kb Sn)))
   refine ⟨m, ?_⟩
   obtain rfl := sj z
   replace d := d.perm (Nb (Pb Pz) Nz)
   replace d := d.Ep
   refine mX kr (Z _ _ ⟨(.slice (some ⟨c3, 0, none⟩) 1 1), [(c3, Ol s 30)], _, (d.ju (Sb (Pr (Pb Pz)) (Sb (Pr (Pb Pz)) (Kr (Db St))))), U, M, Y, A, q, rfl, rfl, rfl, (kE.lit jD (l := [a.jx]) (.cons (ys := C1 a.jx.Op a.jx.K a.jx.jq.js a.jx.jq.Word g a.jx.Kids.length j) (jt.mk ⟨d9, rfl, T⟩) .nil) rfl nb rfl)⟩)
 rintro E W ⟨I, b1, ⟨q, A⟩, d, U, M, Y, H⟩
 rw [aH] at H
 refine jE (jI (sg (V (jz Ef U) (VB d Mh rfl rfl isAgg23 (V (kJ cX rfl G) (Wm (ln ?_)))))))
 replace d := d.ju (Db St)
 refine CJ H (fun R E W => ∃ b6, ST false kp w W (hp w) b6 ∧ E 3 = (.int .i64 R)) (fun R c8 => ?_) ?_
 ·refine ku (fun i E W => ∃ K a2, (E 34 = .int .i64 (i : Nat) ∧ E 33 = .int .i64 (x.jP.length : Nat)) ∧ ST false kp w W (hp w) a2 ∧ E 3 = (.int .i64 K) ∧ E 32 = (.slice A3 x.jP.length c4) ∧ rl (x.jP.drop i) K = some R) x.jP.length G.len ⟨I, _, ⟨rfl, rfl⟩, (d.ju St), M, rfl, c8⟩ dc dc dc (fun _ _ _ h => by obtain ⟨_, _, v, _⟩ := h; exact v) ?_ ?_
  ·rintro f1 E W c6 ⟨K, a2, ⟨q, A⟩, d, a4, a5, k⟩
   obtain ⟨c, g8, d3, d2, d4⟩ := kc c6
   rw [d3] at k
   refine bg (VQ (lF (i := (f1 : Int)) (x0 := c) kQ.out cX dv a5 q G (aG _) d2) (fun h5 ⟨_, ⟨h6, h7, rfl, a9, b0⟩, c9⟩ => V (jv rfl (jQ d.has c9 gK dv)) (VE (kh d fp (fun g9 h4 d => ?_)))))
   obtain ⟨B, D, rfl⟩ := a9.form
   let d6 := (C1 c.jx.Op c.jx.K c.jx.jq.js c.jx.jq.Word B c.jx.Kids.length D)
   obtain ⟨a1, a3, rfl⟩ := b0.form
   let c5 := (C6 c.jq.js c.jq.Word c.jx.Op c.jx.K c.jx.jq.js c.jx.jq.Word B c.jx.Kids.length D a1 c.lj.length a3)
   refine VO (jL (.agg c5.toArray) (c5.toArray) d rfl rfl dv oc nb rfl (fun h0 d => ln ?_))
   replace d := d.drew
   have m := d.has.ju (Kb Sn)
   refine ky m kd (X 0 rfl m (jC a4) (X 1 rfl m (jz KN rfl) (X 2 rfl m (jz oR rfl) (XH 3 rfl m (fun _ p => jv rfl (jK p Mh rfl bT)) (X 4 rfl m (nR bZ rfl) (X 5 rfl m (jz KN rfl) (X 6 rfl m (jz tO rfl) (XH 7 rfl m (fun _ p => jv rfl (jK p Mh rfl bT)) (X 8 rfl m (nR bZ rfl) (X 9 rfl m (kv rfl rfl rfl) (X 10 rfl m (jz Hh rfl) (XH 11 rfl m (fun _ p => jv rfl (jy p Mh d6 rfl aK aC)) (X 16 rfl m (jz Cq rfl) (XH 17 rfl m (fun _ p => jv rfl (jK p Mh rfl iZ)) ?_))))))))))))))
   refine XE 12 rfl (jW (cs := d6.toArray) d (kX rfl) (lM aD aC aP) (fun h1 d7 d => ?_))
   have m := d.has.ju (Db (Kb Sn))
   refine ⟨m, (bS k fun f2 d0 k => XE 13 rfl (Eg d call39 ((xI jY) (.slice (some ⟨d7, 0, none⟩) 1 1) ([c.jx]) _ _ ((kE.lit jD (l := [c.jx]) (.cons (ys := C1 c.jx.Op c.jx.K c.jx.jq.js c.jx.jq.Word B c.jx.Kids.length D) (jt.mk ⟨(.slice B c.jx.Kids.length D), rfl, a9⟩) .nil) rfl nb rfl).sl jD d.jB (fun b o n => (by rw [bV] at n; cases n; exact d.at_ Mh))) d0) (fun h2 d => ?_)))⟩
   have m := d.has.ju (Db (Kb Sn))
   refine ⟨m, (X 14 rfl m (kv rfl rfl rfl) (X 15 rfl m (kv rfl rfl rfl) (bS k fun f3 d1 k => XE 18 rfl (Eg d call108 (jT.lz (DE (.slice a1 c.lj.length a3) c.lj _ _ (b0.mono (Pl.mono _) d.jB) d1)) (fun h3 d => ?_)))))⟩
   have m := d.has.ju (Db (Kb Sn))
   refine ⟨m, (X 19 rfl m (kv rfl rfl rfl) (X 20 rfl m (kv rfl rfl rfl) (X 21 rfl m (lO rfl) (kM kr (ke (jE ?_))))))⟩
   replace d := d.ju (Db (Db St))
   exact ⟨q, (wi0 .i64 (K + (wi0 .i64 ((wi0 .i64 ((wi0 .i64 ((c.jq.js.size : Int) + (c.jq.Word.size : Int))) + (wi0 .i64 (20 * f2)))) + f3)))), _, ⟨rfl, A⟩, (d.ju St), rfl, a5, (by rw [d4]; exact k)⟩
  rintro E W ⟨K, a2, ⟨q, A⟩, d, a4, a5, k⟩
  rw [aH] at k
  refine jE ?_
  obtain rfl := sj k
  exact ⟨_, (d.ju St), a4⟩
 rintro h8 E W ⟨b6, d, e0⟩ c7
 exact sg (Wh e0 (Wa (lt (rQ c7 d))))
theorem IC (a : pU) (B D x z y J : Value) (r : Int) (w : World) (t : Sl ko 15 (hp w) B a.js.jF) (u : Sl kQ 8 (hp w) D a.js.jP) (c : Sl ko 15 (hp w) x a.Client.jF) (i : Sl kQ 8 (hp w) z a.Client.jP) (g : Sl jt 5 (hp w) y a.Formula.Kids) (I : Sl tW 2 (hp w) J a.Keys) (hm : xH a = some r) :
  jT false pg0 11 [(.agg #[(.string a.js.Name), B, D, (.string a.Client.Name), x, z, (.int .i64 a.Formula.Op), (.int .i64 a.Formula.K), (.string a.Formula.jq.js), (.string a.Formula.jq.Word), y, (.int .i64 a.zP), (.int .i64 a.pL.Ck), (.int .i64 a.pL.Cz), (.int .i64 a.tK), (.int .i64 a.xz), (.int .i64 a.vl), J])] w (.int .i64 r) := by
 refine cG 20 func11 rfl (fun d => sg ?_)
 obtain ⟨A1, c2, rfl⟩ := t.form
 obtain ⟨A3, n, rfl⟩ := u.form
 let a3 := (C3 a.js.Name A1 a.js.jF.length c2 A3 a.js.jP.length n)
 obtain ⟨N, U, rfl⟩ := c.form
 let a5 : Value := (.slice N a.Client.jF.length U)
 obtain ⟨Q, Y, rfl⟩ := i.form
 let b8 : Value := (.slice Q a.Client.jP.length Y)
 let a4 := (C3 a.Client.Name N a.Client.jF.length U Q a.Client.jP.length Y)
 obtain ⟨G, k, rfl⟩ := g.form
 let q : Value := (.slice G a.Formula.Kids.length k)
 let a0 := (C1 a.Formula.Op a.Formula.K a.Formula.jq.js a.Formula.jq.Word G a.Formula.Kids.length k)
 obtain ⟨p, a2, rfl⟩ := I.form
 refine VE (kj d rfl (fun e8 c7 d => Wa (ln (jI ?_))))
 replace d := d.drew
 have h := d.has.ju (Kb Sn)
 refine ky h kd (X 0 rfl h (jz xi rfl) (XH 1 rfl h (fun _ m => jv rfl (jy m Mh a3 rfl cY cM)) (X 3 rfl h (jz xg rfl) (XH 4 rfl h (fun _ m => jv rfl (jy m Mh a4 rfl cY cM)) (X 7 rfl h (jz Cx rfl) (XH 8 rfl h (fun _ m => jv rfl (jy m Mh a0 rfl aK aC)) (X 13 rfl h (jz Ry rfl) (XH 14 rfl h (fun _ m => jv rfl (jK m Mh rfl isAgg32)) (PJ hm (fun Z E W => ∃ M T s, ST false kp w W (hp w) ((c7, Ol (C5 a.js.Name A1 a.js.jF.length c2 A3 a.js.jP.length n a.Client.Name N a.Client.jF.length U Q a.Client.jP.length Y a.Formula.Op a.Formula.K a.Formula.jq.js a.Formula.jq.Word G a.Formula.Kids.length k a.zP a.pL.Ck a.pL.Cz a.tK a.xz a.vl p a.Keys.length a2) 34) :: (T ++ s)) ∧ E 2 = (.int .i64 0) ∧ E 9 = (.int .i64 Z.1) ∧ E 12 = M ∧ E 17 = (.slice p a.Keys.length a2) ∧ kE 30 jt 5 (hp w) M Z.2 T) (bm 18 25599) 6 ?_ (fun Z j K => ?_))))))))))
 ·rintro ⟨e7, c5⟩ E W ⟨M, T, s, d, d9, c0, c1, c3, b9⟩ H
  refine bS H fun e0 L H => XE 10 rfl (Eg d call39 ((xI jY) M c5 _ _ (b9.sl jD d.jB (fun b o hq => d.at_ (Mt (Ml hq)))) L) (fun c9 d => ?_) (ha := Pu c1))
  have h := d.has.ju (Kb Sn)
  refine ⟨h, (X 11 rfl h (kv rfl rfl rfl) (X 12 rfl h (kv c0 rfl rfl) (bS H fun e1 O H => XE 15 rfl (Eg d call40 (jT.lz (xy (.slice p a.Keys.length a2) a.Keys (.slice none 0 0) ([]) _ _ (I.mono Jz.mono d.jB) (Sl.nil _ _ _) O)) (fun d0 d => ?_) (ha := SX c3 rfl)))))⟩
  have h := d.has.ju (Kb Sn)
  refine ⟨h, (X 16 rfl h (kv rfl rfl rfl) (X 17 rfl h (lO rfl) (kM kr (jE ?_))))⟩
  exact jZ (rQ H d)
 refine Gw 2 9 rfl rfl kr (.inl rfl) (.inl rfl) rfl rfl dc dc ?_ ?_
 ·refine bS j fun e2 P j => ES (args := [(.agg a3.toArray)]) d rfl call38 (by exact vg rfl) (vn a.js (.slice A1 a.js.jF.length c2) (.slice A3 a.js.jP.length n) _ _ (t.mono kB.mono d.jB) (u.mono mi.mono d.jB) P) (fun d1 d => ?_)
  have h := d.has.ju (Kb Sn)
  refine ⟨h, (Gw 5 9 rfl rfl kr (.inl rfl) (.inl rfl) rfl rfl dc dc ?_ ?_)⟩
  ·refine bS j fun e3 R j => ES (args := [(.agg a4.toArray)]) d rfl call38 (by exact vg rfl) (vn a.Client a5 b8 _ _ (c.mono kB.mono d.jB) (i.mono mi.mono d.jB) R) (fun d2 d => ?_)
   have h := d.has.ju (Kb Sn)
   refine ⟨h, (X 6 rfl h (kv rfl rfl rfl) (XE 9 rfl (jW (cs := a0.toArray) d (kX rfl) (lM aD aC aP) (fun d3 v d => ?_))))⟩
   have h := d.has.ju (Db (Kb Sn))
   refine ⟨h, ?_⟩
   obtain rfl := sj j
   replace d := d.Ep
   refine mX kr (K _ _ ⟨(.slice (some ⟨v, 0, none⟩) 1 1), [(v, Ol a0 30)], _, (d.ju (Sb (Pr Pz) St)), rfl, rfl, rfl, rfl, (kE.lit jD (l := [a.Formula]) (.cons (ys := C1 a.Formula.Op a.Formula.K a.Formula.jq.js a.Formula.jq.Word G a.Formula.Kids.length k) (jt.mk ⟨q, rfl, g⟩) .nil) rfl nb rfl)⟩)
  ·refine jW (cs := a0.toArray) d (kX rfl) (lM aD aC aP) (fun d4 a9 d => ?_)
   have h := d.has.ju (Db (Kb Sn))
   refine ⟨h, (bS j fun e4 b5 j => XE 5 rfl (Eg d call38 (vn a.Client a5 b8 _ _ (c.mono kB.mono d.jB) (i.mono mi.mono d.jB) b5) (fun d5 d => ?_)))⟩
   have h := d.has.ju (Db (Kb Sn))
   refine ⟨h, (X 6 rfl h (kv rfl rfl rfl) ?_)⟩
   obtain rfl := sj j
   replace d := d.Ep
   refine mX kr (K _ _ ⟨(.slice (some ⟨a9, 0, none⟩) 1 1), [(a9, Ol a0 30)], _, (d.ju (Sb (Pr Pz) St)), rfl, rfl, rfl, rfl, (kE.lit jD (l := [a.Formula]) (.cons (ys := C1 a.Formula.Op a.Formula.K a.Formula.jq.js a.Formula.jq.Word G a.Formula.Kids.length k) (jt.mk ⟨q, rfl, g⟩) .nil) rfl nb rfl)⟩)
 ·refine jW (cs := a0.toArray) d (kX rfl) (lM aD aC aP) (fun d6 A d => ?_)
  have h := d.has.ju (Db (Kb Sn))
  refine ⟨h, (bS j fun e5 b6 j => XE 2 rfl (Eg d call38 (vn a.js (.slice A1 a.js.jF.length c2) (.slice A3 a.js.jP.length n) _ _ (t.mono kB.mono d.jB) (u.mono mi.mono d.jB) b6) (fun d7 d => ?_)))⟩
  have h := d.has.ju (Db (Kb Sn))
  refine ⟨h, (bS j fun e6 b7 j => XE 5 rfl (Eg d call38 (vn a.Client a5 b8 _ _ (c.mono kB.mono d.jB) (i.mono mi.mono d.jB) b7) (fun d8 d => ?_)))⟩
  have h := d.has.ju (Db (Kb Sn))
  refine ⟨h, (X 6 rfl h (kv rfl rfl rfl) ?_)⟩
  obtain rfl := sj j
  replace d := d.Ep
  refine mX kr (K _ _ ⟨(.slice (some ⟨A, 0, none⟩) 1 1), [(A, Ol a0 30)], _, (d.ju (Sb (Pr Pz) St)), rfl, rfl, rfl, rfl, (kE.lit jD (l := [a.Formula]) (.cons (ys := C1 a.Formula.Op a.Formula.K a.Formula.jq.js a.Formula.jq.Word G a.Formula.Kids.length k) (jt.mk ⟨q, rfl, g⟩) .nil) rfl nb rfl)⟩)
theorem vo (M : ByteArray) (r : Bool) (w : World) (hm : qM M = some r) :
  jT true pg0 216 [(.string M)] w (.bool r) := by
 refine cG 49 func216 rfl (fun b => sg (Wa (lS (Wm (V (qh rfl rfl rfl) (Wm (LJ hm (fun c7 E W => ∃ L3, ST true kp w W (hp w) L3 ∧ E 0 = (.string M) ∧ E 11 = (.bool c7)) 4 ?_ (fun c7 K a5 => ?_))))))))
 ·rintro x2 E W ⟨L3, b, p, e6⟩ f7
  refine Wh e6 (LJ f7 (fun c6 E W => ∃ d3, ST true kp w W (hp w) d3 ∧ E 0 = (.string M) ∧ E 16 = (.bool c6)) 4 ?_ (fun c6 x a4 => ?_))
  ·rintro g4 E W ⟨d3, b, n, f4⟩ f0
   refine Wh f4 (LJ f0 (fun c5 E W => ∃ d4, ST true kp w W (hp w) d4 ∧ E 0 = (.string M) ∧ E 21 = (.bool c5)) 4 ?_ (fun c5 u a3 => ?_))
   ·rintro g7 E W ⟨d4, b, f5, f6⟩ Q
    refine ln (CI Q f6 (fun e9 Q => ?_) (fun e9 Q => ?_))
    ·refine sg (Wa (lt (km ?_)))
     obtain rfl := sj Q
     exact rP b
    refine kS (Wa (ln (lA (nc (fun m E W => ∃ y A, ST true kp w W (hp w) A ∧ E 0 = (.string M) ∧ E 3 = (.int .i64 y) ∧ pO M m y = some r) jY ⟨0, _, (b.ju St), f5, rfl, Q⟩ ?_))))
    rintro m E W ⟨y, A, b, T, U, c⟩
    cases m with
    | zero => rw [pO] at c; cases c
    | succ f1 =>
     refine jI (sg (Wh U (Wh T (V (nR bZ rfl) (Wi rfl (ln (CI c rfl (fun c8 c => ?_) (fun c8 c => ?_))))))))
     ·refine kn (jI (bg (Wh T (Wh U (bS c fun d a9 c => V (As (i := y) bZ rfl rfl (zq a9) (Df a9)) (Wa (lr ?_)))))))
      refine Wm (Wi rfl (Wm (LJ c (fun c4 E W => ∃ L, ST true kp w W (hp w) L ∧ E 0 = (.string M) ∧ E 3 = (.int .i64 y) ∧ E 4 = (.int .u8 (d.toNat : Int)) ∧ E 36 = (.bool c4)) 3 ?_ (fun c4 J a2 => ?_))))
      ·rintro f2 E W ⟨L, b, h, l, N, d5⟩ d0
       refine Wh d5 (LJ d0 (fun c2 E W => ∃ O, ST true kp w W (hp w) O ∧ E 0 = (.string M) ∧ E 3 = (.int .i64 y) ∧ E 4 = (.int .u8 (d.toNat : Int)) ∧ E 44 = (.bool c2)) 7 ?_ (fun c2 H Z => ?_))
       ·rintro g1 E W ⟨O, b, b9, c0, d6, d7⟩ d1
        refine Wh d7 (LJ d1 (fun c1 E W => ∃ P, ST true kp w W (hp w) P ∧ E 0 = (.string M) ∧ E 3 = (.int .i64 y) ∧ E 48 = (.bool c1)) 3 ?_ (fun c1 G Y => ?_))
        ·rintro g2 E W ⟨P, b, d8, d9, e0⟩ D
         refine ln (CI D e0 (fun c9 D => ?_) (fun c9 D => ?_))
         ·refine sg (Wa (lt (mn (km (km (mn (km ?_)))))))
          obtain rfl := sj D
          exact rP b
         exact kG (ke (jE (jG (Wh d9 (Wi rfl (Wa (ln ⟨f1, bI _, (wi0 .i64 (y + 1)), _, (b.ju St), d8, rfl, D⟩)))))))
        refine bC G (fun k G => ?_) (fun k G => ?_)
        ·refine ug k (jC d6) (ug k (kv rfl rfl rfl) (V (jM (cB k) rfl) ?_))
         obtain rfl := sj G
         exact Y _ _ ⟨_, (b.ju St), b9, c0, rfl⟩
        refine un k (un k (V (jO (cB k) rfl) ?_))
        obtain rfl := sj G
        exact Y _ _ ⟨_, (b.ju St), b9, c0, rfl⟩
       refine bC H (fun a H => ?_) (fun a H => ?_)
       ·refine ug a (jC N) (ug a (kv rfl rfl rfl) (ug a (jC rfl) (LJ H (fun c3 E W => ∃ R, ST true kp w W (hp w) R ∧ E 0 = (.string M) ∧ E 3 = (.int .i64 y) ∧ E 4 = (.int .u8 (d.toNat : Int)) ∧ E 37 = (.bool f2) ∧ E 43 = (.bool c3)) 3 ?_ (fun c3 I q => ?_))))
        ·rintro g3 E W ⟨R, b, e1, e2, e3, e4, e7⟩ d2
         refine V (jM (e4.trans (cB a)) e7) ?_
         obtain rfl := sj d2
         exact Z _ _ ⟨_, (b.ju St), e1, e2, e3, rfl⟩
        refine bC I (fun t I => ?_) (fun t I => ?_)
        ·refine un t (un t (ug a (jM (cB t) rfl) ?_))
         obtain rfl := sj I
         exact q _ _ ⟨_, (b.ju St), h, l, N, rfl, rfl⟩
        refine ug t (jC N) (ug t (kv rfl rfl rfl) (ug a (jO (cB t) rfl) ?_))
        obtain rfl := sj I
        exact q _ _ ⟨_, (b.ju St), h, l, N, rfl, rfl⟩
       refine un a (un a (un a (Vu rfl rfl (Vu rfl rfl (un a (V (jO (cB a) rfl) ?_))))))
       obtain rfl := sj H
       exact Z _ _ ⟨_, (b.ju St), h, l, N, rfl⟩
      refine bC J (fun j J => ?_) (fun j J => ?_)
      ·refine un j (un j (V (jM (cB j) rfl) ?_))
       obtain rfl := sj J
       exact a2 _ _ ⟨_, (b.ju St), T, U, rfl, rfl⟩
      refine ug j (jC rfl) (ug j (kv rfl rfl rfl) (V (jO (cB j) rfl) ?_))
      obtain rfl := sj J
      exact a2 _ _ ⟨_, (b.ju St), T, U, rfl, rfl⟩
     exact na (mR (mR (qp (jE (sg (Wa (lt (rQ c b))))))))
   refine bC u (fun g u => ?_) (fun g u => ?_)
   ·refine un g (un g (un g (V (jM (cB g) rfl) ?_)))
    obtain rfl := sj u
    exact a3 _ _ ⟨_, (b.ju St), n, rfl⟩
   refine ug g (jC n) (bS u fun f8 s u => ug g (As (i := 0) bZ rfl rfl (zq s) (Df s)) (ug g (kv rfl rfl rfl) (V (jO (cB g) rfl) ?_)))
   obtain rfl := sj u
   exact a3 _ _ ⟨_, (b.ju St), n, rfl⟩
  refine bC x (fun B x => ?_) (fun B x => ?_)
  ·refine un B (un B (un B (V (jM (cB B) rfl) ?_)))
   obtain rfl := sj x
   exact a4 _ _ ⟨_, (b.ju St), p, rfl⟩
  refine ug B (jC p) (bS x fun f9 v x => ug B (As (i := 0) bZ rfl rfl (zq v) (Df v)) (ug B (kv rfl rfl rfl) (V (jO (cB B) rfl) ?_)))
  obtain rfl := sj x
  exact a4 _ _ ⟨_, (b.ju St), p, rfl⟩
 refine bC K (fun z K => ?_) (fun z K => ?_)
 ·refine un z (un z (un z (V (jM (cB z) rfl) ?_)))
  obtain rfl := sj K
  exact a5 _ _ ⟨_, (b.ju St), rfl, rfl⟩
 refine ug z (jC rfl) (ug z (nR bZ rfl) (ug z (kv rfl rfl rfl) (V (jO (cB z) rfl) ?_)))
 obtain rfl := sj K
 exact a5 _ _ ⟨_, (b.ju St), rfl, rfl⟩
theorem xA (i : jq) (r : Bool) (w : World) (hm : si i = some r) :
  jT true pg0 160 [(.agg (jA i).toArray)] w (.bool r) := by
 refine cG 11 func160 rfl (fun b => sg (VE (kj b rfl (fun H J b => Wa (lr (Wf oR (VB b Mh rfl rfl bT (bS hm fun K y hm => VE (Eg b call216 (vo i.js _ _  y) (fun I b => Wm (LJ hm (fun k E W => ∃ j, ST true kp w W (hp w) j ∧ E 2 = (.bool false) ∧ E 10 = (.bool k)) 4 ?_ (fun k a g => ?_))))))))))))
 ·rintro G E W ⟨j, b, B, x⟩ t
  exact Wg x (lt (rQ t b))
 refine bC a (fun c a => ?_) (fun c a => ?_)
 ·refine ug c (jz tO rfl) (ug c (jv rfl (jK b.has Mh rfl bT)) (bS a fun D u a => rB c (Eg b call216 (vo i.Word _ _  u) (fun z b => V (jM (cB c) rfl) ?_))))
  obtain rfl := sj a
  exact g _ _ ⟨_, (b.ju (Db St)), rfl, rfl⟩
 refine un c (un c (un c (V (jO (cB c) rfl) ?_)))
 obtain rfl := sj a
 exact g _ _ ⟨_, (b.ju (Db St)), rfl, rfl⟩
theorem Eh (t u : jq) (r : Bool) (w : World) (hm : we t u = some r) :
  jT true pg0 161 [(.agg (jA t).toArray), (.agg (jA u).toArray)] w (.bool r) := by
 refine cG 24 func161 rfl (fun b => sg (VE (kj b rfl (fun T Y b => VE (kj b rfl (fun U Z b => Wa (lr (Wf oR (VB b (Mt Mh) rfl rfl bT (Wf oR (VB b Mh rfl rfl bT (V (qh rfl rfl rfl) ?_))))))))))))
 refine Wm (LJ hm (fun z E W => ∃ x, ST true kp w W (hp w) x ∧ E 4 = (.bool false) ∧ E 23 = (.bool z)) 13 ?_ (fun z g j => ?_))
 ·rintro N E W ⟨x, b, M, H⟩ D
  exact Wg H (lt (rQ D b))
 refine bC g (fun a g => ?_) (fun a g => ?_)
 ·refine un a (un a (un a (un a (un a (un a (Vu rfl rfl (Vu rfl rfl (Vu rfl rfl (Vu rfl rfl (Vu rfl rfl (un a (V (jM (cB a) rfl) ?_))))))))))))
  obtain rfl := sj g
  exact j _ _ ⟨_, (b.ju (Db (Db St))), rfl, rfl⟩
 refine ug a (jz oR rfl) (ug a (jv rfl (jK b.has (Mt Mh) rfl bT)) (ug a (jz oR rfl) (ug a (jv rfl (jK b.has Mh rfl bT)) (ug a (qh rfl rfl rfl) (ug a (jC rfl) (LJ g (fun B E W => ∃ y, ST true kp w W (hp w) y ∧ E 4 = (.bool false) ∧ E 10 = (.bool (pH t.js u.js)) ∧ E 22 = (.bool B)) 6 ?_ (fun B i k => ?_)))))))
 ·rintro Q E W ⟨y, b, I, J, K⟩ G
  refine V (jO (J.trans (cB a)) K) ?_
  obtain rfl := sj G
  exact j _ _ ⟨_, (b.ju St), I, rfl⟩
 refine bC i (fun c i => ?_) (fun c i => ?_)
 ·refine ug c (jz tO rfl) (ug c (jv rfl (jK b.has (Mt Mh) rfl bT)) (ug c (jz tO rfl) (ug c (jv rfl (jK b.has Mh rfl bT)) (ug c (qh rfl rfl rfl) (ug a (jM (cB c) rfl) ?_)))))
  obtain rfl := sj i
  exact k _ _ ⟨_, (b.ju (Db (Db St))), rfl, rfl, rfl⟩
 refine un c (un c (un c (un c (un c (ug a (jO (cB c) rfl) ?_)))))
 obtain rfl := sj i
 exact k _ _ ⟨_, (b.ju (Db (Db St))), rfl, rfl, rfl⟩
theorem DH (g : jr) (r : Bool) (w : World) (hm : vr g = some r) :
  jT true pg0 157 [(.agg (jw g).toArray)] w (.bool r) := by
 refine cG 93 func157 rfl (fun b => sg (VE (kj b rfl (fun W2 M b => Wa (lr (VE (kh b eA (fun W4 h b => lS ?_))))))))
 refine Wf qT (VA b (Mt Mh) (jA g.Head) bF aS (bS hm fun r5 h4 hm => VE (Eg b call160 (xA g.Head _ _  h4) (fun W7 b => V (nj rfl) (ln (CI hm rfl (fun h2 hm => ?_) (fun h2 hm => ?_)))))))
 ·refine sg (Wa (ln ?_))
  replace b := b.ju (Db (Db St))
  refine jZ (km ?_)
  obtain rfl := sj hm
  exact rP b
 refine kS (Wf pY (VB b (Mt Mh) rfl rfl bX (Wi rfl (ln (CI hm rfl (fun h3 hm => ?_) (fun h3 hm => ?_))))))
 ·refine sg (Wf wg (VB b (Mt Mh) rfl rfl bT (bS hm fun i6 f7 hm => VE (Eg b call216 (vo g.kz _ _  f7) (fun i3 b => Wm (LJ hm (fun e1 E W => ∃ c8, ST true kp w W (hp w) ((h, Ol (jA K0) 27) :: ((M, Ol (jw g) 52) :: c8)) ∧ E 1 = (.pointer (some ⟨M, 0, none⟩)) ∧ E 2 = (.bool false) ∧ E 3 = (.pointer (some ⟨h, 0, none⟩)) ∧ E 19 = (.bool e1)) 5 ?_ (fun e1 T p => ?_)))))))
  ·rintro i8 E W ⟨c8, b, l, d6, f9, g0⟩ f0
   refine Wh g0 (LJ f0 (fun e0 E W => ∃ c9, ST true kp w W (hp w) ((M, Ol (jw g) 52) :: c9) ∧ E 1 = (.pointer (some ⟨M, 0, none⟩)) ∧ E 2 = (.bool false) ∧ E 25 = (.bool e0)) 5 ?_ (fun e0 Q a5 => ?_))
   ·rintro i9 E W ⟨c9, b, g1, d7, g2⟩ f1
    refine Wh g2 (LJ f1 (fun d9 E W => ∃ d0, ST true kp w W (hp w) d0 ∧ E 2 = (.bool false) ∧ E 30 = (.bool d9)) 4 ?_ (fun d9 N a4 => ?_))
    ·rintro j0 E W ⟨d0, b, i5, g3⟩ f2
     refine Wg g3 (lt (km ?_))
     obtain rfl := sj f2
     exact rP b
    refine bC N (fun x N => ?_) (fun x N => ?_)
    ·refine ug x (jz tX g1) (ug x (jv rfl (jK b.has Mh rfl bT)) (ug x (qh rfl rfl rfl) (V (jM (cB x) rfl) ?_)))
     obtain rfl := sj N
     exact a4 _ _ ⟨_, (b.ju (Db St)), d7, rfl⟩
    refine un x (un x (un x (V (jO (cB x) rfl) ?_)))
    obtain rfl := sj N
    exact a4 _ _ ⟨_, (b.ju (Db St)), d7, rfl⟩
   refine bC Q (fun k Q => ?_) (fun k Q => ?_)
   ·refine ug k (jz rI l) (ug k (jv rfl (jy b.has (Mt Mh) (jA g.C) rfl bF aS)) (ug k (jv f9 (jy b.has Mh (jA K0) rfl bF aS)) (ug k (uY rfl rfl (nm eb) (ru (pe _ g.C K0))) (V (jM (cB k) rfl) ?_))))
    obtain rfl := sj Q
    exact a5 _ _ ⟨_, (b.ju (Db St)), l, d6, rfl⟩
   refine un k (un k (un k (un k (V (jO (cB k) rfl) ?_))))
   obtain rfl := sj Q
   exact a5 _ _ ⟨_, (b.ju (Db St)), l, d6, rfl⟩
  refine bC T (fun j T => ?_) (fun j T => ?_)
  ·refine ug j (jz ny rfl) (ug j (jv rfl (jy b.has (Mt Mh) (jA g.B) rfl bF aS)) (ug j (jv rfl (jy b.has Mh (jA K0) rfl bF aS)) (ug j (uY rfl rfl (nm eb) (ru (pe _ g.B K0))) (V (jM (cB j) rfl) ?_))))
   obtain rfl := sj T
   exact p _ _ ⟨_, (b.ju St), rfl, rfl, rfl, rfl⟩
  refine un j (un j (un j (un j (V (jO (cB j) rfl) ?_))))
  obtain rfl := sj T
  exact p _ _ ⟨_, (b.ju St), rfl, rfl, rfl, rfl⟩
 let a0 := ((jw g).toArray : Array Value)
 let d : Value := (.pointer (some ⟨M, 0, none⟩))
 refine kS (Wf wg (VB b (Mt Mh) rfl rfl bT (V (qh rfl rfl rfl) (Wm (LJ hm (fun c1 E W => ∃ d1, ST true kp w W (hp w) ((h, Ol (jA K0) 27) :: ((M, Obj.cells a0 52 (0, 0)) :: d1)) ∧ E 1 = d ∧ E 3 = (.pointer (some ⟨h, 0, none⟩)) ∧ E 39 = (.bool c1)) 5 ?_ (fun c1 I a3 => ?_))))))
 ·rintro j3 E W ⟨d1, b, u, d8, g4⟩ i
  refine ln (CI i g4 (fun e7 i => ?_) (fun e7 i => ?_))
  ·refine sg (Wa (ln ?_))
   replace b := b.ju (Db (Db St))
   refine jZ (km ?_)
   obtain rfl := sj i
   exact rP b
  refine kS (V (jz pY u) (VB b (Mt Mh) rfl rfl bX (Wi rfl (ln (CI i rfl (fun e8 i => ?_) (fun e8 i => ?_))))))
  ·refine sg (V (jz rI u) (VA b (Mt Mh) (jA g.C) bF aS (V (jv d8 (jy b.has Mh (jA K0) rfl bF aS)) (V (uY rfl rfl (nm eb) (ru (pe _ g.C K0))) (Wm (LJ i (fun e2 E W => ∃ d2, ST true kp w W (hp w) d2 ∧ E 51 = (.bool e2)) 4 ?_ (fun e2 U q => ?_)))))))
   ·rintro j4 E W ⟨d2, b, g7⟩ f3
    refine Wg g7 (lt (km ?_))
    obtain rfl := sj f3
    exact rP b
   refine bC U (fun y U => ?_) (fun y U => ?_)
   ·refine ug y (jz tX u) (ug y (jv rfl (jK b.has (Mt Mh) rfl bT)) (ug y (qh rfl rfl rfl) (V (jM (cB y) rfl) ?_)))
    obtain rfl := sj U
    exact q _ _ ⟨_, (b.ju (Db (Db St))), rfl⟩
   refine un y (un y (un y (V (jO (cB y) rfl) ?_)))
   obtain rfl := sj U
   exact q _ _ ⟨_, (b.ju (Db (Db St))), rfl⟩
  refine kS (V (jz pY u) (VB b (Mt Mh) rfl rfl bX (Wi rfl (ln (CI i rfl (fun e9 i => ?_) (fun e9 i => ?_))))))
  ·refine sg (V (jz rI u) (VA b (Mt Mh) (jA g.C) bF aS (V (jv d8 (jy b.has Mh (jA K0) rfl bF aS)) (V (uY rfl rfl (nm eb) (ru (pe _ g.C K0))) (Wm (LJ i (fun e4 E W => ∃ d3, ST true kp w W (hp w) ((M, Obj.cells a0 52 (0, 0)) :: d3) ∧ E 1 = d ∧ E 67 = (.bool e4)) 8 ?_ (fun e4 Y a9 => ?_)))))))
   ·rintro j5 E W ⟨d3, b, g8, g9⟩ f4
    refine Wh g9 (LJ f4 (fun e3 E W => ∃ d4, ST true kp w W (hp w) d4 ∧ E 72 = (.bool e3)) 4 ?_ (fun e3 J s => ?_))
    ·rintro j6 E W ⟨d4, b, h0⟩ f5
     refine Wg h0 (lt (km ?_))
     obtain rfl := sj f5
     exact rP b
    refine bC J (fun z J => ?_) (fun z J => ?_)
    ·refine ug z (jz tX g8) (ug z (jv rfl (jK b.has Mh rfl bT)) (bS J fun i7 f8 J => rB z (Eg b call216 (vo g.kK _ _  f8) (fun i4 b => V (jM (cB z) rfl) ?_))))
     obtain rfl := sj J
     exact s _ _ ⟨_, (b.ju (Db St)), rfl⟩
    refine un z (un z (un z (V (jO (cB z) rfl) ?_)))
    obtain rfl := sj J
    exact s _ _ ⟨_, (b.ju (Db St)), rfl⟩
   refine bC Y (fun a Y => ?_) (fun a Y => ?_)
   ·refine ug a (jz ny u) (ug a (jz oR rfl) (ug a (jv rfl (jK b.has (Mt Mh) rfl bT)) (ug a (jz qT u) (ug a (jz oR rfl) (ug a (jv rfl (jK b.has (Mt Mh) rfl bT)) (ug a (qh rfl rfl rfl) (V (jM (cB a) rfl) ?_)))))))
    obtain rfl := sj Y
    exact a9 _ _ ⟨_, (b.ju (Db St)), u, rfl⟩
   refine un a (un a (un a (un a (un a (un a (un a (V (jO (cB a) rfl) ?_)))))))
   obtain rfl := sj Y
   exact a9 _ _ ⟨_, (b.ju (Db St)), u, rfl⟩
  refine kn ?_
  replace b := b.ju (Db St)
  refine sg (V (jz pY u) (VB b Mh rfl rfl bX (Wi rfl (Wm (LJ i (fun R E W => ∃ d5, ST true kp w W (hp w) ((M, Obj.cells a0 52 (0, 0)) :: d5) ∧ E 1 = d ∧ E 80 = (.bool R)) 4 ?_ (fun R K a2 => ?_))))))
  ·rintro j7 E W ⟨d5, b, m, h1⟩ f6
   refine Wh h1 (LJ f6 (fun P E W => ∃ v, ST true kp w W (hp w) ((M, Obj.cells a0 52 (0, 0)) :: v) ∧ E 1 = d ∧ E 85 = (.bool P)) 4 ?_ (fun P H n => ?_))
   ·rintro i1 E W ⟨v, b, L, e5⟩ c3
    refine Wh e5 (LJ c3 (fun O E W => ∃ A, ST true kp w W (hp w) A ∧ E 92 = (.bool O)) 6 ?_ (fun O G Z => ?_))
    ·rintro i2 E W ⟨A, b, e6⟩ c4
     exact Wg e6 (lt (rQ c4 b))
    refine bC G (fun c G => ?_) (fun c G => ?_)
    ·refine ug c (jz ny L) (ug c (jv rfl (jy b.has Mh (jA g.B) rfl bF aS)) (ug c (jz rI L) (ug c (jv rfl (jy b.has Mh (jA g.C) rfl bF aS)) (bS G fun h8 c5 G => rB c (Eg b call161 (Eh g.B g.C _ _  c5) (fun h5 b => V (jM (cB c) rfl) ?_))))))
     obtain rfl := sj G
     exact Z _ _ ⟨_, (b.ju (Db St)), rfl⟩
    refine un c (un c (un c (un c (un c (V (jO (cB c) rfl) ?_)))))
    obtain rfl := sj G
    exact Z _ _ ⟨_, (b.ju (Db St)), rfl⟩
   refine bC H (fun D H => ?_) (fun D H => ?_)
   ·refine ug D (jz rI m) (ug D (jv rfl (jy b.has Mh (jA g.C) rfl bF aS)) (bS H fun h9 c6 H => rB D (Eg b call160 (xA g.C _ _  c6) (fun h6 b => V (jM (cB D) rfl) ?_))))
    obtain rfl := sj H
    exact n _ _ ⟨_, (b.ju St), m, rfl⟩
   refine un D (un D (un D (V (jO (cB D) rfl) ?_)))
   obtain rfl := sj H
   exact n _ _ ⟨_, (b.ju St), m, rfl⟩
  refine bC K (fun B K => ?_) (fun B K => ?_)
  ·refine ug B (jz tX u) (ug B (jv rfl (jK b.has Mh rfl bT)) (ug B (qh rfl rfl rfl) (V (jM (cB B) rfl) ?_)))
   obtain rfl := sj K
   exact a2 _ _ ⟨_, (b.ju St), u, rfl⟩
  refine un B (un B (un B (V (jO (cB B) rfl) ?_)))
  obtain rfl := sj K
  exact a2 _ _ ⟨_, (b.ju St), u, rfl⟩
 refine bC I (fun t I => ?_) (fun t I => ?_)
 ·refine un t (un t (un t (un t (V (jM (cB t) rfl) ?_))))
  obtain rfl := sj I
  exact a3 _ _ ⟨_, (b.ju St), rfl, rfl, rfl⟩
 refine ug t (jz ny rfl) (ug t (jv rfl (jy b.has (Mt Mh) (jA g.B) rfl bF aS)) (bS I fun i0 c7 I => rB t (Eg b call160 (xA g.B _ _  c7) (fun h7 b => ug t (nj rfl) (V (jO (cB t) rfl) ?_)))))
 obtain rfl := sj I
 exact a3 _ _ ⟨_, (b.ju St), rfl, rfl, rfl⟩
theorem uC (x : Int) (r : ByteArray) (w : World) (hm : qc x = some r) :
  jT true pg0 328 [(.int .i64 x)] w (.string r) := by
 refine cG 22 func328 rfl (fun d => sg (Wa (lr (Wa (ln (jI (lA (nc (fun m E W => ∃ c j t, ST true kp w W (hp w) t ∧ E 0 = (.int .i64 c) ∧ E 3 = (.string j) ∧ sE m c j = some r) jY ⟨x, zS, _, (d.ju St), rfl, rfl, hm⟩ ?_))))))))
 rintro m E W ⟨c, j, t, d, i, u, g⟩
 let N := (Int.tmod c 128)
 cases m with
 | zero => rw [sE] at g; cases g
 | succ D =>
  refine jI (sg (Wh i (Wi rfl (ln (CI g rfl (fun y g => ?_) (fun y g => ?_))))))
  ·refine kn (bg (Wh u (Wh i (V (IJ (k := .i64) (a := c) (b := 128) (v := (.int .i64 N)) rfl rfl dc rfl) (Wi rfl (V (qN (k' := .i64) (a := (wi0 .i64 (128 + N))) dR fG rfl) (VE (jW (cs := [(.int .u8 (IntKind.u8.wrap (wi0 .i64 (128 + N))))].toArray) d (kX rfl) (lM cU sizeOf5 jb) (fun H J d => V (Lb cU fG bZ rfl (Sl.lit (enc := (kN .u8)) (l := [(IntKind.u8.wrap (wi0 .i64 (128 + N)))]) (fun _ => rfl) rfl nb rfl (d.at_ Mh))) (bS g fun G z g => V (qe rfl rfl z) (Wa ?_)))))))))))
   refine ln ?_
   replace d := d.ju (Db St)
   exact jG (Wh i (V (IJ (k := .i64) (a := c) (b := 128) (v := (.int .i64 (wi0 .i64 (Int.tdiv c 128)))) rfl rfl dc rfl) (Wa (jU (ke (jE ⟨D, bI _, (wi0 .i64 (Int.tdiv c 128)), G, _, (d.ju St), rfl, rfl, g⟩))))))
  refine na (mR (mR (qp (jE (sg (Wh u (Wh i (V (qN (k' := .i64) (a := c) dR fG rfl) (VE (jW (cs := [(.int .u8 (IntKind.u8.wrap c))].toArray) d (kX rfl) (lM cU sizeOf5 jb) (fun I K d => V (Lb cU fG bZ rfl (Sl.lit (enc := (kN .u8)) (l := [(IntKind.u8.wrap c)]) (fun _ => rfl) rfl nb rfl (d.at_ Mh))) (bS g fun M B g => V (qe rfl rfl B) (Wa (ln ?_))))))))))))))
  exact jZ (rQ g d)
theorem yG (a r : ByteArray) (w : World) (hm : tp a = some r) :
  jT true pg0 330 [(.string a)] w (.string r) := by
 refine cG 8 func330 rfl (fun b => sg (Wa (lr (Wm (V (nR bZ rfl) (bS hm fun j c hm => VE (Eg b call328 (uC (a.size : Int) _ _  c) (fun i b => Wm (bS hm fun k g hm => V (qe rfl rfl g) ?_)))))))))
 exact Wa (lt (rQ hm b))
theorem xx (a : jq) (r : ByteArray) (w : World) (hm : sk a = some r) :
  jT true pg0 329 [(.agg (jA a).toArray)] w (.string r) := by
 refine cG 10 func329 rfl (fun b => sg (VE (kj b rfl (fun y z b => Wa (ln (jI ?_))))))
 replace b := b.drew
 have d := b.has.ju (Kb Sn)
 refine ky d kd (X 0 rfl d (jz oR rfl) (XH 1 rfl d (fun _ h => jv rfl (jK h Mh rfl bT)) (X 3 rfl d (jz tO rfl) (XH 4 rfl d (fun _ h => jv rfl (jK h Mh rfl bT)) (bS hm fun t c hm => XE 2 rfl (Eg b call330 (yG a.js _ _  c) (fun j b => ?_)))))))
 have d := b.has.ju (Kb Sn)
 refine ⟨d, (bS hm fun u g hm => XE 5 rfl (Eg b call330 (yG a.Word _ _  g) (fun k b => ?_)))⟩
 have d := b.has.ju (Kb Sn)
 refine ⟨d, (bS hm fun x i hm => X 6 rfl d (qe rfl rfl i) (X 7 rfl d (lO rfl) (kM kr (jE ?_))))⟩
 exact jZ (rQ hm b)
theorem Iv (g : jr) (r : ByteArray) (w : World) (hm : zU g = some r) :
  jT true pg0 274 [(.agg (jw g).toArray)] w (.string r) := by
 refine cG 41 func274 rfl (fun b => sg (VE (kj b rfl (fun W2 l b => Wa (ln (jI ?_))))))
 replace b := b.drew
 have d := b.has.ju (Kb Sn)
 refine ky d kd (X 0 rfl d (jz pY rfl) (XH 1 rfl d (fun _ h => jv rfl (jK h Mh rfl bX)) (X 3 rfl d (jz qT rfl) (XH 4 rfl d (fun _ h => jv rfl (jy h Mh (jA g.Head) rfl bF aS)) (bS hm fun a9 H hm => XE 2 rfl (Eg b call328 (uC g.Kind _ _  H) (fun a3 b => ?_)))))))
 have d := b.has.ju (Kb Sn)
 refine ⟨d, (bS hm fun q I hm => XE 5 rfl (Eg b call329 (xx g.Head _ _  I) (fun a4 b => ?_)))⟩
 have d := b.has.ju (Kb Sn)
 refine ⟨d, (bS hm fun O Q hm => X 6 rfl d (qe rfl rfl Q) (X 7 rfl d (lO rfl) (kM kr (jE (jI (sg (Wf pY (VB b Mh rfl rfl bX (Wi rfl (ln (CI hm rfl (fun y hm => ?_) (fun y hm => ?_))))))))))))⟩
 ·refine sg (Wm (Wf wg (VB b Mh rfl rfl bT (bS hm fun s J hm => VE (Eg b call330 (yG g.kz _ _  J) (fun a5 b => bS hm fun P T hm => V (qe rfl rfl T) (Wa (ln ?_))))))))
  replace b := b.ju (Db St)
  refine jZ (km ?_)
  obtain rfl := sj hm
  exact rP b
 refine kg (Wm (Wf ny (VA b Mh (jA g.B) bF aS (bS hm fun v K hm => VE (Eg b call329 (xx g.B _ _  K) (fun m b => bS hm fun R U hm => V (qe rfl rfl U) (Wa (ln (jI ?_)))))))))
 refine CJ hm (fun x E W => ∃ i, ST true kp w W (hp w) ((l, Ol (jw g) 52) :: i) ∧ E 1 = (.pointer (some ⟨l, 0, none⟩)) ∧ E 3 = (.string x)) (fun x c => ?_) ?_
 ·refine sg (Wf pY (VB b Mh rfl rfl bX (Wi rfl (ln (CI c rfl (fun B c => ?_) (fun B c => ?_))))))
  ·refine jG (Wm (Wf tX (VB b Mh rfl rfl bT (bS c fun L N c => VE (Eg b call330 (yG g.kK _ _  N) (fun p b => bS c fun c1 Z c => V (qe rfl rfl Z) (Wa (ln ?_))))))))
   obtain rfl := sj c
   exact ⟨_, (b.ju St), rfl, rfl⟩
  refine kn ?_
  obtain rfl := sj c
  exact ⟨_, (b.ju St), rfl, rfl⟩
 rintro c2 E W ⟨i, b, k, t⟩ D
 refine jI (CJ D (fun u E W => ∃ j, ST true kp w W (hp w) j ∧ E 3 = (.string u)) (fun u a => ?_) ?_)
 ·refine sg (V (jz pY k) (VB b Mh rfl rfl bX (Wi rfl (ln (CI a rfl (fun z a => ?_) (fun z a => ?_))))))
  ·refine jG (Wh t (V (jz rI k) (VA b Mh (jA g.C) bF aS (bS a fun A M a => VE (Eg b call329 (xx g.C _ _  M) (fun n b => bS a fun c0 Y a => V (qe rfl rfl Y) (Wa (ln ?_))))))))
   obtain rfl := sj a
   exact ⟨_, (b.ju (Db St)), rfl⟩
  refine kn ?_
  obtain rfl := sj a
  exact ⟨_, (b.ju (Db St)), t⟩
 rintro c3 E W ⟨j, b, a2⟩ G
 exact sg (Wh a2 (Wa (lt (rQ G b))))
theorem DC (a : jr) (r : ByteArray) (w : World) (hm : vj a = some r) :
  jT true pg0 217 [(.agg (jw a).toArray)] w (.string r) := by
 refine cG 8 func217 rfl (fun b => sg (VE (kj b rfl (fun j u b => Wa (lS (VA b Mh (jw a) bU aM (bS hm fun x g hm => VE (Eg b call157 (DH a _ _  g) (fun k b => V (nj rfl) (jU ?_))))))))))
 refine jE (CI hm rfl (fun c hm => ?_) (fun c hm => ?_))
 ·refine sg (Wa (ln ?_))
  replace b := b.ju (Db St)
  refine jZ (km ?_)
  obtain rfl := sj hm
  exact rP b
 refine kg (VA b Mh (jw a) bU aM (bS hm fun y i hm => VE (Eg b call274 (Iv a _ _  i) (fun t b => Wa (ln ?_)))))
 exact jZ (rQ hm b)
theorem Bu (a c : jr) (r : Int) (w : World) (hm : sa a c = some r) :
  jT true pg0 158 [(.agg (jw a).toArray), (.agg (jw c).toArray)] w (.int .i64 r) := by
 refine cG 17 func158 rfl (fun b => sg (VE (kj b rfl (fun u z b => VE (kj b rfl (fun x B b => Wa (lr (VA b (Mt Mh) (jw a) bU aM (bS hm fun D j hm => VE (Eg b call217 (DC a _ _  j) (fun y b => Wa (jU ?_))))))))))))
 refine jE ?_
 replace b := b.ju (Kb (Db St))
 refine sg (VA b Mh (jw c) bU aM (bS hm fun G k hm => VE (Eg b call217 (DC c _ _  k) (fun t b => Wa (ln ?_)))))
 replace b := b.ju (Db St)
 refine jI (sg (Wm (Wm (V (qh rfl rfl rfl) (ln (CI hm rfl (fun g hm => ?_) (fun g hm => ?_)))))))
 ·refine sg (Wa (lt (km ?_)))
  obtain rfl := sj hm
  exact rP b
 refine kS (Wm (Wm (V (qh rfl rfl rfl) (ln (CI hm rfl (fun i hm => ?_) (fun i hm => ?_))))))
 ·refine sg (Wa (lt (km ?_)))
  obtain rfl := sj hm
  exact rP b
 exact kg (Wa (lt (rQ hm b)))
theorem Ff (D : Value) (a0 r : List jr) (w : World) (e3 : Sl (Pl jw) 9 (hp w) D a0) (hm : xr a0 = some r) :
  kY true pg0 84 [D] w 52 jw 9 r := by
 refine sP 51 func84 rfl (fun d => sg (Wa (lr (Wa (ln (rb (lA (nc (fun m E W => ∃ x a3 u c5, ST true kp w W (hp w) (u ++ c5) ∧ E 0 = D ∧ E 3 = x ∧ jX 52 jw 9 x a3 u ∧ sV a0 m a3 = some r) jY ⟨(.slice none 0 0), ([]), [], _, (d.ju St), rfl, rfl, (jX.nil _ _ _), hm⟩ ?_))))))))
 rintro m E W ⟨x, a3, u, c5, d, d1, g2, J, a5⟩
 cases m with
 | zero => rw [sV] at a5; cases a5
 | succ j5 =>
  refine bg (VE (kh d cT (fun k0 t d => lr (Wa (lS (Wh d1 ?_))))))
  let b8 : Value := (.pointer (some ⟨t, 0, none⟩))
  refine V (kJ aR rfl e3) (Wm (ln (CJ a5 (fun a9 E W => ∃ c6, ST true kp w W (hp w) ((t, Ol (jw a9.2) 52) :: (u ++ c6)) ∧ E 0 = D ∧ E 3 = x ∧ E 4 = b8 ∧ E 5 = (.bool a9.1)) (fun a9 e9 => ?_) ?_)))
  ·refine ku (fun i E W => ∃ G y b1, (E 10 = .int .i64 (i : Nat) ∧ E 9 = .int .i64 (a0.length : Nat)) ∧ ST true kp w W (hp w) ((t, Ol (jw y) 52) :: (u ++ b1)) ∧ E 0 = D ∧ E 3 = x ∧ E 4 = b8 ∧ E 5 = (.bool G) ∧ E 8 = D ∧ rf a3 (a0.drop i) G y = some a9) a0.length e3.len ⟨false, K6, _, ⟨rfl, rfl⟩, (d.ju St), d1, g2, rfl, rfl, rfl, e9⟩ dc dc dc (fun _ _ _ h => by obtain ⟨_, _, _, aa, _⟩ := h; exact aa) ?_ ?_
   ·rintro a2 E W e8 ⟨G, y, b1, ⟨s, eN⟩, d, U, M, Y, Z, q, z⟩
    let g5 := ((jw y).toArray : Array Value)
    obtain ⟨c, j9, f9, f8, c4⟩ := kc e8
    let P := ((jw c).toArray : Array Value)
    rw [f9] at z
    refine bg (VQ (mQ (enc := jw) (i := (a2 : Int)) (x0 := c) aR aM q s e3 (aG _) f8) (fun k9 f3 => V (jv rfl (jQ d.has f3 bU aM)) (VE (kh d cT (fun k3 K d => VO (jL (.agg (jw c).toArray) ((jw c).toArray) d rfl rfl aM (nw c) nb rfl (fun k4 d => ln (jI ?_))))))))
    let j2 : Value := (.int .i64 (a2 : Int))
    let j1 : Value := (.int .i64 (a0.length : Int))
    let g6 : Value := (.pointer (some ⟨K, 0, none⟩))
    replace d := d.drew
    have b := d.has.ju (Kb (Kb (Kr Sn)))
    refine ky b kd (XH 0 rfl b (fun _ n => jv rfl (jy n Mh (jw c) rfl bU aM)) (bS z fun j6 f5 z => XE 1 rfl (Eg d call157 (DH c _ _  f5) (fun k5 d => ?_))))
    have b := d.has.ju (Kb (Kb (Kr Sn)))
    refine ⟨b, (X 2 rfl b (jC rfl) (PJ z (fun e0 E W => ∃ c7, ST true kp w W (hp w) ((K, Obj.cells P 52 (0, 0)) :: ((t, Obj.cells g5 52 (0, 0)) :: (u ++ c7))) ∧ E 0 = D ∧ E 3 = x ∧ E 4 = b8 ∧ E 5 = (.bool G) ∧ E 7 = g6 ∧ E 8 = D ∧ E 9 = j1 ∧ E 10 = j2 ∧ E 31 = (.bool e0)) (bm 28 262143) 10 ?_ (fun e0 T c1 => ?_)))⟩
    ·rintro j8 E W ⟨c7, d, b2, b3, A, L, O, b4, b5, b6, g8⟩ f0
     have b := d.has.ju (Kb (Kb (Kr Sn)))
     refine X 18 rfl b (jC g8) (PJ f0 (fun d8 E W => ∃ c8, ST true kp w W (hp w) ((K, Obj.cells P 52 (0, 0)) :: ((t, Obj.cells g5 52 (0, 0)) :: (u ++ c8))) ∧ E 0 = D ∧ E 3 = x ∧ E 4 = b8 ∧ E 5 = (.bool G) ∧ E 7 = g6 ∧ E 8 = D ∧ E 9 = j1 ∧ E 10 = j2 ∧ E 41 = (.bool d8)) (bm 28 268435455) 0 ?_ (fun d8 Q b9 => ?_))
     ·rintro l4 E W ⟨c8, d, d3, d4, b7, g9, h0, d5, d6, d7, h1⟩ N
      refine kM kr (jE (CI N h1 (fun e7 N => ?_) (fun e7 N => ?_)))
      ·refine sg (V (jv h0 (jy d.has Mh (jw c) rfl bU aM)) ?_)
       replace d := d.perm (Nb (Pb Pz) Nz)
       refine VO (jL (.agg (jw c).toArray) ((jw c).toArray) d b7 rfl aM (nw c) nb rfl (fun k6 d => ln ?_))
       replace d := d.ju (Kb (Db St))
       exact jG (Wa (jU (ke (jE ⟨d7, true, c, _, ⟨rfl, d6⟩, (d.ju St), d3, d4, b7, rfl, d5, (by rw [c4]; exact N)⟩))))
      refine kG (ke (jE ?_))
      replace d := d.ju (Db St)
      exact ⟨d7, G, y, _, ⟨rfl, d6⟩, (d.ju St), d3, d4, b7, g9, d5, (by rw [c4]; exact N)⟩
     refine bC Q (fun j Q => ?_) (fun j Q => ?_)
     ·refine Xg 19 rfl rfl (cB j) b (jC L) (Xg 20 rfl rfl (cB j) b (nj rfl) (Xg 21 rfl rfl (cB j) b (jC rfl) (PJ Q (fun d9 E W => ∃ c9, ST true kp w W (hp w) ((K, Obj.cells P 52 (0, 0)) :: ((t, Obj.cells g5 52 (0, 0)) :: (u ++ c9))) ∧ E 0 = D ∧ E 3 = x ∧ E 4 = b8 ∧ E 5 = (.bool G) ∧ E 7 = g6 ∧ E 8 = D ∧ E 9 = j1 ∧ E 10 = j2 ∧ E 32 = (.bool j8) ∧ E 40 = (.bool d9)) (bm 28 134217727) 1 ?_ (fun d9 I c0 => ?_))))
      ·rintro l5 E W ⟨c9, d, h2, h3, h4, h5, h6, h7, h8, h9, i0, i1⟩ f1
       have b := d.has.ju (Kb (Kb (Kr Sn)))
       refine X 27 rfl b (jM (i0.trans (cB j)) i1) ?_
       obtain rfl := sj f1
       refine mX kr (b9 _ _ ⟨_, (d.ju St), h2, h3, h4, h5, h6, h7, h8, h9, rfl⟩)
      refine bC I (fun k I => ?_) (fun k I => ?_)
      ·refine Xn 22 rfl rfl (cB k) b (Xn 23 rfl rfl (cB k) b (Xn 24 rfl rfl (cB k) b (Xn 25 rfl rfl (cB k) b (Xg 26 rfl rfl (cB j) b (jM (cB k) rfl) ?_))))
       obtain rfl := sj I
       refine mX kr (c0 _ _ ⟨_, (d.ju St), b2, b3, A, L, O, b4, b5, b6, rfl, rfl⟩)
      refine su 22 rfl rfl (cB k) b (fun _ n => jv O (jy n Mh (jw c) rfl bU aM)) (su 23 rfl rfl (cB k) b (fun _ n => jv A (jy n (Mt Mh) (jw y) rfl bU aM)) (bS I fun l1 f6 I => Ac 24 rfl rfl (cB k) (Eg d call158 (Bu c y _ _  f6) (fun k7 d => ?_))))
      have b := d.has.ju (Kb (Kb (Kr Sn)))
      refine ⟨b, (Xg 25 rfl rfl (cB k) b (kv rfl rfl rfl) (Xg 26 rfl rfl (cB j) b (jO (cB k) rfl) ?_))⟩
      obtain rfl := sj I
      refine mX kr (c0 _ _ ⟨_, (d.ju St), b2, b3, A, L, O, b4, b5, b6, rfl, rfl⟩)
     refine Xn 19 rfl rfl (cB j) b (Xn 20 rfl rfl (cB j) b (Xn 21 rfl rfl (cB j) b (Xu 22 rfl rfl rfl b (Xu 23 rfl rfl rfl b (Xu 24 rfl rfl rfl b (Xu 25 rfl rfl rfl b (Xn 26 rfl rfl (cB j) b (X 27 rfl b (jO (cB j) rfl) ?_))))))))
     obtain rfl := sj Q
     refine mX kr (b9 _ _ ⟨_, (d.ju St), b2, b3, A, L, O, b4, b5, b6, rfl⟩)
    refine bC T (fun g T => ?_) (fun g T => ?_)
    ·refine Xg 3 rfl rfl (cB g) b (jC M) (Xg 4 rfl rfl (cB g) b (ns aR rfl J) (Xg 5 rfl rfl (cB g) b (kv rfl rfl rfl) (Xg 6 rfl rfl (cB g) b (jC rfl) (PJ T (fun e1 E W => ∃ d0, ST true kp w W (hp w) ((K, Obj.cells P 52 (0, 0)) :: ((t, Obj.cells g5 52 (0, 0)) :: (u ++ d0))) ∧ E 0 = D ∧ E 3 = x ∧ E 4 = b8 ∧ E 5 = (.bool G) ∧ E 7 = g6 ∧ E 8 = D ∧ E 9 = j1 ∧ E 10 = j2 ∧ E 16 = (.bool j6) ∧ E 30 = (.bool e1)) (bm 28 131071) 11 ?_ (fun e1 B c2 => ?_)))))
     ·rintro l6 E W ⟨d0, d, i2, i3, i4, i5, i6, i7, i8, i9, j0, j3⟩ f2
      have b := d.has.ju (Kb (Kb (Kr Sn)))
      refine X 17 rfl b (jM (j0.trans (cB g)) j3) ?_
      obtain rfl := sj f2
      refine mX kr (c1 _ _ ⟨_, (d.ju St), i2, i3, i4, i5, i6, i7, i8, i9, rfl⟩)
     refine bC B (fun a B => ?_) (fun a B => ?_)
     ·refine Xn 7 rfl rfl (cB a) b (Xn 8 rfl rfl (cB a) b (Xn 9 rfl rfl (cB a) b (Xn 10 rfl rfl (cB a) b (Xn 11 rfl rfl (cB a) b (Xn 12 rfl rfl (cB a) b (Xn 13 rfl rfl (cB a) b (Xn 14 rfl rfl (cB a) b (Xn 15 rfl rfl (cB a) b (Xg 16 rfl rfl (cB g) b (jM (cB a) rfl) ?_)))))))))
      obtain rfl := sj B
      refine mX kr (c2 _ _ ⟨_, (d.ju St), U, M, Y, Z, rfl, q, eN, s, rfl, rfl⟩)
     refine Xg 7 rfl rfl (cB a) b (jC M) (Xg 8 rfl rfl (cB a) b (jC M) (Xg 9 rfl rfl (cB a) b (ns aR rfl J) (Xg 10 rfl rfl (cB a) b (kv rfl rfl rfl) (bS B fun e2 b0 B => sd 11 rfl kr (.inr ⟨6, false, 20, rfl, rfl, by decide, (cB a)⟩) rfl dc (fun _ _ h => h) b (nv (i := (wi0 .i64 ((a3.length : Int) - 1))) (x0 := e2) aR aM rfl rfl J (kl b0) (ki b0)) (fun l0 f4 => su 12 rfl rfl (cB a) b (fun _ n => jv rfl (tj n (fun p hq => (Mt (Mt (Ml hq)))) J kC f4 (ki b0) bU aM)) (su 13 rfl rfl (cB a) b (fun _ n => jv rfl (jy n Mh (jw c) rfl bU aM)) (bS B fun l2 f7 B => Ac 14 rfl rfl (cB a) (Eg d call158 (Bu e2 c _ _  f7) (fun k8 d => ?_)))))))))
     have b := d.has.ju (Kb (Kb (Kr Sn)))
     refine ⟨b, (Xg 15 rfl rfl (cB a) b (kv rfl rfl rfl) (Xg 16 rfl rfl (cB g) b (jO (cB a) rfl) ?_))⟩
     obtain rfl := sj B
     refine mX kr (c2 _ _ ⟨_, (d.ju St), U, M, Y, Z, rfl, q, eN, s, rfl, rfl⟩)
    refine Xn 3 rfl rfl (cB g) b (Xn 4 rfl rfl (cB g) b (Xn 5 rfl rfl (cB g) b (Xn 6 rfl rfl (cB g) b (Xu 7 rfl rfl rfl b (Xu 8 rfl rfl rfl b (Xu 9 rfl rfl rfl b (Xu 10 rfl rfl rfl b (Xu 11 rfl rfl rfl b (Xu 12 rfl rfl rfl b (Xu 13 rfl rfl rfl b (Xu 14 rfl rfl rfl b (Xu 15 rfl rfl rfl b (Xn 16 rfl rfl (cB g) b (X 17 rfl b (jO (cB g) rfl) ?_))))))))))))))
    obtain rfl := sj T
    refine mX kr (c1 _ _ ⟨_, (d.ju St), U, M, Y, Z, rfl, q, eN, s, rfl⟩)
   rintro E W ⟨G, y, b1, ⟨s, eN⟩, d, U, M, Y, Z, q, z⟩
   rw [aH] at z
   refine jE ?_
   obtain rfl := sj z
   exact ⟨_, (d.ju St), U, M, Y, Z⟩
  rintro ⟨l3, a4⟩ E W ⟨c6, d, g3, d2, g4, g7⟩ H
  refine jI (sg (Wh g7 (V (nj rfl) (ln (CI H rfl (fun e5 H => ?_) (fun e5 H => ?_))))))
  ·refine sg (Wh d2 (Wa (ln ?_)))
   replace d := d.ju (Db St)
   refine jZ (km (mn (km (mn (km ?_)))))
   obtain rfl := sj H
   exact kO (v := x) rfl rfl ⟨_, u, rfl, d.mC (fun p hq => (Ml hq)) J.nd, J⟩
  refine kn (jG (Wh d2 (V (jv g4 (jy d.has Mh (jw a4) rfl bU aM)) (VE (jW (cs := (jw a4).toArray) d (kX rfl) (lM aR aM cT) (fun k1 g1 d => ?_))))))
  replace d := d.perm (Nr (Qb (Qb Qz)) Nz)
  refine bS H fun j4 e6 H => VE (mz (enc := jw) (v := x) (vs := (.slice (some ⟨g1, 0, none⟩) 1 1)) (R := u) d kC dc nw aR mT.1 mT.2.1 rfl mT.2.2.1 mT.2.2.2 rfl rfl J (Sl.lit (enc := jw) (l := [a4]) kC rfl nb rfl (d.at_ (Ma Mh))) e6 (fun k2 j7 g0 d e4 => Wa (jU (ke (jE ?_)))))
  replace d := d.ju (Kr (Db (Db St)))
  exact ⟨j5, bI _, j7, j4, g0, _, (d.ju St), g3, rfl, e4, H⟩
theorem Ku (x : Value) (a0 r : List ByteArray) (w : World) (c0 : Sl (Pl sH) 1 (hp w) x a0) (hm : zg a0 = some r) :
  kY true pg0 303 [x] w 9 sH 1 r := by
 refine sP 48 func303 rfl (fun b => sg (Wa (lr (Wa (ln (rb (lA (nc (fun m E W => ∃ u a2 j c1, ST true kp w W (hp w) (j ++ c1) ∧ E 0 = x ∧ E 3 = u ∧ jX 9 sH 1 u a2 j ∧ sX a0 m a2 = some r) jY ⟨(.slice none 0 0), ([]), [], _, (b.ju St), rfl, rfl, (jX.nil _ _ _), hm⟩ ?_))))))))
 rintro m E W ⟨u, a2, j, c1, b, c7, f6, G, Z⟩
 cases m with
 | zero => rw [sX] at Z; cases Z
 | succ i3 =>
  refine bg (Wa (lS (Wh c7 (V (kJ dw rfl c0) (Wm (ln (CJ Z (fun b7 E W => ∃ c2, ST true kp w W (hp w) (j ++ c2) ∧ E 0 = x ∧ E 3 = u ∧ E 4 = (.string b7)) (fun b7 e5 => ?_) ?_)))))))
  ·refine ku (fun i E W => ∃ z s, (E 9 = .int .i64 (i : Nat) ∧ E 8 = .int .i64 (a0.length : Nat)) ∧ ST true kp w W (hp w) (j ++ s) ∧ E 0 = x ∧ E 3 = u ∧ E 4 = (.string z) ∧ E 7 = x ∧ rq a2 (a0.drop i) z = some b7) a0.length c0.len ⟨zS, _, ⟨rfl, rfl⟩, (b.ju St), c7, f6, rfl, rfl, e5⟩ dc dc dc (fun _ _ _ h => by obtain ⟨_, _, a6, _⟩ := h; exact a6) ?_ ?_
   ·rintro d E W e4 ⟨z, s, ⟨n, q⟩, b, Q, H, T, U, t⟩
    obtain ⟨I, i7, f3, f2, b9⟩ := kc e4
    rw [f3] at t
    refine bg (VQ (mQ (enc := sH) (i := (d : Int)) (x0 := I) dw fb U n c0 (aG _) f2) (fun j3 e9 => V (jv rfl (oE b.has (y := (.string I)) e9 bT)) (Wa (lr (Wm (bS t fun i4 f1 t => VE (Eg b call216 (vo I _ _  f1) (fun j0 b => Wm (LJ t (fun d7 E W => ∃ c3, ST true kp w W (hp w) (j ++ c3) ∧ E 0 = x ∧ E 3 = u ∧ E 4 = (.string z) ∧ E 6 = (.string I) ∧ E 7 = x ∧ E 8 = (.int .i64 (a0.length : Int)) ∧ E 9 = (.int .i64 (d : Int)) ∧ E 29 = (.bool d7)) 14 ?_ (fun d7 N a9 => ?_))))))))))
    ·rintro i6 E W ⟨c3, b, A, L, Y, a3, O, P, b6, f8⟩ e6
     refine Wh f8 (LJ e6 (fun d5 E W => ∃ c4, ST true kp w W (hp w) (j ++ c4) ∧ E 0 = x ∧ E 3 = u ∧ E 4 = (.string z) ∧ E 6 = (.string I) ∧ E 7 = x ∧ E 8 = (.int .i64 (a0.length : Int)) ∧ E 9 = (.int .i64 (d : Int)) ∧ E 38 = (.bool d5)) 8 ?_ (fun d5 K a7 => ?_))
     ·rintro j5 E W ⟨c4, b, d0, d1, f9, g0, d2, d3, d4, g1⟩ J
      refine ln (CI J g1 (fun e3 J => ?_) (fun e3 J => ?_))
      ·exact jG (Wh g0 (Wa (jU (ke (jE ⟨d4, I, _, ⟨rfl, d3⟩, (b.ju St), d0, d1, rfl, d2, (by rw [b9]; exact J)⟩)))))
      exact kG (ke (jE ⟨d4, z, _, ⟨rfl, d3⟩, (b.ju St), d0, d1, f9, d2, (by rw [b9]; exact J)⟩))
     refine bC K (fun g K => ?_) (fun g K => ?_)
     ·refine ug g (jC Y) (ug g (qh rfl rfl rfl) (ug g (jC rfl) (LJ K (fun d6 E W => ∃ c5, ST true kp w W (hp w) (j ++ c5) ∧ E 0 = x ∧ E 3 = u ∧ E 4 = (.string z) ∧ E 6 = (.string I) ∧ E 7 = x ∧ E 8 = (.int .i64 (a0.length : Int)) ∧ E 9 = (.int .i64 (d : Int)) ∧ E 30 = (.bool i6) ∧ E 37 = (.bool d6)) 4 ?_ (fun d6 M a8 => ?_))))
      ·rintro j6 E W ⟨c5, b, g2, g3, g4, g7, g8, g9, h0, h1, h2⟩ e7
       refine V (jM (h1.trans (cB g)) h2) ?_
       obtain rfl := sj e7
       exact a7 _ _ ⟨_, (b.ju St), g2, g3, g4, g7, g8, g9, h0, rfl⟩
      refine bC M (fun k M => ?_) (fun k M => ?_)
      ·refine un k (un k (un k (ug g (jM (cB k) rfl) ?_)))
       obtain rfl := sj M
       exact a8 _ _ ⟨_, (b.ju St), A, L, Y, a3, O, P, b6, rfl, rfl⟩
      refine ug k (jC a3) (ug k (jC Y) (ug k (qh rfl rfl rfl) (ug g (jO (cB k) rfl) ?_)))
      obtain rfl := sj M
      exact a8 _ _ ⟨_, (b.ju St), A, L, Y, a3, O, P, b6, rfl, rfl⟩
     refine un g (un g (un g (Vu rfl rfl (Vu rfl rfl (Vu rfl rfl (un g (V (jO (cB g) rfl) ?_)))))))
     obtain rfl := sj K
     exact a7 _ _ ⟨_, (b.ju St), A, L, Y, a3, O, P, b6, rfl⟩
    refine bC N (fun c N => ?_) (fun c N => ?_)
    ·refine ug c (jC H) (ug c (ns dw rfl G) (ug c (kv rfl rfl rfl) (ug c (jC rfl) (LJ N (fun d8 E W => ∃ c6, ST true kp w W (hp w) (j ++ c6) ∧ E 0 = x ∧ E 3 = u ∧ E 4 = (.string z) ∧ E 6 = (.string I) ∧ E 7 = x ∧ E 8 = (.int .i64 (a0.length : Int)) ∧ E 9 = (.int .i64 (d : Int)) ∧ E 15 = (.bool i4) ∧ E 28 = (.bool d8)) 9 ?_ (fun d8 D b0 => ?_)))))
     ·rintro j7 E W ⟨c6, b, h3, h4, h5, h6, h7, h8, h9, i0, i1⟩ e8
      refine V (jM (i0.trans (cB c)) i1) ?_
      obtain rfl := sj e8
      exact a9 _ _ ⟨_, (b.ju St), h3, h4, h5, h6, h7, h8, h9, rfl⟩
     refine bC D (fun a D => ?_) (fun a D => ?_)
     ·refine un a (un a (un a (un a (un a (un a (un a (un a (ug c (jM (cB a) rfl) ?_))))))))
      obtain rfl := sj D
      exact b0 _ _ ⟨_, (b.ju St), Q, H, T, rfl, U, q, n, rfl, rfl⟩
     refine ug a (jC rfl) (ug a (jC H) (ug a (jC H) (ug a (ns dw rfl G) (ug a (kv rfl rfl rfl) (bS D fun d9 a5 D => Nq a (nv (i := (wi0 .i64 ((a2.length : Int) - 1))) (x0 := d9) dw fb rfl rfl G (kl a5) (ki a5)) (fun j4 f0 => ug a (jv rfl (CN b.has (fun p hq => (Ml hq)) G (fun _ => rfl) f0 (ki a5) (y := (.string d9)) rfl bT)) (ug a (qh rfl rfl rfl) (ug c (jO (cB a) rfl) ?_))))))))
     obtain rfl := sj D
     exact b0 _ _ ⟨_, (b.ju St), Q, H, T, rfl, U, q, n, rfl, rfl⟩
    refine un c (un c (un c (un c (Vu rfl rfl (Vu rfl rfl (Vu rfl rfl (Vu rfl rfl (Vu rfl rfl (Vu rfl rfl (Vu rfl rfl (Vu rfl rfl (un c (V (jO (cB c) rfl) ?_)))))))))))))
    obtain rfl := sj N
    exact a9 _ _ ⟨_, (b.ju St), Q, H, T, rfl, U, q, n, rfl⟩
   rintro E W ⟨z, s, ⟨n, q⟩, b, Q, H, T, U, t⟩
   rw [aH] at t
   refine jE ?_
   obtain rfl := sj t
   exact ⟨_, (b.ju St), Q, H, T⟩
  rintro a4 E W ⟨c2, b, f7, c8, c9⟩ B
  refine jI (sg (Wh c9 (V (qh rfl rfl rfl) (ln (CI B rfl (fun e1 B => ?_) (fun e1 B => ?_))))))
  ·refine sg (Wh c8 (Wa (lt (km (mn (km (mn (km ?_))))))))
   obtain rfl := sj B
   exact kO (v := u) rfl rfl ⟨_, j, rfl, b.mC (fun p hq => (Ml hq)) G.nd, G⟩
  refine kn (jG (Wh c8 (Wh c9 (VE (jW (cs := [(.string a4)].toArray) b (kX rfl) (lM dw fb zeroValue9) (fun i8 f5 b => ?_))))))
  replace b := b.perm (Nr (Qb Qz) Nz)
  refine bS B fun i2 e2 B => VE (mz (enc := sH) (v := u) (vs := (.slice (some ⟨f5, 0, none⟩) 1 1)) (R := j) b (fun _ => rfl) dc Ms dw BG.1 BG.2.1 rfl BG.2.2.1 BG.2.2.2 rfl rfl G (Sl.lit (enc := sH) (l := [a4]) (fun _ => rfl) rfl nb rfl (b.at_ (Ma Mh))) e2 (fun i9 i5 f4 b e0 => Wa (jU (ke (jE ?_)))))
  replace b := b.ju (Kr (Db St))
  exact ⟨i3, bI _, i5, i2, f4, _, (b.ju St), f7, rfl, e0, B⟩
theorem Iy (B : Value) (G : List jr) (r : List ByteArray) (w : World) (y : Sl (Pl jw) 9 (hp w) B G) (hm : xw G = some r) :
  kY true pg0 245 [B] w 9 sH 1 r := by
 refine sP 29 func245 rfl (fun d => sg (Wa (lr (Wa (lS (Wm ?_))))))
 refine V (kJ aR rfl y) (Wm (ln (ku (fun i E W => ∃ g k j t, (E 8 = .int .i64 (i : Nat) ∧ E 7 = .int .i64 (G.length : Nat)) ∧ ST true kp w W (hp w) (j ++ t) ∧ E 3 = g ∧ E 6 = B ∧ jX 9 sH 1 g k j ∧ rz (G.drop i) k = some r) G.length y.len ⟨(.slice none 0 0), ([]), [], _, ⟨rfl, rfl⟩, (d.ju St), rfl, rfl, (jX.nil _ _ _), hm⟩ dc dc dc (fun _ _ _ h => by obtain ⟨_, _, _, _, n, _⟩ := h; exact n) ?_ ?_)))
 ·rintro a5 E W T ⟨g, k, j, t, ⟨m, A⟩, d, u, x, z, c⟩
  obtain ⟨a, b4, Y, U, Z⟩ := kc T
  rw [Y] at c
  refine bg (VQ (mQ (enc := jw) (i := (a5 : Int)) (x0 := a) aR aM x m y (aG _) U) (fun b2 J => V (jv rfl (jQ d.has J bU aM)) (VE (kh d cT (fun O b1 d => VO (jL (.agg (jw a).toArray) ((jw a).toArray) d rfl rfl aM (nw a) nb rfl (fun P d => ln (jG (Wh u (Wf wg (VB d Mh rfl rfl bT (Wf qT (Wf oR ?_)))))))))))))
  refine VB d Mh rfl rfl bT (Wf ny (Wf oR (VB d Mh rfl rfl bT (Wf rI (Wf oR (VB d Mh rfl rfl bT (VE (jW (cs := #[(.string a.kz), (.string a.Head.js), (.string a.B.js), (.string a.C.js)]) d (Q8 rfl rfl rfl rfl) (lM dw fb zeroValue9) (fun a8 Q d => ?_)))))))))
  replace d := d.perm (Nr (Qb (Qb Qz)) Nz)
  refine bS c fun L I c => VE (mz (enc := sH) (v := g) (vs := (.slice (some ⟨Q, 0, none⟩) 4 4)) (R := j) d (fun _ => rfl) dc Ms dw BG.1 BG.2.1 rfl BG.2.2.1 BG.2.2.2 rfl rfl z (Sl.lit (enc := sH) (l := [a.kz, a.Head.js, a.B.js, a.C.js]) (fun _ => rfl) rfl nb rfl (d.at_ (Ma Mh))) I (fun a9 a2 M d H => Wa (jU (ke (jE ?_)))))
  replace d := d.ju (Kr (Db (Db St)))
  exact ⟨m, a2, L, M, _, ⟨rfl, A⟩, (d.ju St), rfl, x, H, (by rw [Z]; exact c)⟩
 rintro E W ⟨g, k, j, t, ⟨m, A⟩, d, u, x, z, c⟩
 rw [aH] at c
 refine jE (sg (Wh u (bS c fun b3 K c => VE (oW d call303 (Ku g k _ _ (z.sl (fun _ => rfl) (fun b o s => d.at_ (Ml s))) K) (fun b0 a3 b5 N d a4 q D => Wa (ln ?_))))))
 replace d := d.ju (Kr (Dr St))
 refine jZ ?_
 obtain rfl := sj c
 exact kO (v := a3) rfl rfl ⟨_, N, rfl, d.mC (fun p s => (Ml s)) D.nd, D⟩
theorem wx (y : Value) (H : List jJ) (z : jq) (J : ByteArray) (r : Bool) (w : World) (G : Sl (Pl kq) 3 (hp w) y H) (hm : tT H z J = some r) :
  jT true pg0 246 [y, (.agg (jA z).toArray), (.string J)] w (.bool r) := by
 refine cG 26 func246 rfl (fun b => sg (VE (kj b rfl (fun W2 M b => Wa (lS (Wm (V (kJ cR rfl G) (Wm (ln ?_)))))))))
 refine ku (fun i E W => ∃ D, (E 11 = .int .i64 (i : Nat) ∧ E 10 = .int .i64 (H.length : Nat)) ∧ ST true kp w W (hp w) ((M, Ol (jA z) 27) :: D) ∧ E 2 = (.string J) ∧ E 4 = (.pointer (some ⟨M, 0, none⟩)) ∧ E 9 = y ∧ vi z J (H.drop i) = some r) H.length G.len ⟨_, ⟨rfl, rfl⟩, (b.ju St), rfl, rfl, rfl, hm⟩ dc dc dc (fun _ _ _ h => by obtain ⟨_, l, _⟩ := h; exact l) ?_ ?_
 ·rintro T E W n ⟨D, ⟨d, m⟩, b, t, u, x, c⟩
  obtain ⟨k, P, q, p, a9⟩ := kc n
  rw [q] at c
  refine bg (VQ (mQ (enc := kq) (i := (T : Int)) (x0 := k) cR dB x d G (aG _) p) (fun L Q => V (jv rfl (jQ b.has Q gv dB)) (VE (kh b eH (fun s A b => VO (jL (.agg (kq k).toArray) ((kq k).toArray) b rfl rfl dB (yR k) nb rfl (fun v b => lr (Wf wN (VA b Mh (jA k.jq) bF aS (V (jv u (jy b.has (Mt Mh) (jA z) rfl bF aS)) (V (uY rfl rfl (nm eb) (ru (pe _ k.jq z))) ?_)))))))))))
  refine Wm (LJ c (fun K E W => ∃ I, ST true kp w W (hp w) ((M, Ol (jA z) 27) :: I) ∧ E 2 = (.string J) ∧ E 4 = (.pointer (some ⟨M, 0, none⟩)) ∧ E 9 = y ∧ E 10 = (.int .i64 (H.length : Int)) ∧ E 11 = (.int .i64 (T : Int)) ∧ E 24 = (.bool K)) 5 ?_ (fun K j B => ?_))
  ·rintro O E W ⟨I, b, U, Y, Z, a3, a4, a5⟩ g
   refine ln (CI g a5 (fun N g => ?_) (fun N g => ?_))
   ·refine sg (Wa (ln ?_))
    replace b := b.ju (Db St)
    refine jZ (mn (km (mn (km ?_))))
    obtain rfl := sj g
    exact rP b
   exact kG (ke (jE ⟨a4, _, ⟨rfl, a3⟩, (b.ju St), U, Y, Z, (by rw [a9]; exact g)⟩))
  refine bC j (fun a j => ?_) (fun a j => ?_)
  ·refine ug a (jz vy rfl) (ug a (jv rfl (jK b.has Mh rfl bT)) (ug a (jC t) (ug a (qh rfl rfl rfl) (V (jM (cB a) rfl) ?_))))
   obtain rfl := sj j
   exact B _ _ ⟨_, (b.ju (Db St)), t, u, x, m, d, rfl⟩
  refine un a (un a (un a (un a (V (jO (cB a) rfl) ?_))))
  obtain rfl := sj j
  exact B _ _ ⟨_, (b.ju (Db St)), t, u, x, m, d, rfl⟩
 rintro E W ⟨D, ⟨d, m⟩, b, t, u, x, c⟩
 rw [aH] at c
 refine jE ?_
 replace b := b.ju (Db St)
 exact sg (Wa (lt (rQ c b)))
theorem JR (k : Value) (M : List jJ) (t : jr) (K : Value) (Y : List ByteArray) (H : ByteArray) (r : Bool) (w : World) (G : Sl (Pl kq) 3 (hp w) k M) (T : Sl (Pl sH) 1 (hp w) K Y) (hm : yw M t Y H = some r) :
  jT true pg0 247 [k, (.agg (jw t).toArray), K, (.string H)] w (.bool r) := by
 refine cG 62 func247 rfl (fun b => sg (VE (kj b rfl (fun W2 d b => Wa (lS (Wf pY (VB b Mh rfl rfl bX (Wi rfl (ln ?_)))))))))
 refine CI hm rfl (fun d0 hm => ?_) (fun d0 hm => ?_)
 ·refine sg (Wf wg (VB b Mh rfl rfl bT (Wm (V (qh rfl rfl rfl) (Wa (ln ?_))))))
  replace b := b.ju (Db St)
  refine jZ (km ?_)
  obtain rfl := sj hm
  exact rP b
 refine kS (Wf pY (VB b Mh rfl rfl bX (Wi rfl (ln (CI hm rfl (fun d1 hm => ?_) (fun d1 hm => ?_))))))
 ·refine sg (Wm (Wf ny (VA b Mh (jA t.B) bF aS (Wm (bS hm fun r5 d3 hm => VE (Eg b call246 (wx k M t.B H _ _ (G.mono (Pl.mono _) b.jB) d3) (fun W7 b => Wa (ln ?_))))))))
  replace b := b.ju (Db St)
  refine jZ (km ?_)
  obtain rfl := sj hm
  exact rP b
 refine kS (Wf pY (VB b Mh rfl rfl bX (Wi rfl (ln (CI hm rfl (fun d2 hm => ?_) (fun d2 hm => ?_))))))
 ·refine sg (Wm (Wf ny (VA b Mh (jA t.B) bF aS (Wm (bS hm fun r9 c7 hm => VE (Eg b call246 (wx k M t.B H _ _ (G.mono (Pl.mono _) b.jB) c7) (fun e1 b => Wm (LJ hm (fun q E W => ∃ p, ST true kp w W (hp w) p ∧ E 8 = (.bool false) ∧ E 40 = (.bool q)) 6 ?_ (fun q u U => ?_)))))))))
  ·rintro e5 E W ⟨p, b, e3, c9⟩ c6
   refine Wg c9 (lt (km ?_))
   obtain rfl := sj c6
   exact rP b
  refine bC u (fun c u => ?_) (fun c u => ?_)
  ·refine ug c (jC rfl) (ug c (jz rI rfl) (ug c (jv rfl (jy b.has Mh (jA t.C) rfl bF aS)) (ug c (jC rfl) (bS u fun e4 c8 u => rB c (Eg b call246 (wx k M t.C H _ _ (G.mono (Pl.mono _) b.jB) c8) (fun e2 b => V (jM (cB c) rfl) ?_))))))
   obtain rfl := sj u
   exact U _ _ ⟨_, (b.ju (Db St)), rfl, rfl⟩
  refine un c (un c (un c (un c (un c (V (jO (cB c) rfl) ?_)))))
  obtain rfl := sj u
  exact U _ _ ⟨_, (b.ju (Db St)), rfl, rfl⟩
 refine kS (Wm (V (kJ dw rfl T) (Wm (ln (ku (fun i E W => ∃ Q, (E 43 = .int .i64 (i : Nat) ∧ E 42 = .int .i64 (Y.length : Nat)) ∧ ST true kp w W (hp w) ((d, Ol (jw t) 52) :: Q) ∧ E 0 = k ∧ E 3 = (.string H) ∧ E 5 = (.pointer (some ⟨d, 0, none⟩)) ∧ E 41 = K ∧ tR M t H (Y.drop i) = some r) Y.length T.len ⟨_, ⟨rfl, rfl⟩, (b.ju St), rfl, rfl, rfl, rfl, hm⟩ dc dc dc (fun _ _ _ h => by obtain ⟨_, m, _⟩ := h; exact m) ?_ ?_)))))
 ·rintro a4 E W A ⟨Q, ⟨l, n⟩, b, B, I, D, J, g⟩
  obtain ⟨z, d4, R, P, b5⟩ := kc A
  rw [R] at g
  refine bg (VQ (mQ (enc := sH) (i := (a4 : Int)) (x0 := z) dw fb J l T (aG _) P) (fun d7 a9 => V (jv rfl (oE b.has (y := (.string z)) a9 bT)) (Wa (lr (Wh B (V (jz ny D) (VA b Mh (jA t.B) bF aS (Wm (bS g fun d8 L g => ?_)))))))))
  refine VE (Eg b call246 (wx k M t.B z _ _ (G.mono (Pl.mono _) b.jB) L) (fun d5 b => Wm (LJ g (fun a5 E W => ∃ Z, ST true kp w W (hp w) ((d, Ol (jw t) 52) :: Z) ∧ E 0 = k ∧ E 3 = (.string H) ∧ E 5 = (.pointer (some ⟨d, 0, none⟩)) ∧ E 41 = K ∧ E 42 = (.int .i64 (Y.length : Int)) ∧ E 43 = (.int .i64 (a4 : Int)) ∧ E 60 = (.bool a5)) 8 ?_ (fun a5 j N => ?_))))
  ·rintro e0 E W ⟨Z, b, b9, c0, c1, c2, c3, c4, c5⟩ x
   refine ln (CI x c5 (fun s x => ?_) (fun s x => ?_))
   ·refine sg (Wa (ln ?_))
    replace b := b.ju (Db St)
    refine jZ (mn (km (mn (km ?_))))
    obtain rfl := sj x
    exact rP b
   exact kG (ke (jE ⟨c4, _, ⟨rfl, c3⟩, (b.ju St), b9, c0, c1, c2, (by rw [b5]; exact x)⟩))
  refine bC j (fun a j => ?_) (fun a j => ?_)
  ·refine ug a (jC B) (ug a (jC rfl) (ug a (jz tX D) (ug a (jv rfl (jK b.has Mh rfl bT)) (ug a (lC (v := (.agg (jA (⟨z, t.kK⟩ : jq)).toArray)) (uJ rfl rfl) (kI eA dN (LX _ dN) kr)) (ug a (jC I) (bS j fun d9 O j => rB a (Eg b call246 (wx k M (⟨z, t.kK⟩ : jq) H _ _ (G.mono (Pl.mono _) b.jB) O) (fun d6 b => V (jM (cB a) rfl) ?_))))))))
   obtain rfl := sj j
   exact N _ _ ⟨_, (b.ju St), B, I, D, J, n, l, rfl⟩
  refine un a (un a (un a (un a (un a (un a (un a (V (jO (cB a) rfl) ?_)))))))
  obtain rfl := sj j
  exact N _ _ ⟨_, (b.ju St), B, I, D, J, n, l, rfl⟩
 rintro E W ⟨Q, ⟨l, n⟩, b, B, I, D, J, g⟩
 rw [aH] at g
 refine jE ?_
 replace b := b.ju (Db St)
 exact sg (Wa (lt (rQ g b)))
theorem Eb (j k : jJ) (r : Bool) (w : World) (hm : sZ j k = some r) :
  jT true pg0 304 [(.agg (kq j).toArray), (.agg (kq k).toArray)] w (.bool r) := by
 refine cG 24 func304 rfl (fun b => sg (VE (kj b rfl (fun Y d b => VE (kj b rfl (fun Z h b => Wa (lr (Wf wN (VA b (Mt Mh) (jA j.jq) bF aS (Wf wN (VA b Mh (jA k.jq) bF aS (bS hm fun N M hm => ?_))))))))))))
 refine VE (Eg b call161 (Eh j.jq k.jq _ _  M) (fun W7 b => Wm (LJ hm (fun z E W => ∃ x, ST true kp w W (hp w) x ∧ E 4 = (.bool false) ∧ E 23 = (.bool z)) 13 ?_ (fun z g t => ?_))))
 ·rintro T E W ⟨x, b, Q, H⟩ D
  exact Wg H (lt (rQ D b))
 refine bC g (fun a g => ?_) (fun a g => ?_)
 ·refine un a (un a (un a (un a (un a (un a (Vu rfl rfl (Vu rfl rfl (Vu rfl rfl (Vu rfl rfl (Vu rfl rfl (un a (V (jM (cB a) rfl) ?_))))))))))))
  obtain rfl := sj g
  exact t _ _ ⟨_, (b.ju (Db (Db St))), rfl, rfl⟩
 refine ug a (jz wN rfl) (ug a (jv rfl (jy b.has (Mt Mh) (jA j.jq) rfl bF aS)) (ug a (jz wN rfl) (ug a (jv rfl (jy b.has Mh (jA k.jq) rfl bF aS)) (ug a (uY rfl rfl (nm eb) (ru (pe _ j.jq k.jq))) (ug a (jC rfl) (LJ g (fun B E W => ∃ y, ST true kp w W (hp w) y ∧ E 4 = (.bool false) ∧ E 10 = (.bool N) ∧ E 22 = (.bool B)) 6 ?_ (fun B i u => ?_)))))))
 ·rintro U E W ⟨y, b, I, J, K⟩ G
  refine V (jO (J.trans (cB a)) K) ?_
  obtain rfl := sj G
  exact t _ _ ⟨_, (b.ju St), I, rfl⟩
 refine bC i (fun c i => ?_) (fun c i => ?_)
 ·refine ug c (jz vy rfl) (ug c (jv rfl (jK b.has (Mt Mh) rfl bT)) (ug c (jz vy rfl) (ug c (jv rfl (jK b.has Mh rfl bT)) (ug c (qh rfl rfl rfl) (ug a (jM (cB c) rfl) ?_)))))
  obtain rfl := sj i
  exact u _ _ ⟨_, (b.ju (Db (Db St))), rfl, rfl, rfl⟩
 refine un c (un c (un c (un c (un c (ug a (jO (cB c) rfl) ?_)))))
 obtain rfl := sj i
 exact u _ _ ⟨_, (b.ju (Db (Db St))), rfl, rfl, rfl⟩
theorem HP (I : Value) (Q r : List jJ) (w : World) (Y : Sl (Pl kq) 3 (hp w) I Q) (hm : za Q = some r) :
  kY true pg0 248 [I] w 285 kq 3 r := by
 refine sP 56 func248 rfl (fun d => sg (Wa (lr (Wa (lS (Wm ?_))))))
 refine V (kJ cR rfl Y) (Wm (ln (ku (fun i E W => ∃ y N x a9, (E 9 = .int .i64 (i : Nat) ∧ E 8 = .int .i64 (Q.length : Nat)) ∧ ST true kp w W (hp w) (x ++ a9) ∧ E 0 = I ∧ E 3 = y ∧ jX 285 kq 3 y N x ∧ oB Q (Q.drop i) N = some r) Q.length Y.len ⟨(.slice none 0 0), ([]), [], _, ⟨rfl, rfl⟩, (d.ju St), rfl, rfl, (jX.nil _ _ _), hm⟩ dc dc dc (fun _ _ _ h => by obtain ⟨_, _, _, _, n, _⟩ := h; exact n) ?_ ?_)))
 ·rintro a7 E W i6 ⟨y, N, x, a9, ⟨m, s⟩, d, b1, b2, z, D⟩
  obtain ⟨l2, l1, i7, k2, e4⟩ := kc i6
  rw [i7] at D
  refine bg (Wa (lS (Wh b1 (V (kJ cR rfl Y) (Wm (ln (CJ D (fun c5 E W => ∃ c9, ST true kp w W (hp w) (x ++ c9) ∧ E 0 = I ∧ E 3 = y ∧ E 4 = (.int .i64 c5) ∧ E 8 = (.int .i64 (Q.length : Int)) ∧ E 9 = (.int .i64 (a7 : Int))) (fun c5 f5 => ?_) ?_)))))))
  ·let g5 : Value := (.int .i64 (a7 : Int))
   let a0 : Value := (.int .i64 (Q.length : Int))
   refine ku (fun i E W => ∃ B P, (E 13 = .int .i64 (i : Nat) ∧ E 12 = .int .i64 (Q.length : Nat)) ∧ ST true kp w W (hp w) (x ++ P) ∧ E 0 = I ∧ E 3 = y ∧ E 4 = (.int .i64 B) ∧ E 8 = a0 ∧ E 9 = g5 ∧ E 11 = I ∧ oD N Q (Q.drop i) i B = some c5) Q.length Y.len ⟨(-1), _, ⟨rfl, rfl⟩, (d.ju St), b1, b2, rfl, s, m, rfl, f5⟩ dc dc dc (fun _ _ _ h => by obtain ⟨_, _, n, _⟩ := h; exact n) ?_ ?_
   ·rintro H E W f4 ⟨B, P, ⟨m, s⟩, d, A, J, a2, a3, a4, a5, G⟩
    let b8 : Value := (.int .i64 (H : Int))
    obtain ⟨j, j5, g7, g4, c7⟩ := kc f4
    rw [g7] at G
    refine bg (Wh m (VQ (mQ (enc := kq) (i := (H : Int)) (x0 := j) cR dB a5 m Y (aG _) g4) (fun k4 f9 => V (jv rfl (jQ d.has f9 gv dB)) (VE (kh d eH (fun j8 Z d => Wa (VO (jL (.agg (kq j).toArray) ((kq j).toArray) d rfl rfl dB (yR j) nb rfl (fun j9 d => ln (jI ?_))))))))))
    replace d := d.drew
    have b := d.has.ju (Kb (Kr Sn))
    refine ky b kd (X 0 rfl b (jC J) (X 1 rfl b (ns cR rfl z) (X 2 rfl b (kv rfl rfl rfl) (X 3 rfl b (jC rfl) (PJ G (fun e7 E W => ∃ d0, ST true kp w W (hp w) ((Z, Ol (kq j) 285) :: (x ++ d0)) ∧ E 0 = I ∧ E 3 = y ∧ E 4 = (.int .i64 B) ∧ E 5 = b8 ∧ E 6 = (.pointer (some ⟨Z, 0, none⟩)) ∧ E 8 = a0 ∧ E 9 = g5 ∧ E 11 = I ∧ E 12 = a0 ∧ E 13 = b8 ∧ E 30 = (.bool e7)) (bm 25 8191) 12 ?_ (fun e7 u c4 => ?_))))))
    ·rintro j3 E W ⟨d0, d, L, b4, T, b5, h0, b6, b7, b9, c0, c1, h1⟩ f6
     have b := d.has.ju (Kb (Kr Sn))
     refine X 13 rfl b (jC h1) (PJ f6 (fun e5 E W => ∃ d1, ST true kp w W (hp w) ((Z, Ol (kq j) 285) :: (x ++ d1)) ∧ E 0 = I ∧ E 3 = y ∧ E 4 = (.int .i64 B) ∧ E 5 = b8 ∧ E 8 = a0 ∧ E 9 = g5 ∧ E 11 = I ∧ E 12 = a0 ∧ E 13 = b8 ∧ E 42 = (.bool e5)) (bm 25 33554431) 0 ?_ (fun e5 M c2 => ?_))
     ·rintro k9 E W ⟨d1, d, d7, d8, h2, h3, d9, e0, e1, e2, e3, h4⟩ K
      refine kM kr (jE ?_)
      replace d := d.ju (Db St)
      refine CI K h4 (fun f3 K => ?_) (fun f3 K => ?_)
      ·exact jG (Wh h3 (Wa (jU (ke (jE ⟨e3, (H : Int), _, ⟨rfl, e2⟩, (d.ju St), d7, d8, rfl, d9, e0, e1, (by rw [c7]; exact K)⟩)))))
      exact kG (ke (jE ⟨e3, B, _, ⟨rfl, e2⟩, (d.ju St), d7, d8, h2, d9, e0, e1, (by rw [c7]; exact K)⟩))
     refine bC M (fun g M => ?_) (fun g M => ?_)
     ·refine Xg 14 rfl rfl (cB g) b (jC T) (Xg 15 rfl rfl (cB g) b (kv rfl rfl rfl) (Xg 16 rfl rfl (cB g) b (jC rfl) (PJ M (fun e6 E W => ∃ d2, ST true kp w W (hp w) ((Z, Ol (kq j) 285) :: (x ++ d2)) ∧ E 0 = I ∧ E 3 = y ∧ E 4 = (.int .i64 B) ∧ E 5 = b8 ∧ E 8 = a0 ∧ E 9 = g5 ∧ E 11 = I ∧ E 12 = a0 ∧ E 13 = b8 ∧ E 31 = (.bool j3) ∧ E 41 = (.bool e6)) (bm 25 16777215) 1 ?_ (fun e6 t c3 => ?_))))
      ·rintro l0 E W ⟨d2, d, h5, h6, h7, h8, h9, i0, i1, i2, i3, i4, i5⟩ f7
       have b := d.has.ju (Kb (Kr Sn))
       refine X 24 rfl b (jM (i4.trans (cB g)) i5) ?_
       obtain rfl := sj f7
       refine mX kr (c2 _ _ ⟨_, (d.ju St), h5, h6, h7, h8, h9, i0, i1, i2, i3, rfl⟩)
      refine bC t (fun c t => ?_) (fun c t => ?_)
      ·refine Xn 17 rfl rfl (cB c) b (Xn 18 rfl rfl (cB c) b (Xn 19 rfl rfl (cB c) b (Xn 20 rfl rfl (cB c) b (Xn 21 rfl rfl (cB c) b (Xn 22 rfl rfl (cB c) b (Xg 23 rfl rfl (cB g) b (jM (cB c) rfl) ?_))))))
       obtain rfl := sj t
       refine mX kr (c3 _ _ ⟨_, (d.ju St), L, b4, T, b5, b6, b7, b9, c0, c1, rfl, rfl⟩)
      refine su 17 rfl rfl (cB c) b (fun _ q => jv h0 (jy q Mh (kq j) rfl gv dB)) (Xg 18 rfl rfl (cB c) b (jC L) (Xg 19 rfl rfl (cB c) b (jC T) (bS t fun e8 c8 t => sd 20 rfl kr (.inr ⟨16, false, 34, rfl, rfl, by decide, (cB c)⟩) rfl dc (fun _ _ h => h) b (mQ (enc := kq) (i := B) (x0 := e8) cR dB rfl rfl Y (kl c8) (ki c8)) (fun k5 g0 => su 21 rfl rfl (cB c) b (fun _ q => jv rfl (jQ q g0 gv dB)) (bS t fun k7 g2 t => Ac 22 rfl rfl (cB c) (Eg d call304 (Eb j e8 _ _  g2) (fun k0 d => ?_)))))))
      have b := d.has.ju (Kb (Kr Sn))
      refine ⟨b, (Xg 23 rfl rfl (cB g) b (jO (cB c) rfl) ?_)⟩
      obtain rfl := sj t
      refine mX kr (c3 _ _ ⟨_, (d.ju St), L, b4, T, b5, b6, b7, b9, c0, c1, rfl, rfl⟩)
     refine Xn 14 rfl rfl (cB g) b (Xn 15 rfl rfl (cB g) b (Xn 16 rfl rfl (cB g) b (Xu 17 rfl rfl rfl b (Xu 18 rfl rfl rfl b (Xu 19 rfl rfl rfl b (Xu 20 rfl rfl rfl b (Xu 21 rfl rfl rfl b (Xu 22 rfl rfl rfl b (Xn 23 rfl rfl (cB g) b (X 24 rfl b (jO (cB g) rfl) ?_))))))))))
     obtain rfl := sj M
     refine mX kr (c2 _ _ ⟨_, (d.ju St), L, b4, T, b5, b6, b7, b9, c0, c1, rfl⟩)
    refine bC u (fun a u => ?_) (fun a u => ?_)
    ·refine Xn 4 rfl rfl (cB a) b (Xn 5 rfl rfl (cB a) b (Xn 6 rfl rfl (cB a) b (Xn 7 rfl rfl (cB a) b (Xn 8 rfl rfl (cB a) b (Xn 9 rfl rfl (cB a) b (Xn 10 rfl rfl (cB a) b (Xn 11 rfl rfl (cB a) b (X 12 rfl b (jM (cB a) rfl) ?_))))))))
     obtain rfl := sj u
     refine mX kr (c4 _ _ ⟨_, (d.ju St), A, J, a2, rfl, rfl, a3, a4, a5, s, m, rfl⟩)
    refine Xg 4 rfl rfl (cB a) b (jC J) (Xg 5 rfl rfl (cB a) b (jC J) (Xg 6 rfl rfl (cB a) b (ns cR rfl z) (Xg 7 rfl rfl (cB a) b (kv rfl rfl rfl) (bS u fun e9 O u => sd 8 rfl kr (.inr ⟨3, false, 21, rfl, rfl, by decide, (cB a)⟩) rfl dc (fun _ _ h => h) b (nv (i := (wi0 .i64 ((N.length : Int) - 1))) (x0 := e9) cR dB rfl rfl z (kl O) (ki O)) (fun k6 g1 => su 9 rfl rfl (cB a) b (fun _ q => jv rfl (tj q (fun p hq => (Mt (Ml hq))) z pv g1 (ki O) gv dB)) (su 10 rfl rfl (cB a) b (fun _ q => jv rfl (jy q Mh (kq j) rfl gv dB)) (bS u fun k8 g3 u => Ac 11 rfl rfl (cB a) (Eg d call304 (Eb e9 j _ _  g3) (fun k1 d => ?_)))))))))
    have b := d.has.ju (Kb (Kr Sn))
    refine ⟨b, (X 12 rfl b (jO (cB a) rfl) ?_)⟩
    obtain rfl := sj u
    refine mX kr (c4 _ _ ⟨_, (d.ju St), A, J, a2, rfl, rfl, a3, a4, a5, s, m, rfl⟩)
   rintro E W ⟨B, P, ⟨m, s⟩, d, A, J, a2, a3, a4, a5, G⟩
   rw [aH] at G
   refine jE ?_
   obtain rfl := sj G
   exact ⟨_, (d.ju St), A, J, a2, a3, a4⟩
  rintro j0 E W ⟨c9, d, b3, d3, d4, d5, d6⟩ k
  refine sg (Wh d4 (Wi rfl (ln (CI k rfl (fun f1 k => ?_) (fun f1 k => ?_)))))
  ·refine jG (Wh d3 (Wh b3 (Wh d4 (bS k fun U c6 k => VQ (mQ (enc := kq) (i := j0) (x0 := U) cR dB rfl rfl Y (kl c6) (ki c6)) (fun k3 f8 => V (jv rfl (jQ d.has f8 gv dB)) (VE (jW (cs := (kq U).toArray) d (kX rfl) (lM cR dB eH) (fun j6 g9 d => ?_))))))))
   replace d := d.perm (Nr (Qb Qz) Nz)
   refine bS k fun i8 f2 k => VE (mz (enc := kq) (v := y) (vs := (.slice (some ⟨g9, 0, none⟩) 1 1)) (R := x) d pv dc yR cR tG.1 tG.2.1 rfl tG.2.2.1 tG.2.2.2 rfl rfl z (Sl.lit (enc := kq) (l := [U]) pv rfl nb rfl (d.at_ (Ma Mh))) f2 (fun j7 i9 g8 d f0 => Wa (jU (ke (jE ?_)))))
   replace d := d.ju (Kr (Db St))
   exact ⟨d6, i9, i8, g8, _, ⟨rfl, d5⟩, (d.ju St), b3, rfl, f0, (by rw [e4]; exact k)⟩
  exact kG (ke (jE ⟨d6, y, N, x, _, ⟨rfl, d5⟩, (d.ju St), b3, d3, z, (by rw [e4]; exact k)⟩))
 rintro E W ⟨y, N, x, a9, ⟨m, s⟩, d, b1, b2, z, D⟩
 rw [aH] at D
 refine jE (sg (Wh b2 (Wa (lt ?_))))
 obtain rfl := sj D
 exact kO (v := y) rfl rfl ⟨_, x, rfl, d.mC (fun p hq => (Ml hq)) z.nd, z⟩
theorem Ha (f8 : Value) (a0 : List jr) (r : List jJ) (w : World) (k8 : Sl (Pl jw) 9 (hp w) f8 a0) (hm : uW a0 = some r) :
  kY true pg0 183 [f8] w 285 kq 3 r := by
 refine sP 53 func183 rfl (fun d => sg (Wa (lr (Wm (bS hm fun P m0 hm => VE (oW d call84 (Ff f8 a0 _ _ (k8.mono (Pl.mono _) d.jB) m0) (fun W3 v7 ae R8 d n0 ad f3 => Wa (ln (jI ?_)))))))))
 refine jG (Wm (bS hm fun s l0 hm => VE (oW d call245 (Iy v7 P _ _ (f3.sl kC (fun b o n => d.at_ (Ml n))) l0) (fun n2 q d7 d1 d m9 ab c8 => Wa (lr (Wa (ln (rb (lA (nc (fun m E W => ∃ c0 b9 b7 d8, ST true kp w W d7 (b7 ++ (d1 ++ (R8 ++ d8))) ∧ E 3 = v7 ∧ E 4 = q ∧ E 5 = c0 ∧ jX 285 kq 3 c0 b9 b7 ∧ tJ s P m b9 = some r) jY ⟨(.slice none 0 0), ([]), [], _, (d.ju St), rfl, rfl, rfl, (jX.nil _ _ _), hm⟩ ?_))))))))))
 rintro m E W ⟨c0, b9, b7, d8, d, e2, i3, i4, k0, Y⟩
 cases m with
 | zero => rw [tJ] at Y; cases Y
 | succ k3 =>
  refine bg (Wa (lS (Wh e2 (V (ns aR rfl f3) (Wm (ln (CJ Y (fun b1 E W => ∃ T Z d9, ST true kp w W d7 (Z ++ (d1 ++ (R8 ++ d9))) ∧ E 3 = v7 ∧ E 4 = q ∧ E 5 = T ∧ E 6 = (.bool b1.2) ∧ jX 285 kq 3 T b1.1 Z) (fun b1 g8 => ?_) ?_)))))))
  ·refine ku (fun i E W => ∃ J Q H U c1, (E 17 = .int .i64 (i : Nat) ∧ E 16 = .int .i64 (P.length : Nat)) ∧ ST true kp w W d7 (H ++ (d1 ++ (R8 ++ c1))) ∧ E 3 = v7 ∧ E 4 = q ∧ E 5 = J ∧ E 6 = (.bool U) ∧ E 15 = v7 ∧ jX 285 kq 3 J Q H ∧ vv s (P.drop i) Q U = some b1) P.length f3.len ⟨c0, b9, b7, false, _, ⟨rfl, rfl⟩, (d.ju St), e2, i3, i4, rfl, rfl, k0, g8⟩ dc dc dc (fun _ _ _ h => by obtain ⟨_, _, _, _, _, L, _⟩ := h; exact L) ?_ ?_
   ·rintro b0 E W g4 ⟨J, Q, H, U, c1, ⟨A, O⟩, d, c3, a3, c4, c5, c6, b5, u⟩
    obtain ⟨a, l1, h7, d4, h8⟩ := kc g4
    rw [h7] at u
    refine bg (VQ (nv (i := (b0 : Int)) (x0 := a) aR aM c6 A f3 (aG _) d4) (fun m1 h1 => V (jv rfl (tj d.has (fun p n => (Ma (Ma (Ml n)))) f3 kC h1 d4 bU aM)) (VE (kh d cT (fun l4 a2 d => VO (jL (.agg (jw a).toArray) ((jw a).toArray) d rfl rfl aM (nw a) nb rfl (fun l5 d => lr (Wh a3 (V (ns dw rfl c8) (Wm (jU ?_)))))))))))
    let b8 : Value := (.int .i64 (P.length : Int))
    refine jE (rb (CJ u (fun b2 E W => ∃ b3 a1 e0, ST true kp w W d7 (a1 ++ (d1 ++ (R8 ++ e0))) ∧ E 3 = v7 ∧ E 4 = q ∧ E 5 = b3 ∧ E 6 = (.bool b2.2) ∧ E 15 = v7 ∧ E 16 = b8 ∧ E 17 = (.int .i64 (b0 : Int)) ∧ jX 285 kq 3 b3 b2.1 a1) (fun b2 h0 => ?_) ?_))
    ·refine ku (fun i E W => ∃ k G B K c2, (E 23 = .int .i64 (i : Nat) ∧ E 22 = .int .i64 (s.length : Nat)) ∧ ST true kp w W d7 ((a2, Ol (jw a) 52) :: (B ++ (d1 ++ (R8 ++ c2)))) ∧ E 3 = v7 ∧ E 4 = q ∧ E 5 = k ∧ E 6 = (.bool K) ∧ E 8 = (.pointer (some ⟨a2, 0, none⟩)) ∧ E 15 = v7 ∧ E 16 = b8 ∧ E 17 = (.int .i64 (b0 : Int)) ∧ E 21 = q ∧ jX 285 kq 3 k G B ∧ tM a s (s.drop i) G K = some b2) s.length c8.len ⟨J, Q, H, U, _, ⟨rfl, rfl⟩, (d.ju St), c3, a3, c4, c5, rfl, c6, O, A, rfl, b5, h0⟩ dc dc dc (fun _ _ _ h => by obtain ⟨_, _, _, _, _, L, _⟩ := h; exact L) ?_ ?_
     ·rintro f4 E W g7 ⟨k, G, B, K, c2, ⟨A, O⟩, d, a4, M, I, a5, N, a6, a7, a8, a9, D, j⟩
      obtain ⟨g, l2, h9, d5, d6⟩ := kc g7
      rw [h9] at j
      refine bg (VQ (nv (i := (f4 : Int)) (x0 := g) dw fb a9 A c8 (aG _) d5) (fun m2 h2 => V (jv rfl (CN d.has (fun p n => (Mt (Ma (Ml n)))) c8 (fun _ => rfl) h2 d5 (y := (.string g)) rfl bT)) (Wa (lr (Wh I (V (jz qT N) (VA d Mh (jA a.Head) bF aS (Wm (bS j fun m4 h4 j => ?_)))))))))
      refine VE (Eg d call246 (wx k G a.Head g _ _ (D.sl pv (fun b o n => d.at_ (Mt (Ml n)))) h4) (fun l6 d => V (nj rfl) (Wm (LJ j (fun f7 E W => ∃ e1, ST true kp w W d7 ((a2, Ol (jw a) 52) :: (B ++ (d1 ++ (R8 ++ e1)))) ∧ E 3 = v7 ∧ E 4 = q ∧ E 5 = k ∧ E 6 = (.bool K) ∧ E 8 = (.pointer (some ⟨a2, 0, none⟩)) ∧ E 10 = (.string g) ∧ E 15 = v7 ∧ E 16 = b8 ∧ E 17 = (.int .i64 (b0 : Int)) ∧ E 21 = q ∧ E 22 = (.int .i64 (s.length : Int)) ∧ E 23 = (.int .i64 (f4 : Int)) ∧ E 39 = (.bool f7)) 6 ?_ (fun f7 z c9 => ?_)))))
      ·rintro m7 E W ⟨e1, d, e4, e5, e6, j7, c7, j8, e7, e8, e9, f0, f1, f2, j9⟩ x
       refine ln (CI x j9 (fun g2 x => ?_) (fun g2 x => ?_))
       ·refine sg (Wh e6 (V (jz qT c7) (VA d Mh (jA a.Head) bF aS (Wh j8 (V (lC (v := (.agg (kq (⟨a.Head, g⟩ : jJ)).toArray)) (uJ rfl rfl) (kI eH eJ (LB _ eJ) kr)) (VE (jW (cs := (kq (⟨a.Head, g⟩ : jJ)).toArray) d (kX rfl) (lM cR dB eH) (fun l7 i2 d => ?_))))))))
        replace d := d.perm (Nr (Qb (Qb Qz)) Nz)
        refine bS x fun k2 g3 x => VE (mz (enc := kq) (v := k) (vs := (.slice (some ⟨i2, 0, none⟩) 1 1)) (R := B) d pv dc yR cR tG.1 tG.2.1 rfl tG.2.2.1 tG.2.2.2 rfl rfl D (Sl.lit (enc := kq) (l := [(⟨a.Head, g⟩ : jJ)]) pv rfl nb rfl (d.at_ (Ma Mh))) g3 (fun l8 k5 i1 d g0 => Wa (ln ?_)))
        replace d := d.ju (Kr (Db St))
        exact jG (Wa (jU (ke (jE ⟨f2, k5, k2, i1, true, _, ⟨rfl, f1⟩, (d.ju (Sb (Pr Pz) St)), e4, e5, rfl, rfl, c7, e7, e8, e9, f0, g0, (by rw [d6]; exact x)⟩))))
       exact kG (ke (jE ⟨f2, k, G, B, K, _, ⟨rfl, f1⟩, (d.ju St), e4, e5, e6, j7, c7, e7, e8, e9, f0, D, (by rw [d6]; exact x)⟩))
      refine bC z (fun c z => ?_) (fun c z => ?_)
      ·refine ug c (jC I) (ug c (jv N (jy d.has Mh (jw a) rfl bU aM)) (ug c (jC M) (ug c (jC rfl) (bS z fun m5 h5 z => rB c (Eg d call247 (JR k G a q s g _ _ (D.sl pv (fun b o n => d.at_ (Mt (Ml n)))) (c8.sl (fun _ => rfl) (fun b o n => d.at_ (Mt (Ma (Ml n))))) h5) (fun l9 d => V (jM (cB c) rfl) ?_))))))
       obtain rfl := sj z
       exact c9 _ _ ⟨_, (d.ju St), a4, M, I, a5, N, rfl, a6, a7, a8, a9, O, A, rfl⟩
      refine un c (un c (un c (un c (un c (V (jO (cB c) rfl) ?_)))))
      obtain rfl := sj z
      exact c9 _ _ ⟨_, (d.ju St), a4, M, I, a5, N, rfl, a6, a7, a8, a9, O, A, rfl⟩
     rintro E W ⟨k, G, B, K, c2, ⟨A, O⟩, d, a4, M, I, a5, N, a6, a7, a8, a9, D, j⟩
     rw [aH] at j
     refine jE ?_
     obtain rfl := sj j
     exact ⟨k, B, _, (d.ju (Db St)), a4, M, I, a5, a6, a7, a8, D⟩
    rintro ⟨k1, k6⟩ E W ⟨b3, a1, e0, d, i8, i9, j0, j3, j4, j5, j6, h6⟩ g9
    exact ke (jE ⟨j6, b3, k1, a1, k6, _, ⟨rfl, j5⟩, (d.ju St), i8, i9, j0, j3, j4, h6, (by rw [h8]; exact g9)⟩)
   rintro E W ⟨J, Q, H, U, c1, ⟨A, O⟩, d, c3, a3, c4, c5, c6, b5, u⟩
   rw [aH] at u
   refine jE ?_
   obtain rfl := sj u
   exact ⟨J, H, _, (d.ju St), c3, a3, c4, c5, b5⟩
  rintro ⟨f5, m6⟩ E W ⟨T, Z, d9, d, i5, i6, e3, i7, d3⟩ t
  refine sg (Wh i7 (V (nj rfl) (ln (CI t rfl (fun g1 t => ?_) (fun g1 t => ?_)))))
  ·refine sg (Wh e3 (bS t fun m3 h3 t => VE (oW d call248 (HP T f5 _ _ (d3.sl pv (fun b o n => d.at_ (Ml n))) h3) (fun l3 k4 m8 i0 d k9 aa d2 => Wa (ln ?_)))))
   replace d := d.ju (Kr (Dr (Dr (Dr St))))
   refine jZ (mn (km (mn (km ?_))))
   obtain rfl := sj t
   exact kO (v := k4) rfl rfl ⟨_, i0, rfl, d.mC (fun p n => (Ml n)) d2.nd, d2⟩
  exact kG (ke (jE ⟨k3, bI _, T, f5, Z, _, (d.ju St), i5, i6, e3, d3, t⟩))
theorem DB (D : Value) (G : List jJ) (I : ByteArray) (r : List jq) (w : World) (B : Sl (Pl kq) 3 (hp w) D G) (hm : sc G I = some r) :
  kY true pg0 182 [D, (.string I)] w 27 jA 2 r := by
 refine sP 25 func182 rfl (fun b => sg (Wa (lr (Wa (lS (Wm ?_))))))
 refine V (kJ cR rfl B) (Wm (ln (ku (fun i E W => ∃ k y g z, (E 10 = .int .i64 (i : Nat) ∧ E 9 = .int .i64 (G.length : Nat)) ∧ ST true kp w W (hp w) (g ++ z) ∧ E 1 = (.string I) ∧ E 5 = k ∧ E 8 = D ∧ jX 27 jA 2 k y g ∧ pQ I (G.drop i) y = some r) G.length B.len ⟨(.slice none 0 0), ([]), [], _, ⟨rfl, rfl⟩, (b.ju St), rfl, rfl, rfl, (jX.nil _ _ _), hm⟩ dc dc dc (fun _ _ _ h => by obtain ⟨_, _, _, _, m, _⟩ := h; exact m) ?_ ?_)))
 ·rintro a4 E W U ⟨k, y, g, z, ⟨d, n⟩, b, t, u, x, j, a⟩
  obtain ⟨c, P, Z, Y, H⟩ := kc U
  rw [Z] at a
  refine bg (VQ (mQ (enc := kq) (i := (a4 : Int)) (x0 := c) cR dB x d B (aG _) Y) (fun O N => V (jv rfl (jQ b.has N gv dB)) (VE (kh b eH (fun a5 a9 b => VO (jL (.agg (kq c).toArray) ((kq c).toArray) b rfl rfl dB (yR c) nb rfl (fun s b => lr (Wf vy (VB b Mh rfl rfl bT (Wh t (V (qh rfl rfl rfl) ?_)))))))))))
  refine ln (CI a rfl (fun K a => ?_) (fun K a => ?_))
  ·refine jG (Wh u (Wf wN (VA b Mh (jA c.jq) bF aS (VE (jW (cs := (jA c.jq).toArray) b (kX rfl) (lM er aS eA) (fun A T b => ?_))))))
   replace b := b.perm (Nr (Qb (Qb Qz)) Nz)
   refine bS a fun a2 M a => VE (mz (enc := jA) (v := k) (vs := (.slice (some ⟨T, 0, none⟩) 1 1)) (R := g) b wJ dc vB er vp.1 vp.2.1 rfl vp.2.2.1 vp.2.2.2 rfl rfl j (Sl.lit (enc := jA) (l := [c.jq]) wJ rfl nb rfl (b.at_ (Ma Mh))) M (fun L a3 Q b J => Wa (jU (ke (jE ?_)))))
   replace b := b.ju (Kr (Db (Db St)))
   exact ⟨d, a3, a2, Q, _, ⟨rfl, n⟩, (b.ju St), t, rfl, x, J, (by rw [H]; exact a)⟩
  refine kG (ke (jE ?_))
  replace b := b.ju (Db St)
  exact ⟨d, k, y, g, _, ⟨rfl, n⟩, (b.ju St), t, u, x, j, (by rw [H]; exact a)⟩
 rintro E W ⟨k, y, g, z, ⟨d, n⟩, b, t, u, x, j, a⟩
 rw [aH] at a
 refine jE (sg (Wh u (Wa (lt ?_))))
 obtain rfl := sj a
 exact kO (v := k) rfl rfl ⟨_, g, rfl, b.mC (fun p q => (Ml q)) j.nd, j⟩
theorem Em (G : Formula → Option Int) (K : ∀ (j : Formula) (g : Value) (r : Int) (w : World) (c : Sl jt 5 (hp w) g j.Kids), G j = some r → jT false pg0 138 [(.agg #[(.int .i64 j.Op), (.int .i64 j.K), (.string j.jq.js), (.string j.jq.Word), g])] w (.int .i64 r)) (j : Formula) (g : Value) (r : Int) (w : World) (c : Sl jt 5 (hp w) g j.Kids) (hm : wi G j = some r) :
  jT false pg0 138 [(.agg #[(.int .i64 j.Op), (.int .i64 j.K), (.string j.jq.js), (.string j.jq.Word), g])] w (.int .i64 r) := by
 refine cG 19 func138 rfl (fun b => sg ?_)
 obtain ⟨U, Y, rfl⟩ := c.form
 refine VE (kj b rfl (fun W4 s b => Wa (lr (Wa (lS (Wf ng (VB b Mh rfl rfl dI (V (kJ aD rfl c) ?_))))))))
 refine Wm (ln ?_)
 replace b := b.ju (Db St)
 refine ku (fun i E W => ∃ x z, (E 9 = .int .i64 (i : Nat) ∧ E 8 = .int .i64 (j.Kids.length : Nat)) ∧ ST false kp w W (hp w) z ∧ E 3 = (.int .i64 x) ∧ E 7 = (.slice U j.Kids.length Y) ∧ rk G (j.Kids.drop i) x = some r) j.Kids.length c.len ⟨1, _, ⟨rfl, rfl⟩, (b.ju St), rfl, rfl, hm⟩ dc dc dc (fun _ _ _ h => by obtain ⟨_, _, l, _⟩ := h; exact l) ?_ ?_
 ·rintro Z E W J ⟨x, z, ⟨d, m⟩, b, B, D, k⟩
  obtain ⟨a, q, N, M, Q⟩ := kc J
  rw [N] at k
  refine bg (VQ (lF (i := (Z : Int)) (x0 := a) jt.out aD aC D d c (aG _) M) (fun a5 ⟨_, ⟨p, rfl, y⟩, H⟩ => V (jv rfl (jQ b.has H aK aC)) (VE (kh b aP (fun n a4 b => ?_)))))
  obtain ⟨t, u, rfl⟩ := y.form
  let a0 := (C1 a.Op a.K a.jq.js a.jq.Word t a.Kids.length u)
  refine VO (jL (.agg a0.toArray) (a0.toArray) b rfl rfl aC oc nb rfl (fun a2 b => ln (jG (Wh B (VA b Mh a0 aK aC (bS k fun T I k => VE (Eg b call138 (K a (.slice t a.Kids.length u) _ _ (y.mono jD.mono b.jB) I) (fun a3 b => Wi rfl (Wa (jU (ke (jE ?_))))))))))))
  replace b := b.ju (Db St)
  exact ⟨d, (wi0 .i64 (x + T)), _, ⟨rfl, m⟩, (b.ju St), rfl, D, (by rw [Q]; exact k)⟩
 rintro E W ⟨x, z, ⟨d, m⟩, b, B, D, k⟩
 rw [aH] at k
 exact jE (sg (Wh B (Wa (lt (rQ k b)))))
theorem DA : ∀ (n : Nat) (c : Formula) (a : Value) (r : Int) (w : World) (g : Sl jt 5 (hp w) a c.Kids) (_ : qK n c = some r),
  jT false pg0 138 [(.agg #[(.int .i64 c.Op), (.int .i64 c.K), (.string c.jq.js), (.string c.jq.Word), a])] w (.int .i64 r)
 | 0 => by intros; rename_i h; simp only [qK] at h; cases h
 | n + 1 => Em (qK n) (DA n)
theorem E9 (I : Formula → Option Int) (N : ∀ (j : Formula) (g : Value) (r : Int) (w : World) (c : Sl jt 5 (hp w) g j.Kids), I j = some r → jT false pg0 139 [(.agg #[(.int .i64 j.Op), (.int .i64 j.K), (.string j.jq.js), (.string j.jq.Word), g])] w (.int .i64 r)) (j : Formula) (g : Value) (r : Int) (w : World) (c : Sl jt 5 (hp w) g j.Kids) (hm : xa I j = some r) :
  jT false pg0 139 [(.agg #[(.int .i64 j.Op), (.int .i64 j.K), (.string j.jq.js), (.string j.jq.Word), g])] w (.int .i64 r) := by
 refine cG 20 func139 rfl (fun b => sg ?_)
 obtain ⟨Y, Z, rfl⟩ := c.form
 refine VE (kj b rfl (fun W4 v b => Wa (lr (Wa (lS (Wf ng (VB b Mh rfl rfl dI (V (kJ aD rfl c) ?_))))))))
 refine Wm (ln ?_)
 replace b := b.ju (Db St)
 refine ku (fun i E W => ∃ u B, (E 9 = .int .i64 (i : Nat) ∧ E 8 = .int .i64 (j.Kids.length : Nat)) ∧ ST false kp w W (hp w) B ∧ E 3 = (.int .i64 u) ∧ E 7 = (.slice Y j.Kids.length Z) ∧ rT I (j.Kids.drop i) u = some r) j.Kids.length c.len ⟨0, _, ⟨rfl, rfl⟩, (b.ju St), rfl, rfl, hm⟩ dc dc dc (fun _ _ _ h => by obtain ⟨_, _, l, _⟩ := h; exact l) ?_ ?_
 ·rintro n E W M ⟨u, B, ⟨d, m⟩, b, D, G, t⟩
  obtain ⟨a, s, T, Q, U⟩ := kc M
  rw [T] at t
  refine bg (VQ (lF (i := (n : Int)) (x0 := a) jt.out aD aC G d c (aG _) Q) (fun p ⟨_, ⟨q, rfl, z⟩, J⟩ => V (jv rfl (jQ b.has J aK aC)) (VE (kh b aP (fun a2 a5 b => ?_)))))
  obtain ⟨x, y, rfl⟩ := z.form
  let a0 := (C1 a.Op a.K a.jq.js a.jq.Word x a.Kids.length y)
  refine VO (jL (.agg a0.toArray) (a0.toArray) b rfl rfl aC oc nb rfl (fun a3 b => ln (jG (Wh D (VA b Mh a0 aK aC (bS t fun H K t => VE (Eg b call139 (N a (.slice x a.Kids.length y) _ _ (z.mono jD.mono b.jB) K) (fun a4 b => V (NF (k := .i64) rfl rfl) (Wa (jU (ke (jE ?_))))))))))))
  replace b := b.ju (Db St)
  exact ⟨d, (if H > u then H else u), _, ⟨rfl, m⟩, (b.ju St), rfl, G, (by rw [U]; exact t)⟩
 rintro E W ⟨u, B, ⟨d, m⟩, b, D, G, t⟩
 rw [aH] at t
 exact jE (sg (Wh D (Wi rfl (Wa (lt (rQ t b))))))
theorem D8 : ∀ (n : Nat) (c : Formula) (a : Value) (r : Int) (w : World) (g : Sl jt 5 (hp w) a c.Kids) (_ : rJ n c = some r),
  jT false pg0 139 [(.agg #[(.int .i64 c.Op), (.int .i64 c.K), (.string c.jq.js), (.string c.jq.Word), a])] w (.int .i64 r)
 | 0 => by intros; rename_i h; simp only [rJ] at h; cases h
 | n + 1 => E9 (rJ n) (D8 n)
end Go.Proofs.YtjjjihkifgdhgaaGreatDoor
