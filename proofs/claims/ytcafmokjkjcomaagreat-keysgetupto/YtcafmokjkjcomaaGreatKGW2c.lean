/- a part of a proof of KeysGet -/
import Derived.Test.YtcafmokjkjcomaaGreatKGW1c
set_option linter.all false
namespace Go.Proofs.YtcafmokjkjcomaaGreat
open Go.RowKit
set_option maxRecDepth 10000
open Tryz
set_option maxHeartbeats 4000000 in
theorem uT (a : Nat) (T : fg) (r : (eX × fg)) (w : World) {μ0 : fz} (h0 : ju μ0 ((a, Ol (fx T) 63) :: []) w) (hm : mh T = some r) :
  gq true Tryz.prog 55 [(.pointer (some ⟨a, 0, none⟩))] w ((a, Ol (fx T) 63) :: []) (fun v L1 W' => v = (.agg (fa (r.1)).toArray) ∧ L1 = ((a, Ol (fx (r.2)) 63) :: [])) := by
 let j1 : Value := (.agg (fa K6).toArray)
 let f8 : Value := (.pointer (some ⟨a, 0, none⟩))
 let o := ((fa K6).toArray : Array Value)
 let a0 := ((a, Ol (fx T) 63) :: [])
 refine qV h0 74 func55 rfl (fun d => sg (VE (gH d br (fun W2 G d => lr (Wm (bS hm fun D k3 hm => ?_))))))
 let j2 := ((fx D.2).toArray : Array Value)
 let f9 : Value := (.pointer (some ⟨G, 0, none⟩))
 let b8 := (⟨D.1, K0, zS, K0, K0, zS⟩ : eX)
 let g1 := ((fa b8).toArray : Array Value)
 refine VE (eM d (Cb (Pb Pz) Cn) call86 (fun n _ => (nJ a T 9223372036854775807 _ _ n  k3)) ?_)
 rintro _ v9 p n7 d m5 ag h ⟨c5, rfl⟩
 obtain rfl := c5.symm
 replace d := d.perm (Tb Tn)
 refine V (gw (v := (.agg (fa b8).toArray)) (iU rfl) (fZ br bj (uo _ bj) kr)) (VE (gH d br (fun n9 g d => VO (fH (.agg (fa b8).toArray) ((fa b8).toArray) d rfl rfl aD (iA b8) nb rfl (fun o0 d => ln (fq (CJ hm (fun f2 E W => ∃ i1, ST true (keys a0) w W p ((g, Obj.cells g1 35 (0, 0)) :: ((a, Ol (fx f2) 63) :: ((G, Obj.cells o 35 (0, 0)) :: i1))) ∧ E 0 = f8 ∧ E 2 = f9 ∧ E 3 = (.pointer (some ⟨g, 0, none⟩))) (fun f2 h4 => ?_) ?_)))))))
 ·refine sg (Wm (Wn (Wf iD (VB d (Mt Mh) rfl rfl bP (Wi rfl (Wm (LJ h4 (fun f3 E W => ∃ d8, ST true (keys a0) w W p ((g, Obj.cells g1 35 (0, 0)) :: ((a, Obj.cells j2 63 (0, 0)) :: ((G, Obj.cells o 35 (0, 0)) :: d8))) ∧ E 0 = f8 ∧ E 2 = f9 ∧ E 3 = (.pointer (some ⟨g, 0, none⟩)) ∧ E 21 = (.bool f3)) 9 ?_ (fun f3 M b5 => ?_))))))))
  ·rintro n4 E W ⟨d8, d, O, e4, e5, i6⟩ K
   refine ln (CI K i6 (fun h1 K => ?_) (fun h1 K => ?_))
   ·refine fi (Wh O (Wn (Wf iD ?_)))
    replace d := d.perm (Nb (Pb Pz) Nz)
    refine VO (fH (.int .i64 11) ((fx (⟨D.2.S, 11⟩ : fg)).toArray) d rfl rfl dt (nh _ 11) nb rfl (fun m3 d => ln ?_))
    obtain rfl := sj K
    exact ⟨_, (d.fe (Sb (Pb Pz) St)), O, e4, e5⟩
   refine kn ?_
   obtain rfl := sj K
   exact ⟨_, (d.fe St), O, e4, e5⟩
  refine bC M (fun c M => ?_) (fun c M => ?_)
  ·refine ug c (fh iX rfl) (ug c (fj rfl (fG d.has Mh rfl bP)) (ug c (gl rfl rfl rfl) (ug c (fp rfl) (LJ M (fun f4 E W => ∃ d9, ST true (keys a0) w W p ((g, Obj.cells g1 35 (0, 0)) :: ((a, Obj.cells j2 63 (0, 0)) :: ((G, Obj.cells o 35 (0, 0)) :: d9))) ∧ E 0 = f8 ∧ E 2 = f9 ∧ E 3 = (.pointer (some ⟨g, 0, none⟩)) ∧ E 12 = (.bool (D.2.E == 0)) ∧ E 20 = (.bool f4)) 4 ?_ (fun f4 N b6 => ?_)))))
   ·rintro n5 E W ⟨d9, d, i7, i8, i9, j0, j3⟩ h5
    refine V (fF (j0.trans (cB c)) j3) ?_
    obtain rfl := sj h5
    exact b5 _ _ ⟨_, (d.fe St), i7, i8, i9, rfl⟩
   refine bC N (fun j N => ?_) (fun j N => ?_)
   ·refine un j (un j (un j (ug c (fF (cB j) rfl) ?_)))
    obtain rfl := sj N
    exact b6 _ _ ⟨_, (d.fe St), rfl, rfl, rfl, rfl, rfl⟩
   refine ug j (fh iX rfl) (ug j (fj rfl (fG d.has Mh rfl bP)) (ug j (gl rfl rfl rfl) (ug c (fE (cB j) rfl) ?_)))
   obtain rfl := sj N
   exact b6 _ _ ⟨_, (d.fe St), rfl, rfl, rfl, rfl, rfl⟩
  refine un c (un c (un c (un c (Vu rfl rfl (Vu rfl rfl (Vu rfl rfl (un c (V (fE (cB c) rfl) ?_))))))))
  obtain rfl := sj M
  exact b5 _ _ ⟨_, (d.fe St), rfl, rfl, rfl, rfl⟩
 rintro k4 E W ⟨i1, d, a3, d2, Y⟩ P
 refine sg (Wh a3 (bS P fun H j6 P => ?_))
 let j4 := (⟨D.1, H.1, zS, K0, K0, zS⟩ : eX)
 refine VE (eM d (Cb (Pb Pz) Cn) call87 (fun n _ => (oZ a k4 _ _ n  j6)) ?_)
 rintro _ o3 f7 n8 d k5 af h ⟨c6, rfl⟩
 obtain rfl := c6.symm
 replace d := d.perm (Tb Tn)
 refine V (fh mn Y) ?_
 replace d := d.perm (Nb (Pb Pz) Nz)
 let g0 : Value := (.pointer (some ⟨g, 0, none⟩))
 refine VO (fH (.agg (fC H.1).toArray) ((fa j4).toArray) d rfl rfl aJ (jD H.1) nb rfl (fun o2 d => ln (fq (CJ P (fun d0 E W => ∃ a2 d3, fA f7 a2 ∧ ST true (keys a0) w W a2 ((g, Ol (fa d0.1) 35) :: ((a, Ol (fx d0.2) 63) :: ((G, Obj.cells o 35 (0, 0)) :: d3))) ∧ E 0 = f8 ∧ E 2 = f9 ∧ E 3 = g0) (fun d0 x => ?_) ?_))))
 ·refine sg (V (fh iX Y) (VB d Mh rfl rfl bP (ln (bg (Wi rfl (Wa (ln (CI x rfl (fun g4 x => ?_) (fun g4 x => ?_)))))))))
  ·refine fi (Wh a3 (bS x fun R h7 x => ?_))
   refine VE (eM d (Cb (Pb Pz) Cn) call88 (fun n _ => (nx a H.2 _ _ n  h7)) ?_)
   rintro _ m7 j8 k7 d e6 aa h ⟨a6, rfl⟩
   obtain rfl := a6.symm
   replace d := d.perm (Tb Tn)
   refine V (fh nj Y) ?_
   replace d := d.perm (Nb (Pb Pz) Nz)
   refine VO (fH (.string R.1) ((fa (⟨D.1, H.1, R.1, K0, K0, zS⟩ : eX)).toArray) d rfl rfl dr (rr R.1) nb rfl (fun l6 d => fL (gL (fB ?_))))
   obtain rfl := sj x
   exact ⟨j8, _, e6, (d.fe St), a3, d2, Y⟩
  refine fq (CJ x (fun f1 E W => ∃ d6, ST true (keys a0) w W f7 ((g, Ol (fa j4) 35) :: ((a, Ol (fx H.2) 63) :: ((G, Obj.cells o 35 (0, 0)) :: d6))) ∧ E 0 = f8 ∧ E 2 = f9 ∧ E 3 = g0 ∧ E 35 = (.bool f1)) (fun f1 k => ?_) ?_)
  ·refine sg (Wi rfl (Wa (ln (CI k rfl (fun g8 k => ?_) (fun g8 k => ?_)))))
   ·refine kn ?_
    obtain rfl := sj k
    exact ⟨_, (d.fe St), a3, d2, Y, rfl⟩
   refine sg (Wi rfl (Wa (ln (CI k rfl (fun g9 k => ?_) (fun g9 k => ?_)))))
   ·refine kn ?_
    obtain rfl := sj k
    exact ⟨_, (d.fe St), a3, d2, Y, rfl⟩
   refine fi (Wi rfl (Wa (ln ?_)))
   obtain rfl := sj k
   exact ⟨_, (d.fe St), a3, d2, Y, rfl⟩
  rintro n3 E W ⟨d6, d, U, c1, Q, i5⟩ y
  refine CI y i5 (fun g5 y => ?_) (fun g5 y => ?_)
  ·refine sg (Wh U (bS y fun Z h8 y => ?_))
   refine VE (eM d (Cb (Pb Pz) Cn) call87 (fun n _ => (oZ a H.2 _ _ n  h8)) ?_)
   rintro _ m8 f6 k8 d b2 ab h ⟨a7, rfl⟩
   obtain rfl := a7.symm
   replace d := d.perm (Tb Tn)
   refine V (fh im Q) ?_
   replace d := d.perm (Nb (Pb Pz) Nz)
   refine VO (fH (.agg (fC Z.1).toArray) ((fa (⟨D.1, H.1, zS, Z.1, K0, zS⟩ : eX)).toArray) d rfl rfl aJ (jD Z.1) nb rfl (fun l8 d => ln (fq (CJ y (fun d1 E W => ∃ s d7, fA f6 s ∧ ST true (keys a0) w W s ((g, Ol (fa d1.1) 35) :: ((a, Ol (fx d1.2) 63) :: ((G, Obj.cells o 35 (0, 0)) :: d7))) ∧ E 0 = f8 ∧ E 2 = f9 ∧ E 3 = g0) (fun d1 B => ?_) ?_))))
   ·refine sg (V (fh iX Q) (VB d Mh rfl rfl bP (Wi rfl (ln (CI B rfl (fun g7 B => ?_) (fun g7 B => ?_))))))
    ·refine fi (Wh U (bS B fun c9 i0 B => ?_))
     refine VE (eM d (Cb (Pb Pz) Cn) call88 (fun n _ => (nx a Z.2 _ _ n  i0)) ?_)
     rintro _ n0 k0 l0 d e8 ae h ⟨a9, rfl⟩
     obtain rfl := a9.symm
     replace d := d.perm (Tb Tn)
     refine V (fh mo Q) ?_
     replace d := d.perm (Nb (Pb Pz) Nz)
     refine VO (fH (.string c9.1) ((fa (⟨D.1, H.1, zS, Z.1, K0, c9.1⟩ : eX)).toArray) d rfl rfl dr (rr c9.1) nb rfl (fun m2 d => ln ?_))
     obtain rfl := sj B
     exact ⟨k0, _, e8, (d.fe St), U, c1, Q⟩
    refine kn ?_
    obtain rfl := sj B
    exact ⟨f6, _, (fA.refl _), (d.fe St), U, c1, Q⟩
   rintro ⟨q, j7⟩ E W ⟨s, d7, b3, d, c2, e3, a5⟩ z
   refine sg (V (fh iX a5) (VB d Mh rfl rfl bP (Wi rfl (ln (CI z rfl (fun g6 z => ?_) (fun g6 z => ?_))))))
   ·refine fi (Wh c2 (bS z fun c8 h9 z => ?_))
    refine VE (eM d (Cb (Pb Pz) Cn) call87 (fun n _ => (oZ a j7 _ _ n  h9)) ?_)
    rintro _ m9 j9 k9 d e7 ad h ⟨a8, rfl⟩
    obtain rfl := a8.symm
    replace d := d.perm (Tb Tn)
    refine V (fh kF a5) ?_
    replace d := d.perm (Nb (Pb Pz) Nz)
    refine VO (fH (.agg (fC c8.1).toArray) ((fa (⟨q.Kind, q.Head, q.fD, q.B, c8.1, q.fw⟩ : eX)).toArray) d rfl rfl aJ (jD c8.1) nb rfl (fun m0 d => fL (gL (fB ?_))))
    obtain rfl := sj z
    exact ⟨j9, _, ((b2.trans b3).trans e7), (d.fe St), c2, e3, a5⟩
   refine gA (gL (fB ?_))
   obtain rfl := sj z
   exact ⟨s, _, (b2.trans b3), (d.fe St), c2, e3, a5⟩
  refine gA (gL (fB ?_))
  obtain rfl := sj y
  exact ⟨f7, _, (fA.refl _), (d.fe St), U, c1, Q⟩
 rintro ⟨t, f5⟩ E W ⟨a2, d3, k2, d, A, e0, F⟩ h2
 refine fq (CJ h2 (fun e9 E W => ∃ d4, ST true (keys a0) w W a2 ((g, Ol (fa t) 35) :: ((a, Ol (fx e9) 63) :: ((G, Obj.cells o 35 (0, 0)) :: d4))) ∧ E 0 = f8 ∧ E 2 = f9 ∧ E 3 = g0) (fun e9 h3 => ?_) ?_)
 ·refine sg (Wh A (Wn (Wf iD (VB d (Mt Mh) rfl rfl bP (Wi rfl (Wm (LJ h3 (fun f0 E W => ∃ d5, ST true (keys a0) w W a2 ((g, Ol (fa t) 35) :: ((a, Ol (fx f5) 63) :: ((G, Obj.cells o 35 (0, 0)) :: d5))) ∧ E 0 = f8 ∧ E 2 = f9 ∧ E 3 = g0 ∧ E 63 = (.bool f0)) 4 ?_ (fun f0 u b4 => ?_))))))))
  ·rintro n2 E W ⟨d5, d, L, e1, e2, i4⟩ J
   refine ln (CI J i4 (fun g3 J => ?_) (fun g3 J => ?_))
   ·refine fi (Wh L (Wn (Wf iD ?_)))
    replace d := d.perm (Nb (Pb Pz) Nz)
    refine VO (fH (.int .i64 11) ((fx (⟨f5.S, 11⟩ : fg)).toArray) d rfl rfl dt (nh _ 11) nb rfl (fun l3 d => ln ?_))
    obtain rfl := sj J
    exact ⟨_, (d.fe (Sb (Pb Pz) St)), L, e1, e2⟩
   refine kn ?_
   obtain rfl := sj J
   exact ⟨_, (d.fe St), L, e1, e2⟩
  refine bC u (fun i u => ?_) (fun i u => ?_)
  ·refine ug i (fj F (fy d.has Mh (fa t) rfl bl aD)) (bS u fun m6 h6 u => mD i (Eg d call46 (ra t _ _  h6) (fun l4 d => ug i (kN rfl) (V (fF (cB i) rfl) ?_))))
   obtain rfl := sj u
   exact b4 _ _ ⟨_, (d.fe St), A, e0, F, rfl⟩
  refine un i (un i (un i (V (fE (cB i) rfl) ?_)))
  obtain rfl := sj u
  exact b4 _ _ ⟨_, (d.fe St), A, e0, F, rfl⟩
 rintro n1 E W ⟨d4, d, i2, a4, i3⟩ I
 refine fq (sg (Wh i2 (Wn (Wf iD (VB d (Mt Mh) rfl rfl bP (Wi rfl (ln (CI I rfl (fun g2 I => ?_) (fun g2 I => ?_)))))))))
 ·refine sg (V (gw (v := j1) mI (fZ br bj (uo _ bj) kr)) ?_)
  replace d := d.perm (Nb (Pb (Pb Pz)) Nz)
  refine VO (fH j1 ((fa K6).toArray) d a4 rfl aD (iA K6) nb rfl (fun l1 d => ln ?_))
  replace d := d.fe (Kb (Db St))
  refine gd (fP ?_)
  obtain rfl := sj I
  exact iW (v := j1) rfl a4 (fy d.has Mh (fa K6) rfl bl aD) ⟨_, _, rfl, (d.gb (Db (Kb Sn))), rfl, rfl⟩
 refine kg (V (fj i3 (fy d.has Mh (fa t) rfl bl aD)) ?_)
 replace d := d.perm (Nb (Pb (Pb Pz)) Nz)
 refine VO (fH (.agg (fa t).toArray) ((fa t).toArray) d a4 rfl aD (iA t) nb rfl (fun l2 d => ln ?_))
 replace d := d.fe (Kb (Db St))
 refine gd ?_
 obtain rfl := sj I
 exact iW (v := (.agg (fa t).toArray)) rfl a4 (fy d.has Mh (fa t) rfl bl aD) ⟨_, _, rfl, (d.gb (Db (Kb Sn))), rfl, rfl⟩
theorem uN (c : Nat) (J : fg) (r : (ft × fg)) (w : World) {μ0 : fz} (h0 : ju μ0 ((c, Ol (fx J) 63) :: []) w) (hm : mm J = some r) :
  gV true Tryz.prog 27 [(.pointer (some ⟨c, 0, none⟩))] w μ0 ((c, Ol (fx J) 63) :: []) (fun v L1 μ1 => ∃ F, v = (.agg #[(.int .i64 (((r.1).eX).Kind)), (.string ((((r.1).eX).Head).eY)), (.string ((((r.1).eX).Head).eZ)), (.string (((r.1).eX).fD)), (.string ((((r.1).eX).B).eY)), (.string ((((r.1).eX).B).eZ)), (.string ((((r.1).eX).C).eY)), (.string ((((r.1).eX).C).eZ)), (.string (((r.1).eX).fw)), F]) ∧ L1 = ((c, Ol (fx (r.2)) 63) :: []) ∧ Sl (Pl (fl .u8)) 1 μ1 F ((r.1).Tag)) := by
 let A := ((c, Ol (fx J) 63) :: [])
 refine Ac h0 32 func27 rfl (fun d => sg (VE (gH d bA (fun W2 Q d => lr (Wm (bS hm fun a b9 hm => ?_))))))
 refine VE (eM d (Cb (Pb Pz) Cn) call55 (fun q _ => (uT c J _ _ q  b9)) ?_)
 rintro _ v9 a7 c6 d M p n ⟨y, rfl⟩
 obtain rfl := y.symm
 replace d := d.perm (Tb Tn)
 refine VE (gH d br (fun c8 B d => VO (fH (.agg (fa a.1).toArray) ((fa a.1).toArray) d rfl rfl aD (iA a.1) nb rfl (fun c9 d => lr (Wm (bS hm fun I P hm => ?_))))))
 refine VE (eM d (Cb (Pb Pz) Cn) call56 (fun q _ => (oq c a.2 8 _ _ q  P)) ?_)
 rintro _ d5 a5 c7 d G h n ⟨z, rfl⟩
 obtain rfl := z.symm
 replace d := d.perm (Tb Tn)
 refine Wa (ln (fq (CJ hm (fun a3 E W => ∃ U, ST true (keys A) w W a5 ((c, Ol (fx a3) 63) :: ((B, Ol (fa a.1) 35) :: ((Q, Ol C2 38) :: U))) ∧ E 0 = (.pointer (some ⟨c, 0, none⟩)) ∧ E 2 = (.pointer (some ⟨Q, 0, none⟩)) ∧ E 3 = (.pointer (some ⟨B, 0, none⟩)) ∧ E 4 = (.string I.1)) (fun a3 O => ?_) ?_)))
 ·refine sg (Wm (Wn (Wf iD (VB d Mh rfl rfl bP (Wi rfl (Wm (LJ O (fun a4 E W => ∃ Y, ST true (keys A) w W a5 ((c, Ol (fx I.2) 63) :: ((B, Ol (fa a.1) 35) :: ((Q, Ol C2 38) :: Y))) ∧ E 0 = (.pointer (some ⟨c, 0, none⟩)) ∧ E 2 = (.pointer (some ⟨Q, 0, none⟩)) ∧ E 3 = (.pointer (some ⟨B, 0, none⟩)) ∧ E 4 = (.string I.1) ∧ E 18 = (.bool a4)) 4 ?_ (fun a4 u H => ?_))))))))
  ·rintro d8 E W ⟨Y, d, K, Z, s, a2, b7⟩ t
   refine ln (CI t b7 (fun a9 t => ?_) (fun a9 t => ?_))
   ·refine fi (Wh K (Wn (Wf iD (VO (fH (.int .i64 11) ((fx (⟨I.2.S, 11⟩ : fg)).toArray) d rfl rfl dt (nh _ 11) nb rfl (fun d4 d => ln ?_))))))
    obtain rfl := sj t
    exact ⟨_, (d.fe St), K, Z, s, a2⟩
   refine kn ?_
   obtain rfl := sj t
   exact ⟨_, (d.fe St), K, Z, s, a2⟩
  refine bC u (fun g u => ?_) (fun g u => ?_)
  ·refine ug g (fp rfl) (ug g (iF aG rfl) (ug g (gl rfl rfl rfl) (V (fF (cB g) rfl) ?_)))
   obtain rfl := sj u
   exact H _ _ ⟨_, (d.fe St), rfl, rfl, rfl, rfl, rfl⟩
  refine un g (un g (un g (V (fE (cB g) rfl) ?_)))
  obtain rfl := sj u
  exact H _ _ ⟨_, (d.fe St), rfl, rfl, rfl, rfl, rfl⟩
 rintro d7 E W ⟨U, d, b4, D, b5, b6⟩ i
 refine fq (sg (Wh b4 (Wn (Wf iD (VB d Mh rfl rfl bP (Wi rfl (ln (CI i rfl (fun L i => ?_) (fun L i => ?_)))))))))
 ·refine sg (V (gw (v := (.agg C2.toArray)) mI (fZ bA bu (sD _ bu) kr)) ?_)
  replace d := d.perm (Nb (Pb (Pb Pz)) Nz)
  refine VO (fH (.agg C2.toArray) (C2.toArray) d D rfl bf oc nb rfl (fun d1 d => ln ?_))
  replace d := d.fe (Kb (Kb (Db St)))
  refine gd (fP ?_)
  obtain rfl := sj i
  exact iW (v := (.agg C2.toArray)) rfl D (fy d.has Mh C2 rfl cn bf) ⟨_, _, _, rfl, (d.gb (Db (Kb Sn))), (M.trans G), (p.trans h), (ST.fK d (gm.mem (Db (Kb Sn)))), (.slice none 0 0), rfl, rfl, (Sl.nil _ _ _)⟩
 refine kg (V (fj b5 (fy d.has (Mt Mh) (fa a.1) rfl bl aD)) (Wh b6 (bS i fun x R i => VE (rH d aG az bd rfl R (fun d2 d6 d9 d T o N c4 => ?_)))))
 obtain ⟨j, k, rfl⟩ := N.form
 let a0 := (C1 a.1.Kind a.1.Head.eY a.1.Head.eZ a.1.fD a.1.B.eY a.1.B.eZ a.1.C.eY a.1.C.eZ a.1.fw j x.length k)
 refine V (gw (v := (.agg a0.toArray)) (lf rfl rfl) (fZ bA bu (sD _ bu) kr)) ?_
 replace d := d.perm (Nb (Pb (Pb Pz)) Nz)
 refine VO (fH (.agg a0.toArray) (a0.toArray) d D rfl bf oc nb rfl (fun d3 d => ln ?_))
 replace d := d.fe (Kb (Kb (Db St)))
 refine gd ?_
 obtain rfl := sj i
 exact iW (v := (.agg a0.toArray)) rfl D (fy d.has Mh a0 rfl cn bf) ⟨_, _, _, rfl, (d.gb (Db (Kb Sn))), ((M.trans G).trans T), ((p.trans h).trans o), (ST.fK d (gm.mem (Db (Kb Sn)))), (.slice j x.length k), rfl, rfl, N⟩
theorem sF (k : Nat) (j : fg) (r : Int) (w : World) (i : At (hp w) (.pointer (some ⟨k, 0, none⟩)) (fx j)) (hm : kG j = some r) :
  fV true Tryz.prog 28 [(.pointer (some ⟨k, 0, none⟩))] w (.int .i64 r) := by
 refine cG 19 func28 rfl (fun d => sg (Wa (lS (Wm (Wn (VQ (mP [(.int .i64 j.E)] iD rfl i rfl) (fun M I => V (fj rfl (kh d.has (y := (.int .i64 j.E)) I bP)) (Wi rfl (Wm ?_)))))))))
 refine LJ hm (fun u E W => ∃ D, ST true ga w W (hp w) D ∧ E 0 = (.pointer (some ⟨k, 0, none⟩)) ∧ E 14 = (.bool u)) 6 ?_ (fun u g t => ?_)
 ·rintro N E W ⟨D, d, G, H⟩ c
  refine ln (CI c H (fun x c => ?_) (fun x c => ?_))
  ·refine sg (Wa (lt (fP ?_)))
   obtain rfl := sj c
   exact rP d
  exact kg (Wh G (Wn (VQ (mP [(.int .i64 j.E)] iD rfl i rfl) (fun J z => V (fj rfl (kh d.has (y := (.int .i64 j.E)) z bP)) (Wa (lt (rQ c d)))))))
 refine bC g (fun a g => ?_) (fun a g => ?_)
 ·refine ug a (fp rfl) (ug a (ig rfl) (CA a (mP [(.string j.S)] nN rfl i rfl) (fun K B => ug a (fj rfl (kh d.has (y := (.string j.S)) B aW)) (ug a (lZ rfl rfl rfl) (V (fF (cB a) rfl) ?_)))))
  obtain rfl := sj g
  exact t _ _ ⟨_, (d.fe St), rfl, rfl⟩
 refine un a (un a (un a (un a (un a (V (fE (cB a) rfl) ?_)))))
 obtain rfl := sj g
 exact t _ _ ⟨_, (d.fe St), rfl, rfl⟩
set_option maxHeartbeats 4000000 in
theorem tL (a : ft) (T K : Value) (A : List Int) (r : Bool) (w : World) (j : Sl (Pl (fl .u8)) 1 (hp w) T a.Tag) (b2 : Sl (Pl (fl .u8)) 1 (hp w) K A) (hm : mz a A = some r) :
  fV false Tryz.prog 4 [(.agg #[(.int .i64 a.eX.Kind), (.string a.eX.Head.eY), (.string a.eX.Head.eZ), (.string a.eX.fD), (.string a.eX.B.eY), (.string a.eX.B.eZ), (.string a.eX.C.eY), (.string a.eX.C.eZ), (.string a.eX.fw), T]), K] w (.bool r) := by
 refine cG 63 func4 rfl (fun d => sg ?_)
 obtain ⟨x, y, rfl⟩ := j.form
 let q : Value := (.slice x a.Tag.length y)
 let a0 := (C1 a.eX.Kind a.eX.Head.eY a.eX.Head.eZ a.eX.fD a.eX.B.eY a.eX.B.eZ a.eX.C.eY a.eX.C.eZ a.eX.fw x a.Tag.length y)
 refine VE (hZ d rfl (fun W4 n d => Wa (lS (bS hm fun r5 h5 hm => VE (Eg d call5 (uL  _ _  h5) (fun W7 d => V (kN rfl) (ln (CI hm rfl (fun h3 hm => ?_) (fun h3 hm => ?_)))))))))
 ·refine sg (Wa (ln ?_))
  replace d := d.fe (Db St)
  refine gd (fP ?_)
  obtain rfl := sj hm
  exact rP d
 refine kS (VA d Mh a0 cn bf (VE (gk (cs := a0.toArray) d (iU rfl) (nq dF bf bA) (fun l5 b9 d => bS hm fun l8 g6 hm => VE (Eg d call6 (fV.gW (uK (.slice none 0 0) ([]) (.slice (some ⟨b9, 0, none⟩) 1 1) ([a]) _ _ (Sl.nil _ _ _) ((jA.lit rV (l := [a]) (.cons (ys := C1 a.eX.Kind a.eX.Head.eY a.eX.Head.eZ a.eX.fD a.eX.B.eY a.eX.B.eZ a.eX.C.eY a.eX.C.eZ a.eX.fw x a.Tag.length y) (jk.mk ⟨q, rfl, j⟩) .nil) rfl nb rfl).sl rV d.fO (fun b o s => (by rw [aV] at s; cases s; exact d.at_ Mh))) g6)) (fun l6 d => Wi rfl (Wm (LJ hm (fun d2 E W => ∃ f5, ST false ga w W (hp w) ((n, Ol a0 38) :: f5) ∧ E 1 = K ∧ E 2 = (.pointer (some ⟨n, 0, none⟩)) ∧ E 21 = (.bool d2)) 4 ?_ (fun d2 M a9 => ?_)))))))))
 ·rintro l9 E W ⟨f5, d, f7, R, h1⟩ N
  refine ln (CI N h1 (fun g5 N => ?_) (fun g5 N => ?_))
  ·refine sg (Wa (ln ?_))
   replace d := d.fe (Db St)
   refine gd (fP ?_)
   obtain rfl := sj N
   exact rP d
  refine kg (V (gw (v := (.agg #[(.slice none 0 0)])) mI (fZ zeroValue56 cT (zj _ cT) kr)) (VE (hZ d rfl (fun l7 P d => Wa (lr (Wa (ln (fq ?_))))))))
  refine CJ N (fun d1 E W => ∃ f6, ST false ga w W (hp w) ((P, Ob #[(.slice none 0 0)] 56) :: ((n, Ol a0 38) :: f6)) ∧ E 1 = K ∧ E 2 = (.pointer (some ⟨n, 0, none⟩)) ∧ E 5 = (.pointer (some ⟨P, 0, none⟩)) ∧ E 6 = (.string d1)) (fun d1 u => ?_) ?_
  ·refine sg (V (fj R (fy d.has (Mt Mh) a0 rfl cn bf)) (bS u fun k4 f1 u => VE (Eg d call20 (fV.gW (qU a q _ _ (j.mono (Pl.mono _) d.fO) f1)) (fun j5 d => ln (CI u rfl (fun e0 u => ?_) (fun e0 u => ?_))))))
   ·refine fi (V (fj R (fy d.has (Mt Mh) a0 rfl cn bf)) (bS u fun k5 f2 u => VE (Eg d call21 (fV.gW (uH a q _ _ (j.mono (Pl.mono _) d.fO) f2)) (fun j6 d => Wa (ln ?_)))))
    obtain rfl := sj u
    exact ⟨_, (d.fe St), f7, R, rfl, rfl⟩
   refine kn ?_
   obtain rfl := sj u
   exact ⟨_, (d.fe St), f7, R, rfl, rfl⟩
  rintro m0 E W ⟨f6, d, f8, b6, f9, h2⟩ Q
  refine fq (fq ?_)
  replace d := d.drew
  have h := d.has.fe (Db (Kb Sn))
  refine gX h gE (X 0 rfl h (fp f9) (XH 1 rfl h (fun _ F => fj b6 (fy F Mh a0 rfl cn bf)) (XH 3 rfl h (fun _ F => fj b6 (fy F Mh a0 rfl cn bf)) (bS Q fun g7 e3 Q => ?_))))
  refine XE 2 rfl (eM d (Cb Pz (C0 Cn)) call22 (fun L ag => gq.gW (rp P (.slice none 0 0) ([]) [] a q _ _ L (fN.nil _ _ _) (j.mono (Pl.mono _) ag) e3)) ?_)
  rintro _ k6 d4 h6 d i aa af ⟨g8, i0, Z, rfl, f3⟩
  obtain rfl := Z.symm
  replace d := d.perm (Tb (Tr Tn))
  have h := d.has.nB i (Db (Dr (Kb Sn)))
  refine ⟨h, (bS Q fun j9 e4 Q => XE 4 rfl (Eg d call20 (fV.gW (qU a q _ _ (j.mono (Pl.mono _) (i.trans d.fO)) e4)) (fun i2 d => ?_)))⟩
  have h := d.has.nB i (Db (Dr (Kb Sn)))
  refine ⟨h, (X 5 rfl h (zz underlying4 rfl rfl rfl) (X 6 rfl h (fp rfl) (PJ Q (fun d0 E W => ∃ a4 c0, fA d4 a4 ∧ ST false ga w W a4 ((n, Ol a0 38) :: c0) ∧ E 1 = K ∧ E 2 = (.pointer (some ⟨n, 0, none⟩)) ∧ E 40 = (.bool d0)) (bm 17 8191) 4 ?_ (fun d0 J a8 => ?_))))⟩
  ·rintro l0 E W ⟨a4, c0, B, d, c5, g1, g2⟩ e1
   have h := d.has.nB (i.trans B) (Kb Sn)
   refine X 13 rfl h (fp g2) (PJ e1 (fun c9 E W => ∃ c1, ST false ga w W a4 ((n, Ol a0 38) :: c1) ∧ E 1 = K ∧ E 44 = (.bool c9)) (bm 17 131071) 0 ?_ (fun c9 I a7 => ?_))
   ·rintro l1 E W ⟨c1, d, c6, g3⟩ t
    refine iH kr (fB ?_)
    replace d := d.fe (Db St)
    refine CI t g3 (fun d9 t => ?_) (fun d9 t => ?_)
    ·refine sg (Wa (lt (fP ?_)))
     obtain rfl := sj t
     exact rP d
    refine kg (Wh c6 (V (lH az bd aG rfl (b2.mono (Pl.mono _) ((i.trans B).trans d.fO))) (V (gw (v := (.agg (fx (⟨(jo A), 0⟩ : fg)).toArray)) (iU rfl) (fZ zeroValue63 dZ (Ci _ dZ) kr)) (VE (hZ d rfl (fun i3 c4 d => Wa (lr (VE (gH d bA (fun i4 g0 d => fL ?_))))))))))
    refine fB (sg (Wh c6 (V (qb (by exact jY rfl) rfl) (bS t fun z e5 t => ?_))))
    refine VE (eD d (Cb Pz Cn) call24 (fun L => gV.gW (pg K A g0 (⟨K6, []⟩ : ft) (.slice none 0 0) _ _ L (b2.mono (Pl.mono _) (i.trans B)) (Sl.nil _ _ _) e5)) ?_)
    rintro _ k7 l4 h7 d h4 ab ⟨d3, a2, rfl, f4⟩
    obtain rfl := a2.symm
    replace d := d.perm (Tb Tn)
    refine Wa (lr (Wm (bS t fun c e6 t => ?_)))
    let i6 : Value := (.string (((c.1).eX).fD))
    let i5 : Value := (.string (((c.1).eX).fw))
    let i1 : Value := (.int .i64 (((c.1).eX).Kind))
    let d7 : Value := (.string ((((c.1).eX).C).eZ))
    let d6 : Value := (.string ((((c.1).eX).B).eZ))
    let d5 : Value := (.string ((((c.1).eX).C).eY))
    let c2 : Value := (.string ((((c.1).eX).B).eY))
    let b8 := (((c.1).eX).Head)
    refine VE (eD d (Cb (Pb Pz) Cn) call27 (fun L => gV.gW (uN c4 (⟨(jo A), 0⟩ : fg) _ _ L  e6)) ?_)
    rintro _ k8 g9 h8 d c7 ad ⟨l3, a3, rfl, b7⟩
    obtain rfl := a3.symm
    replace d := d.perm (Tb Tn)
    refine VE (gH d bA (fun i7 j7 d => ?_))
    obtain ⟨U, Y, rfl⟩ := b7.form
    let O : Value := (.slice U ((c.1).Tag).length Y)
    refine VO (fH (.agg #[i1, (.string (b8.eY)), (.string (b8.eZ)), i6, c2, d6, d5, d7, i5, O]) (#[i1, (.string (b8.eY)), (.string (b8.eZ)), i6, c2, d6, d5, d7, i5, O]) d rfl rfl bf oc nb rfl (fun i8 d => lr (VA d (Mt (Mt Mh)) [(.int .i64 (((z.2).eX).Kind)), (.string ((((z.2).eX).Head).eY)), (.string ((((z.2).eX).Head).eZ)), (.string (((z.2).eX).fD)), (.string ((((z.2).eX).B).eY)), (.string ((((z.2).eX).B).eZ)), (.string ((((z.2).eX).C).eY)), (.string ((((z.2).eX).C).eZ)), (.string (((z.2).eX).fw)), d3] cn bf (VA d Mh [i1, (.string (b8.eY)), (.string (b8.eZ)), i6, c2, d6, d5, d7, i5, O] cn bf (bS t fun k0 e7 t => VE (Eg d call14 (fV.gW (rK z.2 d3 c.1 O _ _ (f4.mono (Pl.mono _) (c7.trans d.fO)) (b7.mono (Pl.mono _) d.fO) e7)) (fun i9 d => Wm (LJ t (fun c8 E W => ∃ c3, ST false ga w W g9 c3 ∧ E 62 = (.bool c8)) 5 ?_ (fun c8 H a6 => ?_)))))))))
    ·rintro l2 E W ⟨c3, d, g4⟩ e2
     exact Wg g4 (lt (rQ e2 d))
    refine bC H (fun k H => ?_) (fun k H => ?_)
    ·refine ug k (fp rfl) (ug k (fp rfl) (bS H fun k1 e8 H => mD k (Eg d call28 (fV.gW (sF c4 c.2 _ _ (At.of (d.at_ (Mt Mh)) _ rfl) e8)) (fun j0 d => ug k (gl rfl rfl rfl) (V (fF (cB k) rfl) ?_)))))
     obtain rfl := sj H
     exact a6 _ _ ⟨_, (d.fe (Db (Db (Db St)))), rfl⟩
    refine un k (un k (un k (un k (V (fE (cB k) rfl) ?_))))
    obtain rfl := sj H
    exact a6 _ _ ⟨_, (d.fe (Db (Db (Db St)))), rfl⟩
   refine bC I (fun G I => ?_) (fun G I => ?_)
   ·refine Xn 14 rfl rfl (cB G) h (Xn 15 rfl rfl (cB G) h (X 16 rfl h (fF (cB G) rfl) ?_))
    obtain rfl := sj I
    refine nw kr (a7 _ _ ⟨_, (d.fe St), c5, rfl⟩)
   refine yA 14 rfl rfl (cB G) h (fun _ F => fj g1 (fy F Mh a0 rfl cn bf)) (bS I fun k2 e9 I => wX 15 rfl rfl (cB G) (Eg d call22 (fV.gW (tX a q _ _ (j.mono (Pl.mono _) ((i.trans B).trans d.fO)) e9)) (fun j3 d => ?_)))
   have h := d.has.nB (i.trans B) (Kb Sn)
   refine ⟨h, (X 16 rfl h (fE (cB G) rfl) ?_)⟩
   obtain rfl := sj I
   refine nw kr (a7 _ _ ⟨_, (d.fe St), c5, rfl⟩)
  refine bC J (fun g J => ?_) (fun g J => ?_)
  ·refine Xn 7 rfl rfl (cB g) h (Xn 8 rfl rfl (cB g) h (Xn 9 rfl rfl (cB g) h (Xn 10 rfl rfl (cB g) h (Xn 11 rfl rfl (cB g) h (X 12 rfl h (fF (cB g) rfl) ?_)))))
   obtain rfl := sj J
   refine nw kr (a8 _ _ ⟨d4, _, (fA.refl _), (d.fe (Db (Dr St))), f8, b6, rfl⟩)
  refine Xg 7 rfl rfl (cB g) h (fp f9) (Xg 10 rfl rfl (cB g) h (fp h2) (bS J fun k3 f0 J => wX 8 rfl rfl (cB g) (nX d call23 (gY.gW (nG P g8 g7.2 _ _ (f3.sl (fun _ => rfl) (fun b o s => d.at_ (Mt (Ml s)))) (At.of (d.at_ Mh) _ rfl) f0)) (fun j4 k9 h0 h9 d a5 ae d8 => ?_))))
  have h := d.has.nB (i.trans a5) (Dr (Db (Dr (Kb Sn))))
  refine ⟨h, (zF 9 rfl kr (.inr ⟨6, false, 34, rfl, rfl, by decide, (cB g)⟩) rfl dc (.inl ⟨_, _, lH az bd aG rfl (d8.B9 (fun _ => rfl) d (fun p s => (Ml s))), ⟨h, (Xg 11 rfl rfl (cB g) h (lZ rfl rfl rfl) (X 12 rfl h (fE (cB g) rfl) ?_))⟩⟩))⟩
  obtain rfl := sj J
  refine nw kr (a8 _ _ ⟨h0, _, a5, (d.fe (Dr (Db (Dr St)))), f8, b6, rfl⟩)
 refine bC M (fun D M => ?_) (fun D M => ?_)
 ·refine un D (un D (un D (V (fF (cB D) rfl) ?_)))
  obtain rfl := sj M
  exact a9 _ _ ⟨_, (d.fe (Db St)), rfl, rfl, rfl⟩
 refine ug D (fp rfl) (ug D (iB az rfl b2) (ug D (gl rfl rfl rfl) (V (fE (cB D) rfl) ?_)))
 obtain rfl := sj M
 exact a9 _ _ ⟨_, (d.fe (Db St)), rfl, rfl, rfl⟩
end Go.Proofs.YtcafmokjkjcomaaGreat
