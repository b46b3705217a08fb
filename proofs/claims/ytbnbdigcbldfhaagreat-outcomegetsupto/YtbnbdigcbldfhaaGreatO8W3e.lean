/- a part of a proof of OutcomeGets -/
import Derived.Test.YtbnbdigcbldfhaaGreatO8W2e
set_option linter.all false
namespace Go.Proofs.YtbnbdigcbldfhaaGreat
open Go.Proofs.Tryz renaming prog → pg0
open Go.RowKit
set_option maxRecDepth 10000
open Tryz
theorem D3 (a : Nat) (t : jr) (D : Int) (r : (ByteArray × jr)) (w : World) {N : jF} (K : na N ((a, Obj.cells ((jG t).toArray : Array Value) 87 (0, 0)) :: []) w) (hm : mZ t D = some r) :
  ki true pg0 208 [(.pointer (some ⟨a, 0, none⟩)), (.int .i64 D)] w ((a, Obj.cells ((jG t).toArray : Array Value) 87 (0, 0)) :: []) (fun v J W' => v = (.string (r.1)) ∧ J = ((a, Obj.cells ((jG (r.2)).toArray : Array Value) 87 (0, 0)) :: [])) := by
 have d := ST.tG (dd := true) K
 unfold mZ at hm
 refine cF 46 func208 rfl (jo (jk (V (lO rfl) (jH (jj (jo (jk (V (jl rfl) (bS hm fun g H hm => ?_)))))))))
 have A := d.size
 refine VE (FO d (Cb Pz Cn) call102 (fun hH n q p => (om a t 9223372036854775807 _ _ ⟨hH, n, jC.refl _⟩  H)) (fun Z v7 F Y d M o m G => ?_))
 obtain ⟨c, rfl⟩ := G
 replace c := c.symm; subst c
 replace d := d.perm (Tb Tn)
 refine V (lO rfl) (jH (jj (jo (jo (jk (V (jl rfl) (V (kJ rfl) (V (jh oL rfl) (V (jf rfl (jq d.has Mh rfl bl)) (V (kv rfl rfl rfl) (jH (jj (CI hm rfl (fun u hm => ?_) (fun u hm => ?_))))))))))))))
 ·refine jo (jk (V (lO rfl) (jH (jj (jN (jE ?_))))))
  have h := sj hm; subst h
  exact jR (v := (.string zS)) rfl rfl ⟨_, _, rfl, (d.kF (Kb Sn)), rfl, rfl⟩
 refine jW (jj (jo (jo (jk (V (jl rfl) (V (jl rfl) (V (kv rfl rfl rfl) (jH (jj (CI hm rfl (fun x hm => ?_) (fun x hm => ?_)))))))))))
 ·refine jo (jk (V (jl rfl) (V (kJ rfl) (V (jh oL rfl) (VO (jD (.int .i64 12) ((jG (⟨g.2.S, 12⟩ : jr)).toArray) d rfl rfl dg (wj _ 12) nb rfl (fun Q d => jH (jj (jo (jk (V (lO rfl) (jH (jj (jN (jE ?_)))))))))))))))
  have h := sj hm; subst h
  exact jR (v := (.string zS)) rfl rfl ⟨_, _, rfl, (d.kF (Kb Sn)), rfl, rfl⟩
 refine jW (jj (jo (jo (jk (V (jl rfl) (V (jl rfl) (V (kJ rfl) (V (jh yn rfl) (V (jf rfl (jq d.has Mh rfl aG)) (V (nK aP rfl) (V (kv rfl rfl rfl) (jH (jj (CI hm rfl (fun y hm => ?_) (fun y hm => ?_)))))))))))))))
 ·refine jo (jk (V (jl rfl) (V (kJ rfl) (V (jh oL rfl) (VO (jD (.int .i64 10) ((jG (⟨g.2.S, 10⟩ : jr)).toArray) d rfl rfl dg (wj _ 10) nb rfl (fun T d => jH (jj (jo (jk (V (lO rfl) (jH (jj (jN (jE ?_)))))))))))))))
  have h := sj hm; subst h
  exact jR (v := (.string zS)) rfl rfl ⟨_, _, rfl, (d.kF (Kb Sn)), rfl, rfl⟩
 refine jW (jj (jo (jk (V (jl rfl) (V (kJ rfl) (V (jh yn rfl) (V (jf rfl (jq d.has Mh rfl aG)) (V (jl rfl) (bS hm fun I z hm => V (N9 (s := g.2.S) (j := g.1) aP rfl rfl z) (V (lO rfl) (jH (jj (jo ?_)))))))))))))
 refine jk (V (jl rfl) (V (jl rfl) (V (kJ rfl) (V (jh yn rfl) (V (jf rfl (jq d.has Mh rfl aG)) (V (jl rfl) (bS hm fun k B hm => V (Iq (s := g.2.S) (i := g.1) aP rfl rfl B) (V (kJ rfl) (V (jh yn rfl) (VO (jD (.string k) ((jG (⟨k, g.2.E⟩ : jr)).toArray) d rfl rfl cj (An k) nb rfl (fun U d => jH (jj (jo ?_))))))))))))))
 refine jk (V (jl rfl) (V (lO rfl) (jH (jj (jN ?_)))))
 have h := sj hm; subst h
 exact jR (v := (.string I)) rfl rfl ⟨_, _, rfl, (d.kF (Kb Sn)), rfl, rfl⟩
theorem vM (a : Nat) (u : jr) (r : (ByteArray × jr)) (w : World) {μ0 : jF} (m : na μ0 ((a, Ol (jG u) 87) :: []) w) (hm : lP u = some r) :
  ki true pg0 168 [(.pointer (some ⟨a, 0, none⟩))] w ((a, Ol (jG u) 87) :: []) (fun v L1 W' => v = (.string (r.1)) ∧ L1 = ((a, Ol (jG (r.2)) 87) :: [])) := by
 let U := ((a, Ol (jG u) 87) :: [])
 refine vg m 25 func168 rfl (fun d => sg (Wa (lr (Wm (bS hm fun x Y hm => ?_)))))
 refine VE (eM d (Cb Pz Cn) call208 (fun n _ => (D3 a u 16 _ _ n  Y)) ?_)
 rintro _ v7 Z L9 d a3 o h ⟨k, rfl⟩
 obtain rfl := k.symm
 replace d := d.perm (Tb Tn)
 refine Wa (ln (jo (CJ hm (fun G E W => ∃ z, ST true (keys U) w W Z ((a, Ol (jG G) 87) :: z) ∧ E 0 = (.pointer (some ⟨a, 0, none⟩)) ∧ E 3 = (.string x.1)) (fun G K => ?_) ?_)))
 ·refine sg (Wm (Wn (Wf oL (VB d Mh rfl rfl bl (Wi rfl (Wm (LJ K (fun H E W => ∃ B, ST true (keys U) w W Z ((a, Ol (jG x.2) 87) :: B) ∧ E 0 = (.pointer (some ⟨a, 0, none⟩)) ∧ E 3 = (.string x.1) ∧ E 15 = (.bool H)) 4 ?_ (fun H g t => ?_))))))))
  ·rintro a9 E W ⟨B, d, y, D, T⟩ j
   refine ln (CI j T (fun J j => ?_) (fun J j => ?_))
   ·refine jk (Wh y (Wn (Wf oL (VO (jD (.int .i64 30) ((jG (⟨x.2.S, 30⟩ : jr)).toArray) d rfl rfl dg (wj _ 30) nb rfl (fun a5 d => ln ?_))))))
    obtain rfl := sj j
    exact ⟨_, (d.je St), y, D⟩
   refine kn ?_
   obtain rfl := sj j
   exact ⟨_, (d.je St), y, D⟩
  refine bC g (fun c g => ?_) (fun c g => ?_)
  ·refine ug c (jl rfl) (bS g fun q M g => pV c (Eg d call138 (ub x.1 _ _  M) (fun p d => ug c (lM rfl) (V (jz (cB c) rfl) ?_))))
   obtain rfl := sj g
   exact t _ _ ⟨_, (d.je St), rfl, rfl, rfl⟩
  refine un c (un c (un c (V (jA (cB c) rfl) ?_)))
  obtain rfl := sj g
  exact t _ _ ⟨_, (d.je St), rfl, rfl, rfl⟩
 rintro s E W ⟨z, d, N, Q⟩ i
 refine jo (sg (Wh N (Wn (Wf oL (VB d Mh rfl rfl bl (Wi rfl (ln (CI i rfl (fun I i => ?_) (fun I i => ?_)))))))))
 ·refine sg (Wa (lt (jE ?_)))
  obtain rfl := sj i
  exact jR (v := (.string zS)) rfl rfl ⟨_, _, rfl, (d.kF (Kb Sn)), rfl, rfl⟩
 refine kg (Wh Q (Wa (lt ?_)))
 obtain rfl := sj i
 exact jR (v := (.string x.1)) rfl rfl ⟨_, _, rfl, (d.kF (Kb Sn)), rfl, rfl⟩
theorem xI (a : Nat) (k : jr) (r : (ja × jr)) (w : World) {I : jF} (G : na I ((a, Ol (jG k) 87) :: []) w) (hm : lK k = some r) :
  ki true pg0 103 [(.pointer (some ⟨a, 0, none⟩))] w ((a, Ol (jG k) 87) :: []) (fun v D W' => v = (.agg (jc (r.1)).toArray) ∧ D = ((a, Ol (jG (r.2)) 87) :: [])) := by
 let u : Value := (.agg (jc K0).toArray)
 refine vg G 18 func103 rfl (fun d => sg (VE (kl d bj (fun Y q d => lr (Wm (bS hm fun g z hm => ?_))))))
 refine VE (eM d (Cb (Pb Pz) Cn) call168 (fun m _ => (vM a k _ _ m  z)) ?_)
 rintro _ v9 p J d H o h ⟨i, rfl⟩
 obtain rfl := i.symm
 replace d := d.perm (Tb Tn)
 refine Wa (lr (Wm (bS hm fun c y hm => ?_)))
 let t := (⟨g.1, c.1⟩ : ja)
 let M : Value := (.agg (jc t).toArray)
 refine VE (eM d (Cb Pz Cn) call168 (fun m _ => (vM a g.2 _ _ m  y)) ?_)
 rintro _ T U K d B n h ⟨j, rfl⟩
 obtain rfl := j.symm
 replace d := d.perm (Tb Tn)
 refine Wa (lS (Wm (Wn (Wf oL (VB d Mh rfl rfl bl (Wi rfl (ln (CI hm rfl (fun x hm => ?_) (fun x hm => ?_)))))))))
 ·refine sg (V (kO (v := u) sG (ku bj bA (EC _ bA) kr)) ?_)
  replace d := d.perm (Nb (Pb Pz) Nz)
  refine VO (jD u ((jc K0).toArray) d rfl rfl ag (lf K0) nb rfl (fun N d => lt (jE ?_)))
  obtain rfl := sj hm
  exact oE (v := u) rfl rfl (jm d.has Mh (jc K0) rfl au ag) ⟨_, _, rfl, (d.kF (Db (Kb Sn))), rfl, rfl⟩
 refine kg (Wm (Wm (V (kO (v := M) (nB rfl rfl) (ku bj bA (EC _ bA) kr)) ?_)))
 replace d := d.perm (Nb (Pb Pz) Nz)
 refine VO (jD M ((jc t).toArray) d rfl rfl ag (lf t) nb rfl (fun Q d => lt ?_))
 obtain rfl := sj hm
 exact oE (v := M) rfl rfl (jm d.has Mh (jc t) rfl au ag) ⟨_, _, rfl, (d.kF (Db (Kb Sn))), rfl, rfl⟩
set_option maxHeartbeats 4000000 in
theorem IS (a : Nat) (T : jr) (r : (jb × jr)) (w : World) {μ0 : jF} (h0 : na μ0 ((a, Ol (jG T) 87) :: []) w) (hm : vG T = some r) :
  ki true pg0 169 [(.pointer (some ⟨a, 0, none⟩))] w ((a, Ol (jG T) 87) :: []) (fun v L1 W' => v = (.agg (jg (r.1)).toArray) ∧ L1 = ((a, Ol (jG (r.2)) 87) :: [])) := by
 let g5 : Value := (.agg (jg K7).toArray)
 let f8 : Value := (.pointer (some ⟨a, 0, none⟩))
 let n := ((jg K7).toArray : Array Value)
 let a0 := ((a, Ol (jG T) 87) :: [])
 refine vg h0 74 func169 rfl (fun d => sg (VE (kl d bh (fun W2 G d => lr (Wm (bS hm fun D k5 hm => ?_))))))
 let g6 := ((jG D.2).toArray : Array Value)
 let f9 : Value := (.pointer (some ⟨G, 0, none⟩))
 let b8 := (⟨D.1, K0, zS, K0, K0, zS⟩ : jb)
 let g1 := ((jg b8).toArray : Array Value)
 refine VE (eM d (Cb (Pb Pz) Cn) call102 (fun m _ => (om a T 9223372036854775807 _ _ m  k5)) ?_)
 rintro _ v9 o n9 d m7 aE h ⟨c5, rfl⟩
 obtain rfl := c5.symm
 replace d := d.perm (Tb Tn)
 refine V (kO (v := (.agg (jg b8).toArray)) (mf rfl) (ku bh bD (Fy _ bD) kr)) (VE (kl d bh (fun o1 g d => VO (jD (.agg (jg b8).toArray) ((jg b8).toArray) d rfl rfl an (mo b8) nb rfl (fun o2 d => ln (jo (CJ hm (fun f2 E W => ∃ i3, ST true (keys a0) w W o ((g, Obj.cells g1 108 (0, 0)) :: ((a, Ol (jG f2) 87) :: ((G, Obj.cells n 108 (0, 0)) :: i3))) ∧ E 0 = f8 ∧ E 2 = f9 ∧ E 3 = (.pointer (some ⟨g, 0, none⟩))) (fun f2 h6 => ?_) ?_)))))))
 ·refine sg (Wm (Wn (Wf oL (VB d (Mt Mh) rfl rfl bl (Wi rfl (Wm (LJ h6 (fun f3 E W => ∃ d8, ST true (keys a0) w W o ((g, Obj.cells g1 108 (0, 0)) :: ((a, Obj.cells g6 87 (0, 0)) :: ((G, Obj.cells n 108 (0, 0)) :: d8))) ∧ E 0 = f8 ∧ E 2 = f9 ∧ E 3 = (.pointer (some ⟨g, 0, none⟩)) ∧ E 21 = (.bool f3)) 9 ?_ (fun f3 M b5 => ?_))))))))
  ·rintro n6 E W ⟨d8, d, L, e4, e5, i8⟩ K
   refine ln (CI K i8 (fun h3 K => ?_) (fun h3 K => ?_))
   ·refine jk (Wh L (Wn (Wf oL ?_)))
    replace d := d.perm (Nb (Pb Pz) Nz)
    refine VO (jD (.int .i64 11) ((jG (⟨D.2.S, 11⟩ : jr)).toArray) d rfl rfl dg (wj _ 11) nb rfl (fun m5 d => ln ?_))
    obtain rfl := sj K
    exact ⟨_, (d.je (Sb (Pb Pz) St)), L, e4, e5⟩
   refine kn ?_
   obtain rfl := sj K
   exact ⟨_, (d.je St), L, e4, e5⟩
  refine bC M (fun c M => ?_) (fun c M => ?_)
  ·refine ug c (jh mh rfl) (ug c (jf rfl (jq d.has Mh rfl bl)) (ug c (kv rfl rfl rfl) (ug c (jl rfl) (LJ M (fun f4 E W => ∃ d9, ST true (keys a0) w W o ((g, Obj.cells g1 108 (0, 0)) :: ((a, Obj.cells g6 87 (0, 0)) :: ((G, Obj.cells n 108 (0, 0)) :: d9))) ∧ E 0 = f8 ∧ E 2 = f9 ∧ E 3 = (.pointer (some ⟨g, 0, none⟩)) ∧ E 12 = (.bool (D.2.E == 0)) ∧ E 20 = (.bool f4)) 4 ?_ (fun f4 N b6 => ?_)))))
   ·rintro n7 E W ⟨d9, d, i9, j0, j3, j4, j5⟩ h7
    refine V (jz (j4.trans (cB c)) j5) ?_
    obtain rfl := sj h7
    exact b5 _ _ ⟨_, (d.je St), i9, j0, j3, rfl⟩
   refine bC N (fun j N => ?_) (fun j N => ?_)
   ·refine un j (un j (un j (ug c (jz (cB j) rfl) ?_)))
    obtain rfl := sj N
    exact b6 _ _ ⟨_, (d.je St), rfl, rfl, rfl, rfl, rfl⟩
   refine ug j (jh mh rfl) (ug j (jf rfl (jq d.has Mh rfl bl)) (ug j (kv rfl rfl rfl) (ug c (jA (cB j) rfl) ?_)))
   obtain rfl := sj N
   exact b6 _ _ ⟨_, (d.je St), rfl, rfl, rfl, rfl, rfl⟩
  refine un c (un c (un c (un c (Vu rfl rfl (Vu rfl rfl (Vu rfl rfl (un c (V (jA (cB c) rfl) ?_))))))))
  obtain rfl := sj M
  exact b5 _ _ ⟨_, (d.je St), rfl, rfl, rfl, rfl⟩
 rintro k6 E W ⟨i3, d, a3, d2, Y⟩ O
 refine sg (Wh a3 (bS O fun H j8 O => ?_))
 let j1 := (⟨D.1, H.1, zS, K0, K0, zS⟩ : jb)
 refine VE (eM d (Cb (Pb Pz) Cn) call103 (fun m _ => (xI a k6 _ _ m  j8)) ?_)
 rintro _ o5 f7 o0 d k7 av h ⟨c6, rfl⟩
 obtain rfl := c6.symm
 replace d := d.perm (Tb Tn)
 refine V (jh mJ Y) ?_
 replace d := d.perm (Nb (Pb Pz) Nz)
 let g0 : Value := (.pointer (some ⟨g, 0, none⟩))
 refine VO (jD (.agg (jc H.1).toArray) ((jg j1).toArray) d rfl rfl ag (lf H.1) nb rfl (fun o4 d => ln (jo (CJ O (fun d0 E W => ∃ a2 d3, jC f7 a2 ∧ ST true (keys a0) w W a2 ((g, Ol (jg d0.1) 108) :: ((a, Ol (jG d0.2) 87) :: ((G, Obj.cells n 108 (0, 0)) :: d3))) ∧ E 0 = f8 ∧ E 2 = f9 ∧ E 3 = g0) (fun d0 x => ?_) ?_))))
 ·refine sg (V (jh mh Y) (VB d Mh rfl rfl bl (ln (bg (Wi rfl (Wa (ln (CI x rfl (fun g4 x => ?_) (fun g4 x => ?_)))))))))
  ·refine jk (Wh a3 (bS x fun P h9 x => ?_))
   refine VE (eM d (Cb (Pb Pz) Cn) call168 (fun m _ => (vM a H.2 _ _ m  h9)) ?_)
   rintro _ m9 k0 k9 d e6 ab h ⟨a6, rfl⟩
   obtain rfl := a6.symm
   replace d := d.perm (Tb Tn)
   refine V (jh rq Y) ?_
   replace d := d.perm (Nb (Pb Pz) Nz)
   refine VO (jD (.string P.1) ((jg (⟨D.1, H.1, P.1, K0, K0, zS⟩ : jb)).toArray) d rfl rfl cj (An P.1) nb rfl (fun l8 d => jH (jV (jj ?_))))
   obtain rfl := sj x
   exact ⟨k0, _, e6, (d.je St), a3, d2, Y⟩
  refine jo (CJ x (fun f1 E W => ∃ d6, ST true (keys a0) w W f7 ((g, Ol (jg j1) 108) :: ((a, Ol (jG H.2) 87) :: ((G, Obj.cells n 108 (0, 0)) :: d6))) ∧ E 0 = f8 ∧ E 2 = f9 ∧ E 3 = g0 ∧ E 35 = (.bool f1)) (fun f1 k => ?_) ?_)
  ·refine sg (Wi rfl (Wa (ln (CI k rfl (fun h1 k => ?_) (fun h1 k => ?_)))))
   ·refine kn ?_
    obtain rfl := sj k
    exact ⟨_, (d.je St), a3, d2, Y, rfl⟩
   refine sg (Wi rfl (Wa (ln (CI k rfl (fun h2 k => ?_) (fun h2 k => ?_)))))
   ·refine kn ?_
    obtain rfl := sj k
    exact ⟨_, (d.je St), a3, d2, Y, rfl⟩
   refine jk (Wi rfl (Wa (ln ?_)))
   obtain rfl := sj k
   exact ⟨_, (d.je St), a3, d2, Y, rfl⟩
  rintro n5 E W ⟨d6, d, U, c1, Q, i7⟩ y
  refine CI y i7 (fun g7 y => ?_) (fun g7 y => ?_)
  ·refine sg (Wh U (bS y fun Z i0 y => ?_))
   refine VE (eM d (Cb (Pb Pz) Cn) call103 (fun m _ => (xI a H.2 _ _ m  i0)) ?_)
   rintro _ n0 f6 l0 d b2 ad h ⟨a7, rfl⟩
   obtain rfl := a7.symm
   replace d := d.perm (Tb Tn)
   refine V (jh lm Q) ?_
   replace d := d.perm (Nb (Pb Pz) Nz)
   refine VO (jD (.agg (jc Z.1).toArray) ((jg (⟨D.1, H.1, zS, Z.1, K0, zS⟩ : jb)).toArray) d rfl rfl ag (lf Z.1) nb rfl (fun m0 d => ln (jo (CJ y (fun d1 E W => ∃ q d7, jC f6 q ∧ ST true (keys a0) w W q ((g, Ol (jg d1.1) 108) :: ((a, Ol (jG d1.2) 87) :: ((G, Obj.cells n 108 (0, 0)) :: d7))) ∧ E 0 = f8 ∧ E 2 = f9 ∧ E 3 = g0) (fun d1 B => ?_) ?_))))
   ·refine sg (V (jh mh Q) (VB d Mh rfl rfl bl (Wi rfl (ln (CI B rfl (fun g9 B => ?_) (fun g9 B => ?_))))))
    ·refine jk (Wh U (bS B fun c9 i2 B => ?_))
     refine VE (eM d (Cb (Pb Pz) Cn) call168 (fun m _ => (vM a Z.2 _ _ m  i2)) ?_)
     rintro _ n2 k2 l2 d e8 ao h ⟨a9, rfl⟩
     obtain rfl := a9.symm
     replace d := d.perm (Tb Tn)
     refine V (jh pX Q) ?_
     replace d := d.perm (Nb (Pb Pz) Nz)
     refine VO (jD (.string c9.1) ((jg (⟨D.1, H.1, zS, Z.1, K0, c9.1⟩ : jb)).toArray) d rfl rfl cj (An c9.1) nb rfl (fun m4 d => ln ?_))
     obtain rfl := sj B
     exact ⟨k2, _, e8, (d.je St), U, c1, Q⟩
    refine kn ?_
    obtain rfl := sj B
    exact ⟨f6, _, (jC.refl _), (d.je St), U, c1, Q⟩
   rintro ⟨p, j9⟩ E W ⟨q, d7, b3, d, c2, e3, a5⟩ z
   refine sg (V (jh mh a5) (VB d Mh rfl rfl bl (Wi rfl (ln (CI z rfl (fun g8 z => ?_) (fun g8 z => ?_))))))
   ·refine jk (Wh c2 (bS z fun R i1 z => ?_))
    refine VE (eM d (Cb (Pb Pz) Cn) call103 (fun m _ => (xI a j9 _ _ m  i1)) ?_)
    rintro _ n1 k1 l1 d e7 af h ⟨a8, rfl⟩
    obtain rfl := a8.symm
    replace d := d.perm (Tb Tn)
    refine V (jh ou a5) ?_
    replace d := d.perm (Nb (Pb Pz) Nz)
    refine VO (jD (.agg (jc R.1).toArray) ((jg (⟨p.Kind, p.Head, p.jL, p.B, R.1, p.kk⟩ : jb)).toArray) d rfl rfl ag (lf R.1) nb rfl (fun m2 d => jH (jV (jj ?_))))
    obtain rfl := sj z
    exact ⟨k1, _, ((b2.trans b3).trans e7), (d.je St), c2, e3, a5⟩
   refine jW (jV (jj ?_))
   obtain rfl := sj z
   exact ⟨q, _, (b2.trans b3), (d.je St), c2, e3, a5⟩
  refine jW (jV (jj ?_))
  obtain rfl := sj y
  exact ⟨f7, _, (jC.refl _), (d.je St), U, c1, Q⟩
 rintro ⟨t, f5⟩ E W ⟨a2, d3, k4, d, s, e0, A⟩ h4
 refine jo (CJ h4 (fun e9 E W => ∃ d4, ST true (keys a0) w W a2 ((g, Ol (jg t) 108) :: ((a, Ol (jG e9) 87) :: ((G, Obj.cells n 108 (0, 0)) :: d4))) ∧ E 0 = f8 ∧ E 2 = f9 ∧ E 3 = g0) (fun e9 h5 => ?_) ?_)
 ·refine sg (Wh s (Wn (Wf oL (VB d (Mt Mh) rfl rfl bl (Wi rfl (Wm (LJ h5 (fun f0 E W => ∃ d5, ST true (keys a0) w W a2 ((g, Ol (jg t) 108) :: ((a, Ol (jG f5) 87) :: ((G, Obj.cells n 108 (0, 0)) :: d5))) ∧ E 0 = f8 ∧ E 2 = f9 ∧ E 3 = g0 ∧ E 63 = (.bool f0)) 4 ?_ (fun f0 u b4 => ?_))))))))
  ·rintro n4 E W ⟨d5, d, F, e1, e2, i6⟩ J
   refine ln (CI J i6 (fun g3 J => ?_) (fun g3 J => ?_))
   ·refine jk (Wh F (Wn (Wf oL ?_)))
    replace d := d.perm (Nb (Pb Pz) Nz)
    refine VO (jD (.int .i64 11) ((jG (⟨f5.S, 11⟩ : jr)).toArray) d rfl rfl dg (wj _ 11) nb rfl (fun l5 d => ln ?_))
    obtain rfl := sj J
    exact ⟨_, (d.je (Sb (Pb Pz) St)), F, e1, e2⟩
   refine kn ?_
   obtain rfl := sj J
   exact ⟨_, (d.je St), F, e1, e2⟩
  refine bC u (fun i u => ?_) (fun i u => ?_)
  ·refine ug i (jf A (jm d.has Mh (jg t) rfl aT an)) (bS u fun m8 h8 u => pV i (Eg d call68 (DX t _ _  h8) (fun l6 d => ug i (lM rfl) (V (jz (cB i) rfl) ?_))))
   obtain rfl := sj u
   exact b4 _ _ ⟨_, (d.je St), s, e0, A, rfl⟩
  refine un i (un i (un i (V (jA (cB i) rfl) ?_)))
  obtain rfl := sj u
  exact b4 _ _ ⟨_, (d.je St), s, e0, A, rfl⟩
 rintro n3 E W ⟨d4, d, i4, a4, i5⟩ I
 refine jo (sg (Wh i4 (Wn (Wf oL (VB d (Mt Mh) rfl rfl bl (Wi rfl (ln (CI I rfl (fun g2 I => ?_) (fun g2 I => ?_)))))))))
 ·refine sg (V (kO (v := g5) sG (ku bh bD (Fy _ bD) kr)) ?_)
  replace d := d.perm (Nb (Pb (Pb Pz)) Nz)
  refine VO (jD g5 ((jg K7).toArray) d a4 rfl an (mo K7) nb rfl (fun l3 d => ln ?_))
  replace d := d.je (Kb (Db St))
  refine jN (jE ?_)
  obtain rfl := sj I
  exact oE (v := g5) rfl a4 (jm d.has Mh (jg K7) rfl aT an) ⟨_, _, rfl, (d.kF (Db (Kb Sn))), rfl, rfl⟩
 refine kg (V (jf i5 (jm d.has Mh (jg t) rfl aT an)) ?_)
 replace d := d.perm (Nb (Pb (Pb Pz)) Nz)
 refine VO (jD (.agg (jg t).toArray) ((jg t).toArray) d a4 rfl an (mo t) nb rfl (fun l4 d => ln ?_))
 replace d := d.je (Kb (Db St))
 refine jN ?_
 obtain rfl := sj I
 exact oE (v := (.agg (jg t).toArray)) rfl a4 (jm d.has Mh (jg t) rfl aT an) ⟨_, _, rfl, (d.kF (Db (Kb Sn))), rfl, rfl⟩
theorem IE (i : Nat) (U : jr) (q : Int) (r : ((List jv) × jr)) (w : World) {μ0 : jF} (h0 : na μ0 ((i, Ol (jG U) 87) :: []) w) (hm : su U q = some r) :
  ki true pg0 104 [(.pointer (some ⟨i, 0, none⟩)), (.int .i64 q)] w ((i, Ol (jG U) 87) :: []) (fun v L1 W' => ∃ O S2, v = O ∧ L1 = ((i, Ol (jG (r.2)) 87) :: (S2 ++ [])) ∧ jy 140 js 12 O r.1 S2) := by
 let L := ((i, Ol (jG U) 87) :: [])
 refine vg h0 44 func104 rfl (fun d => sg (Wa (lr (Wm (Wm (bS hm fun p d0 hm => ?_))))))
 refine VE (eM d (Cb Pz Cn) call102 (fun n _ => (om i U q _ _ n  d0)) ?_)
 rintro _ v7 o L9 d e4 ab h ⟨N, rfl⟩
 obtain rfl := N.symm
 replace d := d.perm (Tb Tn)
 refine Wa (lr (Wa (lS (Wa (ln (kV (ns (fun m E W => ∃ k Q u y z H Y, jC o H ∧ ST true (keys L) w W H ((i, Ol (jG z) 87) :: (u ++ Y)) ∧ E 0 = (.pointer (some ⟨i, 0, none⟩)) ∧ E 5 = (.int .i64 p.1) ∧ E 6 = k ∧ E 7 = (.int .i64 y) ∧ jy 140 js 12 k Q u ∧ nJ p m Q y z = some r) jX ⟨(.slice none 0 0), ([]), [], 0, p.2, o, _, (jC.refl _), (d.je St), rfl, rfl, rfl, rfl, (jy.nil _ _ _), hm⟩ ?_)))))))
 rintro m E W ⟨k, Q, u, y, z, H, Y, a4, d, J, K, a2, M, T, x⟩
 cases m with
 | zero => rw [nJ] at x; cases x
 | succ c5 =>
  refine jo (sg (Wh M (Wh K (Wi rfl (Wm (LJ x (fun F E W => ∃ Z, ST true (keys L) w W H ((i, Ol (jG z) 87) :: (u ++ Z)) ∧ E 0 = (.pointer (some ⟨i, 0, none⟩)) ∧ E 5 = (.int .i64 p.1) ∧ E 6 = k ∧ E 7 = (.int .i64 y) ∧ E 22 = (.bool F)) 6 ?_ (fun F t I => ?_)))))))
  ·rintro e7 E W ⟨Z, d, B, c1, a3, c2, c3⟩ c
   refine ln (CI c c3 (fun b1 c => ?_) (fun b1 c => ?_))
   ·refine kn (jo (bg (Wh B (bS c fun a b4 c => ?_))))
    refine VE (eM d (Cb Pz Cn) call169 (fun n _ => (IS i z _ _ n  b4)) ?_)
    rintro _ e5 e9 d4 d a5 s h ⟨D, rfl⟩
    obtain rfl := D.symm
    replace d := d.perm (Tb Tn)
    refine VE (kl d bh (fun d7 e2 d => VO (jD (.agg (jg a.1).toArray) ((jg a.1).toArray) d rfl rfl an (mo a.1) nb rfl (fun d8 d => lr (Wh B (bS c fun j b5 c => ?_))))))
    let a0 := (⟨a.1, (⟨a.1.Head, j.1⟩ : jd)⟩ : jv)
    refine VE (eM d (Cb (Pb Pz) Cn) call168 (fun n _ => (vM i a.2 _ _ n  b5)) ?_)
    rintro _ e6 c7 d5 d P A h ⟨G, rfl⟩
    obtain rfl := G.symm
    replace d := d.perm (Tb Tn)
    refine Wa (ln (jk (Wh a3 (VA d (Mt Mh) (jg a.1) aT an (Wf mJ (VA d (Mt Mh) (jc a.1.Head) au ag (Wm (V (kO (v := (.agg (jw (⟨a.1.Head, j.1⟩ : jd)).toArray)) (nB rfl rfl) (ku cx bn (B4 _ bn) kr)) (V (kO (v := (.agg (js (a0)).toArray)) (nB rfl rfl) (ku bX cN (MU _ cN) kr)) (VE (kh (cs := (js (a0)).toArray) d (mf rfl) (mn aw aV bX) (fun e0 c0 d => ?_))))))))))))
    replace d := d.perm (Nr (Qb (Qb (Qb Qz))) Nz)
    refine bS c fun c4 b2 c => VE (lC (enc := js) (v := k) (vs := (.slice (some ⟨c0, 0, none⟩) 1 1)) (R := u) d mz dc qJ aw lR.1 lR.2.1 rfl lR.2.2.1 lR.2.2.2 rfl rfl T (Sl.lit (enc := js) (l := [a0]) mz rfl nb rfl (d.at_ (Ma Mh))) b2 (fun e1 c6 b7 d b0 => Wa (jH (jV (jj ?_)))))
    replace d := d.je (Kr (Db (Kb (Db St))))
    exact jk (Wh c2 (Wi rfl (Wa (ln ⟨c5, aY _, c6, c4, b7, (IntKind.i64.wrap (y + 1)), j.2, c7, _, ((a4.trans a5).trans P), (d.je (Sb (Pr Pz) St)), B, c1, rfl, rfl, b0, c⟩))))
   refine mI (lZ (lZ (sr (jj (jo (sg (Wh B (Wn (Wf oL (VB d Mh rfl rfl bl (Wi rfl (ln (CI c rfl (fun b3 c => ?_) (fun b3 c => ?_))))))))))))))
   ·refine sg (Wa (ln ?_))
    replace d := d.je (Kb (Dr St))
    refine jN (jE ?_)
    obtain rfl := sj c
    refine jR (v := (.slice none 0 0)) rfl rfl ?_
    replace d := d.PM
    exact ⟨_, _, rfl, (d.kF (Sb (Pr Pz) (Kr Sn))), (.slice none 0 0), [], rfl, rfl, (jy.nil _ _ _)⟩
   refine kg (Wh a3 (Wa (lt ?_)))
   obtain rfl := sj c
   exact jR (v := k) rfl rfl ⟨_, _, rfl, (d.kF (Kb (Kr Sn))), k, u, rfl, rfl, T⟩
  refine bC t (fun g t => ?_) (fun g t => ?_)
  ·refine ug g (jl J) (ug g (kJ rfl) (ug g (jh oL rfl) (ug g (jf rfl (jq d.has Mh rfl bl)) (ug g (kv rfl rfl rfl) (V (jz (cB g) rfl) ?_)))))
   obtain rfl := sj t
   exact I _ _ ⟨_, (d.je St), J, K, a2, M, rfl⟩
  refine un g (un g (un g (un g (un g (V (jA (cB g) rfl) ?_)))))
  obtain rfl := sj t
  exact I _ _ ⟨_, (d.je St), J, K, a2, M, rfl⟩
theorem I2 (g : Nat) (a0 : jr) (r : (jI × jr)) (w : World) {μ0 : jF} (h0 : na μ0 ((g, Ol (jG a0) 87) :: []) w) (hm : tW a0 = some r) :
  nr true pg0 42 [(.pointer (some ⟨g, 0, none⟩))] w μ0 ((g, Ol (jG a0) 87) :: []) (fun v L1 μ1 => ∃ y1 y3, v = (.agg #[(.int .i64 ((r.1).State)), (.int .i64 ((r.1).lc)), y1, y3]) ∧ L1 = ((g, Ol (jG (r.2)) 87) :: []) ∧ Sl (Pl jc) 2 μ1 y1 ((r.1).jM) ∧ Sl (Pl js) 12 μ1 y3 ((r.1).jO)) := by
 let a8 := ((g, Ol (jG a0) 87) :: [])
 refine Qs h0 43 func42 rfl (fun d => sg (VE (kl d cJ (fun W2 b1 d => lr (VE (kl d cJ (fun W4 b3 d => lr (Wm (bS hm fun y f5 hm => ?_)))))))))
 refine VE (eM d (Cb (Pb (Pb Pz)) Cn) call102 (fun A _ => (om g a0 3 _ _ A  f5)) ?_)
 rintro _ j3 ao i4 d c9 F p ⟨b5, rfl⟩
 obtain rfl := b5.symm
 replace d := d.perm (Tb Tn)
 refine Wf vB ?_
 replace d := d.perm (Nb (Pb Pz) Nz)
 refine VO (jD (.int .i64 y.1) (#[(.int .i64 y.1), (.int .i64 0), (.slice none 0 0), (.slice none 0 0)]) d rfl rfl dg (wj _ y.1) nb rfl (fun i7 d => lr (Wm (bS hm fun j f1 hm => ?_))))
 refine VE (eM d (Cb (Pb Pz) Cn) call102 (fun A _ => (om g y.2 99 _ _ A  f1)) ?_)
 rintro _ j4 j6 i5 d c0 L p ⟨b6, rfl⟩
 obtain rfl := b6.symm
 replace d := d.perm (Tb Tn)
 refine Wf wD ?_
 replace d := d.perm (Nb (Pb Pz) Nz)
 refine VO (jD (.int .i64 j.1) ((C5 y.1 j.1).toArray) d rfl rfl iW (wj _ j.1) nb rfl (fun i9 d => lr (Wm (bS hm fun c3 f2 hm => ?_))))
 refine VE (eM d (Cb (Pb Pz) Cn) call102 (fun A _ => (om g j.2 64 _ _ A  f2)) ?_)
 rintro _ j5 d1 i6 d c1 O p ⟨b7, rfl⟩
 obtain rfl := b7.symm
 replace d := d.perm (Tb Tn)
 refine Wa (lS (Wa (ln (kV (ns (fun m E W => ∃ T z u I D U c4, jC d1 U ∧ Lo (keys a8) w d1 U ∧ ST true (keys a8) w W U ((b3, Ob #[(.int .i64 y.1), (.int .i64 j.1), z, (.slice none 0 0)] 64) :: ((g, Ol (jG D) 87) :: ((b1, Ol C6 64) :: (I ++ c4)))) ∧ E 0 = (.pointer (some ⟨g, 0, none⟩)) ∧ E 2 = (.pointer (some ⟨b1, 0, none⟩)) ∧ E 3 = (.pointer (some ⟨b3, 0, none⟩)) ∧ E 4 = (.int .i64 c3.1) ∧ E 5 = (.int .i64 T) ∧ jy 28 jc 2 z u I ∧ mR c3 y j m T u D = some r) jX ⟨0, (.slice none 0 0), ([]), [], c3.2, d1, _, (jC.refl _), Lo.refl, (d.je (Sb (Pb Pz) St)), rfl, rfl, rfl, rfl, rfl, (jy.nil _ _ _), hm⟩ ?_)))))
 rintro m E W ⟨T, z, u, I, D, U, c4, N, q, d, b0, c6, c7, b2, b4, Z, G⟩
 cases m with
 | zero => rw [mR] at G; cases G
 | succ f3 =>
  refine jo (sg (Wh b4 (Wh b2 (Wi rfl (Wm (LJ G (fun d0 E W => ∃ c5, ST true (keys a8) w W U ((b3, Ob #[(.int .i64 y.1), (.int .i64 j.1), z, (.slice none 0 0)] 64) :: ((g, Ol (jG D) 87) :: ((b1, Ol C6 64) :: (I ++ c5)))) ∧ E 0 = (.pointer (some ⟨g, 0, none⟩)) ∧ E 2 = (.pointer (some ⟨b1, 0, none⟩)) ∧ E 3 = (.pointer (some ⟨b3, 0, none⟩)) ∧ E 4 = (.int .i64 c3.1) ∧ E 5 = (.int .i64 T) ∧ E 23 = (.bool d0)) 6 ?_ (fun d0 B a6 => ?_)))))))
  ·rintro h9 E W ⟨c5, d, Y, K, M, e5, e6, e7⟩ a
   refine ln (CI a e7 (fun d6 a => ?_) (fun d6 a => ?_))
   ·refine kn (jo (kV ?_))
    replace d := d.drew
    have n := d.has.je Sn
    have o := d.has.je (Kb Sn)
    refine ya 7 n o jP (lT 0 rfl kr (.inl rfl) rfl dc (fun _ _ h => ⟨h.1, oF br h.2⟩) ⟨n, fun _ => o⟩ (fun _ _ _ _ => jh pv M) (lT 1 rfl kr (.inl rfl) rfl dc (fun _ _ h => ⟨h.1, oF br h.2⟩) ⟨n, fun _ => o⟩ (fun l W af hs => have hS := (hs.2 (af.Mz 7 [1] kr rfl)); jf rfl (jq hS Mh rfl dn)) (lT 2 rfl kr (.inl rfl) rfl dc (fun _ _ h => ⟨h.1, oF br h.2⟩) ⟨n, fun _ => o⟩ (fun _ _ _ _ => jl Y) (bS a fun Q d9 a => ?_))))
    refine XE 3 rfl (eM d (Cb (Pb Pz) Cn) call103 (fun A _ => (xI g D _ _ A  d9)) ?_)
    rintro _ h6 f4 g1 d i P p ⟨a1, rfl⟩
    obtain rfl := a1.symm
    replace d := d.perm (Tb Tn)
    have n := d.has.oW i Sn
    have o := d.has.oW i (Db (Kb Sn))
    refine ⟨⟨n, fun _ => o⟩, (XE 4 rfl (kh (cs := (jc Q.1).toArray) d (mf rfl) (mn al ag bj) (fun g7 e4 d => ?_)))⟩
    have n := d.has.oW i Sn
    have o := d.has.oW i (Db (Db (Kb Sn)))
    refine ⟨⟨n, fun _ => o⟩, ?_⟩
    replace d := d.perm (Nr (Qb (Qb (Qb (Qb Qz)))) Nz)
    refine bS a fun a3 d7 a => XE 5 rfl (lC (enc := jc) (v := z) (vs := (.slice (some ⟨e4, 0, none⟩) 1 1)) (R := I) d lx dc lf al mW.1 mW.2.1 rfl mW.2.2.1 mW.2.2.2 rfl rfl Z (Sl.lit (enc := jc) (l := [Q.1]) lx rfl nb rfl (d.at_ (Ma Mh))) d7 (fun g8 h7 e3 d b9 => ?_))
    have n := d.has.oW i Sn
    have o := d.has.oW i (Dr (Db (Db (Kb Sn))))
    refine ⟨⟨n, fun _ => o⟩, (lT 6 rfl kr (.inl rfl) rfl dc (fun _ _ h => ⟨h.1, oF br h.2⟩) ⟨n, fun _ => o⟩ (fun _ _ _ _ => jh pv M) ?_)⟩
    obtain ⟨a7, a9, rfl⟩ := b9.form
    replace d := d.perm (Nb (Pr (Pb (Pb Pz))) Nz)
    refine XO 7 rfl (jD (.slice a7 a3.length a9) (#[(.int .i64 y.1), (.int .i64 j.1), (.slice a7 a3.length a9), (.slice none 0 0)]) d rfl rfl iX oc nb rfl (fun g9 d => ?_))
    have n := d.has.oW i Sn
    refine ⟨⟨n, fun h => JX kr h⟩, (kz kr (jV (jj ?_)))⟩
    replace d := d.je (Kb (Kr (Db St)))
    exact jk (Wh e6 (Wi rfl (Wa (ln ⟨f3, aY _, (IntKind.i64.wrap (T + 1)), (.slice a7 a3.length a9), a3, e3, Q.2, f4, _, (N.trans i), (q.trans P), (d.je (Kb (Sb (Pr Pz) (Sb (Pr Pz) St)))), Y, K, M, e5, rfl, b9, a⟩))))
   refine mI (lZ (lZ (sr (jj (sg (Wh Y (bS a fun x e0 a => ?_)))))))
   refine VE (eM d (Cb (Pb Pz) Cn) call104 (fun A _ => (IE g D 256 _ _ A  e0)) ?_)
   rintro _ h8 i1 g2 d a4 s p ⟨i0, g3, a2, rfl, c2⟩
   obtain rfl := a2.symm
   replace d := d.perm (Tb (Tr Tn))
   refine V (jh tu M) ?_
   obtain ⟨k, t, rfl⟩ := c2.form
   let d2 : Value := (.slice k x.1.length t)
   replace d := d.perm (Nb (Pb (Pr Pz)) Nz)
   refine VO (jD d2 (#[(.int .i64 y.1), (.int .i64 j.1), z, d2]) d rfl rfl iF oc nb rfl (fun h2 d => lS (Wh Y (Wn (Wf oL (VB d (Mt Mh) rfl rfl bl (Wi rfl (ln (CI a rfl (fun d8 a => ?_) (fun d8 a => ?_))))))))))
   ·refine sg (V (kO (v := (.agg C6.toArray)) sG (ku cJ cQ (MZ _ cQ) kr)) ?_)
    replace d := d.perm (Nb (Pb (Pb (Pr Pz))) Nz)
    refine VO (jD (.agg C6.toArray) (C6.toArray) d K rfl bz oc nb rfl (fun h3 d => ln ?_))
    replace d := d.je (Kb (Db (Kb (Dr (Dr St)))))
    refine jN (jE ?_)
    obtain rfl := sj a
    exact oE (v := (.agg C6.toArray)) rfl K (jm d.has Mh C6 rfl cD bz) ⟨_, _, _, rfl, (d.kF (Db (Kb Sn))), ((((c9.trans c0).trans c1).trans N).trans a4), ((((F.trans L).trans O).trans q).trans s), (ST.kf d (ly.mem (Db (Kb Sn)))), (.slice none 0 0), (.slice none 0 0), rfl, rfl, (Sl.nil _ _ _), (Sl.nil _ _ _)⟩
   refine kg (V (jf M (jm d.has Mh [(.int .i64 y.1), (.int .i64 j.1), z, d2] rfl cD bz)) ?_)
   obtain ⟨H, J, rfl⟩ := Z.form
   let b8 := (C2 y.1 j.1 H u.length J k x.1.length t)
   replace d := d.perm (Nb (Pb (Pb (Pr Pz))) Nz)
   refine VO (jD (.agg b8.toArray) (b8.toArray) d K rfl bz oc nb rfl (fun h4 d => ln ?_))
   replace d := d.je (Kb (Db St))
   refine jN ?_
   obtain rfl := sj a
   refine oE (v := (.agg b8.toArray)) rfl K (jm d.has Mh b8 rfl cD bz) ?_
   replace d := d.perm (Nr (Qb (Qb (Qr Qz))) Nz)
   obtain ⟨i2, d, c8, ab, e1⟩ := ST.xP d Z lx
   replace d := d.perm (Nr (Qb (Qb Qz)) Nz)
   obtain ⟨i3, d, a5, ad, e2⟩ := ST.xP d c2 mz
   exact ⟨_, _, _, rfl, (d.kF (Db (Kb Sn))), ((((((c9.trans c0).trans c1).trans N).trans a4).trans c8).trans a5), ((((((F.trans L).trans O).trans q).trans s).trans ab).trans ad), (ST.kf d (ly.mem (Db (Kb Sn)))), (.slice H u.length J), d2, rfl, rfl, (e1.mono (Pl.mono _) a5), e2⟩
  refine bC B (fun c B => ?_) (fun c B => ?_)
  ·refine ug c (jl b0) (ug c (kJ rfl) (ug c (jh oL rfl) (ug c (jf rfl (jq d.has (Mt Mh) rfl bl)) (ug c (kv rfl rfl rfl) (V (jz (cB c) rfl) ?_)))))
   obtain rfl := sj B
   exact a6 _ _ ⟨_, (d.je St), b0, c6, c7, b2, b4, rfl⟩
  refine un c (un c (un c (un c (un c (V (jA (cB c) rfl) ?_)))))
  obtain rfl := sj B
  exact a6 _ _ ⟨_, (d.je St), b0, c6, c7, b2, b4, rfl⟩
theorem Ge (k : Nat) (j : jr) (r : Int) (w : World) (i : At (hp w) (.pointer (some ⟨k, 0, none⟩)) (jG j)) (hm : qY j = some r) :
  jJ true pg0 43 [(.pointer (some ⟨k, 0, none⟩))] w (.int .i64 r) := by
 refine cG 19 func43 rfl (fun d => sg (Wa (lS (Wm (Wn (VQ (sZ [(.int .i64 j.E)] oL rfl i rfl) (fun M I => V (jf rfl (lL d.has (y := (.int .i64 j.E)) I bl)) (Wi rfl (Wm ?_)))))))))
 refine LJ hm (fun u E W => ∃ D, ST true jT w W (hp w) D ∧ E 0 = (.pointer (some ⟨k, 0, none⟩)) ∧ E 14 = (.bool u)) 6 ?_ (fun u g t => ?_)
 ·rintro N E W ⟨D, d, G, H⟩ c
  refine ln (CI c H (fun x c => ?_) (fun x c => ?_))
  ·refine sg (Wa (lt (jE ?_)))
   obtain rfl := sj c
   exact rP d
  exact kg (Wh G (Wn (VQ (sZ [(.int .i64 j.E)] oL rfl i rfl) (fun J z => V (jf rfl (lL d.has (y := (.int .i64 j.E)) z bl)) (Wa (lt (rQ c d)))))))
 refine bC g (fun a g => ?_) (fun a g => ?_)
 ·refine ug a (jl rfl) (ug a (kJ rfl) (Sf a (sZ [(.string j.S)] yn rfl i rfl) (fun K B => ug a (jf rfl (lL d.has (y := (.string j.S)) B aG)) (ug a (sQ rfl rfl rfl) (V (jz (cB a) rfl) ?_)))))
  obtain rfl := sj g
  exact t _ _ ⟨_, (d.je St), rfl, rfl⟩
 refine un a (un a (un a (un a (un a (V (jA (cB a) rfl) ?_)))))
 obtain rfl := sj g
 exact t _ _ ⟨_, (d.je St), rfl, rfl⟩
set_option maxHeartbeats 4000000 in
theorem Ed (a : jI) (a6 a5 : Value) (i : jI) (a8 a7 a3 : Value) (a2 : List Int) (r : Bool) (w : World) (t : Sl (Pl jc) 2 (hp w) a6 a.jM) (k : Sl (Pl js) 12 (hp w) a5 a.jO) (D : Sl (Pl jc) 2 (hp w) a8 i.jM) (B : Sl (Pl js) 12 (hp w) a7 i.jO) (d6 : Sl (Pl (jS .u8)) 1 (hp w) a3 a2) (hm : qW a i a2 = some r) :
  jJ false pg0 8 [(.agg #[(.int .i64 a.State), (.int .i64 a.lc), a6, a5]), (.agg #[(.int .i64 i.State), (.int .i64 i.lc), a8, a7]), a3] w (.bool r) := by
 refine cG 74 func8 rfl (fun d => sg ?_)
 obtain ⟨Q, Y, rfl⟩ := t.form
 let a9 : Value := (.slice Q a.jM.length Y)
 obtain ⟨T, Z, rfl⟩ := k.form
 let A : Value := (.slice T a.jO.length Z)
 let a0 := (C2 a.State a.lc Q a.jM.length Y T a.jO.length Z)
 refine VE (jU d rfl (fun W6 s d => ?_))
 obtain ⟨A7, c8, rfl⟩ := D.form
 let c2 : Value := (.slice A7 i.jM.length c8)
 obtain ⟨A9, U, rfl⟩ := B.form
 let R : Value := (.slice A9 i.jO.length U)
 let n := (C2 i.State i.lc A7 i.jM.length c8 A9 i.jO.length U)
 refine VE (jU d rfl (fun o1 q d => Wa (lS (bS hm fun o7 j5 hm => VE (Eg d call24 (IJ  _ _  j5) (fun o2 d => V (lM rfl) (ln (CI hm rfl (fun j3 hm => ?_) (fun j3 hm => ?_)))))))))
 ·refine sg (Wa (ln ?_))
  replace d := d.je (Db (Db St))
  refine jN (jE ?_)
  obtain rfl := sj hm
  exact rP d
 refine kn (jo (jo ?_))
 replace d := d.drew
 have h := d.has.je (Kb (Kb Sn))
 refine ko h jP (XH 0 rfl h (fun _ m => jf rfl (jm m (Mt Mh) a0 rfl cD bz)) (XH 2 rfl h (fun _ m => jf rfl (jm m Mh n rfl cD bz)) (bS hm fun o8 j6 hm => XE 1 rfl (Eg d call33 (jJ.kI (DU a a9 A _ _ (t.mono (Pl.mono _) d.ju) (k.mono (Pl.mono _) d.ju) j6)) (fun o3 d => ?_)))))
 have h := d.has.je (Kb (Kb Sn))
 refine ⟨h, (bS hm fun o9 j7 hm => XE 3 rfl (Eg d call33 (jJ.kI (DU i c2 R _ _ (D.mono (Pl.mono _) d.ju) (B.mono (Pl.mono _) d.ju) j7)) (fun o4 d => ?_)))⟩
 have h := d.has.je (Kb (Kb Sn))
 refine ⟨h, (X 4 rfl h (kv rfl rfl rfl) (X 5 rfl h (kv rfl rfl rfl) (X 6 rfl h (jl rfl) (PJ hm (fun f6 E W => ∃ i2, ST false jT w W (hp w) ((q, Ol n 64) :: ((s, Ol a0 64) :: i2)) ∧ E 2 = a3 ∧ E 3 = (.pointer (some ⟨s, 0, none⟩)) ∧ E 4 = (.pointer (some ⟨q, 0, none⟩)) ∧ E 25 = (.bool f6)) (bm 11 2047) 0 ?_ (fun f6 a4 d2 => ?_)))))⟩
 ·rintro p1 E W ⟨i2, d, i4, d8, i5, k3⟩ N
  refine kz kr (jj (CI N k3 (fun j4 N => ?_) (fun j4 N => ?_)))
  ·refine sg (Wa (ln ?_))
   replace d := d.je (Db (Db St))
   refine jN (jE ?_)
   obtain rfl := sj N
   exact rP d
  refine kg (V (kO (v := (.agg #[(.slice none 0 0)])) sG (ku ie cY (JU _ cY) kr)) (VE (jU d rfl (fun o5 i3 d => Wa (lr (V (jf d8 (jm d.has (Mt (Mt Mh)) a0 rfl cD bz)) (bS N fun p0 j8 N => VE (Eg d call35 (jJ.kI (IR a a9 A _ _ (t.mono (Pl.mono _) d.ju) (k.mono (Pl.mono _) d.ju) j8)) (fun o6 d => Wa ?_)))))))))
  refine ln (jo (jo ?_))
  replace d := d.drew
  have h := d.has.je (Db (Kb (Kb Sn)))
  refine ko h jP (X 0 rfl h (jl rfl) (XH 1 rfl h (fun _ m => jf d8 (jm m (Mt Mh) a0 rfl cD bz)) (X 3 rfl h (jl rfl) (X 4 rfl h (sQ rfl rfl rfl) (bS N fun j9 h0 N => ?_)))))
  refine XE 2 rfl (eM d (Cb Pz (C0 Cn)) call36 (fun L O => (BS i3 (.slice none 0 0) ([]) [] a a9 A _ _ L (jy.nil _ _ _) (t.mono (Pl.mono _) O) (k.mono (Pl.mono _) O) h0)) ?_)
  rintro _ n0 f9 k5 d c ab av ⟨k0, k9, c0, rfl, h9⟩
  obtain rfl := c0.symm
  replace d := d.perm (Tb (Tr Tn))
  have h := d.has.oW c (Db (Dr (Kb (Kb Sn))))
  refine ⟨h, (X 5 rfl h (KM underlying4 rfl rfl rfl) (X 6 rfl h (jl rfl) (PJ N (fun f5 E W => ∃ F e1, jC f9 F ∧ ST false jT w W F ((q, Ol n 64) :: ((s, Ol a0 64) :: e1)) ∧ E 2 = a3 ∧ E 3 = (.pointer (some ⟨s, 0, none⟩)) ∧ E 4 = (.pointer (some ⟨q, 0, none⟩)) ∧ E 42 = (.bool f5)) (bm 26 8191) 13 ?_ (fun f5 M d1 => ?_))))⟩
  ·rintro n4 E W ⟨F, e1, g, d, e6, d5, e7, i7⟩ g7
   have h := d.has.oW (c.trans g) (Kb (Kb Sn))
   refine X 13 rfl h (jl i7) (PJ g7 (fun f4 E W => ∃ e2, ST false jT w W F ((q, Ol n 64) :: ((s, Ol a0 64) :: e2)) ∧ E 2 = a3 ∧ E 3 = (.pointer (some ⟨s, 0, none⟩)) ∧ E 4 = (.pointer (some ⟨q, 0, none⟩)) ∧ E 46 = (.bool f4)) (bm 26 131071) 9 ?_ (fun f4 K d0 => ?_))
   ·rintro n5 E W ⟨e2, d, e8, e9, f0, i8⟩ g8
    have h := d.has.oW (c.trans g) (Kb (Kb Sn))
    refine X 17 rfl h (jl i8) (PJ g8 (fun f3 E W => ∃ e3, ST false jT w W F ((q, Ol n 64) :: ((s, Ol a0 64) :: e3)) ∧ E 2 = a3 ∧ E 55 = (.bool f3)) (bm 26 67108863) 0 ?_ (fun f3 G c9 => ?_))
    ·rintro n6 E W ⟨e3, d, f1, i9⟩ z
     refine kz kr (jj ?_)
     replace d := d.je (Db (Db St))
     refine CI z i9 (fun g4 z => ?_) (fun g4 z => ?_)
     ·refine sg (Wa (lt (jE ?_)))
      obtain rfl := sj z
      exact rP d
     refine kg (Wh f1 (V (CP bf da aP rfl (d6.mono (Pl.mono _) ((c.trans g).trans d.ju))) (V (kO (v := (.agg (jG (⟨(vY a2), 0⟩ : jr)).toArray)) (mf rfl) (ku zeroValue87 gw (Ud _ gw) kr)) (VE (jU d rfl (fun l1 e5 d => Wa (lr (VE (kl d cJ (fun l2 i6 d => jH ?_))))))))))
     refine jj (sg (Wh f1 (V (rF (by exact ny rfl) rfl) (bS z fun d7 h1 z => ?_))))
     refine VE (eD d (Cb Pz Cn) call39 (fun L => nr.kI (zb a3 a2 i6 K5 (.slice none 0 0) (.slice none 0 0) _ _ L (d6.mono (Pl.mono _) (c.trans g)) (Sl.nil _ _ _) (Sl.nil _ _ _) h1)) ?_)
     rintro _ n1 o0 k6 d k4 ad ⟨f7, f8, c1, rfl, i0, i1⟩
     obtain rfl := c1.symm
     replace d := d.perm (Tb Tn)
     refine Wa (lr (Wm (bS z fun x h2 z => ?_)))
     refine VE (eD d (Cb (Pb Pz) Cn) call42 (fun L => nr.kI (I2 e5 (⟨(vY a2), 0⟩ : jr) _ _ L  h2)) ?_)
     rintro _ n2 k1 k7 d c5 af ⟨n8, n9, c3, rfl, d9, e0⟩
     obtain rfl := c3.symm
     replace d := d.perm (Tb Tn)
     refine VE (kl d cJ (fun l5 m3 d => ?_))
     obtain ⟨b4, b7, rfl⟩ := d9.form
     let P : Value := (.slice b4 ((x.1).jM).length b7)
     obtain ⟨b6, b9, rfl⟩ := e0.form
     let b8 : Value := (.slice b6 ((x.1).jO).length b9)
     refine VO (jD (.agg #[(.int .i64 ((x.1).State)), (.int .i64 ((x.1).lc)), P, b8]) (#[(.int .i64 ((x.1).State)), (.int .i64 ((x.1).lc)), P, b8]) d rfl rfl bz oc nb rfl (fun l6 d => lr (VA d (Mt (Mt Mh)) [(.int .i64 ((d7.2).State)), (.int .i64 ((d7.2).lc)), f7, f8] cD bz (VA d Mh [(.int .i64 ((x.1).State)), (.int .i64 ((x.1).lc)), P, b8] cD bz (bS z fun m4 h3 z => VE (Eg d call38 (jJ.kI (Em d7.2 f7 f8 x.1 P b8 _ _ (i0.mono (Pl.mono _) (c5.trans d.ju)) (i1.mono (Pl.mono _) (c5.trans d.ju)) (d9.mono (Pl.mono _) d.ju) (e0.mono (Pl.mono _) d.ju) h3)) (fun l7 d => Wm (LJ z (fun f2 E W => ∃ e4, ST false jT w W k1 e4 ∧ E 73 = (.bool f2)) 5 ?_ (fun f2 J c7 => ?_)))))))))
     ·rintro n7 E W ⟨e4, d, j0⟩ g9
      exact Wg j0 (lt (rQ g9 d))
     refine bC J (fun y J => ?_) (fun y J => ?_)
     ·refine ug y (jl rfl) (ug y (jl rfl) (bS J fun m5 h4 J => pV y (Eg d call43 (jJ.kI (Ge e5 x.2 _ _ (At.of (d.at_ (Mt Mh)) _ rfl) h4)) (fun l8 d => ug y (kv rfl rfl rfl) (V (jz (cB y) rfl) ?_)))))
      obtain rfl := sj J
      exact c7 _ _ ⟨_, (d.je (Db (Db (Db St)))), rfl⟩
     refine un y (un y (un y (un y (V (jA (cB y) rfl) ?_))))
     obtain rfl := sj J
     exact c7 _ _ ⟨_, (d.je (Db (Db (Db St)))), rfl⟩
    refine bC G (fun j G => ?_) (fun j G => ?_)
    ·refine Xn 18 rfl rfl (cB j) h (Xn 19 rfl rfl (cB j) h (Xn 20 rfl rfl (cB j) h (Xn 21 rfl rfl (cB j) h (Xn 22 rfl rfl (cB j) h (Xn 23 rfl rfl (cB j) h (Xn 24 rfl rfl (cB j) h (X 25 rfl h (jz (cB j) rfl) ?_)))))))
     obtain rfl := sj G
     refine tL kr (c9 _ _ ⟨_, (d.je St), e8, rfl⟩)
    refine yo 18 rfl rfl (cB j) h (fun _ m => jf e9 (jm m (Mt Mh) a0 rfl cD bz)) (yo 19 rfl rfl (cB j) h (fun _ m => jf f0 (jm m Mh n rfl cD bz)) (yo 21 rfl rfl (cB j) h (fun _ m => jf e9 (jm m (Mt Mh) a0 rfl cD bz)) (yo 22 rfl rfl (cB j) h (fun _ m => jf f0 (jm m Mh n rfl cD bz)) (bS G fun m6 h5 G => Is 20 rfl rfl (cB j) (Eg d call28 (jJ.kI (CC a a9 A i c2 R _ _ (t.mono (Pl.mono _) ((c.trans g).trans d.ju)) (k.mono (Pl.mono _) ((c.trans g).trans d.ju)) (D.mono (Pl.mono _) ((c.trans g).trans d.ju)) (B.mono (Pl.mono _) ((c.trans g).trans d.ju)) h5)) (fun l9 d => ?_))))))
    have h := d.has.oW (c.trans g) (Kb (Kb Sn))
    refine ⟨h, (bS G fun m7 h6 G => Is 23 rfl rfl (cB j) (Eg d call38 (jJ.kI (Em a a9 A i c2 R _ _ (t.mono (Pl.mono _) ((c.trans g).trans d.ju)) (k.mono (Pl.mono _) ((c.trans g).trans d.ju)) (D.mono (Pl.mono _) ((c.trans g).trans d.ju)) (B.mono (Pl.mono _) ((c.trans g).trans d.ju)) h6)) (fun m0 d => ?_)))⟩
    have h := d.has.oW (c.trans g) (Kb (Kb Sn))
    refine ⟨h, (Xg 24 rfl rfl (cB j) h (KM underlying4 rfl rfl rfl) (X 25 rfl h (jA (cB j) rfl) ?_))⟩
    obtain rfl := sj G
    refine tL kr (c9 _ _ ⟨_, (d.je St), e8, rfl⟩)
   refine bC K (fun H K => ?_) (fun H K => ?_)
   ·refine Xn 14 rfl rfl (cB H) h (Xn 15 rfl rfl (cB H) h (X 16 rfl h (jz (cB H) rfl) ?_))
    obtain rfl := sj K
    refine tL kr (d0 _ _ ⟨_, (d.je St), e6, d5, e7, rfl⟩)
   refine yo 14 rfl rfl (cB H) h (fun _ m => jf d5 (jm m (Mt Mh) a0 rfl cD bz)) (bS K fun m8 h7 K => Is 15 rfl rfl (cB H) (Eg d call36 (jJ.kI (FB a a9 A _ _ (t.mono (Pl.mono _) ((c.trans g).trans d.ju)) (k.mono (Pl.mono _) ((c.trans g).trans d.ju)) h7)) (fun m1 d => ?_)))
   have h := d.has.oW (c.trans g) (Kb (Kb Sn))
   refine ⟨h, (X 16 rfl h (jA (cB H) rfl) ?_)⟩
   obtain rfl := sj K
   refine tL kr (d0 _ _ ⟨_, (d.je St), e6, d5, e7, rfl⟩)
  refine bC M (fun u M => ?_) (fun u M => ?_)
  ·refine Xn 7 rfl rfl (cB u) h (Xn 8 rfl rfl (cB u) h (Xn 9 rfl rfl (cB u) h (Xn 10 rfl rfl (cB u) h (Xn 11 rfl rfl (cB u) h (X 12 rfl h (jz (cB u) rfl) ?_)))))
   obtain rfl := sj M
   refine tL kr (d1 _ _ ⟨f9, _, (jC.refl _), (d.je (Db (Dr St))), i4, d8, i5, rfl⟩)
  refine Xg 7 rfl rfl (cB u) h (jl rfl) (Xg 10 rfl rfl (cB u) h (jl rfl) (bS M fun m9 h8 M => Is 8 rfl rfl (cB u) (rC d call37 (kw.kI (vw i3 k0 j9.2 _ _ (h9.sl (fun _ => rfl) (fun b o hq => d.at_ (Mt (Ml hq)))) (At.of (d.at_ Mh) _ rfl) h8)) (fun m2 n3 k2 k8 d c6 ao g3 => ?_))))
  have h := d.has.oW (c.trans c6) (Dr (Db (Dr (Kb (Kb Sn)))))
  refine ⟨h, (PB 9 rfl kr (.inr ⟨6, false, 36, rfl, rfl, by decide, (cB u)⟩) rfl dc (.inl ⟨_, _, CP bf da aP rfl (g3.Sh (fun _ => rfl) d (fun p hq => (Ml hq))), ⟨h, (Xg 11 rfl rfl (cB u) h (sQ rfl rfl rfl) (X 12 rfl h (jA (cB u) rfl) ?_))⟩⟩))⟩
  obtain rfl := sj M
  refine tL kr (d1 _ _ ⟨k2, _, c6, (d.je (Dr (Db (Dr St)))), i4, d8, i5, rfl⟩)
 refine bC a4 (fun I a4 => ?_) (fun I a4 => ?_)
 ·refine Xn 7 rfl rfl (cB I) h (Xn 8 rfl rfl (cB I) h (Xn 9 rfl rfl (cB I) h (X 10 rfl h (jz (cB I) rfl) ?_)))
  obtain rfl := sj a4
  refine tL kr (d2 _ _ ⟨_, (d.je St), rfl, rfl, rfl, rfl⟩)
 refine Xg 7 rfl rfl (cB I) h (jl rfl) (Xg 8 rfl rfl (cB I) h (kj bf rfl d6) (Xg 9 rfl rfl (cB I) h (kv rfl rfl rfl) (X 10 rfl h (jA (cB I) rfl) ?_)))
 obtain rfl := sj a4
 refine tL kr (d2 _ _ ⟨_, (d.je St), rfl, rfl, rfl, rfl⟩)
end Go.Proofs.YtbnbdigcbldfhaaGreat
