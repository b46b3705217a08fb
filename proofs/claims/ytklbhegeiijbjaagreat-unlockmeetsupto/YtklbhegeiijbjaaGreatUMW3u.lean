/- a part of a proof of UnlockMeets -/
import Derived.Test.YtklbhegeiijbjaaGreatUMW2u
set_option linter.all false
namespace Go.Proofs.YtklbhegeiijbjaaGreat
open Go.IntKind renaming wrap → wi0
open Go.Proofs.Tryz renaming prog → pg0
open Go.RowKit
set_option maxRecDepth 10000
open Tryz
set_option maxHeartbeats 1000000 in
theorem IH (r : Bool) (w : World) (hm : wo  = some r) :
  kN false pg0 9 [] w (.bool r) := by
 let am : Value := (.agg (km EE).toArray)
 let r7 : Value := (.func (.func 46) #[] #[])
 refine cG 93 func9 rfl (fun d => sg (Wa (lr (Wa (lr (V (mK (v := (.agg (ki K7).toArray)) (oP rfl rfl) (me dv cW (HO _ cW) kr)) (V (mK (v := am) (Hx rfl rfl rfl) (me dn dM (Pt _ dM) kr)) ?_)))))))
 refine VE (ll d dn (fun W2 F d => VO (kJ am ((km EE).toArray) d rfl rfl aT (ph EE) nb rfl (fun W3 d => lr (V (mK (v := (.agg (ki K9).toArray)) (oP rfl rfl) (me dv cW (HO _ cW) kr)) (V (mK (v := (.agg (km Ig).toArray)) (Hx rfl rfl rfl) (me dn dM (Pt _ dM) kr)) (VE (ll d dn (fun W5 L d => VO (kJ (.agg (km Ig).toArray) ((km Ig).toArray) d rfl rfl aT (ph Ig) nb rfl (fun W6 d => lr (Wa ?_))))))))))))
 refine lr (Wm (VA d Mh (km Ig) cE aT (V (mK (v := (.agg C9.toArray)) (nh rfl) (me bK cD (Ar _ cD) kr)) (bS hm fun U t2 hm => ?_))))
 let j2 := (⟨K2, U, []⟩ : lD)
 refine VE (Hh d (bI _) call47 (fun hH p m q => mj.lZ (vW Ig (⟨2, 0, K0, []⟩ : Formula) (.slice none 0 0) _ _ ⟨hH, p, m⟩ (Sl.nil _ _ _) t2)) (fun W9 af t3 ac d t9 ba r8 => ?_) (L0 := []))
 let g6 : Value := (.pointer (some ⟨L, 0, none⟩))
 let g5 : Value := (.pointer (some ⟨F, 0, none⟩))
 obtain ⟨ag, h7, rfl, d1⟩ := r8
 replace h7 := h7.symm; subst h7
 replace d := d.perm Tn
 obtain ⟨H, I, rfl⟩ := d1.form
 let aj : Value := (.slice H U.length I)
 refine V (mK (v := (.agg (C8 H U.length I).toArray)) (oP rfl rfl) (me fM ek (MH _ ek) kr)) (VE (ll d fM (fun ad A d => VO (kJ (.agg (C8 H U.length I).toArray) ((C8 H U.length I).toArray) d rfl rfl dB oc nb rfl (fun ae d => ln (kA ?_))))))
 let j1 : Value := (.pointer (some ⟨A, 0, none⟩))
 replace d := d.drew
 have l := d.has.kh (Db (Kb (Kb Sn)))
 refine lm l kP (X 0 rfl l (ko rfl) (XH 1 rfl l (fun _ n => kl rfl (kx n (Mt Mh) (km EE) rfl cE aT)) (X 2 rfl l (ko rfl) (X 3 rfl l (ky rr rfl) (XH 4 rfl l (fun _ n => kl rfl (kx n Mh (ki K9) rfl bo aG)) (PJ hm (fun a9 E W => ∃ K i0 f0 f1 f2 P i6, kH t3 P ∧ ST false lM w W P ((K, Ob #[(.string a9.2.2.2.1), f1, f2] 25) :: ((A, Ol (C8 H U.length I) 25) :: ((L, Ol (km Ig) 52) :: ((F, Ol (km EE) 52) :: i6)))) ∧ E 1 = r7 ∧ E 2 = g5 ∧ E 3 = g6 ∧ E 5 = j1 ∧ E 6 = (.pointer (some ⟨K, 0, none⟩)) ∧ E 28 = (.agg #[(.string a9.1), i0, f0]) ∧ Sl mh 15 P i0 a9.2.1 ∧ Sl mN 8 P f0 a9.2.2.1 ∧ Fr w.heap.size f0 ∧ Sl mh 15 P f1 a9.2.2.2.2.1 ∧ Fr w.heap.size f1 ∧ Sl mN 8 P f2 a9.2.2.2.2.2 ∧ Fr w.heap.size f2) (bm 10 511) 1 ?_ (fun a9 D d2 => ?_)))))))
 ·let f4 := ((km EE).toArray : Array Value)
  let R := ((km Ig).toArray : Array Value)
  let b8 := ((C8 H U.length I).toArray : Array Value)
  rintro ⟨B, g, j, y6, x1, x2⟩ E W ⟨K, i0, f0, f1, f2, P, i6, a0, d, h0, h1, j6, d7, c6, q1, c0, c1, t6, u0, t7, u1, t8⟩ a4
  let ai : Value := (.pointer (some ⟨K, 0, none⟩))
  let ah := (⟨B, g, j⟩ : lD)
  obtain ⟨t, x, rfl⟩ := c0.form
  let ak : Value := (.slice t g.length x)
  obtain ⟨u, y, rfl⟩ := c1.form
  let al : Value := (.slice u j.length y)
  let s := (C3 B t g.length x u j.length y)
  refine XO 9 rfl (kJ (.agg s.toArray) (s.toArray) d c6 q1 dB oc nb rfl (fun v5 d => ?_))
  have l := d.has.qe a0 (Db (Db (Kb (Kb Sn))))
  refine ⟨l, (lF kr (ku (sg (V (kl d7 (kx d.has (Mt Mh) (C8 H U.length I) rfl dV dB)) (V (kl c6 (kx d.has Mh s rfl dV dB)) (bS a4 fun r9 o1 a4 => ?_))))))⟩
  refine VE (B6 d (bI _) call11 (fun _ _ _ _ => (Ab j2 aj (.slice none 0 0) ah ak al _ _ (d1.mono mG.mono (a0.trans d.kw)) (Sl.nil _ _ _) (c0.mono mG.mono d.kw) (c1.mono pe.mono d.kw) o1)) (fun v6 x7 z8 u4 d J ap an m3 => ?_) (L0 := []))
  obtain ⟨z4, v3, z5, v4, d8, rfl, p2, p3⟩ := m3
  replace d8 := d8.symm; subst d8
  replace d := d.perm (Tr (Tr Tn))
  refine Wm (Wx rfl (Wx rfl (Wx rfl (Wa (Wa (Wa (ln (kA ?_))))))))
  replace d := d.drew
  have l := d.has.kh (Dr (Dr (Kb (Kb (Db (Kb Sn))))))
  refine lm l kP (XH 0 rfl l (fun _ n => kl d7 (kx n (Mt Mh) (C8 H U.length I) rfl dV dB)) (XH 1 rfl l (fun _ n => kl c6 (kx n Mh s rfl dV dB)) (X 2 rfl l (ko h0) (X 3 rfl l (ky rr h1) (XH 4 rfl l (fun _ n => kl rfl (kx n (Mt (Mt Mh)) (ki K7) rfl bo aG)) (bS a4 fun s0 o2 a4 => ?_))))))
  refine XE 5 rfl (Hh d (bI _) call46 (fun hH p m q => mj.lZ (uc K7 _ _ ⟨hH, p, m⟩  o2)) (fun v7 x8 z9 u5 d z aq m4 => ?_) (L0 := []))
  obtain ⟨s4, d9, rfl, p4⟩ := m4
  replace d9 := d9.symm; subst d9
  replace d := d.perm Tn
  have l := d.has.qe z (Dr (Dr (Kb (Kb (Db (Kb Sn))))))
  refine ⟨l, (bS a4 fun e9 o3 a4 => ?_)⟩
  refine XE 6 rfl (B6 d (bI _) call48 (fun _ _ _ _ => (H3 j2 aj (.slice none 0 0) ah ak al s0 s4 _ _ (d1.mono mG.mono (((a0.trans J).trans z).trans d.kw)) (Sl.nil _ _ _) (c0.mono mG.mono ((J.trans z).trans d.kw)) (c1.mono pe.mono ((J.trans z).trans d.kw)) (p4.mono kz.mono d.kw) o3)) (fun v8 x9 f3 u6 d Y ar an m5 => ?_) (L0 := []))
  obtain ⟨c3, O, e0, rfl, e7⟩ := m5
  replace e0 := e0.symm; subst e0
  replace d := d.perm (Tr Tn)
  have l := d.has.qe (z.trans Y) (Dr (Dr (Dr (Kb (Kb (Db (Kb Sn)))))))
  refine ⟨l, (X 7 rfl l (ko rfl) (X 8 rfl l (Al rfl rfl) (X 9 rfl l (Al rfl rfl) (X 10 rfl l (ol rfl) (X 11 rfl l (ol rfl) (lF kr (ku (kA ?_))))))))⟩
  replace d := d.drew
  have l := d.has.kh (Kr (Dr (Dr (Kb (Kb (Kb (Kb Sn)))))))
  refine lm l kP (X 0 rfl l (ko rfl) (X 1 rfl l (mY aY rfl p2) (X 2 rfl l (lW rfl rfl rfl) (X 3 rfl l (ko rfl) (PJ a4 (fun m2 E W => ∃ i7, ST false lM w W f3 ((K, Ol s 25) :: ((A, Obj.cells b8 25 (0, 0)) :: ((L, Obj.cells R 52 (0, 0)) :: ((F, Obj.cells f4 52 (0, 0)) :: (O ++ i7))))) ∧ E 1 = r7 ∧ E 2 = g5 ∧ E 3 = g6 ∧ E 5 = j1 ∧ E 6 = ai ∧ E 9 = (.int .i64 r9.2.2) ∧ E 10 = c3 ∧ E 11 = (.bool e9.2) ∧ E 53 = (.bool m2)) (bm 48 255) 40 ?_ (fun m2 b9 g3 => ?_))))))
  ·rintro y7 E W ⟨i7, d, j7, j8, j9, k0, k1, q2, k2, k3, q3⟩ n2
   have l := d.has.kh (Sr (Qb (Qb (Qb (Qb Qz)))) (Kb (Kb (Kb (Kb Sn)))))
   refine X 8 rfl l (ko q3) (PJ n2 (fun m1 E W => ∃ i8, ST false lM w W f3 ((K, Ol s 25) :: ((A, Obj.cells b8 25 (0, 0)) :: ((L, Obj.cells R 52 (0, 0)) :: ((F, Obj.cells f4 52 (0, 0)) :: (O ++ i8))))) ∧ E 1 = r7 ∧ E 2 = g5 ∧ E 3 = g6 ∧ E 5 = j1 ∧ E 6 = ai ∧ E 10 = c3 ∧ E 11 = (.bool e9.2) ∧ E 57 = (.bool m1)) (bm 48 4095) 36 ?_ (fun m1 b7 g2 => ?_))
   ·rintro y8 E W ⟨i8, d, h2, h3, k4, h4, h5, k5, k6, q4⟩ n3
    have l := d.has.kh (Sr (Qb (Qb (Qb (Qb Qz)))) (Kb (Kb (Kb (Kb Sn)))))
    refine X 12 rfl l (ko q4) (PJ n3 (fun m0 E W => ∃ d3 i9, kH f3 d3 ∧ ST false lM w W d3 ((K, Ol s 25) :: ((A, Obj.cells b8 25 (0, 0)) :: ((L, Obj.cells R 52 (0, 0)) :: ((F, Obj.cells f4 52 (0, 0)) :: (O ++ i9))))) ∧ E 1 = r7 ∧ E 2 = g5 ∧ E 3 = g6 ∧ E 5 = j1 ∧ E 6 = ai ∧ E 10 = c3 ∧ E 11 = (.bool e9.2) ∧ E 66 = (.bool m0)) (bm 48 2097151) 27 ?_ (fun m0 T g1 => ?_))
    ·rintro y9 E W ⟨d3, i9, G, d, q5, k7, q6, q7, q8, k8, k9, q9⟩ n4
     have l := d.has.qe G (Sr (Qb (Qb (Qb (Qb Qz)))) (Kb (Kb (Kb (Kb Sn)))))
     refine X 21 rfl l (ko q9) (PJ n4 (fun l9 E W => ∃ c4 j0, kH d3 c4 ∧ ST false lM w W c4 ((K, Ol s 25) :: ((A, Obj.cells b8 25 (0, 0)) :: ((L, Obj.cells R 52 (0, 0)) :: ((F, Obj.cells f4 52 (0, 0)) :: (O ++ j0))))) ∧ E 2 = g5 ∧ E 10 = c3 ∧ E 11 = (.bool e9.2) ∧ E 76 = (.bool l9)) (bm 48 2147483647) 17 ?_ (fun l9 Q g0 => ?_))
     ·rintro z0 E W ⟨c4, j0, b3, d, l0, l1, r0, r1⟩ n5
      have l := d.has.qe (G.trans b3) (Sr (Qb (Qb (Qb (Qb Qz)))) (Kb (Kb (Kb (Kb Sn)))))
      refine X 31 rfl l (ko r1) (PJ n5 (fun l8 E W => ∃ j3, ST false lM w W c4 ((K, Ol s 25) :: ((A, Obj.cells b8 25 (0, 0)) :: ((L, Obj.cells R 52 (0, 0)) :: ((F, Obj.cells f4 52 (0, 0)) :: (O ++ j3))))) ∧ E 2 = g5 ∧ E 10 = c3 ∧ E 79 = (.bool l8)) (bm 48 17179869183) 14 ?_ (fun l8 b6 f9 => ?_))
      ·rintro z1 E W ⟨j3, d, l2, h6, r2⟩ n6
       have l := d.has.qe (G.trans b3) (Sr (Qb (Qb (Qb (Qb Qz)))) (Kb (Kb (Kb (Kb Sn)))))
       refine X 34 rfl l (ko r2) (PJ n6 (fun l7 E W => ∃ j4, ST false lM w W c4 ((K, Ol s 25) :: ((A, Obj.cells b8 25 (0, 0)) :: ((L, Obj.cells R 52 (0, 0)) :: ((F, Obj.cells f4 52 (0, 0)) :: (O ++ j4))))) ∧ E 2 = g5 ∧ E 10 = c3 ∧ E 84 = (.bool l7)) (bm 48 549755813887) 9 ?_ (fun l7 b5 f8 => ?_))
       ·rintro z2 E W ⟨j4, d, r3, r4, r5⟩ n7
        have l := d.has.qe (G.trans b3) (Sr (Qb (Qb (Qb (Qb Qz)))) (Kb (Kb (Kb (Kb Sn)))))
        refine X 39 rfl l (ko r5) (PJ n7 (fun l6 E W => ∃ j5, ST false lM w W c4 ((K, Ol s 25) :: ((A, Obj.cells b8 25 (0, 0)) :: ((L, Obj.cells R 52 (0, 0)) :: ((F, Obj.cells f4 52 (0, 0)) :: (O ++ j5))))) ∧ E 92 = (.bool l6)) (bm 48 140737488355327) 1 ?_ (fun l6 a5 f7 => ?_))
        ·rintro z3 E W ⟨j5, d, r6⟩ n8
         have l := d.has.qe (G.trans b3) (Sr (Qb (Qb (Qb (Qb Qz)))) (Kb (Kb (Kb (Kb Sn)))))
         refine X 47 rfl l (ol r6) (lF kr (ku ?_))
         exact kM (rQ n8 d)
        refine bC a5 (fun k a5 => ?_) (fun k a5 => ?_)
        ·refine Xg 40 rfl rfl (cB k) l (ko r4) (bS a5 fun i1 e6 a5 => uE 41 rfl kr (.inr ⟨39, true, 85, rfl, rfl, by decide, (cB k)⟩) rfl dc (fun _ _ h => h) l (mS (i := 0) (x0 := i1) bL dA rfl rfl e7 (kI e6) (kF e6)) (fun x3 n9 => uE 42 rfl kr (.inr ⟨39, true, 85, rfl, rfl, by decide, (cB k)⟩) rfl dc (fun _ _ h => h) l (xn (km i1.ke) KV rfl (AE.at e7 px n9 (kF e6)) rfl) (fun x4 o0 => xf 43 rfl rfl (cB k) l (fun _ n => kl rfl (kO (og.hp _) (o0.mono (mE (fun b o hq => n.2 b o (Ml hq)))) cE aT)) (xf 44 rfl rfl (cB k) l (fun _ n => kl r3 (kx n (Ma (Mt (Mt (Mt Mh)))) (km EE) rfl cE aT)) (Xg 45 rfl rfl (cB k) l (wQ rfl rfl (ow fB) (sU (yG _ i1.ke EE))) (X 46 rfl l (lg (cB k) rfl) ?_))))))
         obtain rfl := sj a5
         refine pf kr (f7 _ _ ⟨_, (d.kh St), rfl⟩)
        refine Xn 40 rfl rfl (cB k) l (Xn 41 rfl rfl (cB k) l (Xn 42 rfl rfl (cB k) l (Xn 43 rfl rfl (cB k) l (Xn 44 rfl rfl (cB k) l (Xn 45 rfl rfl (cB k) l (X 46 rfl l (li (cB k) rfl) ?_))))))
        obtain rfl := sj a5
        refine pf kr (f7 _ _ ⟨_, (d.kh St), rfl⟩)
       refine bC b5 (fun N b5 => ?_) (fun N b5 => ?_)
       ·refine Xg 35 rfl rfl (cB N) l (ko h6) (Xg 36 rfl rfl (cB N) l (mY bL rfl e7) (Xg 37 rfl rfl (cB N) l (lW rfl rfl rfl) (X 38 rfl l (lg (cB N) rfl) ?_)))
        obtain rfl := sj b5
        refine pf kr (f8 _ _ ⟨_, (d.kh St), l2, h6, rfl⟩)
       refine Xn 35 rfl rfl (cB N) l (Xn 36 rfl rfl (cB N) l (Xn 37 rfl rfl (cB N) l (X 38 rfl l (li (cB N) rfl) ?_)))
       obtain rfl := sj b5
       refine pf kr (f8 _ _ ⟨_, (d.kh St), l2, h6, rfl⟩)
      refine bC b6 (fun b2 b6 => ?_) (fun b2 b6 => ?_)
      ·refine Xg 32 rfl rfl (cB b2) l (ko r0) (X 33 rfl l (lg (cB b2) rfl) ?_)
       obtain rfl := sj b6
       refine pf kr (f9 _ _ ⟨_, (d.kh St), l0, l1, rfl⟩)
      refine Xn 32 rfl rfl (cB b2) l (X 33 rfl l (li (cB b2) rfl) ?_)
      obtain rfl := sj b6
      refine pf kr (f9 _ _ ⟨_, (d.kh St), l0, l1, rfl⟩)
     refine bC Q (fun a Q => ?_) (fun a Q => ?_)
     ·refine xf 22 rfl rfl (cB a) l (fun _ n => kl q7 (kx n (Ma (Mt Mh)) (C8 H U.length I) rfl dV dB)) (xf 23 rfl rfl (cB a) l (fun _ n => kl q8 (kx n (Ma Mh) s rfl dV dB)) (Xg 24 rfl rfl (cB a) l (ko q5) (Xg 25 rfl rfl (cB a) l (ky rr q6) (xf 26 rfl rfl (cB a) l (fun _ n => kl rfl (kx n (Ma (Mt (Mt Mh))) (ki K9) rfl bo aG)) (bS Q fun s1 o4 Q => ?_)))))
      refine Iu 27 rfl rfl (cB a) (Hh d (bI _) call46 (fun hH p m q => mj.lZ (uc K9 _ _ ⟨hH, p, m⟩  o4)) (fun v9 y0 s8 u7 d a1 au m6 => ?_) (L0 := []))
      obtain ⟨s5, e1, rfl, p5⟩ := m6
      replace e1 := e1.symm; subst e1
      replace d := d.perm Tn
      have l := d.has.qe (G.trans a1) (Sr (Qb (Qb (Qb (Qb Qz)))) (Kb (Kb (Kb (Kb Sn)))))
      refine ⟨l, (bS Q fun x5 o5 Q => Iu 28 rfl rfl (cB a) (Eg d call49 (Cc j2 aj (.slice none 0 0) ah ak al s1 s5 _ _ (d1.mono mG.mono ((((((a0.trans J).trans z).trans Y).trans G).trans a1).trans d.kw)) (Sl.nil _ _ _) (c0.mono mG.mono (((((J.trans z).trans Y).trans G).trans a1).trans d.kw)) (c1.mono pe.mono (((((J.trans z).trans Y).trans G).trans a1).trans d.kw)) (p5.mono kz.mono d.kw) o5) (fun w0 d => ?_)))⟩
      have l := d.has.qe (G.trans a1) (Sr (Qb (Qb (Qb (Qb Qz)))) (Kb (Kb (Kb (Kb Sn)))))
      refine ⟨l, (Xg 29 rfl rfl (cB a) l (nT rfl) (X 30 rfl l (lg (cB a) rfl) ?_))⟩
      obtain rfl := sj Q
      refine pf kr (g0 _ _ ⟨s8, _, a1, (d.kh St), k7, k8, k9, rfl⟩)
     refine Xn 22 rfl rfl (cB a) l (Xn 23 rfl rfl (cB a) l (Xn 24 rfl rfl (cB a) l (Xn 25 rfl rfl (cB a) l (Xn 26 rfl rfl (cB a) l (Xn 27 rfl rfl (cB a) l (Xn 28 rfl rfl (cB a) l (Xn 29 rfl rfl (cB a) l (X 30 rfl l (li (cB a) rfl) ?_))))))))
     obtain rfl := sj Q
     refine pf kr (g0 _ _ ⟨d3, _, (kH.refl _), (d.kh St), k7, k8, k9, rfl⟩)
    refine bC T (fun c T => ?_) (fun c T => ?_)
    ·refine xf 13 rfl rfl (cB c) l (fun _ n => kl h4 (kx n (Ma (Mt Mh)) (C8 H U.length I) rfl dV dB)) (xf 14 rfl rfl (cB c) l (fun _ n => kl h5 (kx n (Ma Mh) s rfl dV dB)) (Xg 15 rfl rfl (cB c) l (ko h2) (Xg 16 rfl rfl (cB c) l (ky rr h3) (xf 17 rfl rfl (cB c) l (fun _ n => kl rfl (kx n (Ma (Mt (Mt (Mt Mh)))) (ki K7) rfl bo aG)) (bS T fun s2 o6 T => ?_)))))
     refine Iu 18 rfl rfl (cB c) (Hh d (bI _) call46 (fun hH p m q => mj.lZ (uc K7 _ _ ⟨hH, p, m⟩  o6)) (fun w1 y1 s9 u8 d a2 av m7 => ?_) (L0 := []))
     obtain ⟨s6, e2, rfl, p6⟩ := m7
     replace e2 := e2.symm; subst e2
     replace d := d.perm Tn
     have l := d.has.qe a2 (Sr (Qb (Qb (Qb (Qb Qz)))) (Kb (Kb (Kb (Kb Sn)))))
     refine ⟨l, (bS T fun x6 o7 T => Iu 19 rfl rfl (cB c) (Eg d call49 (Cc j2 aj (.slice none 0 0) ah ak al s2 s6 _ _ (d1.mono mG.mono (((((a0.trans J).trans z).trans Y).trans a2).trans d.kw)) (Sl.nil _ _ _) (c0.mono mG.mono ((((J.trans z).trans Y).trans a2).trans d.kw)) (c1.mono pe.mono ((((J.trans z).trans Y).trans a2).trans d.kw)) (p6.mono kz.mono d.kw) o7) (fun w2 d => ?_)))⟩
     have l := d.has.qe a2 (Sr (Qb (Qb (Qb (Qb Qz)))) (Kb (Kb (Kb (Kb Sn)))))
     refine ⟨l, (X 20 rfl l (lg (cB c) rfl) ?_)⟩
     obtain rfl := sj T
     refine pf kr (g1 _ _ ⟨s9, _, a2, (d.kh St), h2, h3, k4, h4, h5, k5, k6, rfl⟩)
    refine Xn 13 rfl rfl (cB c) l (Xn 14 rfl rfl (cB c) l (Xn 15 rfl rfl (cB c) l (Xn 16 rfl rfl (cB c) l (Xn 17 rfl rfl (cB c) l (Xn 18 rfl rfl (cB c) l (Xn 19 rfl rfl (cB c) l (X 20 rfl l (li (cB c) rfl) ?_)))))))
    obtain rfl := sj T
    refine pf kr (g1 _ _ ⟨f3, _, (kH.refl _), (d.kh St), h2, h3, k4, h4, h5, k5, k6, rfl⟩)
   refine bC b7 (fun a3 b7 => ?_) (fun a3 b7 => ?_)
   ·refine Xg 9 rfl rfl (cB a3) l (ko q2) (Xg 10 rfl rfl (cB a3) l (lW rfl rfl rfl) (X 11 rfl l (lg (cB a3) rfl) ?_))
    obtain rfl := sj b7
    refine pf kr (g2 _ _ ⟨_, (d.kh St), j7, j8, j9, k0, k1, k2, k3, rfl⟩)
   refine Xn 9 rfl rfl (cB a3) l (Xn 10 rfl rfl (cB a3) l (X 11 rfl l (li (cB a3) rfl) ?_))
   obtain rfl := sj b7
   refine pf kr (g2 _ _ ⟨_, (d.kh St), j7, j8, j9, k0, k1, k2, k3, rfl⟩)
  refine bC b9 (fun M b9 => ?_) (fun M b9 => ?_)
  ·refine Xg 4 rfl rfl (cB M) l (ko rfl) (Xg 5 rfl rfl (cB M) l (mY aY rfl p3) (Xg 6 rfl rfl (cB M) l (lW rfl rfl rfl) (X 7 rfl l (lg (cB M) rfl) ?_)))
   obtain rfl := sj b9
   refine pf kr (g3 _ _ ⟨_, (d.kh (Sb (Pr (Pr (Pr Pz))) (Sb (Pr (Pr (Pr Pz))) (Sb (Pr (Pr (Pr Pz))) (Sb (Pr (Pr (Pr Pz))) (Kr (Dr (Dr St)))))))), h0, h1, j6, d7, c6, rfl, rfl, rfl, rfl⟩)
  refine Xn 4 rfl rfl (cB M) l (Xn 5 rfl rfl (cB M) l (Xn 6 rfl rfl (cB M) l (X 7 rfl l (li (cB M) rfl) ?_)))
  obtain rfl := sj b9
  refine pf kr (g3 _ _ ⟨_, (d.kh (Sb (Pr (Pr (Pr Pz))) (Sb (Pr (Pr (Pr Pz))) (Sb (Pr (Pr (Pr Pz))) (Sb (Pr (Pr (Pr Pz))) (Kr (Dr (Dr St)))))))), h0, h1, j6, d7, c6, rfl, rfl, rfl, rfl⟩)
 refine G3 5 8 rfl rfl kr (.inl rfl) (.inl rfl) rfl rfl dc dc ?_ ?_
 ·refine bS D fun c2 o8 D => ?_
  refine Gu (args := [(.agg (ki K9).toArray)]) (caps := #[]) [] _ d (bI _) rfl call46 (by exact sW rfl) (fun hH p m q => mj.lZ (uc K9 _ _ ⟨hH, p, m⟩  o8)) (fun w3 y2 aa u9 d Z aw m8 => ?_)
  obtain ⟨i2, e3, rfl, i3⟩ := m8
  replace e3 := e3.symm; subst e3
  replace d := d.perm Tn
  have l := d.has.qe Z (Db (Kb (Kb Sn)))
  refine ⟨l, (G3 6 8 rfl rfl kr (.inl rfl) (.inl rfl) rfl rfl dc dc ?_ ?_)⟩
  ·refine bS D fun h8 o9 D => ?_
   refine Gu (args := [am, (.agg #[(.int .i64 ((c2).Op)), (.int .i64 ((c2).K)), (.string (((c2).kd).kj)), (.string (((c2).kd).kq)), i2])]) (caps := #[]) [] _ d (bI _) rfl call47 (by exact ta rfl rfl) (fun hH p m q => mj.lZ (vW EE c2 i2 _ _ ⟨hH, p, m⟩ (i3.mono kz.mono (kH.refl _)) o9)) (fun w4 y3 t0 v0 d c7 ay m9 => ?_)
   obtain ⟨z6, e4, rfl, i4⟩ := m9
   replace e4 := e4.symm; subst e4
   replace d := d.perm Tn
   have l := d.has.qe (Z.trans c7) (Db (Kb (Kb Sn)))
   refine ⟨l, ?_⟩
   obtain ⟨g4, g8, rfl⟩ := i4.form
   refine X 7 rfl l (mK (v := (.agg #[(.string K4), (.slice g4 h8.length g8), (.slice none 0 0)])) (oP rfl rfl) (me fM ek (MH _ ek) kr)) (XE 8 rfl (ll d fM (fun w5 p8 d => ?_)))
   have l := d.has.qe (Z.trans c7) (Db (Db (Kb (Kb Sn))))
   refine ⟨l, ?_⟩
   obtain rfl := sj D
   refine pf kr (d2 _ _ ⟨p8, (.slice g4 h8.length g8), (.slice none 0 0), (.slice none 0 0), (.slice none 0 0), t0, _, (Z.trans c7), (d.kh St), rfl, rfl, rfl, rfl, rfl, rfl, i4, (Sl.nil _ _ _), (Fr.nil _), (Sl.nil _ _ _), (Fr.nil _), (Sl.nil _ _ _), (Fr.nil _)⟩)
  ·refine ll d fM (fun w6 p9 d => ?_)
   have l := d.has.qe Z (Db (Db (Kb (Kb Sn))))
   refine ⟨l, (bS D fun h9 p0 D => ?_)⟩
   refine XE 6 rfl (Hh d (bI _) call47 (fun hH p m q => mj.lZ (vW EE c2 i2 _ _ ⟨hH, p, m⟩ (i3.mono kz.mono (kH.refl _)) p0)) (fun w7 y4 t1 v1 d f5 az n0 => ?_) (L0 := []))
   obtain ⟨z7, e5, rfl, i5⟩ := n0
   replace e5 := e5.symm; subst e5
   replace d := d.perm Tn
   have l := d.has.qe (Z.trans f5) (Db (Db (Kb (Kb Sn))))
   refine ⟨l, ?_⟩
   obtain ⟨g7, g9, rfl⟩ := i5.form
   refine X 7 rfl l (mK (v := (.agg #[(.string K4), (.slice g7 h9.length g9), (.slice none 0 0)])) (oP rfl rfl) (me fM ek (MH _ ek) kr)) ?_
   obtain rfl := sj D
   refine pf kr (d2 _ _ ⟨p9, (.slice g7 h9.length g9), (.slice none 0 0), (.slice none 0 0), (.slice none 0 0), t1, _, (Z.trans f5), (d.kh St), rfl, rfl, rfl, rfl, rfl, rfl, i5, (Sl.nil _ _ _), (Fr.nil _), (Sl.nil _ _ _), (Fr.nil _), (Sl.nil _ _ _), (Fr.nil _)⟩)
 ·refine ll d fM (fun w8 q0 d => ?_)
  have l := d.has.kh (Db (Db (Kb (Kb Sn))))
  refine ⟨l, (bS D fun s3 p1 D => ?_)⟩
  refine XE 5 rfl (Hh d (bI _) call46 (fun hH p m q => mj.lZ (uc K9 _ _ ⟨hH, p, m⟩  p1)) (fun w9 y5 ab v2 d c8 aE n1 => ?_) (L0 := []))
  obtain ⟨s7, c9, rfl, l5⟩ := n1
  replace c9 := c9.symm; subst c9
  replace d := d.perm Tn
  have l := d.has.qe c8 (Db (Db (Kb (Kb Sn))))
  refine ⟨l, (bS D fun e8 l4 D => ?_)⟩
  refine XE 6 rfl (Hh d (bI _) call47 (fun hH p m q => mj.lZ (vW EE s3 s7 _ _ ⟨hH, p, m⟩ (l5.mono kz.mono (kH.refl _)) l4)) (fun t5 u2 p7 t4 d d4 ao l3 => ?_) (L0 := []))
  obtain ⟨u3, d0, rfl, f6⟩ := l3
  replace d0 := d0.symm; subst d0
  replace d := d.perm Tn
  have l := d.has.qe (c8.trans d4) (Db (Db (Kb (Kb Sn))))
  refine ⟨l, ?_⟩
  obtain ⟨d5, d6, rfl⟩ := f6.form
  refine X 7 rfl l (mK (v := (.agg #[(.string K4), (.slice d5 e8.length d6), (.slice none 0 0)])) (oP rfl rfl) (me fM ek (MH _ ek) kr)) ?_
  obtain rfl := sj D
  refine pf kr (d2 _ _ ⟨q0, (.slice d5 e8.length d6), (.slice none 0 0), (.slice none 0 0), (.slice none 0 0), p7, _, (c8.trans d4), (d.kh St), rfl, rfl, rfl, rfl, rfl, rfl, f6, (Sl.nil _ _ _), (Fr.nil _), (Sl.nil _ _ _), (Fr.nil _), (Sl.nil _ _ _), (Fr.nil _)⟩)
theorem D3 (k : Value) (u : List ke) (r : Int) (w : World) (j : Sl (Pl km) 9 (hp w) k u) (hm : wi u = some r) :
  kN true pg0 18 [k] w (.int .i64 r) := by
 refine cG 54 func18 rfl (fun b => sg (Wa (lr (Wa (lS (Wm ?_))))))
 refine V (lT aY rfl j) (Wm (ln (lu (fun i E W => ∃ g t, (E 8 = .int .i64 (i : Nat) ∧ E 7 = .int .i64 (u.length : Nat)) ∧ ST true lM w W (hp w) t ∧ E 3 = (.int .i64 g) ∧ E 6 = k ∧ rZ (u.drop i) g = some r) u.length j.len ⟨0, _, ⟨rfl, rfl⟩, (b.kh St), rfl, rfl, hm⟩ dc dc dc (fun _ _ _ h => by obtain ⟨_, _, l, _⟩ := h; exact l) ?_ ?_)))
 ·rintro I E W z ⟨g, t, ⟨d, m⟩, b, x, y, c⟩
  obtain ⟨a, J, G, D, H⟩ := lc z
  rw [G] at c
  refine bg (VQ (ni (enc := km) (i := (I : Int)) (x0 := a) aY aT y d j (aH _) D) (fun Q B => V (kl rfl (kO b.has B cE aT)) (VE (ll b dn (fun K N b => VO (kJ (.agg (km a).toArray) ((km a).toArray) b rfl rfl aT (ph a) nb rfl (fun M b => ln (kB (Wh x (Wf rr (Wf ub (VB b Mh rfl rfl bT (V (pY cJ rfl) ?_)))))))))))))
  refine Wi rfl (Wf rr (Wf xV (VB b Mh rfl rfl bT (V (pY cJ rfl) (Wi rfl (Wf xZ (VB b Mh rfl rfl bT (V (pY cJ rfl) (Wi rfl (Wf ou (Wf ub (VB b Mh rfl rfl bT (V (pY cJ rfl) (Wi rfl ?_))))))))))))))
  refine Wf ou (Wf xV (VB b Mh rfl rfl bT (V (pY cJ rfl) (Wi rfl (Wf we (Wf ub (VB b Mh rfl rfl bT (V (pY cJ rfl) (Wi rfl (Wf we (Wf xV (VB b Mh rfl rfl bT (V (pY cJ rfl) (Wi rfl ?_))))))))))))))
  refine Wf ya (VB b Mh rfl rfl bT (V (pY cJ rfl) (Wi rfl (Wi rfl (Wa (kQ (kY (ku ?_))))))))
  replace b := b.kh (Db St)
  exact ⟨d, (wi0 .i64 (g + (wi0 .i64 ((wi0 .i64 ((wi0 .i64 ((wi0 .i64 ((wi0 .i64 ((wi0 .i64 ((wi0 .i64 ((wi0 .i64 (20 + (a.Head.kj.size : Int))) + (a.Head.kq.size : Int))) + (a.kR.size : Int))) + (a.B.kj.size : Int))) + (a.B.kq.size : Int))) + (a.C.kj.size : Int))) + (a.C.kq.size : Int))) + (a.lj.size : Int))))), _, ⟨rfl, m⟩, (b.kh St), rfl, y, (by rw [H]; exact c)⟩
 rintro E W ⟨g, t, ⟨d, m⟩, b, x, y, c⟩
 rw [aI] at c
 exact ku (sg (Wh x (Wa (lt (rQ c b)))))
theorem As (H : Value) (Q : List Key) (u : Value) (J : List Signed) (r : Int) (w : World) (B : Sl CV 2 (hp w) H Q) (D : Sl tN 10 (hp w) u J) (hm : yv Q J = some r) :
  kN true pg0 17 [H, u] w (.int .i64 r) := by
 refine cG 45 func17 rfl (fun b => sg (Wa (lr (Wa (lS (Wm ?_))))))
 refine V (lT underlying37 rfl B) (Wm (ln (lu (fun i E W => ∃ t N, (E 12 = .int .i64 (i : Nat) ∧ E 11 = .int .i64 (Q.length : Nat)) ∧ ST true lM w W (hp w) N ∧ E 1 = u ∧ E 5 = (.int .i64 t) ∧ E 10 = H ∧ vV J (Q.drop i) t = some r) Q.length B.len ⟨0, _, ⟨rfl, rfl⟩, (b.kh St), rfl, rfl, rfl, hm⟩ dc dc dc (fun _ _ _ h => by obtain ⟨_, _, n, _⟩ := h; exact n) ?_ ?_)))
 ·rintro c3 E W R ⟨t, N, ⟨m, o⟩, b, U, Y, Z, g⟩
  obtain ⟨k, d4, b9, b7, c0⟩ := lc R
  rw [b9] at g
  refine bg (VQ (nM (i := (c3 : Int)) (x0 := k) CV.out underlying37 sizeOf118 Z m B (aH _) b7) (fun d8 ⟨_, ⟨d9, rfl, a2⟩, b6⟩ => V (kl rfl (kO b.has b6 isAgg118 sizeOf118)) (VE (ll b zeroValue118 (fun d5 d7 b => ?_)))))
  obtain ⟨q, s, rfl⟩ := a2.form
  refine VO (kJ (.agg #[(.string k.kR), (.slice q k.Key.length s)]) (#[(.string k.kR), (.slice q k.Key.length s)]) b rfl rfl sizeOf118 oc nb rfl (fun d6 b => ln (kB (Wh Y (Wf Qu (VB b Mh rfl rfl bT (V (pY cJ rfl) (Wi rfl (Wf Qy (VB b Mh rfl rfl isAgg53 (V (lT dE rfl a2) (Wi rfl (Wi rfl (Wa ?_))))))))))))))
  refine kQ (kY (ku ?_))
  replace b := b.kh (Db St)
  exact ⟨m, (wi0 .i64 (t + (wi0 .i64 ((wi0 .i64 (10 + (k.kR.size : Int))) + (k.Key.length : Int))))), _, ⟨rfl, o⟩, (b.kh St), U, rfl, Z, (by rw [c0]; exact g)⟩
 rintro E W ⟨t, N, ⟨m, o⟩, b, U, Y, Z, g⟩
 rw [aI] at g
 refine ku (kA (sg (Wh U (V (lT jP rfl D) (Wm (ln (CJ g (fun G E W => ∃ M, ST true lM w W (hp w) M ∧ E 5 = (.int .i64 G)) (fun G a5 => ?_) ?_)))))))
 ·refine lu (fun i E W => ∃ j x, (E 29 = .int .i64 (i : Nat) ∧ E 28 = .int .i64 (J.length : Nat)) ∧ ST true lM w W (hp w) x ∧ E 5 = (.int .i64 j) ∧ E 27 = u ∧ ul (J.drop i) j = some G) J.length D.len ⟨t, _, ⟨rfl, rfl⟩, (b.kh St), Y, rfl, a5⟩ dc dc dc (fun _ _ _ h => by obtain ⟨_, _, n, _⟩ := h; exact n) ?_ ?_
  ·rintro c1 E W a3 ⟨j, x, ⟨m, o⟩, b, y, z, c⟩
   obtain ⟨a, c4, a9, F, L⟩ := lc a3
   rw [a9] at c
   refine bg (VQ (nM (i := (c1 : Int)) (x0 := a) tN.out jP jH z m D (aH _) F) (fun d0 ⟨_, ⟨d1, rfl, I⟩, v⟩ => V (kl rfl (kO b.has v isAgg55 jH)) (VE (ll b jX (fun c5 c9 b => ?_)))))
   obtain ⟨K, T, rfl⟩ := I.form
   let a0 := (C4 a.ke.Kind a.ke.Head.kj a.ke.Head.kq a.ke.kR a.ke.B.kj a.ke.B.kq a.ke.C.kj a.ke.C.kq a.ke.lj K a.Tag.length T)
   refine VO (kJ (.agg a0.toArray) (a0.toArray) b rfl rfl jH oc nb rfl (fun c6 b => ln ?_))
   replace b := b.drew
   have d := b.has.kh (Kb Sn)
   refine lm d kP (X 0 rfl d (ko y) (X 1 rfl d (ky GB rfl) (XH 2 rfl d (fun _ p => kl rfl (kx p Mh (km a.ke) rfl cE aT)) (X 5 rfl d (ky Rx rfl) (XH 6 rfl d (fun _ p => kl rfl (kK p Mh rfl isAgg53)) (X 7 rfl d (lT dE rfl I) (XE 3 rfl (kV (cs := (km a.ke).toArray) b (nh rfl) (nc aY aT dn) (fun c7 O b => ?_)))))))))
   have d := b.has.kh (Db (Kb Sn))
   refine ⟨d, (bS c fun c2 A c => XE 4 rfl (Eg b call18 (D3 (.slice (some ⟨O, 0, none⟩) 1 1) ([a.ke]) _ _ (Sl.lit (enc := km) (l := [a.ke]) lV rfl nb rfl (b.at_ Mh)) A) (fun c8 b => ?_)))⟩
   have d := b.has.kh (Db (Kb Sn))
   refine ⟨d, (X 8 rfl d (lW rfl rfl rfl) (X 9 rfl d (lW rfl rfl rfl) (X 10 rfl d (ol rfl) (lF kr (kY (ku ?_))))))⟩
   replace b := b.kh (Db (Db St))
   exact ⟨m, (wi0 .i64 (j + (wi0 .i64 (c2 + (a.Tag.length : Int))))), _, ⟨rfl, o⟩, (b.kh St), rfl, z, (by rw [L]; exact c)⟩
  rintro E W ⟨j, x, ⟨m, o⟩, b, y, z, c⟩
  rw [aI] at c
  refine ku ?_
  obtain rfl := sj c
  exact ⟨_, (b.kh St), y⟩
 rintro d3 E W ⟨M, b, P⟩ a4
 exact sg (Wh P (Wa (lt (rQ a4 b))))
theorem E2 (I : (List Formula) → Option Int) (N : ∀ (j : Value) (u : List Formula) (r : Int) (w : World) (t : Sl kf 5 (hp w) j u), I u = some r → kN false pg0 50 [j] w (.int .i64 r)) (j : Value) (u : List Formula) (r : Int) (w : World) (t : Sl kf 5 (hp w) j u) (hm : xd I u = some r) :
  kN false pg0 50 [j] w (.int .i64 r) := by
 refine cG 31 func50 rfl (fun l => sg (Wa (lr (Wa (lS (Wm ?_))))))
 refine V (lT aF rfl t) (Wm (ln (lu (fun i E W => ∃ x z, (E 8 = .int .i64 (i : Nat) ∧ E 7 = .int .i64 (u.length : Nat)) ∧ ST false lM w W (hp w) z ∧ E 3 = (.int .i64 x) ∧ E 6 = j ∧ se I (u.drop i) x = some r) u.length t.len ⟨0, _, ⟨rfl, rfl⟩, (l.kh St), rfl, rfl, hm⟩ dc dc dc (fun _ _ _ h => by obtain ⟨_, _, o, _⟩ := h; exact o) ?_ ?_)))
 ·rintro Z E W M ⟨x, z, ⟨n, q⟩, l, D, G, g⟩
  obtain ⟨c, F, T, Q, U⟩ := lc M
  let a0 := ((c.kd.kj.size : Int) + (c.kd.kq.size : Int))
  rw [T] at g
  refine bg (VQ (nM (i := (Z : Int)) (x0 := c) kf.out aF aD G n t (aH _) Q) (fun a5 ⟨_, ⟨A, rfl, H⟩, J⟩ => V (kl rfl (kO l.has J bA aD)) (VE (ll l bK (fun s a4 l => ?_)))))
  obtain ⟨y, B, rfl⟩ := H.form
  let p := (C1 c.Op c.K c.kd.kj c.kd.kq y c.Kids.length B)
  refine VO (kJ (.agg p.toArray) (p.toArray) l rfl rfl aD oc nb rfl (fun a2 l => ln ?_))
  replace l := l.drew
  have d := l.has.kh (Kb Sn)
  refine lm d kP (X 0 rfl d (ko D) (X 1 rfl d (ky yb rfl) (X 2 rfl d (ky ub rfl) (XH 3 rfl d (fun _ m => kl rfl (kK m Mh rfl bT)) (X 4 rfl d (pY cJ rfl) (X 5 rfl d (ky yb rfl) (X 6 rfl d (ky xV rfl) (XH 7 rfl d (fun _ m => kl rfl (kK m Mh rfl bT)) (X 8 rfl d (pY cJ rfl) (X 9 rfl d (lW rfl rfl rfl) (X 10 rfl d (I6 (k := .i64) (a := (wi0 .i64 a0)) (b := 16) (v := (.int .i64 (wi0 .i64 (Int.tdiv (wi0 .i64 a0) 16)))) rfl rfl dc rfl) (X 11 rfl d (lW rfl rfl rfl) (X 12 rfl d (ky sK rfl) (XH 13 rfl d (fun _ m => kl rfl (kK m Mh rfl fl)) ?_))))))))))))))
  refine bS g fun Y K g => XE 14 rfl (Eg l call50 (N (.slice y c.Kids.length B) c.Kids _ _ (H.mono kz.mono l.kw) K) (fun a3 l => ?_))
  have d := l.has.kh (Kb Sn)
  refine ⟨d, (X 15 rfl d (lW rfl rfl rfl) (X 16 rfl d (lW rfl rfl rfl) (X 17 rfl d (ol rfl) (lF kr (kY (ku ?_))))))⟩
  replace l := l.kh (Db St)
  exact ⟨n, (wi0 .i64 (x + (wi0 .i64 ((wi0 .i64 (1 + (wi0 .i64 (Int.tdiv (wi0 .i64 a0) 16)))) + Y)))), _, ⟨rfl, q⟩, (l.kh St), rfl, G, (by rw [U]; exact g)⟩
 rintro E W ⟨x, z, ⟨n, q⟩, l, D, G, g⟩
 rw [aI] at g
 exact ku (sg (Wh D (Wa (lt (rQ g l)))))
theorem AD : ∀ (n : Nat) (a : Value) (c : List Formula) (r : Int) (w : World) (g : Sl kf 5 (hp w) a c) (_ : pO n c = some r),
  kN false pg0 50 [a] w (.int .i64 r)
 | 0 => by intros; rename_i h; simp only [pO] at h; cases h
 | n + 1 => E2 (pO n) (AD n)
set_option maxHeartbeats 1000000 in
theorem D5 (x : lD) (J N : Value) (r : Int) (w : World) (y : Sl mh 15 (hp w) J x.kZ) (G : Sl mN 8 (hp w) N x.mu) (hm : wv x = some r) :
  kN false pg0 10 [(.agg #[(.string x.Name), J, N])] w (.int .i64 r) := by
 refine cG 61 func10 rfl (fun d => sg ?_)
 obtain ⟨A1, c2, rfl⟩ := y.form
 obtain ⟨A3, c4, rfl⟩ := G.form
 let g6 := (C3 x.Name A1 x.kZ.length c2 A3 x.mu.length c4)
 refine VE (kX d rfl (fun W6 L d => Wa (lr (Wf Bp (VB d Mh rfl rfl bT (V (pY cJ rfl) (Wa (lS ?_))))))))
 refine Wf CK (VB d Mh rfl rfl isAgg22 (V (lT eG rfl y) (Wm (ln (lu (fun i E W => ∃ I R, (E 14 = .int .i64 (i : Nat) ∧ E 13 = .int .i64 (x.kZ.length : Nat)) ∧ ST false lM w W (hp w) ((L, Ol g6 25) :: R) ∧ E 1 = (.pointer (some ⟨L, 0, none⟩)) ∧ E 3 = (.int .i64 I) ∧ E 12 = (.slice A1 x.kZ.length c2) ∧ sa x (x.kZ.drop i) I = some r) x.kZ.length y.len ⟨(x.Name.size : Int), _, ⟨rfl, rfl⟩, (d.kh St), rfl, rfl, rfl, hm⟩ dc dc dc (fun _ _ _ h => by obtain ⟨_, _, v, _⟩ := h; exact v) ?_ ?_)))))
 ·rintro d5 E W e1 ⟨I, R, ⟨q, A⟩, d, U, M, Y, H⟩
  obtain ⟨a, h9, e9, e8, f0⟩ := lc e1
  rw [e9] at H
  refine bg (VQ (nM (i := (d5 : Int)) (x0 := a) mh.out eG eU Y q y (aH _) e8) (fun j4 ⟨_, ⟨j8, j9, rfl, Q, T⟩, e2⟩ => V (kl rfl (kO d.has e2 isAgg60 eU)) (VE (ll d gD (fun i0 f4 d => ?_)))))
  obtain ⟨t, u, rfl⟩ := Q.form
  let g5 : Value := (.slice t a.Signed.Tag.length u)
  let b8 := (C4 a.Signed.ke.Kind a.Signed.ke.Head.kj a.Signed.ke.Head.kq a.Signed.ke.kR a.Signed.ke.B.kj a.Signed.ke.B.kq a.Signed.ke.C.kj a.Signed.ke.C.kq a.Signed.ke.lj t a.Signed.Tag.length u)
  obtain ⟨g, j, rfl⟩ := T.form
  let d9 : Value := (.slice g a.kv.Kids.length j)
  let s := (C1 a.kv.Op a.kv.K a.kv.kd.kj a.kv.kd.kq g a.kv.Kids.length j)
  let a0 := (C2 a.Signed.ke.Kind a.Signed.ke.Head.kj a.Signed.ke.Head.kq a.Signed.ke.kR a.Signed.ke.B.kj a.Signed.ke.B.kq a.Signed.ke.C.kj a.Signed.ke.C.kq a.Signed.ke.lj t a.Signed.Tag.length u a.kv.Op a.kv.K a.kv.kd.kj a.kv.kd.kq g a.kv.Kids.length j)
  refine VO (kJ (.agg a0.toArray) (a0.toArray) d rfl rfl eU oc nb rfl (fun i1 d => ln ?_))
  replace d := d.drew
  have m := d.has.kh (Kb Sn)
  refine lm m kP (X 0 rfl m (ko M) (X 1 rfl m (ky G8 rfl) (XH 2 rfl m (fun _ p => kl rfl (kx p Mh b8 rfl isAgg55 jH)) (X 5 rfl m (ky NS rfl) (XH 6 rfl m (fun _ p => kl rfl (kx p Mh s rfl bA aD)) (PJ H (fun b4 E W => ∃ F b2 b9, ST false lM w W (hp w) ((f4, Ol a0 60) :: ((L, Ol g6 25) :: (b2 ++ b9))) ∧ E 1 = (.pointer (some ⟨L, 0, none⟩)) ∧ E 3 = (.int .i64 I) ∧ E 12 = (.slice A1 x.kZ.length c2) ∧ E 13 = (.int .i64 (x.kZ.length : Int)) ∧ E 14 = (.int .i64 (d5 : Int)) ∧ E 18 = (.int .i64 I) ∧ E 22 = (.int .i64 b4.1) ∧ E 25 = F ∧ lC 58 kf 5 (hp w) F b4.2 b2) (bm 13 255) 5 ?_ (fun b4 z Z => ?_)))))))
  ·rintro ⟨g7, g3⟩ E W ⟨F, b2, b9, d, f6, j3, f7, f8, f9, g0, g1, g2, e7⟩ O
   refine bS O fun g4 e3 O => XE 8 rfl (Eg d call50 ((AD kT) F g3 _ _ (e7.sl kz d.kw (fun b o n => d.at_ (Mt (Mt (Ml n))))) e3) (fun i2 d => ?_) (ha := Sk g2))
   have m := d.has.kh (Kb Sn)
   refine ⟨m, (X 9 rfl m (lW rfl rfl rfl) (X 10 rfl m (lW g1 rfl rfl) (X 11 rfl m (lW g0 rfl rfl) (X 12 rfl m (ol rfl) (lF kr (kY (ku ?_)))))))⟩
   replace d := d.kh (Db (Kb (Dr St)))
   exact ⟨f9, (wi0 .i64 (I + (wi0 .i64 (g7 + (wi0 .i64 (20 * g4)))))), _, ⟨rfl, f8⟩, (d.kh St), f6, rfl, f7, (by rw [f0]; exact O)⟩
  refine G3 3 7 rfl rfl kr (.inl rfl) (.inl rfl) rfl rfl dc dc ?_ ?_
  ·refine kV (cs := b8.toArray) d (nh rfl) (nc jP jH jX) (fun i3 b3 d => ?_)
   let d8 : Value := (.slice (some ⟨b3, 0, none⟩) 1 1)
   have m := d.has.kh (Db (Kb Sn))
   refine ⟨m, (G3 4 7 rfl rfl kr (.inl rfl) (.inl rfl) rfl rfl dc dc ?_ ?_)⟩
   ·refine bS z fun j5 e4 z => Lp (args := [(.slice none 0 0), d8]) d rfl call17 (by exact ta rfl rfl) (kN.lZ (As (.slice none 0 0) ([]) d8 ([a.Signed]) _ _ (Sl.nil _ _ _) ((lC.lit A4 (l := [a.Signed]) (.cons (ys := C4 a.Signed.ke.Kind a.Signed.ke.Head.kj a.Signed.ke.Head.kq a.Signed.ke.kR a.Signed.ke.B.kj a.Signed.ke.B.kq a.Signed.ke.C.kj a.Signed.ke.C.kq a.Signed.ke.lj t a.Signed.Tag.length u) (tN.mk ⟨g5, rfl, Q⟩) .nil) rfl nb rfl).sl A4 d.kw (fun b o n => (by rw [aW] at n; cases n; exact d.at_ Mh))) e4)) (fun i4 d => ?_)
    have m := d.has.kh (Db (Kb Sn))
    refine ⟨m, (XE 7 rfl (kV (cs := s.toArray) d (nh rfl) (nc aF aD bK) (fun i5 c0 d => ?_)))⟩
    have m := d.has.kh (Db (Db (Kb Sn)))
    refine ⟨m, ?_⟩
    obtain rfl := sj z
    replace d := d.J2
    refine pf kr (Z _ _ ⟨(.slice (some ⟨c0, 0, none⟩) 1 1), [(c0, Ol s 58)], _, (d.kh (Sb (Pr (Pb Pz)) (Sb (Pr (Pb Pz)) (Kr (Db St))))), U, M, Y, A, q, rfl, rfl, rfl, (lC.lit kz (l := [a.kv]) (.cons (ys := C1 a.kv.Op a.kv.K a.kv.kd.kj a.kv.kd.kq g a.kv.Kids.length j) (kf.mk ⟨d9, rfl, T⟩) .nil) rfl nb rfl)⟩)
   ·refine kV (cs := s.toArray) d (nh rfl) (nc aF aD bK) (fun i6 c1 d => ?_)
    have m := d.has.kh (Db (Db (Kb Sn)))
    refine ⟨m, (bS z fun j6 e5 z => XE 4 rfl (Eg d call17 (kN.lZ (As (.slice none 0 0) ([]) d8 ([a.Signed]) _ _ (Sl.nil _ _ _) ((lC.lit A4 (l := [a.Signed]) (.cons (ys := C4 a.Signed.ke.Kind a.Signed.ke.Head.kj a.Signed.ke.Head.kq a.Signed.ke.kR a.Signed.ke.B.kj a.Signed.ke.B.kq a.Signed.ke.C.kj a.Signed.ke.C.kq a.Signed.ke.lj t a.Signed.Tag.length u) (tN.mk ⟨g5, rfl, Q⟩) .nil) rfl nb rfl).sl A4 d.kw (fun b o n => (by rw [aW] at n; cases n; exact d.at_ (Mt Mh)))) e5)) (fun i7 d => ?_)))⟩
    have m := d.has.kh (Db (Db (Kb Sn)))
    refine ⟨m, ?_⟩
    obtain rfl := sj z
    replace d := d.J2
    refine pf kr (Z _ _ ⟨(.slice (some ⟨c1, 0, none⟩) 1 1), [(c1, Ol s 58)], _, (d.kh (Sb (Pr (Pb Pz)) (Sb (Pr (Pb Pz)) (Kr (Db St))))), U, M, Y, A, q, rfl, rfl, rfl, (lC.lit kz (l := [a.kv]) (.cons (ys := C1 a.kv.Op a.kv.K a.kv.kd.kj a.kv.kd.kq g a.kv.Kids.length j) (kf.mk ⟨d9, rfl, T⟩) .nil) rfl nb rfl)⟩)
  ·refine kV (cs := s.toArray) d (nh rfl) (nc aF aD bK) (fun i8 c3 d => ?_)
   have m := d.has.kh (Db (Kb Sn))
   refine ⟨m, (XE 3 rfl (kV (cs := b8.toArray) d (nh rfl) (nc jP jH jX) (fun i9 f5 d => ?_)))⟩
   have m := d.has.kh (Db (Db (Kb Sn)))
   refine ⟨m, (bS z fun j7 e6 z => XE 4 rfl (Eg d call17 (kN.lZ (As (.slice none 0 0) ([]) (.slice (some ⟨f5, 0, none⟩) 1 1) ([a.Signed]) _ _ (Sl.nil _ _ _) ((lC.lit A4 (l := [a.Signed]) (.cons (ys := C4 a.Signed.ke.Kind a.Signed.ke.Head.kj a.Signed.ke.Head.kq a.Signed.ke.kR a.Signed.ke.B.kj a.Signed.ke.B.kq a.Signed.ke.C.kj a.Signed.ke.C.kq a.Signed.ke.lj t a.Signed.Tag.length u) (tN.mk ⟨g5, rfl, Q⟩) .nil) rfl nb rfl).sl A4 d.kw (fun b o n => (by rw [aW] at n; cases n; exact d.at_ Mh))) e6)) (fun j0 d => ?_)))⟩
   have m := d.has.kh (Db (Db (Kb Sn)))
   refine ⟨m, ?_⟩
   obtain rfl := sj z
   replace d := d.perm (Nb (Pb Pz) Nz)
   replace d := d.J2
   refine pf kr (Z _ _ ⟨(.slice (some ⟨c3, 0, none⟩) 1 1), [(c3, Ol s 58)], _, (d.kh (Sb (Pr (Pb Pz)) (Sb (Pr (Pb Pz)) (Kr (Db St))))), U, M, Y, A, q, rfl, rfl, rfl, (lC.lit kz (l := [a.kv]) (.cons (ys := C1 a.kv.Op a.kv.K a.kv.kd.kj a.kv.kd.kq g a.kv.Kids.length j) (kf.mk ⟨d9, rfl, T⟩) .nil) rfl nb rfl)⟩)
 rintro E W ⟨I, R, ⟨q, A⟩, d, U, M, Y, H⟩
 rw [aI] at H
 refine ku (kA (sg (V (ky NC U) (VB d Mh rfl rfl isAgg23 (V (lT dR rfl G) (Wm (ln ?_)))))))
 replace d := d.kh (Db St)
 refine CJ H (fun P E W => ∃ b6, ST false lM w W (hp w) b6 ∧ E 3 = (.int .i64 P)) (fun P c8 => ?_) ?_
 ·refine lu (fun i E W => ∃ K a2, (E 34 = .int .i64 (i : Nat) ∧ E 33 = .int .i64 (x.mu.length : Nat)) ∧ ST false lM w W (hp w) a2 ∧ E 3 = (.int .i64 K) ∧ E 32 = (.slice A3 x.mu.length c4) ∧ si (x.mu.drop i) K = some P) x.mu.length G.len ⟨I, _, ⟨rfl, rfl⟩, (d.kh St), M, rfl, c8⟩ dc dc dc (fun _ _ _ h => by obtain ⟨_, _, v, _⟩ := h; exact v) ?_ ?_
  ·rintro f1 E W c6 ⟨K, a2, ⟨q, A⟩, d, a4, a5, k⟩
   obtain ⟨c, g8, d3, d2, d4⟩ := lc c6
   rw [d3] at k
   refine bg (VQ (nM (i := (f1 : Int)) (x0 := c) mN.out dR eE a5 q G (aH _) d2) (fun h5 ⟨_, ⟨h6, h7, rfl, a9, b0⟩, c9⟩ => V (kl rfl (kO d.has c9 isAgg87 eE)) (VE (ll d jo (fun g9 h4 d => ?_)))))
   obtain ⟨B, D, rfl⟩ := a9.form
   let d6 := (C1 c.kv.Op c.kv.K c.kv.kd.kj c.kv.kd.kq B c.kv.Kids.length D)
   obtain ⟨a1, a3, rfl⟩ := b0.form
   let c5 := (C7 c.kd.kj c.kd.kq c.kv.Op c.kv.K c.kv.kd.kj c.kv.kd.kq B c.kv.Kids.length D a1 c.nv.length a3)
   refine VO (kJ (.agg c5.toArray) (c5.toArray) d rfl rfl eE oc nb rfl (fun h0 d => ln ?_))
   replace d := d.drew
   have m := d.has.kh (Kb Sn)
   refine lm m kP (X 0 rfl m (ko a4) (X 1 rfl m (ky Ng rfl) (X 2 rfl m (ky ub rfl) (XH 3 rfl m (fun _ p => kl rfl (kK p Mh rfl bT)) (X 4 rfl m (pY cJ rfl) (X 5 rfl m (ky Ng rfl) (X 6 rfl m (ky xV rfl) (XH 7 rfl m (fun _ p => kl rfl (kK p Mh rfl bT)) (X 8 rfl m (pY cJ rfl) (X 9 rfl m (lW rfl rfl rfl) (X 10 rfl m (ky Oc rfl) (XH 11 rfl m (fun _ p => kl rfl (kx p Mh d6 rfl bA aD)) (X 16 rfl m (ky Of rfl) (XH 17 rfl m (fun _ p => kl rfl (kK p Mh rfl isAgg28)) ?_))))))))))))))
   refine XE 12 rfl (kV (cs := d6.toArray) d (nh rfl) (nc aF aD bK) (fun h1 d7 d => ?_))
   have m := d.has.kh (Db (Kb Sn))
   refine ⟨m, (bS k fun f2 d0 k => XE 13 rfl (Eg d call50 ((AD kT) (.slice (some ⟨d7, 0, none⟩) 1 1) ([c.kv]) _ _ ((lC.lit kz (l := [c.kv]) (.cons (ys := C1 c.kv.Op c.kv.K c.kv.kd.kj c.kv.kd.kq B c.kv.Kids.length D) (kf.mk ⟨(.slice B c.kv.Kids.length D), rfl, a9⟩) .nil) rfl nb rfl).sl kz d.kw (fun b o n => (by rw [aW] at n; cases n; exact d.at_ Mh))) d0) (fun h2 d => ?_)))⟩
   have m := d.has.kh (Db (Kb Sn))
   refine ⟨m, (X 14 rfl m (lW rfl rfl rfl) (X 15 rfl m (lW rfl rfl rfl) (bS k fun f3 d1 k => XE 18 rfl (Eg d call18 (kN.lZ (D3 (.slice a1 c.nv.length a3) c.nv _ _ (b0.mono (Pl.mono _) d.kw) d1)) (fun h3 d => ?_)))))⟩
   have m := d.has.kh (Db (Kb Sn))
   refine ⟨m, (X 19 rfl m (lW rfl rfl rfl) (X 20 rfl m (lW rfl rfl rfl) (X 21 rfl m (ol rfl) (lF kr (kY (ku ?_))))))⟩
   replace d := d.kh (Db (Db St))
   exact ⟨q, (wi0 .i64 (K + (wi0 .i64 ((wi0 .i64 ((wi0 .i64 ((c.kd.kj.size : Int) + (c.kd.kq.size : Int))) + (wi0 .i64 (20 * f2)))) + f3)))), _, ⟨rfl, A⟩, (d.kh St), rfl, a5, (by rw [d4]; exact k)⟩
  rintro E W ⟨K, a2, ⟨q, A⟩, d, a4, a5, k⟩
  rw [aI] at k
  refine ku ?_
  obtain rfl := sj k
  exact ⟨_, (d.kh St), a4⟩
 rintro h8 E W ⟨b6, d, e0⟩ c7
 exact sg (Wh e0 (Wa (lt (rQ c7 d))))
theorem zp (t : Value) (y : List ke) (u : Value) (K : List ke) (r : Bool) (w : World) (c : Sl (Pl km) 9 (hp w) t y) (z : Sl (Pl km) 9 (hp w) u K) (hm : uh y K = some r) :
  kN true pg0 12 [t, u] w (.bool r) := by
 refine cG 26 func12 rfl (fun d => sg (Wa (lS (Wm (V (lT aY rfl c) (Wm (V (lT aY rfl z) (Wi rfl (kQ ?_)))))))))
 refine ku (CI hm rfl (fun U hm => ?_) (fun U hm => ?_))
 ·refine sg (Wa (lt (kU ?_)))
  obtain rfl := sj hm
  exact rP d
 refine kS (Wm (V (lT aY rfl c) (Wm (ln (lu (fun i E W => ∃ g, (E 13 = .int .i64 (i : Nat) ∧ E 12 = .int .i64 (y.length : Nat)) ∧ ST true lM w W (hp w) g ∧ E 0 = t ∧ E 1 = u ∧ uS K (y.drop i) i = some r) y.length c.len ⟨_, ⟨rfl, rfl⟩, (d.kh St), rfl, rfl, hm⟩ dc dc dc (fun _ _ _ h => by obtain ⟨_, m, _⟩ := h; exact m) ?_ ?_)))))
 ·rintro I E W M ⟨g, ⟨l, o⟩, d, j, k, a⟩
  obtain ⟨J, a3, Q, N, T⟩ := lc M
  rw [Q] at a
  refine bg (Wh l (Wa (ln (kA ?_))))
  replace d := d.drew
  have b := d.has.kh Sn
  refine lm b kP (X 0 rfl b (ko j) (X 1 rfl b (ko rfl) (XQ 2 rfl b (ni (enc := km) (i := (I : Int)) (x0 := J) aY aT rfl rfl c (aH _) N) (fun Y G => XH 3 rfl b (fun _ n => kl rfl (kO n G cE aT)) (X 4 rfl b (ko k) (X 5 rfl b (ko rfl) (bS a fun B x a => XQ 6 rfl b (ni (enc := km) (i := (I : Int)) (x0 := B) aY aT rfl rfl z (kI x) (kF x)) (fun Z H => XH 7 rfl b (fun _ n => kl rfl (kO n H cE aT)) (X 8 rfl b (Jb rfl rfl (ow fB) (Fb (yG _ J B))) (lF kr (ku (CI a rfl (fun D a => ?_) (fun D a => ?_)))))))))))))
  ·refine sg (Wa (lt (mB (kU (mB (kU ?_))))))
   obtain rfl := sj a
   exact rP d
  exact lE (kY (ku ⟨l, _, ⟨rfl, o⟩, (d.kh St), j, k, (by rw [T]; exact a)⟩))
 rintro E W ⟨g, ⟨l, o⟩, d, j, k, a⟩
 rw [aI] at a
 exact ku (sg (Wa (lt (rQ a d))))
theorem Ek (c : lD) (N a6 : Value) (g : lD) (Q a7 : Value) (r : Bool) (w : World) (k : Sl mh 15 (hp w) N c.kZ) (u : Sl mN 8 (hp w) a6 c.mu) (t : Sl mh 15 (hp w) Q g.kZ) (x : Sl mN 8 (hp w) a7 g.mu) (hm : uA c g = some r) :
  kN false pg0 3 [(.agg #[(.string c.Name), N, a6]), (.agg #[(.string g.Name), Q, a7])] w (.bool r) := by
 refine cG 75 func3 rfl (fun d => sg ?_)
 obtain ⟨T, c2, rfl⟩ := k.form
 let a2 : Value := (.slice T c.kZ.length c2)
 obtain ⟨U, c4, rfl⟩ := u.form
 let a4 : Value := (.slice U c.mu.length c4)
 let a0 := (C3 c.Name T c.kZ.length c2 U c.mu.length c4)
 refine VE (kX d rfl (fun W6 s d => ?_))
 obtain ⟨Y, c8, rfl⟩ := t.form
 let a3 : Value := (.slice Y g.kZ.length c8)
 obtain ⟨Z, D, rfl⟩ := x.form
 let F : Value := (.slice Z g.mu.length D)
 let m := (C3 g.Name Y g.kZ.length c8 Z g.mu.length D)
 refine VE (kX d rfl (fun m9 a5 d => Wa (lS (bS hm fun n6 i8 hm => VE (Eg d call9 (IH  _ _  i8) (fun n0 d => V (nT rfl) (ln (CI hm rfl (fun i4 hm => ?_) (fun i4 hm => ?_)))))))))
 ·refine sg (Wa (ln ?_))
  replace d := d.kh (Db (Db St))
  refine kM (kU ?_)
  obtain rfl := sj hm
  exact rP d
 refine kn (kA (kA ?_))
 replace d := d.drew
 have h := d.has.kh (Kb (Kb Sn))
 refine lm h kP (XH 0 rfl h (fun _ hS => kl rfl (kx hS (Mt Mh) a0 rfl dV dB)) (XH 2 rfl h (fun _ hS => kl rfl (kx hS Mh m rfl dV dB)) (bS hm fun n7 i9 hm => XE 1 rfl (Eg d call10 (D5 c a2 a4 _ _ (k.mono mG.mono d.kw) (u.mono pe.mono d.kw) i9) (fun n1 d => ?_)))))
 have h := d.has.kh (Kb (Kb Sn))
 refine ⟨h, (bS hm fun n8 j0 hm => XE 3 rfl (Eg d call10 (D5 g a3 F _ _ (t.mono mG.mono d.kw) (x.mono pe.mono d.kw) j0) (fun n2 d => ?_)))⟩
 have h := d.has.kh (Kb (Kb Sn))
 refine ⟨h, (X 4 rfl h (lW rfl rfl rfl) (X 5 rfl h (lW rfl rfl rfl) (lF kr (ku (CI hm rfl (fun i5 hm => ?_) (fun i5 hm => ?_))))))⟩
 ·refine sg (Wa (ln ?_))
  replace d := d.kh (Db (Db St))
  refine kM (kU ?_)
  obtain rfl := sj hm
  exact rP d
 refine kg (VA d (Mt Mh) a0 dV dB (VA d Mh m dV dB (bS hm fun J j3 hm => ?_)))
 refine VE (B6 d (bI _) call11 (fun _ _ _ _ => (Ab c a2 a4 g a3 F _ _ (k.mono mG.mono d.kw) (u.mono pe.mono d.kw) (t.mono mG.mono d.kw) (x.mono pe.mono d.kw) j3)) (fun n3 o0 o4 m5 d B ad n i2 => ?_) (L0 := []))
 obtain ⟨p, d5, q, d6, P, rfl, c9, d0⟩ := i2
 replace P := P.symm; subst P
 replace d := d.perm (Tr (Tr Tn))
 refine Wm (Wx rfl (Wx rfl (Wx rfl (Wa (Wa (Wa (lr (VA d (Ma (Ma Mh)) m dV dB (VA d (Ma (Ma (Mt Mh))) a0 dV dB (bS hm fun e7 j4 hm => ?_))))))))))
 refine VE (B6 d (bI _) call11 (fun _ _ _ _ => (Ab g a3 F c a2 a4 _ _ (t.mono mG.mono (B.trans d.kw)) (x.mono pe.mono (B.trans d.kw)) (k.mono mG.mono (B.trans d.kw)) (u.mono pe.mono (B.trans d.kw)) j4)) (fun n4 o1 d1 m6 d v ae n i3 => ?_) (L0 := []))
 obtain ⟨k8, m7, k9, m8, R, rfl, j6, j7⟩ := i3
 replace R := R.symm; subst R
 replace d := d.perm (Tr (Tr Tn))
 refine Wm (Wx rfl (Wx rfl (Wx rfl (Wa (Wa (Wa (lr (Wm (Wm (bS hm fun n9 j5 hm => VE (Eg d call12 (kN.lZ (zp p J.1 k9 e7.2.1 _ _ (c9.sl lV (fun b o l => d.at_ (Ma (Ma (Ml l))))) (j7.sl lV (fun b o l => d.at_ (Ma (Ml l)))) j5)) (fun n5 d => ?_))))))))))))
 refine Wm (LJ hm (fun f2 E W => ∃ g3, ST false lM w W d1 ((a5, Ol m 25) :: ((s, Ol a0 25) :: (d5 ++ (d6 ++ g3)))) ∧ E 2 = (.pointer (some ⟨s, 0, none⟩)) ∧ E 3 = (.pointer (some ⟨a5, 0, none⟩)) ∧ E 4 = (.bool false) ∧ E 5 = p ∧ E 6 = q ∧ E 7 = (.int .i64 J.2.2) ∧ E 10 = (.int .i64 e7.2.2) ∧ E 40 = (.bool f2)) 4 ?_ (fun f2 I c1 => ?_))
 ·let g5 : Value := (.pointer (some ⟨a5, 0, none⟩))
  let b8 : Value := (.pointer (some ⟨s, 0, none⟩))
  rintro o2 E W ⟨g3, d, g7, g8, g9, h0, h1, e0, k4, k5⟩ i6
  refine Wh k5 (LJ i6 (fun f1 E W => ∃ g4, ST false lM w W d1 ((a5, Ol m 25) :: ((s, Ol a0 25) :: (d5 ++ (d6 ++ g4)))) ∧ E 2 = b8 ∧ E 3 = g5 ∧ E 4 = (.bool false) ∧ E 5 = p ∧ E 6 = q ∧ E 7 = (.int .i64 J.2.2) ∧ E 45 = (.bool f1)) 4 ?_ (fun f1 M c0 => ?_))
  ·rintro o3 E W ⟨g4, d, e1, e2, h2, e3, e4, h3, k6⟩ i7
   refine Wh k6 (LJ i7 (fun f0 E W => ∃ a9 d2, kH d1 a9 ∧ ST false lM w W a9 ((a5, Ol m 25) :: ((s, Ol a0 25) :: (d5 ++ (d6 ++ d2)))) ∧ E 2 = b8 ∧ E 3 = g5 ∧ E 4 = (.bool false) ∧ E 5 = p ∧ E 6 = q ∧ E 7 = (.int .i64 J.2.2) ∧ E 54 = (.bool f0)) 8 ?_ (fun f0 z b9 => ?_))
   ·rintro m2 E W ⟨a9, d2, b4, d, L, O, d7, h4, h5, d8, h6⟩ f5
    refine Wh h6 (LJ f5 (fun e9 E W => ∃ A d3, kH a9 A ∧ ST false lM w W A ((a5, Ol m 25) :: ((s, Ol a0 25) :: d3)) ∧ E 2 = b8 ∧ E 3 = g5 ∧ E 4 = (.bool false) ∧ E 7 = (.int .i64 J.2.2) ∧ E 63 = (.bool e9)) 8 ?_ (fun e9 y b7 => ?_))
    ·rintro m3 E W ⟨A, d3, k7, d, h7, h8, d9, h9, i0⟩ f6
     refine Wh i0 (LJ f6 (fun e8 E W => ∃ d4, ST false lM w W A d4 ∧ E 4 = (.bool false) ∧ E 74 = (.bool e8)) 10 ?_ (fun e8 K b6 => ?_))
     ·rintro m4 E W ⟨d4, d, l8, i1⟩ f7
      exact Wg i1 (lt (rQ f7 d))
     refine bC K (fun a K => ?_) (fun a K => ?_)
     ·refine ug a (ko h9) (ug a (ky CK h7) (ug a (kl rfl (kK d.has (Mt Mh) rfl isAgg22)) (ug a (lT eG rfl k) (ug a (ky CK h8) (ug a (kl rfl (kK d.has Mh rfl isAgg22)) (ug a (lT eG rfl t) (ug a (lW rfl rfl rfl) (ug a (lW rfl rfl rfl) (V (lg (cB a) rfl) ?_)))))))))
      obtain rfl := sj K
      exact b6 _ _ ⟨_, (d.kh (Db (Db St))), d9, rfl⟩
     refine un a (un a (un a (un a (un a (un a (un a (un a (un a (V (li (cB a) rfl) ?_)))))))))
     obtain rfl := sj K
     exact b6 _ _ ⟨_, (d.kh (Db (Db St))), d9, rfl⟩
    refine bC y (fun i y => ?_) (fun i y => ?_)
    ·refine ug i (kl O (kx d.has Mh m rfl dV dB)) (ug i (ko h4) (ug i (ky Bp L) (ug i (kl rfl (kK d.has (Mt Mh) rfl bT)) (bS y fun j8 f8 y => vn i (rW d call13 (yX g a3 F p J.1 c.Name _ _ (t.mono mG.mono (((B.trans v).trans b4).trans d.kw)) (x.mono pe.mono (((B.trans v).trans b4).trans d.kw)) (c9.sl lV (fun b o l => d.at_ (Mt (Mt (Ml l))))) f8) (fun l3 k0 k2 l1 d e5 aa f3 => ug i (ko h5) (bS y fun l9 f9 y => vn i (Eg d call12 (kN.lZ (zp k0 j8 q J.2.1 _ _ (f3.sl lV (fun b o l => d.at_ (Ml l))) (d0.sl lV (fun b o l => d.at_ (Ma (Mt (Mt (Ma (Ml l))))))) f9)) (fun l4 d => V (lg (cB i) rfl) ?_)))))))))
     obtain rfl := sj y
     exact b7 _ _ ⟨k2, _, e5, (d.kh (Dr (Kb (Kb (Dr (Dr St)))))), L, O, d7, d8, rfl⟩
    refine un i (un i (un i (un i (un i (un i (un i (V (li (cB i) rfl) ?_)))))))
    obtain rfl := sj y
    exact b7 _ _ ⟨a9, _, (kH.refl _), (d.kh (Kb (Kb (Dr (Dr St))))), L, O, d7, d8, rfl⟩
   refine bC z (fun j z => ?_) (fun j z => ?_)
   ·refine ug j (kl e1 (kx d.has (Mt Mh) a0 rfl dV dB)) (ug j (ko e4) (ug j (ky Bp e2) (ug j (kl rfl (kK d.has Mh rfl bT)) (bS z fun j9 g0 z => vn j (rW d call13 (yX c a2 a4 q J.2.1 g.Name _ _ (k.mono mG.mono ((B.trans v).trans d.kw)) (u.mono pe.mono ((B.trans v).trans d.kw)) (d0.sl lV (fun b o l => d.at_ (Mt (Mt (Ma (Ml l)))))) g0) (fun l5 k1 k3 l2 d e6 ab f4 => ug j (ko e3) (bS z fun m0 g1 z => vn j (Eg d call12 (kN.lZ (zp k1 j9 p J.1 _ _ (f4.sl lV (fun b o l => d.at_ (Ml l))) (c9.sl lV (fun b o l => d.at_ (Ma (Mt (Mt (Ml l)))))) g1)) (fun l6 d => V (lg (cB j) rfl) ?_)))))))))
    obtain rfl := sj z
    exact b9 _ _ ⟨k3, _, e6, (d.kh (Dr St)), e1, e2, h2, e3, e4, h3, rfl⟩
   refine un j (un j (un j (un j (un j (un j (un j (V (li (cB j) rfl) ?_)))))))
   obtain rfl := sj z
   exact b9 _ _ ⟨d1, _, (kH.refl _), (d.kh St), e1, e2, h2, e3, e4, h3, rfl⟩
  refine bC M (fun H M => ?_) (fun H M => ?_)
  ·refine ug H (ko e0) (ug H (ko k4) (ug H (lW rfl rfl rfl) (V (lg (cB H) rfl) ?_)))
   obtain rfl := sj M
   exact c0 _ _ ⟨_, (d.kh St), g7, g8, g9, h0, h1, e0, rfl⟩
  refine un H (un H (un H (V (li (cB H) rfl) ?_)))
  obtain rfl := sj M
  exact c0 _ _ ⟨_, (d.kh St), g7, g8, g9, h0, h1, e0, rfl⟩
 refine bC I (fun G I => ?_) (fun G I => ?_)
 ·refine ug G (ko rfl) (ug G (ko rfl) (bS I fun m1 g2 I => vn G (Eg d call12 (kN.lZ (zp q J.2.1 k8 e7.1 _ _ (d0.sl lV (fun b o l => d.at_ (Ma (Ma (Ma (Ml l)))))) (j6.sl lV (fun b o l => d.at_ (Ml l))) g2)) (fun l7 d => V (lg (cB G) rfl) ?_))))
  obtain rfl := sj I
  exact c1 _ _ ⟨_, (d.kh (Dr (Dr (Sb (Pr (Pr Pz)) (Sb (Pr (Pr Pz)) St))))), rfl, rfl, rfl, rfl, rfl, rfl, rfl, rfl⟩
 refine un G (un G (un G (V (li (cB G) rfl) ?_)))
 obtain rfl := sj I
 exact c1 _ _ ⟨_, (d.kh (Dr (Dr (Sb (Pr (Pr Pz)) (Sb (Pr (Pr Pz)) St))))), rfl, rfl, rfl, rfl, rfl, rfl, rfl, rfl⟩
end Go.Proofs.YtklbhegeiijbjaaGreat
