/- a part of a proof of OutcomeTells -/
import Derived.Test.YtbnbdigcbldfhaaGreatO6W1g
set_option linter.all false
namespace Go.Proofs.YtbnbdigcbldfhaaGreat
open Go.IntKind renaming wrap → wi0
open Go.Proofs.Tryz renaming prog → pg0
open Go.RowKit
set_option maxRecDepth 10000
open Tryz
theorem LD (c : ky) (B : Value) (f1 : (kw × ByteArray) → Option Bool) (T : Value) (a2 : List ByteArray) (r : List kB) (w : World) (b0 : th pg0 B (hp w) (fun (x : (kw × ByteArray)) => [(.agg (kx x.1).toArray), (.string x.2)]) (fun (r : Bool) => (.bool r)) f1) (d9 : Sl (Pl ni) 1 (hp w) T a2) (hm : wo c f1 a2 = some r) :
  lK false pg0 130 [(.agg (kC c).toArray), B, T] w 38 kK 3 r := by
 refine sP 47 func130 rfl (fun d => sg (VE (lB d rfl (fun W2 n d => Wa (lS (VA d Mh (kC c) bG aI (bS hm fun r3 f6 hm => VE (Eg d kc (la.mn (uq c _ _  f6)) (fun W5 d => V (mQ rfl) (Wm ?_))))))))))
 refine LJ hm (fun b6 E W => ∃ L8, ST false ll w W (hp w) ((n, Ol (kC c) 108) :: L8) ∧ E 1 = B ∧ E 2 = T ∧ E 3 = (.pointer (some ⟨n, 0, none⟩)) ∧ E 17 = (.bool b6)) 3 ?_ (fun b6 u U => ?_)
 ·rintro x7 E W ⟨L8, d, d3, e9, a4, f0⟩ H
  refine ln (CI H f0 (fun e0 H => ?_) (fun e0 H => ?_))
  ·refine sg (Wa (ln ?_))
   replace d := d.kz (Db St)
   refine lj (lb ?_)
   obtain rfl := sj H
   exact lI (v := (.slice none 0 0)) rfl rfl ⟨_, [], rfl, d.mO (fun p o => by cases o) (by simp), kU.nil _ _ _⟩
  refine kg (Wh e9 (bS H fun d4 e3 H => VE (pF d call188 (lK.mn (Ja T a2 _ _ (d9.mono (Pl.mono _) d.kJ) e3)) (fun g8 q g9 g7 d c5 aa a9 => Wa (lr (Wm (Wa (lh ?_))))))))
  refine kF (kO ?_)
  have e1 := a9.RA d (fun p o => (Ml o))
  obtain ⟨d5, d, c6, ab, b3⟩ := ST.A4 d a9 (fun _ => rfl)
  refine CJ H (fun b5 E W => ∃ Y Z d2, kY d5 Z ∧ ST false ll w W Z ((n, Ol (kC c) 108) :: d2) ∧ E 1 = B ∧ E 2 = q ∧ E 3 = (.pointer (some ⟨n, 0, none⟩)) ∧ E 7 = Y ∧ Sl (Pl ni) 1 Z Y b5 ∧ Fr w.heap.size Y) (fun b5 t => ?_) ?_
  ·refine sg (V (kD nZ a4) (VB d Mh rfl rfl cC (Wi rfl (ln (CI t rfl (fun c2 t => ?_) (fun c2 t => ?_))))))
   ·refine kL (V (kD sL a4) (VB d Mh rfl rfl aY (VE (lg (cs := [(.string c.lx)].toArray) d (mI rfl) (mD bE dh iz) (fun g1 J d => Wa (ln ?_))))))
    obtain rfl := sj t
    have c3 : Fr w.heap.size (.slice (some ⟨J, 0, none⟩) 1 1) := Fr.box d Mh
    obtain ⟨e7, d, b2, a8, c9⟩ := ST.A4 (R := [(J, Ol [(.string c.lx)] 9)]) d (kU.lit (l := [c.lx]) (enc := ni) (b := J) (m := 1) rfl dc rfl rfl) (fun _ => rfl)
    exact ⟨(.slice (some ⟨J, 0, none⟩) 1 1), e7, _, b2, (d.kz St), d3, rfl, a4, rfl, c9, c3⟩
   refine kn ?_
   obtain rfl := sj t
   exact ⟨q, d5, _, (kY.refl _), (d.kz St), d3, rfl, a4, rfl, b3, e1⟩
  rintro L E W ⟨Y, Z, d2, a5, d, f2, f3, f4, f5, a3, g2⟩ e2
  refine sg (Wa (lS (Wh f5 (V (ly bE rfl a3) (Wm (ln (lp (fun i E W => ∃ k I j A, (E 29 = .int .i64 (i : Nat) ∧ E 28 = .int .i64 (L.length : Nat)) ∧ ST false ll w W Z ((n, Ol (kC c) 108) :: (j ++ A)) ∧ E 1 = B ∧ E 2 = q ∧ E 3 = (.pointer (some ⟨n, 0, none⟩)) ∧ E 8 = k ∧ E 27 = Y ∧ kU 38 kK 3 k I j ∧ rK c f1 d4 (L.drop i) I = some r) L.length a3.len ⟨(.slice none 0 0), ([]), [], _, ⟨rfl, rfl⟩, (d.kz St), f2, f3, f4, rfl, rfl, (kU.nil _ _ _), e2⟩ dc dc dc (fun _ _ _ h => by obtain ⟨_, _, _, _, O, _⟩ := h; exact O) ?_ ?_)))))))
  ·rintro e4 E W c4 ⟨k, I, j, A, ⟨s, P⟩, d, K, M, D, N, Q, z, a⟩
   obtain ⟨g, f7, d1, d0, a6⟩ := lc c4
   let a0 := (⟨c.Head, g⟩ : kB)
   rw [d1] at a
   refine bg (VQ (lO (enc := ni) (i := (e4 : Int)) (x0 := g) bE dh Q s a3 (aD _) d0) (fun g3 c7 => V (kA rfl (ng d.has (y := (.string g)) c7 aY)) (Wa (lr (V (kA D (kI d.has Mh (kC c) rfl bG aI)) (Wh K (Wh M (Wm (bS a fun g4 c8 a => ?_)))))))))
   refine VE (Eg d call190 (KK c B f1 q d4 g _ _ (b0.mono (((c5.trans c6).trans a5).trans d.kJ)) (b3.mono (Pl.mono _) (a5.trans d.kJ)) c8) (fun f8 d => ln (CI a rfl (fun c0 a => ?_) (fun c0 a => ?_))))
   ·refine kL (Wh N (V (kD oe D) (VA d Mh (kx c.Head) aN aC (Wm (V (nc (v := (.agg (kK (a0)).toArray)) (pC rfl rfl) (mB cN cq (Dj _ cq) kr)) (VE (lg (cs := (kK (a0)).toArray) d (mI rfl) (mD bJ bO cN) (fun f9 d8 d => ?_))))))))
    replace d := d.perm (Nr (Qb (Qb Qz)) Nz)
    refine bS a fun e5 c1 a => VE (my (enc := kK) (v := k) (vs := (.slice (some ⟨d8, 0, none⟩) 1 1)) (R := j) d nf dc uw bJ oJ.1 oJ.2.1 rfl oJ.2.2.1 oJ.2.2.2 rfl rfl z (Sl.lit (enc := kK) (l := [a0]) nf rfl nb rfl (d.at_ (Ma Mh))) c1 (fun g0 e6 d6 d b9 => Wa (lh (lu (kF ?_)))))
    replace d := d.kz (Kr (Db St))
    exact ⟨s, e6, e5, d6, _, ⟨rfl, P⟩, (d.kz (Sb (Pr Pz) St)), K, M, D, rfl, Q, b9, (by rw [a6]; exact a)⟩
   exact lz (lu (kF ⟨s, k, I, j, _, ⟨rfl, P⟩, (d.kz St), K, M, D, N, Q, z, (by rw [a6]; exact a)⟩))
  rintro E W ⟨k, I, j, A, ⟨s, P⟩, d, K, M, D, N, Q, z, a⟩
  rw [aG] at a
  refine kF ?_
  replace d := d.kz (Db St)
  refine sg (Wh N (Wa (lt ?_)))
  obtain rfl := sj a
  exact lI (v := k) rfl rfl ⟨_, j, rfl, d.mO (fun p o => (Ml o)) z.nd, z⟩
 refine bC u (fun G u => ?_) (fun G u => ?_)
 ·refine un G (un G (V (kR (cB G) rfl) ?_))
  obtain rfl := sj u
  exact U _ _ ⟨_, (d.kz St), rfl, rfl, rfl, rfl⟩
 refine ug G (kH rfl) (ug G (Ly underlying104 b0 rfl rfl) (V (kQ (cB G) rfl) ?_))
 obtain rfl := sj u
 exact U _ _ ⟨_, (d.kz St), rfl, rfl, rfl, rfl⟩
theorem IR (a : kw) (g : ByteArray) (i : Nat) (c : Value) (u : List (kB × Bool)) (r : Bool) (w : World) (t : xk (fun (x : kB) => (.agg (kK x).toArray)) (fun (x : Bool) => (Value.bool x)) (hp w) c u) (j : At (hp w) (.pointer (some ⟨i, 0, none⟩)) [c]) (hm : vN a g u = some r) :
  la true pg0 133 [(.agg (kx a).toArray), (.string g), (.pointer (some ⟨i, 0, none⟩))] w (.bool r) := by
 refine cG 11 func133 rfl (fun d => sg (VE (lB d rfl (fun B D d => Wa (lr (V (kA rfl (ng d.has (y := c) j isAgg191)) (VA d Mh (kx a) aN aC (Wm (V (nc (v := (.agg (kK (⟨a, g⟩ : kB)).toArray)) (pC rfl rfl) (mB cN cq (Dj _ cq) kr)) (V (xB (k := (⟨a, g⟩ : kB)) (z := false) (vf := (fun (x : Bool) => (Value.bool x))) Nn iE gy rfl rfl (t.mono (fun b o h => d.has.1 b o h))) (Wa ?_)))))))))))
 refine ln ?_
 exact lj (rQ hm d)
theorem Mn (f7 : Value) (a0 : List ky) (q : kB) (r : ((List kV) × Bool)) (w : World) (i1 : Sl (Pl kC) 9 (hp w) f7 a0) (hm : yf a0 q = some r) :
  mh false pg0 66 [f7, (.agg (kK q).toArray)] w [] (fun v L1 W' => ∃ y1 S2, v = (.tuple #[y1, (.bool (r.2))]) ∧ L1 = (S2 ++ []) ∧ kU 140 kX 12 y1 r.1 S2) := by
 refine sP 60 func66 rfl (fun d => sg (VE (lB d rfl (fun W2 A d => Wa (Wa (lr (Wm (bS hm fun r3 o5 hm => VE (pF d call51 (Qp f7 a0 _ _ (i1.mono (Pl.mono _) d.kJ) o5) (fun W5 v9 ae g0 d o1 ad f2 => Wm (bS hm fun k5 o2 hm => ?_)))))))))))
 refine VE (pF d call132 (lK.mn (Mg f7 a0 _ _ (i1.mono (Pl.mono _) (o1.trans d.kJ)) o2)) (fun q3 O n9 g1 d p8 ab o0 => Wa (Wa (lr (VE (D9 (P := pg0) (fun (x : kB) => (.agg (kK x).toArray)) (fun (x : Bool) => (Value.bool x)) d (fun q4 q7 o3 d h9 => VE (lA d zeroValue191 (fun q5 t d => ?_)))))))))
 obtain ⟨D, rfl⟩ := h9.form
 refine VO (lf (.map (some D)) (#[(.map (some D))]) d rfl rfl sizeOf191 oc nb rfl (fun q6 d => lr (V (vz (by exact pH rfl) rfl) (Wa (lr (Wa (ln (kO ?_))))))))
 refine sg (Wa (ln (mK (od (fun m E W => ∃ d3 B b2 f8 d1 b3 Y g9, kY n9 Y ∧ ST false ll w W Y ((t, Ob #[(.map (some D))] 191) :: ((A, Ol (kK q) 38) :: (b2 ++ (b3 ++ (g1 ++ (g0 ++ g9)))))) ∧ E 3 = (.pointer (some ⟨A, 0, none⟩)) ∧ E 6 = v9 ∧ E 7 = O ∧ E 8 = (.pointer (some ⟨t, 0, none⟩)) ∧ E 9 = (.func (.func 133) #[] #[(.pointer (some ⟨t, 0, none⟩))]) ∧ E 10 = d3 ∧ E 11 = (.int .i64 f8) ∧ kU 140 kX 12 d3 B b2 ∧ mu (fun (x : kB) => (.agg (kK x).toArray)) (fun (x : Bool) => (Value.bool x)) (.map (some D)) d1 b3 ∧ rG k5 q r3 m B f8 d1 = some r) lC ⟨(.slice none 0 0), ([]), [], (-1), ([]), o3, n9, _, (kY.refl _), (d.kz (Kb (Sb (Pr (Pr (Pr Pz))) St))), rfl, rfl, rfl, rfl, rfl, rfl, rfl, (kU.nil _ _ _), h9, hm⟩ ?_))))
 let g6 := (#[(.map (some D))] : Array Value)
 let g5 : Value := (.pointer (some ⟨A, 0, none⟩))
 let e1 := ((kK q).toArray : Array Value)
 let a9 : Value := (.pointer (some ⟨t, 0, none⟩))
 let b8 : Value := (.func (.func 133) #[] #[a9])
 rintro m E W ⟨d3, B, b2, f8, d1, b3, Y, g9, h5, d, l0, h4, l1, l2, l3, e5, l4, d9, j7, y⟩
 cases m with
 | zero => rw [rG] at y; cases y
 | succ n7 =>
  refine kO (sg (Wh l4 (Wh e5 (V (mP aW rfl d9) (Wi rfl (ln (CI y rfl (fun i2 y => ?_) (fun i2 y => ?_))))))))
  ·refine kn (bg (Wh e5 (V (mP aW rfl d9) (Wa (lr (Wh h4 (V (mP aX rfl f2) (Wm ?_))))))))
   refine ln (vB (HA y (fun a7 E W => ∃ d4 b4 b5 d6 h0, kY Y d6 ∧ ST false ll w W d6 ((t, Obj.cells g6 191 (0, 0)) :: ((A, Obj.cells e1 38 (0, 0)) :: (b4 ++ (b5 ++ (g1 ++ (g0 ++ h0)))))) ∧ E 3 = g5 ∧ E 6 = v9 ∧ E 7 = O ∧ E 8 = a9 ∧ E 9 = b8 ∧ E 10 = d4 ∧ E 11 = (.int .i64 (B.length : Int)) ∧ kU 140 kX 12 d4 a7.1 b4 ∧ mu (fun (x : kB) => (.agg (kK x).toArray)) (fun (x : Bool) => (Value.bool x)) (.map (some D)) a7.2 b5) (fun a7 i9 d7 => ?_) ?_))
   ·let g8 : Value := (.int .i64 (B.length : Int))
    refine lp (fun i E W => ∃ U a5 K H M a8 e3, (E 30 = .int .i64 (i : Nat) ∧ E 29 = .int .i64 (r3.length : Nat)) ∧ kY Y a8 ∧ ST false ll w W a8 ((t, Obj.cells g6 191 (0, 0)) :: ((A, Obj.cells e1 38 (0, 0)) :: (K ++ (M ++ (g1 ++ (g0 ++ e3)))))) ∧ E 3 = g5 ∧ E 6 = v9 ∧ E 7 = O ∧ E 8 = a9 ∧ E 9 = b8 ∧ E 10 = U ∧ E 11 = g8 ∧ E 28 = v9 ∧ kU 140 kX 12 U a5 K ∧ mu (fun (x : kB) => (.agg (kK x).toArray)) (fun (x : Bool) => (Value.bool x)) (.map (some D)) H M ∧ rD k5 q (r3.drop i) a5 H = some a7) r3.length f2.len ⟨d3, B, b2, d1, b3, Y, _, ⟨rfl, rfl⟩, (kY.refl _), (d.kz St), l0, h4, l1, l2, l3, e5, rfl, rfl, d9, j7, i9⟩ dc dc dc (fun _ _ _ h => by obtain ⟨_, _, _, _, _, _, _, L, _⟩ := h; exact L) ?_ ?_
    ·rintro f3 E W i6 ⟨U, a5, K, H, M, a8, e3, ⟨s, eN⟩, b0, d, e6, e7, b9, e8, c0, e9, f0, f1, e0, a3, j⟩
     obtain ⟨g, o6, k2, g3, k3⟩ := lc i6
     rw [k2] at j
     refine bg (VQ (mC (i := (f3 : Int)) (x0 := g) aX aI f1 s f2 (aD _) g3) (fun p9 j4 => V (kA rfl (ot d.has (fun p n => (Mt (Mt (Ma (Ma (Ma (Ml n))))))) f2 mW j4 g3 bG aI)) (VE (lA d cg (fun o9 h3 d => VO (lf (.agg (kC g).toArray) ((kC g).toArray) d rfl rfl aI (nI g) nb rfl (fun p0 d => lr (VA d Mh (kC g) bG aI (Wh c0 (Wh b9 (bS j fun f5 j6 j => ?_)))))))))))
     refine VE (pF d call130 (LD g b8 (fun (x : (kw × ByteArray)) => vN x.1 x.2 H) O k5 _ _ ⟨133, #[], #[a9], rfl, call133, fun W x r hs hm => (IR x.1 x.2 t (.map (some D)) H r W (a3.at (fun b o n => hs _ _ ((fun b o n => d.at_ (Mt (Mt (Mt (Ma (Ml n)))))) b o n))) (At.of (hs _ _ (d.at_ (Mt Mh))) _ rfl) hm).mn⟩ (o0.sl (fun _ => rfl) (fun b o n => d.at_ (Mt (Mt (Mt (Ma (Ma (Ml n)))))))) j6) (fun p1 n8 f9 k6 d h7 aa a2 => V (mP bJ rfl a2) (Wm (ln (vB (HA j (fun d2 E W => ∃ d5 b6 b7 h1, ST false ll w W f9 ((t, Obj.cells g6 191 (0, 0)) :: ((A, Obj.cells e1 38 (0, 0)) :: (b6 ++ (b7 ++ (g1 ++ (g0 ++ h1)))))) ∧ E 3 = g5 ∧ E 6 = v9 ∧ E 7 = O ∧ E 8 = a9 ∧ E 9 = b8 ∧ E 10 = d5 ∧ E 11 = g8 ∧ E 28 = v9 ∧ E 29 = (.int .i64 (r3.length : Int)) ∧ E 30 = (.int .i64 (f3 : Int)) ∧ kU 140 kX 12 d5 d2.1 b6 ∧ mu (fun (x : kB) => (.agg (kK x).toArray)) (fun (x : Bool) => (Value.bool x)) (.map (some D)) d2.2 b7) (fun d2 j3 d8 => ?_) ?_))))))
     ·refine lp (fun i E W => ∃ I a6 G T N e4, (E 39 = .int .i64 (i : Nat) ∧ E 38 = .int .i64 (f5.length : Nat)) ∧ ST false ll w W f9 ((h3, Ol (kC g) 108) :: ((t, Obj.cells g6 191 (0, 0)) :: ((A, Obj.cells e1 38 (0, 0)) :: (G ++ (N ++ (k6 ++ (g1 ++ (g0 ++ e4)))))))) ∧ E 3 = g5 ∧ E 6 = v9 ∧ E 7 = O ∧ E 8 = a9 ∧ E 9 = b8 ∧ E 10 = I ∧ E 11 = g8 ∧ E 13 = (.pointer (some ⟨h3, 0, none⟩)) ∧ E 28 = v9 ∧ E 29 = (.int .i64 (r3.length : Int)) ∧ E 30 = (.int .i64 (f3 : Int)) ∧ E 37 = n8 ∧ kU 140 kX 12 I a6 G ∧ mu (fun (x : kB) => (.agg (kK x).toArray)) (fun (x : Bool) => (Value.bool x)) (.map (some D)) T N ∧ qj g q (f5.drop i) a6 T = some d2) f5.length a2.len ⟨U, a5, K, H, M, _, ⟨rfl, rfl⟩, (d.kz (Sb (Pr Pz) (Sb (Pr Pz) (Sb (Pr Pz) (Sr (Qr Qz) (Sr (Qr Qz) St)))))), e6, e7, b9, e8, c0, e9, f0, rfl, f1, eN, s, rfl, e0, a3, j3⟩ dc dc dc (fun _ _ _ h => by obtain ⟨_, _, _, _, _, _, L, _⟩ := h; exact L) ?_ ?_
      ·rintro n2 E W i7 ⟨I, a6, G, T, N, e4, ⟨s, eN⟩, d, Z, c1, c2, Q, c3, c4, c5, c6, c7, c8, c9, d0, a4, J, a⟩
       obtain ⟨c, o7, k4, g4, g7⟩ := lc i7
       rw [k4] at a
       refine bg (VQ (mC (i := (n2 : Int)) (x0 := c) bJ bO d0 s a2 (aD _) g4) (fun q0 j5 => V (kA rfl (ot d.has (fun p n => (Mt (Mt (Mt (Ma (Ma (Ml n))))))) a2 nf j5 g4 dl bO)) (VE (lA d cN (fun p2 p7 d => VO (lf (.agg (kK c).toArray) ((kK c).toArray) d rfl rfl bO (uw c) nb rfl (fun p3 d => lS (V (kA Q (kM d.has (Mt (Mt Mh)) rfl isAgg191)) (VA d Mh (kK c) dl bO (V (xB (k := c) (z := false) (vf := (fun (x : Bool) => (Value.bool x))) Nn iE gy rfl rfl (J.at (fun b o n => d.has.2 b o (Mt (Mt (Mt (Mt (Ma (Ml n))))))))) ?_))))))))))
       refine ln (CI a rfl (fun i3 a => ?_) (fun i3 a => ?_))
       ·refine ob (nN (uf (kF ?_)))
        replace d := d.kz (Db St)
        exact ⟨s, I, a6, G, T, N, _, ⟨rfl, eN⟩, (d.kz St), Z, c1, c2, Q, c3, c4, c5, c6, c7, c8, c9, d0, a4, J, (by rw [g7]; exact a)⟩
       refine kg (V (kA Q (kM d.has (Mt (Mt Mh)) rfl isAgg191)) (VA d Mh (kK c) dl bO ?_))
       replace d := d.perm (Nr (Qb (Qb (Qb (Qb (Qr Qz))))) Nz)
       refine VO (Ig (k := c) (v := true) (vf := (fun (x : Bool) => (Value.bool x)))  Nn iE d J rfl rfl rfl (fun p4 k7 d i0 => lr (Wh c4 (V (kA c6 (kI d.has (Ma (Mt Mh)) (kC g) rfl bG aI)) (VA d (Ma Mh) (kK c) dl bO (V (nc (v := (.agg (kX (⟨g, c⟩ : kV)).toArray)) (pC rfl rfl) (mB dD ee (Ue _ ee) kr)) (VE (lg (cs := (kX (⟨g, c⟩ : kV)).toArray) d (mI rfl) (mD aW bX dD) (fun p5 k9 d => ?_)))))))))
       replace d := d.perm (Nr (Qb (Qr (Qb (Qb (Qb (Qb Qz)))))) Nz)
       refine bS a fun f4 i4 a => VE (my (enc := kX) (v := I) (vs := (.slice (some ⟨k9, 0, none⟩) 1 1)) (R := G) d oO dc tE aW oa.1 oa.2.1 rfl oa.2.2.1 oa.2.2.2 rfl rfl a4 (Sl.lit (enc := kX) (l := [(⟨g, c⟩ : kV)]) oO rfl nb rfl (d.at_ (Ma Mh))) i4 (fun p6 f6 h2 d g2 => Wa (ln ?_)))
       replace d := d.kz (Kr (Db St))
       refine sg (VA d (Ma (Ma Mh)) (kK c) dl bO (V (kA Z (kI d.has (Ma (Ma (Mt (Mt (Mt Mh))))) (kK q) rfl dl bO)) (V (tT rfl rfl (mY eqGuardType38) (pK (Dy _ c q))) (ln ?_))))
       replace d := d.kz (Kr (Kr (Db St)))
       refine CI a rfl (fun i5 a => ?_) (fun i5 a => ?_)
       ·refine sg (Wm (Wa (Wa (ln ?_))))
        replace d := d.kz (Kr (Dr (Db (Db (Db (Dr (Dr (Dr St))))))))
        refine lj (me (lb (me (lb (me (lb (me (lb (me (lb (me (lb ?_))))))))))))
        obtain rfl := sj a
        replace d8 : some (Sum.inl (f4, true)) = some a7 := d8
        obtain rfl := sj d8
        replace d7 : some (f4, true) = some r := d7
        obtain rfl := sj d7
        exact qF (v := f6) (u := (.bool true)) rfl rfl rfl ⟨_, _, rfl, (d.NA (Kr Sn)), f6, h2, rfl, rfl, g2⟩
       exact lz (lu (kF ⟨s, f6, f4, h2, (oh nq T c true), k7, _, ⟨rfl, eN⟩, (d.kz (Sb (Pr (Pr Pz)) (Sb (Pr (Pr Pz)) (Sb (Pr (Pr Pz)) St)))), Z, c1, c2, Q, c3, rfl, c5, c6, c7, c8, c9, d0, g2, i0, (by rw [g7]; exact a)⟩))
      rintro E W ⟨I, a6, G, T, N, e4, ⟨s, eN⟩, d, Z, c1, c2, Q, c3, c4, c5, c6, c7, c8, c9, d0, a4, J, a⟩
      rw [aG] at a
      refine kF ?_
      obtain rfl := sj a
      exact ⟨_, rfl, I, G, N, _, (d.kz (Db (Kb (Kb (Kr (Kr (Dr St))))))), Z, c1, c2, Q, c3, c4, c5, c7, c8, c9, a4, J⟩
     rintro ⟨n5, n6⟩ E W ⟨d5, b6, b7, h1, d, m2, m3, m4, m5, m6, m7, m8, m9, n0, n1, k0, k1⟩ j0
     exact lu (kF ⟨n1, d5, n5, b6, n6, b7, f9, _, ⟨rfl, n0⟩, (b0.trans h7), (d.kz St), m2, m3, m4, m5, m6, m7, m8, m9, k0, k1, (by rw [k3]; exact j0)⟩)
    rintro E W ⟨U, a5, K, H, M, a8, e3, ⟨s, eN⟩, b0, d, e6, e7, b9, e8, c0, e9, f0, f1, e0, a3, j⟩
    rw [aG] at j
    refine kF ?_
    obtain rfl := sj j
    exact ⟨_, rfl, U, K, M, a8, _, b0, (d.kz St), e6, e7, b9, e8, c0, e9, f0, e0, a3⟩
   rintro ⟨n3, n4⟩ E W ⟨d4, b4, b5, d6, h0, h6, d, l5, l6, l7, l8, l9, m0, m1, j8, j9⟩ i8
   exact lu (kF ⟨n7, bT _, d4, n3, b4, (B.length : Int), n4, b5, d6, _, (h5.trans h6), (d.kz St), l5, l6, l7, l8, l9, m0, m1, j8, j9, i8⟩)
  refine ob (nN (nN (uf (kF ?_))))
  replace d := d.kz (Db (Db (Dr (Dr (Dr (Dr St))))))
  refine sg (Wa (Wa (lt ?_)))
  obtain rfl := sj y
  refine qF (v := (.slice none 0 0)) (u := (.bool false)) rfl rfl rfl ?_
  replace d := d.WQ
  exact ⟨_, _, rfl, (d.NA (Kr Sn)), (.slice none 0 0), [], rfl, rfl, (kU.nil _ _ _)⟩
theorem Cm (z : Value) (D : List kV) (r : List kB) (w : World) (y : Sl (Pl kX) 12 (hp w) z D) (hm : wx D = some r) :
  lK true pg0 150 [z] w 38 kK 3 r := by
 refine sP 19 func150 rfl (fun d => sg (Wa (lr (Wa (lS (Wm ?_))))))
 refine V (ly aW rfl y) (Wm (ln (lp (fun i E W => ∃ j B g t, (E 8 = .int .i64 (i : Nat) ∧ E 7 = .int .i64 (D.length : Nat)) ∧ ST true ll w W (hp w) (g ++ t) ∧ E 3 = j ∧ E 6 = z ∧ kU 38 kK 3 j B g ∧ tF (D.drop i) B = some r) D.length y.len ⟨(.slice none 0 0), ([]), [], _, ⟨rfl, rfl⟩, (d.kz St), rfl, rfl, (kU.nil _ _ _), hm⟩ dc dc dc (fun _ _ _ h => by obtain ⟨_, _, _, _, n, _⟩ := h; exact n) ?_ ?_)))
 ·rintro Z E W M ⟨j, B, g, t, ⟨m, o⟩, d, u, x, k, a⟩
  obtain ⟨c, L, Q, N, T⟩ := lc M
  rw [Q] at a
  refine bg (VQ (lO (enc := kX) (i := (Z : Int)) (x0 := c) aW bX x m y (aD _) N) (fun A I => V (kA rfl (lD d.has I ey bX)) (VE (lA d dD (fun s a5 d => VO (lf (.agg (kX c).toArray) ((kX c).toArray) d rfl rfl bX (tE c) nb rfl (fun a2 d => ln (kL (Wh u (Wf sM (VA d Mh (kK c.kB) dl bO (VE (lg (cs := (kK c.kB).toArray) d (mI rfl) (mD bJ bO cN) (fun a3 K d => ?_))))))))))))))
  replace d := d.perm (Nr (Qb (Qb Qz)) Nz)
  refine bS a fun U H a => VE (my (enc := kK) (v := j) (vs := (.slice (some ⟨K, 0, none⟩) 1 1)) (R := g) d nf dc uw bJ oJ.1 oJ.2.1 rfl oJ.2.2.1 oJ.2.2.2 rfl rfl k (Sl.lit (enc := kK) (l := [c.kB]) nf rfl nb rfl (d.at_ (Ma Mh))) H (fun a4 Y J d G => Wa (lh (lu (kF ?_)))))
  replace d := d.kz (Kr (Db (Db St)))
  exact ⟨m, Y, U, J, _, ⟨rfl, o⟩, (d.kz St), rfl, x, G, (by rw [T]; exact a)⟩
 rintro E W ⟨j, B, g, t, ⟨m, o⟩, d, u, x, k, a⟩
 rw [aG] at a
 refine kF (sg (Wh u (Wa (lt ?_))))
 obtain rfl := sj a
 exact lI (v := j) rfl rfl ⟨_, g, rfl, d.mO (fun p q => (Ml q)) k.nd, k⟩
theorem GH (j : Value) (t : List kB) (c : kB) (r : Int) (w : World) (g : Sl (Pl kK) 3 (hp w) j t) (hm : yq t c = some r) :
  la true pg0 204 [j, (.agg (kK c).toArray)] w (.int .i64 r) := by
 refine cG 19 func204 rfl (fun d => sg (VE (lB d rfl (fun Q J d => Wa (lS (Wm (V (ly bJ rfl g) (Wm (ln ?_)))))))))
 refine lp (fun i E W => ∃ k, (E 8 = .int .i64 (i : Nat) ∧ E 7 = .int .i64 (t.length : Nat)) ∧ ST true ll w W (hp w) ((J, Ol (kK c) 38) :: k) ∧ E 0 = j ∧ E 3 = (.pointer (some ⟨J, 0, none⟩)) ∧ rn c (t.drop i) i = some r) t.length g.len ⟨_, ⟨rfl, rfl⟩, (d.kz St), rfl, rfl, hm⟩ dc dc dc (fun _ _ _ h => by obtain ⟨_, o, _⟩ := h; exact o) ?_ ?_
 ·rintro K E W B ⟨k, ⟨n, s⟩, d, u, x, a⟩
  obtain ⟨y, M, H, G, I⟩ := lc B
  rw [H] at a
  refine bg (Wh n (Wa (ln (kO ?_))))
  replace d := d.drew
  have m := d.has.kz (Kb Sn)
  refine lG m lq (XH 0 rfl m (fun _ q => kA x (kI q Mh (kK c) rfl dl bO)) (X 1 rfl m (kH u) (X 2 rfl m (kH rfl) (XQ 3 rfl m (lO (enc := kK) (i := (K : Int)) (x0 := y) bJ bO rfl rfl g (aD _) G) (fun N D => XH 4 rfl m (fun _ q => kA rfl (lD q D dl bO)) (X 5 rfl m (tT rfl rfl (mY eqGuardType38) (pK (Dy _ c y))) (lT kr (kF (CI a rfl (fun z a => ?_) (fun z a => ?_))))))))))
  ·refine sg (Wm (Wa (ln ?_)))
   replace d := d.kz (Db St)
   refine lj (me (lb (me (lb ?_))))
   obtain rfl := sj a
   exact rP d
  exact lz (lu (kF ⟨n, _, ⟨rfl, s⟩, (d.kz St), u, x, (by rw [I]; exact a)⟩))
 rintro E W ⟨k, ⟨n, s⟩, d, u, x, a⟩
 rw [aG] at a
 refine kF ?_
 replace d := d.kz (Db St)
 exact sg (Wa (lt (rQ a d)))
theorem zW (a : Value) (g : List kB) (c : kB) (r : Bool) (w : World) (i : Sl (Pl kK) 3 (hp w) a g) (hm : qT g c = some r) :
  la true pg0 153 [a, (.agg (kK c).toArray)] w (.bool r) := by
 refine cG 9 func153 rfl (fun d => sg (VE (lB d rfl (fun k u d => Wa (lr (Wm (VA d Mh (kK c) dl bO (bS hm fun x j hm => VE (Eg d call204 (GH a g c _ _ (i.mono (Pl.mono _) d.kJ) j) (fun t d => Wi rfl (Wa ?_)))))))))))
 refine ln ?_
 exact lj (rQ hm d)
theorem DY (j : Value) (t : List kB) (c : kB) (r : Int) (w : World) (g : Sl (Pl kK) 3 (hp w) j t) (hm : wk t c = some r) :
  la true pg0 287 [j, (.agg (kK c).toArray)] w (.int .i64 r) := by
 refine cG 19 func287 rfl (fun d => sg (VE (lB d rfl (fun Q J d => Wa (lS (Wm (V (ly jR rfl g) (Wm (ln ?_)))))))))
 refine lp (fun i E W => ∃ k, (E 8 = .int .i64 (i : Nat) ∧ E 7 = .int .i64 (t.length : Nat)) ∧ ST true ll w W (hp w) ((J, Ol (kK c) 38) :: k) ∧ E 0 = j ∧ E 3 = (.pointer (some ⟨J, 0, none⟩)) ∧ pz c (t.drop i) i = some r) t.length g.len ⟨_, ⟨rfl, rfl⟩, (d.kz St), rfl, rfl, hm⟩ dc dc dc (fun _ _ _ h => by obtain ⟨_, o, _⟩ := h; exact o) ?_ ?_
 ·rintro K E W B ⟨k, ⟨n, s⟩, d, u, x, a⟩
  obtain ⟨y, M, H, G, I⟩ := lc B
  rw [H] at a
  refine bg (Wh n (Wa (ln (kO ?_))))
  replace d := d.drew
  have m := d.has.kz (Kb Sn)
  refine lG m lq (XH 0 rfl m (fun _ q => kA x (kI q Mh (kK c) rfl dl bO)) (X 1 rfl m (kH u) (X 2 rfl m (kH rfl) (XQ 3 rfl m (lO (enc := kK) (i := (K : Int)) (x0 := y) jR bO rfl rfl g (aD _) G) (fun N D => XH 4 rfl m (fun _ q => kA rfl (lD q D dl bO)) (X 5 rfl m (tT rfl rfl (mY eqGuardType38) (pK (Dy _ c y))) (lT kr (kF (CI a rfl (fun z a => ?_) (fun z a => ?_))))))))))
  ·refine sg (Wm (Wa (ln ?_)))
   replace d := d.kz (Db St)
   refine lj (me (lb (me (lb ?_))))
   obtain rfl := sj a
   exact rP d
  exact lz (lu (kF ⟨n, _, ⟨rfl, s⟩, (d.kz St), u, x, (by rw [I]; exact a)⟩))
 rintro E W ⟨k, ⟨n, s⟩, d, u, x, a⟩
 rw [aG] at a
 refine kF ?_
 replace d := d.kz (Db St)
 exact sg (Wa (lt (rQ a d)))
theorem Cg (a : Value) (g : List kB) (c : kB) (r : Bool) (w : World) (i : Sl (Pl kK) 3 (hp w) a g) (hm : ry g c = some r) :
  la true pg0 249 [a, (.agg (kK c).toArray)] w (.bool r) := by
 refine cG 9 func249 rfl (fun d => sg (VE (lB d rfl (fun k u d => Wa (lr (Wm (VA d Mh (kK c) dl bO (bS hm fun x j hm => VE (Eg d call287 (DY a g c _ _ (i.mono (Pl.mono _) d.kJ) j) (fun t d => Wi rfl (Wa ?_)))))))))))
 refine ln ?_
 exact lj (rQ hm d)
theorem zp (c : Value) (i : List kB) (a : kw) (g : ByteArray) (r : Bool) (w : World) (j : Sl (Pl kK) 3 (hp w) c i) (hm : tw i a g = some r) :
  la true pg0 202 [c, (.agg (kx a).toArray), (.string g)] w (.bool r) := by
 refine cG 12 func202 rfl (fun d => sg (VE (lB d rfl (fun t x d => Wa (lr (Wm (VA d Mh (kx a) aN aC (Wm (V (nc (v := (.agg (kK (⟨a, g⟩ : kB)).toArray)) (pC rfl rfl) (mB cN cq (Dj _ cq) kr)) (bS hm fun y k hm => VE (Eg d call249 (Cg c i (⟨a, g⟩ : kB) _ _ (j.mono (Pl.mono _) d.kJ) k) (fun u d => ?_))))))))))))
 refine Wa (ln ?_)
 exact lj (rQ hm d)
theorem B0 (g : Value) (t : List kB) (j : Value) (B : kB → Option Bool) (r : Int) (w : World) (c : Sl (Pl kK) 3 (hp w) g t) (D : th pg0 j (hp w) (fun (x : kB) => [(.agg (kK x).toArray)]) (fun (r : Bool) => (.bool r)) B) (hm : ue t B = some r) :
  la false pg0 288 [g, j] w (.int .i64 r) := by
 refine cG 19 func288 rfl (fun d => sg (Wa (lS (Wm (V (ly jR rfl c) (Wm (ln (lp (fun i E W => ∃ k, (E 8 = .int .i64 (i : Nat) ∧ E 7 = .int .i64 (t.length : Nat)) ∧ ST false ll w W (hp w) k ∧ E 0 = g ∧ E 1 = j ∧ ox B (t.drop i) i = some r) t.length c.len ⟨_, ⟨rfl, rfl⟩, (d.kz St), rfl, rfl, hm⟩ dc dc dc (fun _ _ _ h => by obtain ⟨_, n, _⟩ := h; exact n) ?_ ?_))))))))
 ·rintro Q E W H ⟨k, ⟨m, o⟩, d, u, y, a⟩
  obtain ⟨z, T, M, K, N⟩ := lc H
  rw [M] at a
  refine bg (Wh m (Wa (lr (Wh y (Wh u (Wm (VQ (lO (enc := kK) (i := (Q : Int)) (x0 := z) jR bO rfl rfl c (aD _) K) (fun Y I => V (kA rfl (lD d.has I dl bO)) (bS a fun Z J a => ?_)))))))))
  refine VE (Bk z d D (kY.refl _) rfl (pH rfl) J (fun U d => ln (CI a rfl (fun G a => ?_) (fun G a => ?_))))
  ·refine sg (Wm (Wa (lt (me (lb (me (lb ?_)))))))
   obtain rfl := sj a
   exact rP d
  exact lz (lu (kF ⟨m, _, ⟨rfl, o⟩, (d.kz St), u, y, (by rw [N]; exact a)⟩))
 rintro E W ⟨k, ⟨m, o⟩, d, u, y, a⟩
 rw [aG] at a
 exact kF (sg (Wa (lt (rQ a d))))
theorem A6 (a : Value) (g : List kB) (c : Value) (i : kB → Option Bool) (r : Bool) (w : World) (j : Sl (Pl kK) 3 (hp w) a g) (k : th pg0 c (hp w) (fun (x : kB) => [(.agg (kK x).toArray)]) (fun (r : Bool) => (.bool r)) i) (hm : pR g i = some r) :
  la false pg0 250 [a, c] w (.bool r) := by
 refine cG 9 func250 rfl (fun d => sg (Wa (lr (Wm (Wm (bS hm fun y t hm => VE (Eg d call288 (B0 a g c i _ _ (j.mono (Pl.mono _) d.kJ) (k.mono d.kJ) t) (fun u d => Wi rfl (Wa (lh ?_))))))))))
 exact kF (lj (rQ hm d))
theorem E3 (i : kB) (t : Nat) (K : kw) (u : Nat) (g : Value) (M : List kB) (x : Nat) (k : ByteArray) (z : Nat) (B : ByteArray) (r : Bool) (w : World) (D : At (hp w) (.pointer (some ⟨t, 0, none⟩)) (kx K)) (N : Sl (Pl kK) 3 (hp w) g M) (G : At (hp w) (.pointer (some ⟨u, 0, none⟩)) [g]) (H : At (hp w) (.pointer (some ⟨x, 0, none⟩)) [(.string k)]) (I : At (hp w) (.pointer (some ⟨z, 0, none⟩)) [(.string B)]) (hm : uJ i K M k B = some r) :
  la true pg0 251 [(.agg (kK i).toArray), (.pointer (some ⟨t, 0, none⟩)), (.pointer (some ⟨u, 0, none⟩)), (.pointer (some ⟨x, 0, none⟩)), (.pointer (some ⟨z, 0, none⟩))] w (.bool r) := by
 refine cG 20 func251 rfl (fun d => sg (VE (lB d rfl (fun W2 m d => Wa (lr (Wf wM (VA d Mh (kx i.kw) aN aC (V (kA rfl (lD d.has D aN aC)) (V (tT rfl rfl (mY cQ) (pK (nJ _ i.kw K))) (Wm (LJ hm (fun J E W => ∃ T, ST true ll w W (hp w) T ∧ E 6 = (.bool false) ∧ E 19 = (.bool J)) 8 ?_ (fun J c j => ?_))))))))))))
 ·rintro x7 E W ⟨T, d, h, U⟩ Y
  exact Wg U (lt (rQ Y d))
 refine bC c (fun a c => ?_) (fun a c => ?_)
 ·refine ug a (kA rfl (ng d.has (y := g) G isAgg250)) (ug a (kD rp rfl) (ug a (kA rfl (kM d.has Mh rfl aY)) (ug a (kA rfl (ng d.has (y := (.string k)) H aY)) (ug a (nc (v := (.agg (kx (⟨i.lx, k⟩ : kw)).toArray)) (pC rfl rfl) (mB bP cI (G5 _ cI) kr)) (ug a (kA rfl (ng d.has (y := (.string B)) I aY)) (bS c fun a2 Q c => pX a (Eg d call202 (zp g M (⟨i.lx, k⟩ : kw) B _ _ (N.mono (Pl.mono _) d.kJ) Q) (fun Z d => V (kR (cB a) rfl) ?_))))))))
  obtain rfl := sj c
  exact j _ _ ⟨_, (d.kz (Db St)), rfl, rfl⟩
 refine un a (un a (un a (un a (un a (un a (un a (V (kQ (cB a) rfl) ?_)))))))
 obtain rfl := sj c
 exact j _ _ ⟨_, (d.kz (Db St)), rfl, rfl⟩
theorem GR (k : Value) (a : List kB) (g : kw) (i j : ByteArray) (r : Bool) (w : World) (c : Sl (Pl kK) 3 (hp w) k a) (hm : yQ a g i j = some r) :
  la false pg0 203 [k, (.agg (kx g).toArray), (.string i), (.string j)] w (.bool r) := by
 refine cG 12 func203 rfl (fun d => sg ?_)
 obtain ⟨t, D, rfl⟩ := c.form
 refine VE (lB d rfl (fun K u d => VE (lB d rfl (fun M y d => VE (lB d rfl (fun N z d => VE (lB d rfl (fun H B d => Wa (lr (VB d (Mt (Mt (Mt Mh))) rfl rfl isAgg250 (V (vz (by exact Yc rfl rfl rfl rfl) rfl) (bS hm fun J G hm => VE (Eg d call250 (A6 (.slice t a.length D) a (.func (.func 251) #[] #[(.pointer (some ⟨y, 0, none⟩)), (.pointer (some ⟨u, 0, none⟩)), (.pointer (some ⟨z, 0, none⟩)), (.pointer (some ⟨B, 0, none⟩))]) (fun (x : kB) => uJ x g a i j) _ _ (c.mono (Pl.mono _) d.kJ) ⟨251, #[], #[(.pointer (some ⟨y, 0, none⟩)), (.pointer (some ⟨u, 0, none⟩)), (.pointer (some ⟨z, 0, none⟩)), (.pointer (some ⟨B, 0, none⟩))], rfl, call251, fun W x r h hm => (E3 x y g u (.slice t a.length D) a z i B j r W (At.of (h _ _ (d.at_ (Mt (Mt Mh)))) _ rfl) (c.mono (Pl.mono _) (d.kJ.trans h)) (At.of (h _ _ (d.at_ (Mt (Mt (Mt Mh))))) _ rfl) (At.of (h _ _ (d.at_ (Mt Mh))) _ rfl) (At.of (h _ _ (d.at_ Mh)) _ rfl) hm).mn⟩ G) (fun I d => Wa (lh ?_)))))))))))))))
 refine kF ?_
 exact lj (rQ hm d)
theorem Bn (i : kV) (k : Value) (G : List kB) (r : Bool) (w : World) (x : Sl (Pl kK) 3 (hp w) k G) (hm : uK i G = some r) :
  la false pg0 152 [(.agg (kX i).toArray), k] w (.bool r) := by
 refine cG 67 func152 rfl (fun d => sg (VE (lB d rfl (fun W2 m d => Wa (ln (kO ?_))))))
 replace d := d.drew
 have h := d.has.kz (Kb Sn)
 refine lG h lq (X 0 rfl h (kH rfl) (X 1 rfl h (kD zl rfl) (XH 2 rfl h (fun _ s => kA rfl (kI s Mh (kC i.ky) rfl bG aI)) (XE 3 rfl (lA d cg (fun a9 n d => ?_))))))
 have h := d.has.kz (Db (Kb Sn))
 refine ⟨h, (X 4 rfl h (mN rfl) (XO 5 rfl (lf (.agg (kC i.ky).toArray) ((kC i.ky).toArray) d rfl rfl aI (nI i.ky) nb rfl (fun v d => ?_))))⟩
 have h := d.has.kz (Db (Kb Sn))
 refine ⟨h, (lT kr (kF (kO (sg (VA d Mh (kC i.ky) bG aI (bS hm fun b7 Y hm => VE (Eg d kc (la.mn (uq i.ky _ _  Y)) (fun A d => V (mQ rfl) (Wm (LJ hm (fun K E W => ∃ H, ST false ll w W (hp w) ((n, Ol (kC i.ky) 108) :: ((m, Ol (kX i) 140) :: H)) ∧ E 2 = (.pointer (some ⟨m, 0, none⟩)) ∧ E 5 = k ∧ E 6 = (.pointer (some ⟨n, 0, none⟩)) ∧ E 20 = (.bool K)) 7 ?_ (fun K u D => ?_)))))))))))⟩
 ·rintro c4 E W ⟨H, d, y, z, t, o⟩ a
  refine ln (CI a o (fun M a => ?_) (fun M a => ?_))
  ·refine sg (Wa (ln ?_))
   replace d := d.kz (Db (Db St))
   refine lj (lb ?_)
   obtain rfl := sj a
   exact rP d
  refine kS (V (kD nZ t) (VB d Mh rfl rfl cC (ln (bg (Wi rfl (Wa (lh ?_)))))))
  refine kF (CI a rfl (fun N a => ?_) (fun N a => ?_))
  ·refine sg (V (kD sL t) (VB d Mh rfl rfl aY (V (kD sM y) (Wf rp (VB d (Mt Mh) rfl rfl aY (V (rU rfl rfl rfl) (Wa (ln ?_))))))))
   replace d := d.kz (Db (Db St))
   refine lj (me (lb ?_))
   obtain rfl := sj a
   exact rP d
  refine sg (Wi rfl (Wa (ln (CI a rfl (fun Q a => ?_) (fun Q a => ?_)))))
  ·refine sg (Wh z (V (kD mT t) (VA d Mh (kx i.ky.B) aN aC (V (kD sM y) (Wf rp (VB d (Mt Mh) rfl rfl aY (bS a fun c0 Z a => VE (Eg d call202 (la.mn (zp k G i.ky.B i.kB.lx _ _ (x.mono (Pl.mono _) d.kJ) Z)) (fun L d => Wa (ln ?_))))))))))
   replace d := d.kz (Db (Db St))
   refine lj (me (lb ?_))
   obtain rfl := sj a
   exact rP d
  refine sg (Wi rfl (Wa (ln (CI a rfl (fun T a => ?_) (fun T a => ?_)))))
  ·refine sg (Wh z (V (kD mT t) (VA d Mh (kx i.ky.B) aN aC (V (kD rO t) (VB d Mh rfl rfl aY (V (kD sM y) (Wf rp (VB d (Mt Mh) rfl rfl aY (bS a fun c1 a2 a => VE (Eg d call203 (GR k G i.ky.B i.ky.lU i.kB.lx _ _ (x.mono (Pl.mono _) d.kJ) a2) (fun O d => Wa (ln ?_))))))))))))
   replace d := d.kz (Db (Db St))
   refine lj (me (lb ?_))
   obtain rfl := sj a
   exact rP d
  refine lz (lu (kF (sg (Wh z (V (kD mT t) (VA d Mh (kx i.ky.B) aN aC (V (kD sM y) (Wf rp (VB d (Mt Mh) rfl rfl aY (bS a fun c2 a3 a => VE (Eg d call202 (la.mn (zp k G i.ky.B i.kB.lx _ _ (x.mono (Pl.mono _) d.kJ) a3)) (fun P d => Wm (LJ a (fun J E W => ∃ I, ST false ll w W (hp w) I ∧ E 66 = (.bool J)) 8 ?_ (fun J j B => ?_))))))))))))))
  ·rintro c5 E W ⟨I, d, q⟩ U
   exact Wg q (lt (rQ U d))
  refine bC j (fun c j => ?_) (fun c j => ?_)
  ·refine ug c (kH z) (ug c (kD pL t) (ug c (kA rfl (kI d.has Mh (kx i.ky.C) rfl aN aC)) (ug c (kD sM y) (ug c (kD rp rfl) (ug c (kA rfl (kM d.has (Mt Mh) rfl aY)) (bS j fun c3 a4 j => pX c (Eg d call202 (la.mn (zp k G i.ky.C i.kB.lx _ _ (x.mono (Pl.mono _) d.kJ) a4)) (fun R d => V (kR (cB c) rfl) ?_))))))))
   obtain rfl := sj j
   exact B _ _ ⟨_, (d.kz (Db (Db St))), rfl⟩
  refine un c (un c (un c (un c (un c (un c (un c (V (kQ (cB c) rfl) ?_)))))))
  obtain rfl := sj j
  exact B _ _ ⟨_, (d.kz (Db (Db St))), rfl⟩
 refine bC u (fun g u => ?_) (fun g u => ?_)
 ·refine un g (un g (un g (un g (un g (un g (V (kR (cB g) rfl) ?_))))))
  obtain rfl := sj u
  exact D _ _ ⟨_, (d.kz St), rfl, rfl, rfl, rfl⟩
 refine ug g (kD sM rfl) (ug g (kD wM rfl) (ug g (kA rfl (kI d.has (Mt Mh) (kx i.kB.kw) rfl aN aC)) (ug g (kD oe rfl) (ug g (kA rfl (kI d.has Mh (kx i.ky.Head) rfl aN aC)) (ug g (EB rfl rfl (mY cQ) (AI (nJ _ i.kB.kw i.ky.Head))) (V (kQ (cB g) rfl) ?_))))))
 obtain rfl := sj u
 exact D _ _ ⟨_, (d.kz St), rfl, rfl, rfl, rfl⟩
theorem Ff (j : Value) (y : List kV) (r : Bool) (w : World) (g : Sl (Pl kX) 12 (hp w) j y) (hm : xr y = some r) :
  la false pg0 191 [j] w (.bool r) := by
 refine cG 22 func191 rfl (fun d => sg (Wa (lr (Wm (bS hm fun Y U hm => VE (pF d call150 (lK.mn (Cm j y _ _ (g.mono (Pl.mono _) d.kJ) U)) (fun W3 v7 s R8 d N L T => Wa (ln (kO ?_)))))))))
 refine sg (Wm (V (ly aW rfl g) (Wm (ln (lp (fun i E W => ∃ k, (E 10 = .int .i64 (i : Nat) ∧ E 9 = .int .i64 (y.length : Nat)) ∧ ST false ll w W s (R8 ++ k) ∧ E 3 = v7 ∧ E 8 = j ∧ sN Y (y.drop i) i = some r) y.length g.len ⟨_, ⟨rfl, rfl⟩, (d.kz St), rfl, rfl, hm⟩ dc dc dc (fun _ _ _ h => by obtain ⟨_, q, _⟩ := h; exact q) ?_ ?_)))))
 ·rintro z E W D ⟨k, ⟨n, v⟩, d, t, u, a⟩
  obtain ⟨c, Z, K, J, M⟩ := lc D
  rw [K] at a
  refine bg (Wh n (VQ (lO (enc := kX) (i := (z : Int)) (x0 := c) aW bX u n (g.mono (Pl.mono _) N) (aD _) J) (fun P G => V (kA rfl (lD d.has G ey bX)) (VE (lA d dD (fun a2 a5 d => Wa (VO (lf (.agg (kX c).toArray) ((kX c).toArray) d rfl rfl bX (tE c) nb rfl (fun a3 d => ln (kO ?_))))))))))
  replace d := d.drew
  have m := d.has.kz (Kb Sn)
  refine lG m lq (XH 0 rfl m (fun _ A => kA rfl (kI A Mh (kX c) rfl ey bX)) (X 1 rfl m (kH t) (X 2 rfl m (kH rfl) (bS a fun _ x a => XQ 3 rfl m (ui (i := (z : Int)) bJ bO rfl rfl T nf (qD x) (qw x)) (fun Q I => bS a fun R H a => XE 4 rfl (Eg d call152 (Bn c Q (Y.take (Int.toNat (z : Int))) _ _ (I.sl nf (fun b o O => d.at_ (Mt (Ml O)))) H) (fun a4 d => ?_)))))))
  have m := d.has.kz (Kb Sn)
  refine ⟨m, (X 5 rfl m (mQ rfl) (lT kr (kF ?_)))⟩
  replace d := d.kz (Db St)
  refine CI a rfl (fun B a => ?_) (fun B a => ?_)
  ·refine sg (Wa (ln ?_))
   replace d := d.kz (Dr St)
   refine lj (me (lb (me (lb ?_))))
   obtain rfl := sj a
   exact rP d
  exact lz (lu (kF ⟨n, _, ⟨rfl, v⟩, (d.kz St), t, u, (by rw [M]; exact a)⟩))
 rintro E W ⟨k, ⟨n, v⟩, d, t, u, a⟩
 rw [aG] at a
 refine kF ?_
 replace d := d.kz (Dr St)
 exact sg (Wa (lt (rQ a d)))
theorem Br (g : Value) (i r : List kV) (w : World) (a : Sl (Pl kX) 12 (hp w) g i) (hm : qQ i = some r) :
  lK true pg0 136 [g] w 140 kX 12 r := by
 unfold qQ at hm
 refine sP 8 func136 rfl (fun d => sg (Wa (lS (Wm ?_))))
 obtain ⟨y, B, rfl⟩ := a.form
 refine V (D8 aW rfl rfl) (ln ?_)
 rcases y with _ | z
 ·have u := a.isNil
  replace hm : some [] = some r := by rw [u] at hm; simpa [mJ, maxLen] using hm
  refine ze (rfl) (sg (Wa (lt (lb ?_))))
  obtain rfl := sj hm
  exact lI (v := (.slice none 0 0)) rfl rfl ⟨_, [], rfl, d.mO (fun p h => by cases h) (by simp), kU.nil _ _ _⟩
 ·refine qo (rfl) (kg (VE (lg (cs := #[]) d um (zB [] aW bX dD dc rfl (by simp) rfl rfl) (fun G k d => Wm (bS hm fun H t hm => VE (my (enc := kX) (v := (.slice (some ⟨k, 0, none⟩) 0 0)) (vs := (.slice (some z) i.length B)) (R := [(k, Ob #[] 140)]) d oO dc tE aW oa.1 oa.2.1 rfl oa.2.2.1 oa.2.2.2 rfl rfl (kU.lit (l := []) (enc := kX) rfl dc rfl rfl) (a.mono (Pl.mono _) d.kJ) t (fun D x j d c => Wa (lt ?_))))))))
  obtain rfl := sj hm
  exact lI (v := x) rfl rfl ⟨_, j, rfl, d.mO (fun p h => (Ml h)) c.nd, c⟩
theorem AN (t : Value) (B : List kV) (k : LO) (D G : Int) (r : List kV) (w : World) {μ0 : lm} (o : pP μ0 (k ++ []) w) (c : kU 140 kX 12 t B k) (hm : si B D G = some r) :
  mh true pg0 135 [t, (.int .i64 D), (.int .i64 G)] w (k ++ []) (fun v L1 W' => ∃ n Y, v = n ∧ L1 = (Y ++ []) ∧ kU 140 kX 12 n r Y) := by
 refine zN o 33 func135 rfl (fun h => sg (Wa (lr (Wm (Wm (Wm (Wm (V (mP aW rfl c) (bS hm fun _ y hm => VQ (SR (a := D) (b := G) (m := (B.length : Int)) aW bX c rfl rfl rfl rfl (zK y).1 (zK y).2.1 (zK y).2.2.1 (zK y).2.2.2) (fun v1 A => ?_))))))))))
 refine lS (Wm (Wm (Wi rfl (ln (CI hm rfl (fun Z hm => ?_) (fun Z hm => ?_))))))
 ·refine sg (Wm (Wa (lt (lb ?_))))
  obtain rfl := sj hm
  exact lI (v := t) rfl rfl ⟨_, _, rfl, (h.mL (Kr Sn)), t, k, rfl, rfl, c⟩
 refine kg (Wm (V (mP aW rfl c) (Wa (ln (kO ?_)))))
 replace h := h.drew
 have d := h.has.kz Sn
 refine lG d lq (X 0 rfl d (kH rfl) (X 1 rfl d (kH rfl) (bS hm fun _ I hm => XQ 2 rfl d (ui (i := D) aW bX rfl rfl c oO (qD I) (qw I)) (fun O N => X 3 rfl d (kH rfl) (X 4 rfl d (kH rfl) (bS hm fun _ J hm => XQ 5 rfl d (tV (i := G) aW bX rfl rfl c (qD J) (qw J)) (fun P Q => bS hm fun L H hm => XE 6 rfl (Ny (i := (Int.toNat D)) (j := (Int.toNat G))  h c N oO dc tE aW oa.1 oa.2.2.1 (zK H).1 (zK H).2 Q rfl rfl (fun s K q h u x => ?_)))))))))
 have d := h.has.kz Sn
 refine ⟨d, (X 7 rfl d (mN rfl) (lT kr (kF (sg (Wm (Wm (V (mP aW rfl x) (Wm (bS hm fun _ g hm => VQ (R0 (a := ((B.take (Int.toNat D) ++ B.drop (Int.toNat G)).length : Int)) (b := (B.length : Int)) aW bX dc u x rfl rfl rfl (zK g).1 (zK g).2.1 (zK g).2.2.1 (zK g).2.2.2) (fun R T => VO (yn (z := (⟨K6, K7⟩ : kV))  h u oO tE aW dD T rfl rfl (fun a9 U h M => ln ?_))))))))))))⟩
 refine sg (Wm (Wa (lt ?_)))
 obtain rfl := sj hm
 exact lI (v := K) rfl rfl ⟨_, _, rfl, (h.mL (Kr Sn)), K, U, rfl, rfl, (kU.SU dc oO u x M (by have := zK g; rw [wv _ _ _ (by omega)]; omega))⟩
theorem Md (g : Value) (y : List kV) (r : Bool) (w : World) (z : Sl (Pl kX) 12 (hp w) g y) (hm : Ab y = some r) :
  la false pg0 134 [g] w (.bool r) := by
 refine cG 40 func134 rfl (fun d => sg (Wa (lr (Wm (bS hm fun v d8 hm => VE (pF d call150 (lK.mn (Cm g y _ _ (z.mono (Pl.mono _) d.kJ) d8)) (fun W3 v7 q R8 d a5 a6 H => Wa (ln (kO ?_)))))))))
 refine sg (Wm (V (mP bJ rfl H) (Wm (ln (lp (fun i E W => ∃ I, (E 11 = .int .i64 (i : Nat) ∧ E 10 = .int .i64 (v.length : Nat)) ∧ ST false ll w W q (R8 ++ I) ∧ E 0 = g ∧ E 3 = v7 ∧ E 9 = v7 ∧ tN v y (v.drop i) i = some r) v.length H.len ⟨_, ⟨rfl, rfl⟩, (d.kz St), rfl, rfl, rfl, hm⟩ dc dc dc (fun _ _ _ h => by obtain ⟨_, L, _⟩ := h; exact L) ?_ ?_)))))
 ·rintro N E W b4 ⟨I, ⟨A, eN⟩, d, u, J, K, a⟩
  obtain ⟨j, e0, c5, U, c6⟩ := lc b4
  rw [c5] at a
  refine bg (Wh A (VQ (mC (i := (N : Int)) (x0 := j) bJ bO K A H (aD _) U) (fun f2 b7 => V (kA rfl (ot d.has (fun p s => (Ml s)) H nf b7 U dl bO)) (VE (lA d cN (fun e4 f1 d => Wa (VO (lf (.agg (kK j).toArray) ((kK j).toArray) d rfl rfl bO (uw j) nb rfl (fun e5 d => ln (kO ?_))))))))))
  replace d := d.drew
  have n := d.has.kz (Kb Sn)
  refine lG n lq (X 0 rfl n (kH J) (X 1 rfl n (kH rfl) (bS a fun _ T a => XQ 2 rfl n (ui (i := (N : Int)) bJ bO rfl rfl H nf (qD T) (qw T)) (fun d3 c4 => XH 3 rfl n (fun _ hS => kA rfl (kI hS Mh (kK j) rfl dl bO)) (bS a fun f3 b9 a => XE 4 rfl (Eg d call153 (la.mn (zW d3 (v.take (Int.toNat (N : Int))) j _ _ (c4.sl nf (fun b o s => d.at_ (Mt (Ml s)))) b9)) (fun e6 d => ?_)))))))
  have n := d.has.kz (Kb Sn)
  refine ⟨n, (lT kr (kF ?_))⟩
  replace d := d.kz (Db St)
  refine CI a rfl (fun b0 a => ?_) (fun b0 a => ?_)
  ·refine sg (Wa (ln ?_))
   replace d := d.kz (Dr St)
   refine lj (me (lb (me (lb ?_))))
   obtain rfl := sj a
   exact rP d
  exact lz (lu (kF ⟨A, _, ⟨rfl, eN⟩, (d.kz St), u, J, K, (by rw [c6]; exact a)⟩))
 rintro E W ⟨I, ⟨A, eN⟩, d, u, J, K, a⟩
 rw [aG] at a
 refine kF ?_
 replace d := d.kz (Dr St)
 refine kO (sg (Wh u (bS a fun f4 c0 a => VE (Eg d call191 (Ff g y _ _ (z.mono (Pl.mono _) (a5.trans d.kJ)) c0) (fun e7 d => V (mQ rfl) (ln (CI a rfl (fun b1 a => ?_) (fun b1 a => ?_))))))))
 ·refine sg (Wa (lt (lb ?_)))
  obtain rfl := sj a
  exact rP d
 refine kS (Wh u (V (ly aW rfl z) (Wi rfl (V (N7 (k := .i64) rfl rfl) (Wm (ln (HA a (fun a7 E W => ∃ Q Y, kY q Q ∧ ST false ll w W Q Y) (fun a7 b6 B => ?_) ?_)))))))
 ·refine mK (od (fun m E W => ∃ t G Z, kY q G ∧ ST false ll w W G Z ∧ E 0 = g ∧ E 28 = (.int .i64 (if 0 > (wi0 .i64 ((y.length : Int) - 1)) then 0 else (wi0 .i64 ((y.length : Int) - 1)))) ∧ E 29 = (.int .i64 t) ∧ tC y m t = some a7) lC ⟨0, q, _, (kY.refl _), (d.kz St), u, rfl, rfl, b6⟩ ?_)
  rintro m E W ⟨t, G, Z, x, d, a1, a2, M, c⟩
  cases m with
  | zero => rw [tC] at c; cases c
  | succ d0 =>
   refine sg (V (lL M a2 rfl) (ln (kO (CI c rfl (fun b2 c => ?_) (fun b2 c => ?_)))))
   ·refine kn (kO (bg (Wh M (Wa (lr (Wh a1 (bS c fun d1 c1 c => VE (pF d call136 (lK.mn (Br g y _ _ (z.mono (Pl.mono _) ((a5.trans x).trans d.kJ)) c1)) (fun e8 d4 f7 c9 d a3 O a9 => ?_)))))))))
    refine Wm (Wm (Wi rfl (bS c fun d2 c2 c => ?_)))
    refine VE (eM d (Cr Qz Cn) call135 (fun hh _ => mh.mn (AN d4 d1 c9 t (wi0 .i64 (t + 1)) _ _ hh a9 c2)) ?_)
    rintro _ f6 d6 e1 d a4 P R ⟨d5, e3, D, rfl, c7⟩
    obtain rfl := D.symm
    replace d := d.perm (Tr Tn)
    refine bS c fun f5 c3 c => VE (Eg d call191 (Ff d5 d2 _ _ (c7.sl oO (fun b o s => d.at_ (Ml s))) c3) (fun f0 d => ln ?_))
    replace d := d.kz (Dr St)
    refine CI c rfl (fun b3 c => ?_) (fun b3 c => ?_)
    ·refine sg (Wa (lt (me (lb (lb (me (lb ?_)))))))
     obtain rfl := sj c
     replace B : some false = some r := B
     obtain rfl := sj B
     exact rP d
    exact lz (lu (kF (kL (V (lL M rfl rfl) (Wm (ln ⟨d0, bT _, (wi0 .i64 (t + 1)), d6, _, ((x.trans a3).trans a4), (d.kz St), a1, a2, rfl, c⟩))))))
   refine ob (nN (nN (uf (kF ?_))))
   obtain rfl := sj c
   exact ⟨_, rfl, G, _, x, (d.kz St)⟩
 rintro ⟨⟩ E W ⟨Q, Y, d7, d⟩ b5
 exact sg (Wa (lt (rQ b5 d)))
theorem KF (B : Value) (D : List kV) (r : Bool) (w : World) (z : Sl (Pl kX) 12 (hp w) B D) (hm : zq D = some r) :
  la false pg0 137 [B] w (.bool r) := by
 refine cG 22 func137 rfl (fun d => sg (Wa (lr (Wa (lS (Wm ?_))))))
 refine V (ly aW rfl z) (Wm (ln (lp (fun i E W => ∃ g k j u, (E 8 = .int .i64 (i : Nat) ∧ E 7 = .int .i64 (D.length : Nat)) ∧ ST false ll w W (hp w) (j ++ u) ∧ E 3 = g ∧ E 6 = B ∧ kU 38 kK 3 g k j ∧ sJ (D.drop i) k = some r) D.length z.len ⟨(.slice none 0 0), ([]), [], _, ⟨rfl, rfl⟩, (d.kz St), rfl, rfl, (kU.nil _ _ _), hm⟩ dc dc dc (fun _ _ _ h => by obtain ⟨_, _, _, _, n, _⟩ := h; exact n) ?_ ?_)))
 ·rintro a2 E W Q ⟨g, k, j, u, ⟨m, q⟩, d, x, y, t, a⟩
  obtain ⟨c, b1, U, T, Y⟩ := lc Q
  rw [U] at a
  refine bg (VQ (lO (enc := kX) (i := (a2 : Int)) (x0 := c) aW bX y m z (aD _) T) (fun a9 J => V (kA rfl (lD d.has J ey bX)) (VE (lA d dD (fun a3 P d => VO (lf (.agg (kX c).toArray) ((kX c).toArray) d rfl rfl bX (tE c) nb rfl (fun a4 d => lS (VA d Mh (kX c) ey bX (Wh x (bS a fun b0 K a => ?_))))))))))
  refine VE (Eg d call152 (Bn c g k _ _ (t.sl nf (fun b o A => d.at_ (Mt (Ml A)))) K) (fun a5 d => V (mQ rfl) (ln (CI a rfl (fun H a => ?_) (fun H a => ?_)))))
  ·refine sg (Wa (ln ?_))
   replace d := d.kz (Db (Dr St))
   refine lj (lb (me (lb (me (lb ?_)))))
   obtain rfl := sj a
   exact rP d
  refine kn (kL (Wh x (Wf sM (VA d Mh (kK c.kB) dl bO (VE (lg (cs := (kK c.kB).toArray) d (mI rfl) (mD bJ bO cN) (fun L N d => ?_)))))))
  replace d := d.perm (Nr (Qb (Qb Qz)) Nz)
  refine bS a fun Z I a => VE (my (enc := kK) (v := g) (vs := (.slice (some ⟨N, 0, none⟩) 1 1)) (R := j) d nf dc uw bJ oJ.1 oJ.2.1 rfl oJ.2.2.1 oJ.2.2.2 rfl rfl t (Sl.lit (enc := kK) (l := [c.kB]) nf rfl nb rfl (d.at_ (Ma Mh))) I (fun O s M d G => Wa (lh (lu (kF ?_)))))
  replace d := d.kz (Kr (Db (Db St)))
  exact ⟨m, s, Z, M, _, ⟨rfl, q⟩, (d.kz St), rfl, y, G, (by rw [Y]; exact a)⟩
 rintro E W ⟨g, k, j, u, ⟨m, q⟩, d, x, y, t, a⟩
 rw [aG] at a
 refine kF ?_
 replace d := d.kz (Dr St)
 exact sg (Wa (lt (rQ a d)))
theorem H4 (s : Value) (a0 : List kV) (k : LO) (r : List kV) (w : World) {μ0 : lm} (h0 : pP μ0 (k ++ []) w) (e5 : kU 140 kX 12 s a0 k) (hm : xn a0 = some r) :
  mh false pg0 67 [s] w (k ++ []) (fun v L1 W' => ∃ y1 S2, v = y1 ∧ L1 = (S2 ++ []) ∧ kU 140 kX 12 y1 r S2) := by
 refine zN h0 25 func67 rfl (fun d => sg (Wa (ln (kO (mK (od (fun m E W => ∃ i t y x O, kY μ0 x ∧ ST false (keys (k ++ [])) w W x (y ++ O) ∧ E 0 = i ∧ kU 140 kX 12 i t y ∧ qt m t = some r) lC ⟨s, a0, k, μ0, _, (kY.refl _), (d.kz St), rfl, e5, hm⟩ ?_))))))
 rintro m E W ⟨i, t, y, x, O, b4, d, J, D, c⟩
 cases m with
 | zero => rw [qt] at c; cases c
 | succ d9 =>
  refine kO (sg (Wh J (bS c fun f4 c6 c => VE (Eg d call134 (Md i t _ _ (D.sl oO (fun b o h => d.at_ (Ml h))) c6) (fun f0 d => V (mQ rfl) (ln (CI c rfl (fun c0 c => ?_) (fun c0 c => ?_))))))))
  ·refine kn (bg (Wh J (V (mP aW rfl D) (Wi rfl (Wa (ln (vB (CJ c (fun a4 E W => ∃ M H Q P, kY x Q ∧ ST false (keys (k ++ [])) w W Q (H ++ P) ∧ E 0 = M ∧ kU 140 kX 12 M a4 H) (fun a4 c4 => ?_) ?_))))))))
   ·refine mK (od (fun m E W => ∃ u K z j G a9, kY x G ∧ ST false (keys (k ++ [])) w W G (z ++ a9) ∧ E 0 = u ∧ E 3 = (.int .i64 j) ∧ kU 140 kX 12 u K z ∧ pr m K j = some a4) lC ⟨i, t, y, (wi0 .i64 ((t.length : Int) - 2)), x, _, (kY.refl _), (d.kz St), J, rfl, D, c4⟩ ?_)
    rintro m E W ⟨u, K, z, j, G, a9, Z, d, a3, B, U, g⟩
    cases m with
    | zero => rw [pr] at g; cases g
    | succ e0 =>
     refine kO (sg (Wh B (Wi rfl (ln (CI g rfl (fun c1 g => ?_) (fun c1 g => ?_))))))
     ·refine kn (kO (CJ g (fun b1 E W => ∃ N I T R, kY G T ∧ ST false (keys (k ++ [])) w W T (I ++ R) ∧ E 0 = N ∧ E 3 = (.int .i64 j) ∧ kU 140 kX 12 N b1 I) (fun b1 a => ?_) ?_))
      ·refine bg (Wh a3 (bS a fun e1 c7 a => VE (pF d call136 (lK.mn (Br u K _ _ (U.sl oO (fun b o h => d.at_ (Ml h))) c7)) (fun f1 e3 f7 d2 d L n b9 => Wh B (Wh B (Wi rfl (bS a fun e2 c8 a => ?_)))))))
       refine VE (eM d (Cr Qz Cn) call135 (fun hh _ => mh.mn (AN e3 e1 d2 j (wi0 .i64 (j + 1)) _ _ hh b9 c8)) ?_)
       rintro _ f6 b3 e9 d a2 q A ⟨b2, d3, Y, rfl, a5⟩
       obtain rfl := Y.symm
       replace d := d.perm (Tr Tn)
       refine Wa (lr (Wm (bS a fun f5 c9 a => VE (Eg d call137 (KF b2 e2 _ _ (a5.sl oO (fun b o h => d.at_ (Ml h))) c9) (fun f3 d => ln (CI a rfl (fun c2 a => ?_) (fun c2 a => ?_)))))))
       ·refine kL (Wm (Wa (lh (lu (kF ?_)))))
        obtain rfl := sj a
        exact ⟨b2, d3, b3, _, (L.trans a2), (d.kz (Kr (Dr St))), rfl, B, a5⟩
       refine lz (lu (kF ?_))
       obtain rfl := sj a
       exact ⟨u, z, b3, _, (L.trans a2), (d.kz (Dr St)), a3, B, U⟩
      rintro d8 E W ⟨N, I, T, R, b6, d, d5, d6, d1⟩ c5
      exact kL (Wh d6 (Wi rfl (Wa (ln ⟨e0, bT _, N, d8, I, (wi0 .i64 (j - 1)), T, _, (Z.trans b6), (d.kz St), d5, rfl, d1, c5⟩))))
     refine ob (nN (nN (uf (kF ?_))))
     obtain rfl := sj g
     exact ⟨u, z, G, _, Z, (d.kz St), a3, U⟩
   rintro d7 E W ⟨M, H, Q, P, b5, d, d4, d0⟩ c3
   exact lu (kF ⟨d9, bT _, M, d7, H, Q, _, (b4.trans b5), (d.kz St), d4, d0, c3⟩)
  refine ob (nN (nN (uf (kF (sg (Wh J (Wa (lt ?_))))))))
  obtain rfl := sj c
  exact lI (v := i) rfl rfl ⟨_, _, rfl, (d.mL (Kr Sn)), i, y, rfl, rfl, D⟩
theorem Nt (g : Value) (k : List ky) (i : kB) (r : ((List kV) × Bool)) (w : World) (y : Sl (Pl kC) 9 (hp w) g k) (hm : vM k i = some r) :
  mh false pg0 22 [g, (.agg (kK i).toArray)] w [] (fun v T W' => ∃ M I, v = (.tuple #[M, (.bool (r.2))]) ∧ T = (I ++ []) ∧ kU 140 kX 12 M r.1 I) := by
 refine sP 18 func22 rfl (fun d => sg (VE (lB d rfl (fun W2 x d => Wa (Wa (lr (Wm (VA d Mh (kK i) dl bO (bS hm fun Y K hm => ?_)))))))))
 refine VE (Jy d (dp _) call66 (fun _ _ _ _ => (Mn g k i _ _ (y.mono (Pl.mono _) d.kJ) K)) (fun W5 v9 q Z d U o h t => ?_) (L0 := []))
 obtain ⟨N, H, a, rfl, D⟩ := t
 replace a := a.symm; subst a
 replace d := d.perm (Tr Tn)
 refine Wm (Wx rfl (Wx rfl (Wa (Wa (ln ?_)))))
 replace d := d.kz (Kr (Db St))
 refine kO (sg (Wm (V (mQ rfl) (ln (CI hm rfl (fun z hm => ?_) (fun z hm => ?_))))))
 ·refine sg (Wa (Wa (ln ?_)))
  replace d := d.kz (Dr St)
  refine lj (lb ?_)
  obtain rfl := sj hm
  refine qF (v := (.slice none 0 0)) (u := (.bool false)) rfl rfl rfl ?_
  replace d := d.WQ
  exact ⟨_, _, rfl, (d.NA (Kr Sn)), (.slice none 0 0), [], rfl, rfl, (kU.nil _ _ _)⟩
 refine kg (Wm (bS hm fun a4 B hm => ?_))
 refine VE (eM d (Cr Qz Cn) call67 (fun n _ => (H4 N Y.1 H _ _ n D B)) ?_)
 rintro _ a5 s a2 d Q m h ⟨j, J, c, rfl, G⟩
 obtain rfl := c.symm
 replace d := d.perm (Tr Tn)
 refine Wa (Wa (lt ?_))
 obtain rfl := sj hm
 exact qF (v := j) (u := (.bool true)) rfl rfl rfl ⟨_, _, rfl, (d.NA (Kr Sn)), j, J, rfl, rfl, G⟩
theorem EO (I : Int) (r : List kV) (w : World) (hm : tX I = some r) :
  lK true pg0 198 [(.slice none 0 0), (.int .i64 I)] w 140 kX 12 r := by
 refine sP 27 func198 rfl (fun d => sg (Wa (lS (Wm (Wi rfl (ln (CI hm rfl (fun K hm => ?_) (fun K hm => ?_))))))))
 ·cases hm
 refine kn (kO (CJ hm (fun u E W => ∃ g c t, ST true ll w W (hp w) (c ++ t) ∧ E 0 = g ∧ kU 140 kX 12 g u c) (fun u a => ?_) ?_))
 ·refine sg (Wm (Wm (V (NJ aW rfl) (Wm (V (BG aW rfl) (Wi rfl (Wi rfl (Wa (lr (Wm ?_))))))))))
  refine Wi rfl (ln (CI a rfl (fun y a => ?_) (fun y a => ?_)))
  ·refine kL (Wm (Wm (V (NJ aW rfl) (V (Q9 aW bX rfl rfl) (Wm (bS a fun T B a => VE (M4 (enc := kX) (z := (⟨K6, K7⟩ : kV)) d oO dc aW gC oa.1 oa.2.1 oa.2.2.1 oa.2.2.2 rfl rfl rfl B (fun N U H d x => Wm (V (BG aW rfl) (bS a fun _ j a => VQ (ui (i := 0) aW bX rfl rfl x oO (qD j) (qw j)) (fun M G => Wa (ln ?_))))))))))))
   obtain rfl := sj a
   exact ⟨M, H, _, (d.kz St), rfl, G⟩
  refine kn ?_
  obtain rfl := sj a
  exact ⟨(.slice none 0 0), [], _, (d.kz St), rfl, (kU.nil _ _ _)⟩
 rintro Q E W ⟨g, c, t, d, J, k⟩ D
 refine sg (Wh J (Wa (lt ?_)))
 obtain rfl := sj D
 exact lI (v := g) rfl rfl ⟨_, c, rfl, d.mO (fun p h => (Ml h)) k.nd, k⟩
theorem F5 (t : Value) (z : List (List kV)) (r : List kV) (w : World) (j : Sl (vP kX 12) 1 (hp w) t z) (hm : xR z = some r) :
  lK true pg0 145 [t] w 140 kX 12 r := by
 refine sP 36 func145 rfl (fun d => sg (Wa (lr (Wa (lS (Wm ?_))))))
 refine V (ly iF rfl j) (Wm (ln (lp (fun i E W => ∃ u Q, (E 11 = .int .i64 (i : Nat) ∧ E 10 = .int .i64 (z.length : Nat)) ∧ ST true ll w W (hp w) Q ∧ E 0 = t ∧ E 3 = (.int .i64 u) ∧ E 9 = t ∧ pk z (z.drop i) u = some r) z.length j.len ⟨0, _, ⟨rfl, rfl⟩, (d.kz St), rfl, rfl, rfl, hm⟩ dc dc dc (fun _ _ _ h => by obtain ⟨_, _, n, _⟩ := h; exact n) ?_ ?_)))
 ·rintro d1 E W b9 ⟨u, Q, ⟨m, o⟩, d, T, U, Y, a⟩
  obtain ⟨q, e0, c4, c3, c5⟩ := lc b9
  rw [c4] at a
  refine bg (VQ (DB (enc := kX) (k2 := 12) (i := (d1 : Int)) (x0 := q) iF kp Y m j (aD _) c3) (fun e2 ⟨d3, c0, c2⟩ => V (kA rfl (ng d.has (y := d3) c0 fR)) (Wa (lr (Wh U (Wm (V (ly aW rfl c2) (Wi rfl (Wa ?_)))))))))
  refine lr (Wm (Wi rfl (ln (CI a rfl (fun b7 a => ?_) (fun b7 a => ?_)))))
  ·cases a
  exact lz (lu (kF ⟨m, (wi0 .i64 (u + (q.length : Int))), _, ⟨rfl, o⟩, (d.kz St), T, rfl, Y, (by rw [c5]; exact a)⟩))
 rintro E W ⟨u, Q, ⟨m, o⟩, d, T, U, Y, a⟩
 rw [aG] at a
 refine kF (sg (Wh U (bS a fun d2 c1 a => VE (pF d call198 (EO u _ _  c1) (fun e1 d4 s d0 d a4 A b6 => Wa (lS (Wh T (V (ly iF rfl j) (Wm ?_)))))))))
 refine ln (CJ a (fun K E W => ∃ G x N, ST true ll w W s (x ++ N) ∧ E 6 = G ∧ kU 140 kX 12 G K x) (fun K O => ?_) ?_)
 ·refine lp (fun i E W => ∃ k D g H, (E 27 = .int .i64 (i : Nat) ∧ E 26 = .int .i64 (z.length : Nat)) ∧ ST true ll w W s (g ++ H) ∧ E 6 = k ∧ E 25 = t ∧ kU 140 kX 12 k D g ∧ pq (z.drop i) D = some K) z.length j.len ⟨d4, d2, d0, _, ⟨rfl, rfl⟩, (d.kz St), rfl, rfl, b6, O⟩ dc dc dc (fun _ _ _ h => by obtain ⟨_, _, _, _, n, _⟩ := h; exact n) ?_ ?_
  ·rintro c6 E W a3 ⟨k, D, g, H, ⟨m, o⟩, d, I, J, B, c⟩
   obtain ⟨c9, d5, b0, a9, b1⟩ := lc a3
   rw [b0] at c
   refine bg (VQ (DB (enc := kX) (k2 := 12) (i := (c6 : Int)) (x0 := c9) iF kp J m (j.mono (vP.mono _ _) a4) (aD _) a9) (fun d8 ⟨Z, P, a8⟩ => V (kA rfl (ng d.has (y := Z) P fR)) (Wa (ln (kL (Wh I (Wm (bS c fun c7 a2 c => VE (my (enc := kX) (v := k) (vs := Z) (R := g) d oO dc tE aW oa.1 oa.2.1 rfl oa.2.2.1 oa.2.2.2 rfl rfl B (a8.mono (Pl.mono _) d.kJ) a2 (fun d6 c8 b4 d L => Wa (lh ?_)))))))))))
   exact lu (kF ⟨m, c8, c7, b4, _, ⟨rfl, o⟩, (d.kz St), rfl, J, L, (by rw [b1]; exact c)⟩)
  rintro E W ⟨k, D, g, H, ⟨m, o⟩, d, I, J, B, c⟩
  rw [aG] at c
  refine kF ?_
  obtain rfl := sj c
  exact ⟨k, g, _, (d.kz St), I, B⟩
 rintro d7 E W ⟨G, x, N, d, b5, M⟩ a5
 refine sg (Wh b5 (Wa (lt ?_)))
 obtain rfl := sj a5
 exact lI (v := G) rfl rfl ⟨_, x, rfl, d.mO (fun p hq => (Ml hq)) M.nd, M⟩
theorem Mm (M : Value) (a0 : List (List kV)) (r : List kV) (w : World) (a8 : Sl (vP kX 12) 1 (hp w) M a0) (hm : Ar a0 = some r) :
  lK true pg0 74 [M] w 140 kX 12 r := by
 refine sP 29 func74 rfl (fun d => sg (Wa (lr (VE (D9 (P := pg0) (fun (x : kB) => (.agg (kK x).toArray)) (fun (x : Bool) => (Value.bool x)) d (fun W1 v4 R2 d b3 => Wa (lr (Wa ?_))))))))
 refine lS (Wm (bS hm fun A b4 hm => VE (pF d call145 (F5 M a0 _ _ (a8.mono (vP.mono _ _) d.kJ) b4) (fun W7 b6 L b2 d c6 O J => V (mP aW rfl J) (Wm (ln (lp (fun i E W => ∃ u B j G g K, (E 11 = .int .i64 (i : Nat) ∧ E 10 = .int .i64 (A.length : Nat)) ∧ ST true ll w W L (g ++ (b2 ++ (B ++ K))) ∧ E 3 = v4 ∧ E 4 = j ∧ E 9 = b6 ∧ mu (fun (x : kB) => (.agg (kK x).toArray)) (fun (x : Bool) => (Value.bool x)) v4 u B ∧ kU 140 kX 12 j G g ∧ rM (A.drop i) u G = some r) A.length J.len ⟨([]), R2, (.slice none 0 0), ([]), [], _, ⟨rfl, rfl⟩, (d.kz St), rfl, rfl, rfl, b3, (kU.nil _ _ _), hm⟩ dc dc dc (fun _ _ _ h => by obtain ⟨_, _, _, _, _, _, q, _⟩ := h; exact q) ?_ ?_)))))))
 ·rintro b5 E W a1 ⟨u, B, j, G, g, K, ⟨n, s⟩, d, D, H, I, y, t, a⟩
  obtain ⟨c, c8, a3, N, Q⟩ := lc a1
  rw [a3] at a
  refine bg (VQ (mC (i := (b5 : Int)) (x0 := c) aW bX I n J (aD _) N) (fun c7 a2 => V (kA rfl (ot d.has (fun p m => (Ma (Ml m))) J oO a2 N ey bX)) (VE (lA d dD (fun c0 c5 d => VO (lf (.agg (kX c).toArray) ((kX c).toArray) d rfl rfl bX (tE c) nb rfl (fun c1 d => lr (Wh D (Wf sM (VA d Mh (kK c.kB) dl bO (V (xB (k := c.kB) (z := false) (vf := (fun (x : Bool) => (Value.bool x))) Nn iE gy rfl rfl (y.at (fun b o m => d.has.2 b o (Mt (Ma (Ma (Ml m))))))) ?_)))))))))))
  refine V (mQ rfl) (ln (CI a rfl (fun Y a => ?_) (fun Y a => ?_)))
  ·refine sg (Wh D (Wf sM (VA d Mh (kK c.kB) dl bO ?_)))
   replace d := d.perm (Nr (Qb (Qr (Qr Qz))) Nz)
   refine VO (Ig (k := c.kB) (v := true) (vf := (fun (x : Bool) => (Value.bool x)))  Nn iE d y rfl rfl rfl (fun c2 a4 d T => ln (kL (Wh H (VA d (Ma Mh) (kX c) ey bX (VE (lg (cs := (kX c).toArray) d (mI rfl) (mD aW bX dD) (fun c3 a7 d => ?_))))))))
   replace d := d.perm (Nr (Qb (Qr (Qb Qz))) Nz)
   refine bS a fun a9 Z a => VE (my (enc := kX) (v := j) (vs := (.slice (some ⟨a7, 0, none⟩) 1 1)) (R := g) d oO dc tE aW oa.1 oa.2.1 rfl oa.2.2.1 oa.2.2.2 rfl rfl t (Sl.lit (enc := kX) (l := [c]) oO rfl nb rfl (d.at_ (Ma Mh))) Z (fun c4 b1 a5 d U => Wa (lh (lu (kF ?_)))))
   replace d := d.kz (Kr (Db (Kr (Db St))))
   exact ⟨n, (oh nq u c.kB true), a4, b1, a9, a5, _, ⟨rfl, s⟩, (d.kz (Kr (Sr (Qr Qz) St))), D, rfl, I, T, U, (by rw [Q]; exact a)⟩
  refine lz (lu (kF ?_))
  replace d := d.kz (Db St)
  exact ⟨n, u, B, j, G, g, _, ⟨rfl, s⟩, (d.kz St), D, H, I, y, t, (by rw [Q]; exact a)⟩
 rintro E W ⟨u, B, j, G, g, K, ⟨n, s⟩, d, D, H, I, y, t, a⟩
 rw [aG] at a
 refine kF ?_
 replace d := d.kz (Kr (Dr (Dr St)))
 refine sg (Wh H (Wa (lt ?_)))
 obtain rfl := sj a
 exact lI (v := j) rfl rfl ⟨_, g, rfl, d.mO (fun p m => (Ml m)) t.nd, t⟩
set_option maxHeartbeats 4000000 in
theorem DQ (a : tH) (a5 a6 b1 c1 b3 c0 : Value) (Y : Formula) (c7 : Value) (Q T : Int) (a4 : Bool) (r : lZ) (w : World) {μ0 : lm} (h0 : pP μ0 [] w) (H : Sl oL 15 μ0 a5 a.lR.nr) (K : Sl vc 8 μ0 a6 a.lR.oq) (G : Sl (Pl kC) 9 μ0 b1 a.lH) (b0 : Sl (Pl kC) 9 μ0 c1 a.Shown) (a7 : Sl (Pl kx) 2 μ0 b3 a.mA) (a9 : Sl (Pl kx) 2 μ0 c0 a.qz) (c5 : Sl kW 5 μ0 c7 Y.Kids) (hm : oW a Y Q T a4 = some r) :
  pg false pg0 27 [(.agg #[(.string a.lR.Name), a5, a6, (.string a.og), (.int .i64 a.Room), b1, c1, b3, c0]), (.agg #[(.int .i64 Y.Op), (.int .i64 Y.K), (.string Y.kw.kE), (.string Y.kw.kT), c7]), (.int .i64 Q), (.int .i64 T), (.bool a4)] w μ0 [] (fun v L1 μ1 => ∃ y1 y3, v = (.agg #[(.int .i64 ((r).State)), (.int .i64 ((r).oE)), y1, y3]) ∧ L1 = [] ∧ Sl (Pl kx) 2 μ1 y1 ((r).lP) ∧ Sl (Pl kX) 12 μ1 y3 ((r).lX)) := by
 let a2 : Value := (.agg (C7 Q T).toArray)
 refine RI h0 64 func27 rfl (fun d => sg ?_)
 obtain ⟨A1, c2, rfl⟩ := H.form
 obtain ⟨A3, c4, rfl⟩ := K.form
 obtain ⟨A5, c6, rfl⟩ := G.form
 let b8 : Value := (.slice A5 a.lH.length c6)
 obtain ⟨A7, c8, rfl⟩ := b0.form
 obtain ⟨A9, d1, rfl⟩ := a7.form
 obtain ⟨c9, d2, rfl⟩ := a9.form
 let a0 := (C2 a.lR.Name A1 a.lR.nr.length c2 A3 a.lR.oq.length c4 a.og a.Room A5 a.lH.length c6 A7 a.Shown.length c8 A9 a.mA.length d1 c9 a.qz.length d2)
 refine VE (lB d rfl (fun r7 h3 d => ?_))
 obtain ⟨h2, h6, rfl⟩ := c5.form
 let d7 := (C1 Y.Op Y.K Y.kw.kE Y.kw.kT h2 Y.Kids.length h6)
 refine VE (lB d rfl (fun r8 m1 d => VE (lA d eC (fun r9 h4 d => lr (Wm (Wm (V (nc (v := a2) (pC rfl rfl) (mB eC ej (Tf _ ej) kr)) (VE (lA d eC (fun s0 h5 d => VO (lf a2 ((C7 Q T).toArray) d rfl rfl dq oc nb rfl (fun s1 d => ln (kO (kO ?_))))))))))))))
 refine kL (Wm (V (mQ rfl) (Wm (LJ hm (fun i2 E W => ∃ m0, ST false (keys []) w W μ0 ((h5, Ol (C7 Q T) 64) :: ((h4, Ol C8 64) :: ((m1, Ol d7 57) :: ((h3, Ol a0 54) :: m0)))) ∧ E 5 = (.pointer (some ⟨h3, 0, none⟩)) ∧ E 6 = (.pointer (some ⟨m1, 0, none⟩)) ∧ E 10 = (.pointer (some ⟨h4, 0, none⟩)) ∧ E 11 = (.pointer (some ⟨h5, 0, none⟩)) ∧ E 26 = (.bool i2)) 3 ?_ (fun i2 b6 f5 => ?_)))))
 ·rintro s3 E W ⟨m0, d, m2, n0, f3, h7, n1⟩ N
  refine ln (CI N n1 (fun m5 N => ?_) (fun m5 N => ?_))
  ·refine sg (V (kA h7 (kI d.has Mh (C7 Q T) rfl eV dq)) ?_)
   replace d := d.perm (Nb (Pb Pz) Nz)
   refine VO (lf a2 ((C7 Q T).toArray) d f3 rfl dq oc nb rfl (fun s2 d => ln ?_))
   replace d := d.kz (Kb (Db (Db (Db St))))
   refine lj (lb ?_)
   obtain rfl := sj N
   exact wL (v := a2) rfl f3 (kI d.has Mh (C7 Q T) rfl eV dq) ⟨_, _, _, rfl, (d.mL Sn), (kY.refl _), Lo.refl, (ST.lV d (np.mem Sn)), (.slice none 0 0), (.slice none 0 0), rfl, rfl, (Sl.nil _ _ _), (Sl.nil _ _ _)⟩
  refine kn (kO ?_)
  replace d := d.drew
  have m := d.has.kz (Db (Db (Kb (Kb Sn))))
  refine lG m lq (XH 0 rfl m (fun _ hS => kA n0 (kI hS Mh d7 rfl cx aZ)) (XH 1 rfl m (fun _ hS => kA m2 (kI hS (Mt Mh) a0 rfl ke gb)) (bS N fun t k5 N => ?_)))
  refine XE 2 rfl (Jy d (dp _) call73 (fun _ _ _ _ => (Sa a (.slice A1 a.lR.nr.length c2) (.slice A3 a.lR.oq.length c4) b8 (.slice A7 a.Shown.length c8) (.slice A9 a.mA.length d1) (.slice c9 a.qz.length d2) _ _ (H.mono AE.mono d.kJ) (K.mono I1.mono d.kJ) (G.mono (Pl.mono _) d.kJ) (b0.mono (Pl.mono _) d.kJ) (a7.mono (Pl.mono _) d.kJ) (a9.mono (Pl.mono _) d.kJ) k5)) (fun o6 q0 q6 n7 d z s aj i8 => ?_) (L0 := []))
  obtain ⟨e1, g2, i3, o0, i4, o1, i5, o2, i6, o3, i7, o4, e2, e7, rfl, l5, l6, l7, l8, l9⟩ := i8
  replace e7 := e7.symm; subst e7
  replace d := d.perm (Tb (Tb (Tb (Tr (Tr (Tr (Tr (Tr Tn))))))))
  have m := d.has.rl z (Db (Db (Db (Dr (Dr (Dr (Dr (Dr (Db (Db (Kb (Kb Sn))))))))))))
  refine ⟨m, ?_⟩
  replace d := d.perm (Nr (Qb (Qb (Qb Qz))) Nz)
  obtain ⟨q7, d, D, A, j8⟩ := ST.AS d
  replace d := d.perm (Nr (Qb (Qb (Qb Qz))) Nz)
  obtain ⟨q8, d, B, L, k9⟩ := ST.A4 d l6 mW
  replace d := d.perm (Nr (Qb (Qb (Qb Qz))) Nz)
  obtain ⟨q9, d, y, O, j9⟩ := ST.AS d
  replace d := d.perm (Nr (Qb (Qb (Qb Qz))) Nz)
  obtain ⟨r0, d, u, P, k0⟩ := ST.AS d
  replace d := d.perm (Nr (Qb (Qb (Qb Qz))) Nz)
  obtain ⟨r1, d, k, aa, l0⟩ := ST.XT d l9 nf
  replace d := d.perm (Nb (Pb Pz) Nz)
  obtain ⟨r2, d, j, ab, k1⟩ := ST.AS (R := [(g2, Ob #[i3, i4, i5, i6, i7, (.int .i64 (t.2.2.2.2.2.1))] 174)]) d
  have j3 := At.of (k1 _ _ (.head _)) _ rfl
  obtain ⟨r3, d, g, ad, k2⟩ := ST.AS (R := [(e1, Ob #[(.pointer (some ⟨g2, 0, none⟩))] 101)]) d
  have j4 := At.of (k2 _ _ (.head _)) _ rfl
  obtain ⟨r4, d, c, ae, k3⟩ := ST.AS (R := [(e2, Ol (C2 (t.2.2.2.2.2.2.1) A1 a.lR.nr.length c2 A3 a.lR.oq.length c4 (t.2.2.2.2.2.2.2.1) (t.2.2.2.2.2.2.2.2) A5 a.lH.length c6 A7 a.Shown.length c8 A9 a.mA.length d1 c9 a.qz.length d2) 54)]) d
  have j5 := At.of (k3 _ _ (.head _)) _ rfl
  refine bS N fun J k6 N => ?_
  refine XE 3 rfl (eD d (dp _) call72 (fun hh => (Ns Y (.slice h2 Y.Kids.length h6) (.func (.func 144) #[] #[(.pointer (some ⟨e1, 0, none⟩)), (.pointer (some ⟨e2, 0, none⟩))]) (fun (x : kw) => yY x t.1 t.2.1 t.2.2.1 t.2.2.2.1 t.2.2.2.2.1 t.2.2.2.2.2.1 t.2.2.2.2.2.2.1 a.lR.nr a.lR.oq t.2.2.2.2.2.2.2.1 t.2.2.2.2.2.2.2.2 a.lH a.Shown a.mA a.qz) _ _ hh (c5.mono lW.mono ((((((((z.trans D).trans B).trans y).trans u).trans k).trans j).trans g).trans c)) ⟨144, #[], #[(.pointer (some ⟨e1, 0, none⟩)), (.pointer (some ⟨e2, 0, none⟩))], rfl, call144, fun W x r q hm => (M5 x e1 g2 i3 t.1 i4 t.2.1 i5 t.2.2.1 i6 t.2.2.2.1 i7 t.2.2.2.2.1 t.2.2.2.2.2.1 e2 t.2.2.2.2.2.2.1 (.slice A1 a.lR.nr.length c2) a.lR.nr (.slice A3 a.lR.oq.length c4) a.lR.oq t.2.2.2.2.2.2.2.1 t.2.2.2.2.2.2.2.2 b8 a.lH (.slice A7 a.Shown.length c8) a.Shown (.slice A9 a.mA.length d1) a.mA (.slice c9 a.qz.length d2) a.qz r W ((l5.at j8).mono (((((((B.trans y).trans u).trans k).trans j).trans g).trans c).trans q)) (k9.mono (Pl.mono _) ((((((y.trans u).trans k).trans j).trans g).trans c).trans q)) ((l7.at j9).mono (((((u.trans k).trans j).trans g).trans c).trans q)) ((l8.at k0).mono ((((k.trans j).trans g).trans c).trans q)) (l0.mono (Pl.mono _) (((j.trans g).trans c).trans q)) (j3.mono ((g.trans c).trans q)) (j4.mono (c.trans q)) (H.mono AE.mono (((((((((z.trans D).trans B).trans y).trans u).trans k).trans j).trans g).trans c).trans q)) (K.mono I1.mono (((((((((z.trans D).trans B).trans y).trans u).trans k).trans j).trans g).trans c).trans q)) (G.mono (Pl.mono _) (((((((((z.trans D).trans B).trans y).trans u).trans k).trans j).trans g).trans c).trans q)) (b0.mono (Pl.mono _) (((((((((z.trans D).trans B).trans y).trans u).trans k).trans j).trans g).trans c).trans q)) (a7.mono (Pl.mono _) (((((((((z.trans D).trans B).trans y).trans u).trans k).trans j).trans g).trans c).trans q)) (a9.mono (Pl.mono _) (((((((((z.trans D).trans B).trans y).trans u).trans k).trans j).trans g).trans c).trans q)) (j5.mono ((kY.refl _).trans q)) hm).mn⟩ k6)) ?_ (L0 := []))
  rintro _ q1 h1 n8 d b5 af ⟨q4, e8, rfl, b9⟩
  obtain rfl := e8.symm
  have m := d.has.rl (((((((((z.trans D).trans B).trans y).trans u).trans k).trans j).trans g).trans c).trans b5) (Db (Db (Kb (Kb Sn))))
  refine ⟨m, (X 4 rfl m (kH rfl) (X 5 rfl m (B6 rfl rfl) (X 6 rfl m (B6 rfl rfl) (X 7 rfl m (mN rfl) (X 8 rfl m (mN rfl) (lT kr (kF ?_)))))))⟩
  replace d := d.kz (Kb (Kb (Db St)))
  refine kO (sg (Wm (V (mQ rfl) (ln (CI N rfl (fun j6 N => ?_) (fun j6 N => ?_))))))
  ·refine sg (V (kA h7 (kI d.has Mh (C7 Q T) rfl eV dq)) ?_)
   replace d := d.perm (Nb (Pb Pz) Nz)
   refine VO (lf a2 ((C7 Q T).toArray) d f3 rfl dq oc nb rfl (fun o8 d => ln ?_))
   replace d := d.kz (Kb (Db (Db St)))
   refine lj (lb ?_)
   obtain rfl := sj N
   exact wL (v := a2) rfl f3 (kI d.has Mh (C7 Q T) rfl eV dq) ⟨_, _, _, rfl, (d.mL Sn), (((((((((z.trans D).trans B).trans y).trans u).trans k).trans j).trans g).trans c).trans b5), (((((((((s.trans A).trans L).trans O).trans P).trans aa).trans ab).trans ad).trans ae).trans af), (ST.lV d (np.mem Sn)), (.slice none 0 0), (.slice none 0 0), rfl, rfl, (Sl.nil _ _ _), (Sl.nil _ _ _)⟩
  refine kg (Wm (V (kD sX h7) ?_))
  obtain ⟨U, Z, rfl⟩ := b9.form
  let a3 : Value := (.slice U J.1.length Z)
  refine VO (lf a3 (#[(.int .i64 Q), (.int .i64 T), a3, (.slice none 0 0)]) d rfl rfl dZ oc nb rfl (fun o9 d => lS (Wm (V (ly aF rfl b9) (Wm (ln (lp (fun i E W => ∃ d5 I e0 d6 g1, (E 42 = .int .i64 (i : Nat) ∧ E 41 = .int .i64 (J.1.length : Nat)) ∧ kY h1 d6 ∧ Lo (keys []) w h1 d6 ∧ ST false (keys []) w W d6 ((h5, Ob #[(.int .i64 Q), (.int .i64 T), a3, d5] 64) :: ((h4, Ol C8 64) :: ((h3, Ol a0 54) :: (e0 ++ g1)))) ∧ E 5 = (.pointer (some ⟨h3, 0, none⟩)) ∧ E 10 = (.pointer (some ⟨h4, 0, none⟩)) ∧ E 11 = (.pointer (some ⟨h5, 0, none⟩)) ∧ E 40 = a3 ∧ kU 140 kX 12 d5 I e0 ∧ qK a Q T J (J.1.drop i) I = some r) J.1.length b9.len ⟨(.slice none 0 0), ([]), [], h1, _, ⟨rfl, rfl⟩, (kY.refl _), Lo.refl, (d.kz St), m2, f3, h7, rfl, (kU.nil _ _ _), N⟩ dc dc dc (fun _ _ _ h => by obtain ⟨_, _, _, _, _, ak, _⟩ := h; exact ak) ?_ ?_)))))))
  ·rintro m6 E W j7 ⟨d5, I, e0, d6, g1, ⟨eI, eN⟩, a8, n, d, e5, e6, d4, g9, b7, M⟩
   obtain ⟨b2, n5, l3, l2, l4⟩ := lc j7
   rw [l3] at M
   refine bg (VQ (lO (enc := kx) (i := (m6 : Int)) (x0 := b2) aF aC g9 eI (b9.mono (Pl.mono _) a8) (aD _) l2) (fun p9 k4 => V (kA rfl (lD d.has k4 aN aC)) (VE (lA d bP (fun p0 p7 d => VO (lf (.agg (kx b2).toArray) ((kx b2).toArray) d rfl rfl aC (mE b2) nb rfl (fun p1 d => lr (V (kD Du e5) (VB d (Mt (Mt (Mt Mh))) rfl rfl iC (VA d Mh (kx b2) aN aC (V (kD GS e5) ?_)))))))))))
   refine VB d (Mt (Mt (Mt Mh))) rfl rfl aY (V (nc (v := (.agg (kK (⟨b2, a.og⟩ : kB)).toArray)) (pC rfl rfl) (mB cN cq (Dj _ cq) kr)) (bS M fun c3 k7 M => ?_))
   refine VE (Jy d (dp _) call22 (fun _ _ _ _ => (Nt b8 a.lH (⟨b2, a.og⟩ : kB) _ _ (G.mono (Pl.mono _) (((((((((((z.trans D).trans B).trans y).trans u).trans k).trans j).trans g).trans c).trans b5).trans a8).trans d.kJ)) k7)) (fun p2 q2 r5 n9 d i0 ag aj j0 => ?_) (L0 := []))
   obtain ⟨q5, o5, e9, rfl, h9⟩ := j0
   replace e9 := e9.symm; subst e9
   replace d := d.perm (Tr Tn)
   refine Wm (Wx rfl (Wx rfl (Wa (Wa (ln ?_)))))
   replace d := d.kz (Kr (Db St))
   refine kL (V (kD wN d4) (VB d (Ma Mh) rfl rfl fR (Wm ?_)))
   obtain ⟨d8, e3, rfl⟩ := b7.form
   obtain ⟨d9, e4, rfl⟩ := h9.form
   refine VE (lg (cs := #[(.slice d8 I.length e3), (.slice d9 c3.1.length e4)]) d (pC rfl rfl) (mD iF kp zeroValue45) (fun p3 m4 d => bS M fun f0 k8 M => VE (pF d call74 (lK.mn (Mm (.slice (some ⟨m4, 0, none⟩) 2 2) ([I, c3.1]) _ _ (vP.lit (l := [I, c3.1]) (vs := [(.slice d8 I.length e3), (.slice d9 c3.1.length e4)]) rfl nb (d.at_ Mh) (.cons (b7.sl oO (fun b o hq => d.at_ (Mt (Ma (Mt (Mt (Mt (Ml hq)))))))) (.cons (h9.sl oO (fun b o hq => d.at_ (Mt (Ml hq)))) .nil))) k8)) (fun p4 q3 m7 m3 d i1 ah h8 => V (kD wN d4) ?_))))
   obtain ⟨f8, g7, rfl⟩ := h8.form
   replace d := d.perm (Nb (Pr (Pb (Pr Pz))) Nz)
   refine VO (lf (.slice f8 f0.length g7) ((C3 Q T U J.1.length Z f8 f0.length g7).toArray) d rfl rfl kp oc nb rfl (fun p5 d => lh (lu (kF ?_))))
   replace d := d.kz (Kb (Kr (Db (Dr (Kb (Kb (Dr St)))))))
   exact ⟨eI, (.slice f8 f0.length g7), f0, m3, m7, _, ⟨rfl, eN⟩, ((a8.trans i0).trans i1), ((n.trans ag).trans ah), (d.kz (Kb (Sb (Pr Pz) (Sb (Pr Pz) St)))), e5, e6, d4, g9, h8, (by rw [l4]; exact M)⟩
  rintro E W ⟨d5, I, e0, d6, g1, ⟨eI, eN⟩, a8, n, d, e5, e6, d4, g9, b7, M⟩
  rw [aG] at M
  refine kF ?_
  replace d := d.kz (Kb (Kb (Db St)))
  refine sg (V (kA d4 (kI d.has Mh [(.int .i64 Q), (.int .i64 T), a3, d5] rfl eV dq)) ?_)
  obtain ⟨d0, d3, rfl⟩ := b7.form
  let a1 := (C3 Q T U J.1.length Z d0 I.length d3)
  replace d := d.perm (Nb (Pb Pz) Nz)
  refine VO (lf (.agg a1.toArray) (a1.toArray) d e6 rfl dq oc nb rfl (fun p6 d => ln ?_))
  replace d := d.kz (Kb (Db St))
  refine lj ?_
  obtain rfl := sj M
  refine wL (v := (.agg a1.toArray)) rfl e6 (kI d.has Mh a1 rfl eV dq) ?_
  replace d := d.perm (Nr (Qb Qz) Nz)
  obtain ⟨r6, d, f4, ai, l1⟩ := ST.A4 d b7 oO
  exact ⟨_, _, _, rfl, (d.mL Sn), (((((((((((z.trans D).trans B).trans y).trans u).trans k).trans j).trans g).trans c).trans b5).trans a8).trans f4), (((((((((((s.trans A).trans L).trans O).trans P).trans aa).trans ab).trans ad).trans ae).trans af).trans n).trans ai), (ST.lV d (np.mem Sn)), a3, (.slice d0 I.length d3), rfl, rfl, (b9.mono (Pl.mono _) (a8.trans f4)), l1⟩
 refine bC b6 (fun b4 b6 => ?_) (fun b4 b6 => ?_)
 ·refine un b4 (un b4 (V (kR (cB b4) rfl) ?_))
  obtain rfl := sj b6
  exact f5 _ _ ⟨_, (d.kz St), rfl, rfl, rfl, rfl, rfl⟩
 refine ug b4 (kH rfl) (ug b4 (lL rfl rfl rfl) (V (kQ (cB b4) rfl) ?_))
 obtain rfl := sj b6
 exact f5 _ _ ⟨_, (d.kz St), rfl, rfl, rfl, rfl, rfl⟩
theorem Hk (a : kw) (r : Bool) (w : World) (hm : wQ a = some r) :
  la true pg0 156 [(.agg (kx a).toArray)] w (.bool r) := by
 refine cG 6 func156 rfl (fun d => sg (VE (lB d rfl (fun g j d => Wa (lr (VA d Mh (kx a) aN aC (bS hm fun k c hm => VE (Eg d jA (sB a _ _  c) (fun i d => V (mQ rfl) (Wa (lh ?_)))))))))))
 refine kF ?_
 exact lj (rQ hm d)
theorem Jv (a : lZ) (z y : Value) (r : Bool) (w : World) (i : Sl (Pl kx) 2 (hp w) z a.lP) (I : Sl (Pl kX) 12 (hp w) y a.lX) (hm : yv a = some r) :
  la false pg0 91 [(.agg #[(.int .i64 a.State), (.int .i64 a.oE), z, y])] w (.bool r) := by
 refine cG 33 func91 rfl (fun d => sg ?_)
 obtain ⟨U, Y, rfl⟩ := i.form
 obtain ⟨Z, c4, rfl⟩ := I.form
 let a0 := (C3 a.State a.oE U a.lP.length Y Z a.lX.length c4)
 refine VE (lB d rfl (fun W6 J d => Wa (lr (Wf BU (VB d Mh rfl rfl cC (Wi rfl (Wm (LJ hm (fun R E W => ∃ L9, ST false ll w W (hp w) ((J, Ol a0 64) :: L9) ∧ E 1 = (.pointer (some ⟨J, 0, none⟩)) ∧ E 2 = (.bool false) ∧ E 10 = (.bool R)) 4 ?_ (fun R H T => ?_)))))))))
 ·let h : Value := (.pointer (some ⟨J, 0, none⟩))
  rintro x8 E W ⟨L9, d, a2, a9, c9⟩ c0
  refine Wh c9 (LJ c0 (fun P E W => ∃ a5, ST false ll w W (hp w) ((J, Ol a0 64) :: a5) ∧ E 1 = h ∧ E 2 = (.bool false) ∧ E 15 = (.bool P)) 4 ?_ (fun P G Q => ?_))
  ·rintro d8 E W ⟨a5, d, a3, q, d0⟩ c1
   refine Wh d0 (LJ c1 (fun O E W => ∃ m, ST false ll w W (hp w) ((J, Ol a0 64) :: m) ∧ E 1 = h ∧ E 2 = (.bool false) ∧ E 20 = (.bool O)) 4 ?_ (fun O D N => ?_))
   ·rintro d9 E W ⟨m, d, a4, s, d1⟩ c3
    refine Wh d1 (LJ c3 (fun L E W => ∃ n, ST false ll w W (hp w) ((J, Ol a0 64) :: n) ∧ E 1 = h ∧ E 2 = (.bool false) ∧ E 26 = (.bool L)) 5 ?_ (fun L B M => ?_))
    ·rintro e0 E W ⟨n, d, d2, v, d3⟩ c5
     refine Wh d3 (LJ c5 (fun A E W => ∃ o, ST false ll w W (hp w) o ∧ E 2 = (.bool false) ∧ E 32 = (.bool A)) 5 ?_ (fun A t K => ?_))
     ·rintro e1 E W ⟨o, d, d6, d4⟩ c6
      exact Wg d4 (lt (rQ c6 d))
     refine bC t (fun g t => ?_) (fun g t => ?_)
     ·refine ug g (kD sX d2) (ug g (kA rfl (kM d.has Mh rfl dO)) (bS t fun d7 c7 t => pX g (Eg d call142 (yh (.slice U a.lP.length Y) a.lP (.func (.func 156) #[] #[]) (fun (x : kw) => wQ x) _ _ (i.mono (Pl.mono _) d.kJ) ⟨156, #[], #[], rfl, call156, fun W x r hs hm => (Hk x r W  hm).mn⟩ c7) (fun d5 d => ug g (mQ rfl) (V (kR (cB g) rfl) ?_)))))
      obtain rfl := sj t
      exact K _ _ ⟨_, (d.kz (Db St)), v, rfl⟩
     refine un g (un g (un g (un g (V (kQ (cB g) rfl) ?_))))
     obtain rfl := sj t
     exact K _ _ ⟨_, (d.kz (Db St)), v, rfl⟩
    refine bC B (fun c B => ?_) (fun c B => ?_)
    ·refine ug c (kD sX a4) (ug c (kA rfl (kM d.has Mh rfl dO)) (ug c (ly aF rfl i) (ug c (lL rfl rfl rfl) (V (kR (cB c) rfl) ?_))))
     obtain rfl := sj B
     exact M _ _ ⟨_, (d.kz St), a4, s, rfl⟩
    refine un c (un c (un c (un c (V (kQ (cB c) rfl) ?_))))
    obtain rfl := sj B
    exact M _ _ ⟨_, (d.kz St), a4, s, rfl⟩
   refine bC D (fun k D => ?_) (fun k D => ?_)
   ·refine ug k (kD E6 a3) (ug k (kA rfl (kM d.has Mh rfl jB)) (ug k (lL rfl rfl rfl) (V (kR (cB k) rfl) ?_)))
    obtain rfl := sj D
    exact N _ _ ⟨_, (d.kz St), a3, q, rfl⟩
   refine un k (un k (un k (V (kQ (cB k) rfl) ?_)))
   obtain rfl := sj D
   exact N _ _ ⟨_, (d.kz St), a3, q, rfl⟩
  refine bC G (fun j G => ?_) (fun j G => ?_)
  ·refine ug j (kD E6 a2) (ug j (kA rfl (kM d.has Mh rfl jB)) (ug j (lL rfl rfl rfl) (V (kR (cB j) rfl) ?_)))
   obtain rfl := sj G
   exact Q _ _ ⟨_, (d.kz St), a2, a9, rfl⟩
  refine un j (un j (un j (V (kQ (cB j) rfl) ?_)))
  obtain rfl := sj G
  exact Q _ _ ⟨_, (d.kz St), a2, a9, rfl⟩
 refine bC H (fun u H => ?_) (fun u H => ?_)
 ·refine ug u (kD BU rfl) (ug u (kA rfl (kM d.has Mh rfl cC)) (ug u (lL rfl rfl rfl) (V (kR (cB u) rfl) ?_)))
  obtain rfl := sj H
  exact T _ _ ⟨_, (d.kz St), rfl, rfl, rfl⟩
 refine un u (un u (un u (V (kQ (cB u) rfl) ?_)))
 obtain rfl := sj H
 exact T _ _ ⟨_, (d.kz St), rfl, rfl, rfl⟩
theorem DZ (g : Value) (t : List kV) (j : Value) (B : kV → Option Bool) (r : Int) (w : World) (c : Sl (Pl kX) 12 (hp w) g t) (D : th pg0 j (hp w) (fun (x : kV) => [(.agg (kX x).toArray)]) (fun (r : Bool) => (.bool r)) B) (hm : wj t B = some r) :
  la false pg0 205 [g, j] w (.int .i64 r) := by
 refine cG 19 func205 rfl (fun d => sg (Wa (lS (Wm (V (ly aW rfl c) (Wm (ln (lp (fun i E W => ∃ k, (E 8 = .int .i64 (i : Nat) ∧ E 7 = .int .i64 (t.length : Nat)) ∧ ST false ll w W (hp w) k ∧ E 0 = g ∧ E 1 = j ∧ pB B (t.drop i) i = some r) t.length c.len ⟨_, ⟨rfl, rfl⟩, (d.kz St), rfl, rfl, hm⟩ dc dc dc (fun _ _ _ h => by obtain ⟨_, n, _⟩ := h; exact n) ?_ ?_))))))))
 ·rintro Q E W H ⟨k, ⟨m, o⟩, d, u, y, a⟩
  obtain ⟨z, T, M, K, N⟩ := lc H
  rw [M] at a
  refine bg (Wh m (Wa (lr (Wh y (Wh u (Wm (VQ (lO (enc := kX) (i := (Q : Int)) (x0 := z) aW bX rfl rfl c (aD _) K) (fun Y I => V (kA rfl (lD d.has I ey bX)) (bS a fun Z J a => ?_)))))))))
  refine VE (Bk z d D (kY.refl _) rfl (pH rfl) J (fun U d => ln (CI a rfl (fun G a => ?_) (fun G a => ?_))))
  ·refine sg (Wm (Wa (lt (me (lb (me (lb ?_)))))))
   obtain rfl := sj a
   exact rP d
  exact lz (lu (kF ⟨m, _, ⟨rfl, o⟩, (d.kz St), u, y, (by rw [N]; exact a)⟩))
 rintro E W ⟨k, ⟨m, o⟩, d, u, y, a⟩
 rw [aG] at a
 exact kF (sg (Wa (lt (rQ a d))))
theorem Cs (a : Value) (g : List kV) (c : Value) (i : kV → Option Bool) (r : Bool) (w : World) (j : Sl (Pl kX) 12 (hp w) a g) (k : th pg0 c (hp w) (fun (x : kV) => [(.agg (kX x).toArray)]) (fun (r : Bool) => (.bool r)) i) (hm : rr g i = some r) :
  la false pg0 158 [a, c] w (.bool r) := by
 refine cG 9 func158 rfl (fun d => sg (Wa (lr (Wm (Wm (bS hm fun y t hm => VE (Eg d call205 (DZ a g c i _ _ (j.mono (Pl.mono _) d.kJ) (k.mono d.kJ) t) (fun u d => Wi rfl (Wa (lh ?_))))))))))
 exact kF (lj (rQ hm d))
theorem LV (i : kV) (r : Bool) (w : World) (hm : z7 i = some r) :
  la true pg0 160 [(.agg (kX i).toArray)] w (.bool r) := by
 refine cG 21 func160 rfl (fun d => sg (VE (lB d rfl (fun Z H d => Wa (lr (Wf zl (VA d Mh (kC i.ky) bG aI (bS hm fun h N hm => VE (Eg d kc (uq i.ky _ _  N) (fun W5 d => Wm (LJ hm (fun z E W => ∃ G, ST true ll w W (hp w) ((H, Ol (kX i) 140) :: G) ∧ E 1 = (.pointer (some ⟨H, 0, none⟩)) ∧ E 2 = (.bool false) ∧ E 14 = (.bool z)) 8 ?_ (fun z j t => ?_))))))))))))
 ·rintro x7 E W ⟨G, d, I, x, J⟩ M
  refine Wh J (LJ M (fun y E W => ∃ u, ST true ll w W (hp w) u ∧ E 2 = (.bool false) ∧ E 20 = (.bool y)) 5 ?_ (fun y g k => ?_))
  ·rintro Y E W ⟨u, d, T, K⟩ B
   exact Wg K (lt (rQ B d))
  refine bC g (fun c g => ?_) (fun c g => ?_)
  ·refine ug c (kD sM I) (ug c (kD rp rfl) (ug c (kA rfl (kM d.has Mh rfl aY)) (bS g fun U D g => pX c (Eg d jZ (uc i.kB.lx _ _  D) (fun Q d => V (kR (cB c) rfl) ?_)))))
   obtain rfl := sj g
   exact k _ _ ⟨_, (d.kz (Db St)), x, rfl⟩
  refine un c (un c (un c (un c (V (kQ (cB c) rfl) ?_))))
  obtain rfl := sj g
  exact k _ _ ⟨_, (d.kz (Db St)), x, rfl⟩
 refine bC j (fun a j => ?_) (fun a j => ?_)
 ·refine ug a (kD sM rfl) (ug a (kD wM rfl) (ug a (kA rfl (kI d.has Mh (kx i.kB.kw) rfl aN aC)) (ug a (kD zl rfl) (ug a (kD oe rfl) (ug a (kA rfl (kI d.has Mh (kx i.ky.Head) rfl aN aC)) (ug a (tT rfl rfl (mY cQ) (pK (nJ _ i.kB.kw i.ky.Head))) (V (kR (cB a) rfl) ?_)))))))
  obtain rfl := sj j
  exact t _ _ ⟨_, (d.kz St), rfl, rfl, rfl⟩
 refine un a (un a (un a (un a (un a (un a (un a (V (kQ (cB a) rfl) ?_)))))))
 obtain rfl := sj j
 exact t _ _ ⟨_, (d.kz St), rfl, rfl, rfl⟩
theorem KJ (a : kV) (r : Bool) (w : World) (hm : zy a = some r) :
  la true pg0 159 [(.agg (kX a).toArray)] w (.bool r) := by
 refine cG 6 func159 rfl (fun d => sg (VE (lB d rfl (fun g j d => Wa (lr (VA d Mh (kX a) ey bX (bS hm fun k c hm => VE (Eg d call160 (LV a _ _  c) (fun i d => V (mQ rfl) (Wa (lh ?_)))))))))))
 refine kF ?_
 exact lj (rQ hm d)
theorem DV (g : Nat) (c : Value) (j : List Int) (a : LO) (i : Value) (D : List Int) (r : (Bool × (List Int))) (w : World) {I : lm} (M : pP I ((g, Ob #[c] 81) :: (a ++ [])) w) (k : kU 5 (lJ .u8) 1 c j a) (y : Sl (Pl (lJ .u8)) 1 I i D) (hm : vW j D = some r) :
  mh true pg0 95 [(.pointer (some ⟨g, 0, none⟩)), i] w ((g, Ob #[c] 81) :: (a ++ [])) (fun v J W' => ∃ H B, v = (.bool (r.1)) ∧ J = ((g, Ob #[H] 81) :: (B ++ [])) ∧ kU 5 (lJ .u8) 1 H r.2 B) := by
 refine zN M 16 func95 rfl (fun d => sg (Wa (lS (Wm (V (ua fq rfl rfl) (ln (qo rfl (lz ?_))))))))
 refine kF (sg (Wm (Wm (Wn (Wf A8 (VB d Mh rfl rfl fQ (Wm ?_)))))))
 replace d := d.perm (Nr (Qb Qz) Nz)
 refine bS hm fun z G hm => VE (my (enc := (lJ .u8)) (v := c) (vs := i) (R := a) d (fun _ => rfl) dc (I4 _) cw uD.1 uD.2.1 rfl uD.2.2.1 uD.2.2.2 rfl rfl k (y.mono (Pl.mono _) d.kJ) G (fun N T K d t => Wn (Wf A8 ?_)))
 obtain ⟨u, x, rfl⟩ := t.form
 replace d := d.perm (Nb (Pr Pz) Nz)
 refine VO (lf (.slice u z.length x) (#[(.slice u z.length x)]) d rfl rfl gX oc nb rfl (fun Q d => lr (Wa (lt ?_))))
 obtain rfl := sj hm
 exact lI (v := (.bool true)) rfl rfl ⟨_, _, rfl, (d.mL (Kb (Kr Sn))), (.slice u z.length x), K, rfl, rfl, t⟩
theorem LR (c : Nat) (j : Value) (Z : List Int) (g : LO) (I : Value) (n : List kV) (r : (Bool × (List Int))) (w : World) {μ0 : lm} (h0 : pP μ0 ((c, Ob #[j] 81) :: (g ++ [])) w) (T : kU 5 (lJ .u8) 1 j Z g) (y : Sl (Pl kX) 12 μ0 I n) (hm : Aj Z n = some r) :
  mh false pg0 92 [(.pointer (some ⟨c, 0, none⟩)), I] w ((c, Ob #[j] 81) :: (g ++ [])) (fun v L1 W' => ∃ y1 S2, v = (.bool (r.1)) ∧ L1 = ((c, Ob #[y1] 81) :: (S2 ++ [])) ∧ kU 5 (lJ .u8) 1 y1 r.2 S2) := by
 let a0 := ((c, Ob #[j] 81) :: (g ++ []))
 refine zN h0 39 func92 rfl (fun d => sg (Wa (lS (Wm (V (ua fq rfl rfl) (Wm (Vg rfl rfl (kH rfl) (Vg rfl rfl (ly aW rfl y) (Vg rfl rfl (lL rfl rfl rfl) ?_)))))))))
 refine V (kQ rfl rfl) (Wm (LJ hm (fun a7 E W => ∃ L6, ST false (keys a0) w W μ0 ((c, Ob #[j] 81) :: (g ++ L6)) ∧ E 0 = (.pointer (some ⟨c, 0, none⟩)) ∧ E 1 = I ∧ E 17 = (.bool a7)) 3 ?_ (fun a7 k U => ?_)))
 ·rintro x5 E W ⟨L6, d, e8, e9, e3⟩ G
  refine ln (CI G e3 (fun c8 G => ?_) (fun c8 G => ?_))
  ·refine sg (Wa (lt (lb ?_)))
   obtain rfl := sj G
   exact lI (v := (.bool false)) rfl rfl ⟨_, _, rfl, (d.mL (Kb (Kr Sn))), j, g, rfl, rfl, T⟩
  refine kg (Wh e8 (Wh e9 (V (ly aW rfl y) (bS G fun e6 c9 G => ?_))))
  refine VE (eM d (Cb Pz (Cr Qz Cn)) call93 (fun A _ => mh.mn (qR c j Z g (n.length : Int) _ _ A T c9)) ?_)
  rintro _ h5 c4 h3 d b2 aa m ⟨f0, e2, a3, rfl, d0⟩
  obtain rfl := a3.symm
  replace d := d.perm (Tb (Tr Tn))
  refine lS (Wh e9 (V (ly aW rfl y) (Wm (ln (lp (fun i E W => ∃ z H u Q Y, (E 24 = .int .i64 (i : Nat) ∧ E 23 = .int .i64 (n.length : Nat)) ∧ kY c4 Q ∧ ST false (keys a0) w W Q ((c, Ob #[z] 81) :: (u ++ Y)) ∧ E 0 = (.pointer (some ⟨c, 0, none⟩)) ∧ E 22 = I ∧ kU 5 (lJ .u8) 1 z H u ∧ tl (n.drop i) H = some r) n.length y.len ⟨f0, e6.2, e2, c4, _, ⟨rfl, rfl⟩, (kY.refl _), (d.kz St), e8, rfl, d0, G⟩ dc dc dc (fun _ _ _ h => by obtain ⟨_, _, _, _, _, s, _⟩ := h; exact s) ?_ ?_)))))
  ·rintro d1 E W b1 ⟨z, H, u, Q, Y, ⟨q, eN⟩, D, d, J, a2, K, a⟩
   obtain ⟨t, f1, c0, b9, c1⟩ := lc b1
   rw [c0] at a
   refine bg (VQ (lO (enc := kX) (i := (d1 : Int)) (x0 := t) aW bX a2 q (y.mono (Pl.mono _) (b2.trans D)) (aD _) b9) (fun g4 b3 => V (kA rfl (lD d.has b3 ey bX)) (VE (lA d dD (fun f6 g2 d => VO (lf (.agg (kX t).toArray) ((kX t).toArray) d rfl rfl bX (tE t) nb rfl (fun f7 d => lr (Wh J (Wf zl (VA d Mh (kC t.ky) bG aI (bS a fun d2 b4 a => ?_)))))))))))
   refine VE (pF d call161 (lK.mn (DR t.ky _ _  b4)) (fun f8 d5 h1 f5 d a4 L b0 => bS a fun d3 b5 a => ?_))
   refine VE (Jy d (Cb (Pr (Pb Pz)) (Cr (Qr (Qb Qz)) Cn)) call95 (fun hH hN ab R => mh.mn (DV c z H u d5 d2 _ _ ⟨hH, hN, kY.refl _⟩ K (b0.sl (fun _ => rfl) (fun b o hq => R b o (Ml hq))) b5)) (fun f9 g8 h2 f3 d a5 O m a8 => ?_))
   obtain ⟨d6, c5, M, rfl, c2⟩ := a8
   replace M := M.symm; subst M
   replace d := d.perm (Tb (Tr Tn))
   refine ln ?_
   replace d := d.kz (Kb (Kr (Dr St)))
   refine kL (Wh J (Wf sM (Wf rp (VB d (Mt (Ma Mh)) rfl rfl aY (bS a fun d4 b6 a => ?_)))))
   refine VE (eM d (Cb Pz (Cr Qz Cn)) call162 (fun A _ => mh.mn (yK c d6 d3.2 c5 t.kB.lx _ _ A c2 b6)) ?_)
   rintro _ g9 d9 f4 d a6 P m ⟨d7, c6, N, rfl, c3⟩
   obtain rfl := N.symm
   replace d := d.perm (Tb (Tr Tn))
   refine lh (lu (kF ?_))
   replace d := d.kz (Kb (Kr (Db St)))
   exact ⟨q, d7, d4.2, c6, d9, _, ⟨rfl, eN⟩, (((D.trans a4).trans a5).trans a6), (d.kz St), J, a2, c3, (by rw [c1]; exact a)⟩
  rintro E W ⟨z, H, u, Q, Y, ⟨q, eN⟩, D, d, J, a2, K, a⟩
  rw [aG] at a
  refine kF (sg (Wa (lt ?_)))
  obtain rfl := sj a
  exact lI (v := (.bool true)) rfl rfl ⟨_, _, rfl, (d.mL (Kb (Kr Sn))), z, u, rfl, rfl, K⟩
 refine bC k (fun B k => ?_) (fun B k => ?_)
 ·refine un B (un B (V (kR (cB B) rfl) ?_))
  obtain rfl := sj k
  exact U _ _ ⟨_, (d.kz St), rfl, rfl, rfl⟩
 refine ug B (kH rfl) (bS k fun g7 b7 k => pX B (Eg d call158 (Cs I n (.func (.func 159) #[] #[]) (fun (x : kV) => zy x) _ _ (y.mono (Pl.mono _) d.kJ) ⟨159, #[], #[], rfl, call159, fun W x r hs hm => (KJ x r W  hm).mn⟩ b7) (fun g1 d => V (kQ (cB B) rfl) ?_)))
 obtain rfl := sj k
 exact U _ _ ⟨_, (d.kz St), rfl, rfl, rfl⟩
theorem Jx (g : Nat) (u : Value) (a4 : List Int) (t : LO) (j : lZ) (D B : Value) (r : (Bool × (List Int))) (w : World) {μ0 : lm} (h0 : pP μ0 ((g, Ob #[u] 81) :: (t ++ [])) w) (Z : kU 5 (lJ .u8) 1 u a4 t) (a : Sl (Pl kx) 2 μ0 D j.lP) (y : Sl (Pl kX) 12 μ0 B j.lX) (hm : wJ a4 j = some r) :
  mh false pg0 36 [(.pointer (some ⟨g, 0, none⟩)), (.agg #[(.int .i64 j.State), (.int .i64 j.oE), D, B])] w ((g, Ob #[u] 81) :: (t ++ [])) (fun v L1 W' => ∃ y1 S2, v = (.bool (r.1)) ∧ L1 = ((g, Ob #[y1] 81) :: (S2 ++ [])) ∧ kU 5 (lJ .u8) 1 y1 r.2 S2) := by
 let b4 := ((g, Ob #[u] 81) :: (t ++ []))
 refine zN h0 52 func36 rfl (fun d => sg ?_)
 obtain ⟨A1, c2, rfl⟩ := a.form
 obtain ⟨A3, c4, rfl⟩ := y.form
 let a1 := (C3 j.State j.oE A1 j.lP.length c2 A3 j.lX.length c4)
 refine VE (lB d rfl (fun W6 b5 d => Wa (lr (V (nc (v := (.agg #[(.slice none 0 0)])) um (mB zeroValue81 fl (Tl _ fl) kr)) (VE (lB d rfl (fun W8 q d => Wa (lS (Wm ?_)))))))))
 refine V (ua fq rfl rfl) (Wm (Vg rfl rfl (kA rfl (kI d.has (Mt Mh) a1 rfl eV dq)) (bS hm fun r9 f8 hm => Sz rfl rfl (Eg d call91 (Jv j (.slice A1 j.lP.length c2) (.slice A3 j.lX.length c4) _ _ (a.mono (Pl.mono _) d.kJ) (y.mono (Pl.mono _) d.kJ) f8) (fun m1 d => Vg rfl rfl (mQ rfl) (V (kQ rfl rfl) (Wm (LJ hm (fun R E W => ∃ a2 A c7 e8, kY μ0 c7 ∧ ST false (keys b4) w W c7 ((q, Ob #[a2] 81) :: ((b5, Ol a1 64) :: ((g, Ob #[u] 81) :: (A ++ (t ++ e8))))) ∧ E 0 = (.pointer (some ⟨g, 0, none⟩)) ∧ E 3 = (.pointer (some ⟨b5, 0, none⟩)) ∧ E 5 = (.pointer (some ⟨q, 0, none⟩)) ∧ E 23 = (.bool R.1) ∧ kU 5 (lJ .u8) 1 a2 R.2 A) 6 ?_ (fun R z a0 => ?_)))))))))
 ·rintro ⟨m8, e9⟩ E W ⟨a2, A, c7, e8, d3, d, L, O, i4, i5, g2⟩ x
  refine ln (CI x i5 (fun f7 x => ?_) (fun f7 x => ?_))
  ·refine sg (Wa (ln ?_))
   replace d := d.kz (Db (Db (Kb (Dr St))))
   refine lj (lb ?_)
   obtain rfl := sj x
   exact lI (v := (.bool false)) rfl rfl ⟨_, _, rfl, (d.mL (Kb (Kr Sn))), u, t, rfl, rfl, Z⟩
  refine kg (Wh L (V (kD BU O) (VB d (Mt Mh) rfl rfl cC (bS x fun i8 f9 x => ?_))))
  refine VE (eM d (Cb (Pb (Pb Pz)) (Cr (Qb (Qb (Qr Qz))) Cn)) call93 (fun n _ => mh.mn (qR g u a4 t j.State _ _ n Z f9)) ?_)
  rintro _ m5 m9 l8 d d4 ah m ⟨j4, i0, a7, rfl, g3⟩
  obtain rfl := a7.symm
  replace d := d.perm (Tb (Tr Tn))
  refine lr (Wh L (V (kD E6 O) (VB d (Mt (Ma (Mt Mh))) rfl rfl jB (bS x fun i9 g0 x => ?_))))
  refine VE (eM d (Cb Pz (Cr Qz Cn)) call93 (fun n _ => mh.mn (qR g j4 i8.2 i0 j.oE _ _ n g3 g0)) ?_)
  rintro _ m6 n0 l9 d d5 ai m ⟨j5, i1, a8, rfl, g4⟩
  obtain rfl := a8.symm
  replace d := d.perm (Tb (Tr Tn))
  refine lr (Wh L (V (kD sX O) (VB d (Mt (Ma (Mt Mh))) rfl rfl dO (V (ly aF rfl a) (bS x fun j0 g1 x => ?_)))))
  refine VE (eM d (Cb Pz (Cr Qz Cn)) call93 (fun n _ => mh.mn (qR g j5 i9.2 i1 (j.lP.length : Int) _ _ n g4 g1)) ?_)
  rintro _ m7 f0 m0 d d6 aj m ⟨j6, i2, a9, rfl, g7⟩
  obtain rfl := a9.symm
  replace d := d.perm (Tb (Tr Tn))
  refine lS (V (kD sX O) (VB d (Mt (Ma (Mt Mh))) rfl rfl dO (V (ly aF rfl a) (Wm (ln ?_)))))
  replace d := d.kz (Kb (Kr (Kb (Db St))))
  refine lp (fun i E W => ∃ I H G Y a3, (E 40 = .int .i64 (i : Nat) ∧ E 39 = .int .i64 (j.lP.length : Nat)) ∧ kY f0 Y ∧ ST false (keys b4) w W Y ((g, Ob #[I] 81) :: ((q, Ob #[a2] 81) :: (G ++ (A ++ a3)))) ∧ E 0 = (.pointer (some ⟨g, 0, none⟩)) ∧ E 5 = (.pointer (some ⟨q, 0, none⟩)) ∧ E 38 = (.slice A1 j.lP.length c2) ∧ kU 5 (lJ .u8) 1 I H G ∧ rS e9 (j.lP.drop i) H = some r) j.lP.length a.len ⟨j6, j0.2, i2, f0, _, ⟨rfl, rfl⟩, (kY.refl _), (d.kz (Kb (Sb (Pr Pz) St))), L, i4, rfl, g7, x⟩ dc dc dc (fun _ _ _ h => by obtain ⟨_, _, _, _, _, aa, _⟩ := h; exact aa) ?_ ?_
  ·rintro g8 E W d2 ⟨I, H, G, Y, a3, ⟨eI, eN⟩, K, d, M, a5, P, N, c⟩
   obtain ⟨J, j7, e3, e2, e4⟩ := lc d2
   rw [e3] at c
   refine bg (VQ (lO (enc := kx) (i := (g8 : Int)) (x0 := J) aF aC P eI (a.mono (Pl.mono _) ((((d3.trans d4).trans d5).trans d6).trans K)) (aD _) e2) (fun l1 d7 => V (kA rfl (lD d.has d7 aN aC)) (VE (lA d bP (fun k3 k9 d => VO (lf (.agg (kx J).toArray) ((kx J).toArray) d rfl rfl aC (mE J) nb rfl (fun k4 d => ln (kL (Wh M (VA d Mh (kx J) aN aC (bS c fun g9 d8 c => ?_)))))))))))
   refine VE (eM d (Cb (Pb Pz) (Cr (Qb (Qb Qz)) Cn)) call94 (fun n _ => mh.mn (xx g I H G J _ _ n N d8)) ?_)
   rintro _ l3 h7 j9 d c3 ab m ⟨h4, f1, Q, rfl, e5⟩
   obtain rfl := Q.symm
   replace d := d.perm (Tb (Tr Tn))
   refine lh (lu (kF ?_))
   replace d := d.kz (Kb (Kr (Db St)))
   exact ⟨eI, h4, g9.2, f1, h7, _, ⟨rfl, eN⟩, (K.trans c3), (d.kz (Kb (Sb (Pr Pz) St))), M, a5, P, e5, (by rw [e4]; exact c)⟩
  rintro E W ⟨I, H, G, Y, a3, ⟨eI, eN⟩, K, d, M, a5, P, N, c⟩
  rw [aG] at c
  refine kF (sg (Wh M (Wh a5 (bS c fun h1 d9 c => VE (pF d call37 (lK.mn (Ay q a2 e9 _ _ (g2.sl (fun _ => rfl) (fun b o hq => d.at_ (Mt (Mt (Ma (Ml hq)))))) (At.of (d.at_ (Mt Mh)) _ rfl) d9)) (fun k6 h3 l6 k2 d i6 ad d1 => bS c fun h2 e0 c => ?_))))))
  refine VE (Jy d (Cb (Pr Pz) (Cr (Qr (Qb Qz)) Cn)) call95 (fun hH hN s ag => mh.mn (DV g I H G h3 h1 _ _ ⟨hH, hN, kY.refl _⟩ N (d1.sl (fun _ => rfl) (fun b o hq => ag b o (Ml hq))) e0)) (fun k7 l4 l7 k0 d i7 ae m c9 => ?_))
  obtain ⟨h5, f2, T, rfl, e6⟩ := c9
  replace T := T.symm; subst T
  replace d := d.perm (Tb (Tr Tn))
  refine Wa (ln ?_)
  replace d := d.kz (Kb (Kr (Dr (Db (Dr St)))))
  refine lj ?_
  obtain rfl := sj c
  exact lI (v := (.bool h2.1)) rfl rfl ⟨_, _, rfl, (d.mL (Kb (Kr Sn))), h5, f2, rfl, rfl, e6⟩
 refine bC z (fun k z => ?_) (fun k z => ?_)
 ·refine un k (un k (un k (un k (un k (V (kR (cB k) rfl) ?_)))))
  obtain rfl := sj z
  exact a0 _ _ ⟨(.slice none 0 0), [], μ0, _, (kY.refl _), (d.kz St), rfl, rfl, rfl, rfl, (kU.nil _ _ _)⟩
 refine ug k (kH rfl) (ug k (kD wN rfl) (ug k (kA rfl (kM d.has (Mt Mh) rfl fR)) (bS z fun l2 e1 z => ?_)))
 refine pX k (eM d (Cb Pz (C0 Cn)) call92 (fun n s => (LR q (.slice none 0 0) ([]) [] (.slice A3 j.lX.length c4) j.lX _ _ n (kU.nil _ _ _) (y.mono (Pl.mono _) s) e1)) ?_)
 rintro _ l5 h8 k1 d c5 af m ⟨h6, f3, U, rfl, e7⟩
 obtain rfl := U.symm
 replace d := d.perm (Tb (Tr Tn))
 refine ug k (mQ rfl) (V (kQ (cB k) rfl) ?_)
 obtain rfl := sj z
 exact a0 _ _ ⟨h6, f3, h8, _, c5, (d.kz (Kb (Sb (Pr Pz) (Sb (Pr Pz) St)))), rfl, rfl, rfl, rfl, e7⟩
theorem Gr {dd : Bool} {F : Nat → Prop} {w W : World} {μ : lm} {L : LO} (o t : Nat) (z I : Value) (c y : Int) (u : FrameMode) (m : ST dd F w W μ ((o, .cells #[z, I] 158 (0, 0)) :: (t, .cells #[.int .i64 c] 62 (0, 0)) :: L)) (hu : (u = .returning ∧ y = c) ∨ u = .panicking [{ v := xK 217 o y, recovered := false }]) :
  CallsD pg0 98 #[.pointer (some ⟨o, 0, none⟩), .pointer (some ⟨t, 0, none⟩)] u W fun e G W' => e = .returned (.tuple #[]) ∧ settle G = .returning ∧ ST dd F w W' μ ((o, .cells #[z, .bool true] 158 (0, 0)) :: (t, .cells #[.int .i64 y] 62 (0, 0)) :: L) := by
 refine callsD_of_wpS func98 rfl fun s D x => XA (n := 31) (kL (Wm (Wn (Wf Kw (VO (De [] (.bool true) #[z, .bool true] m rfl rfl kv oc (bB 2) rfl (fun g m => lh ⟨rfl, fun a ha => wpS_seq ?_⟩))))))) (NF (args := [.pointer (some ⟨o, 0, none⟩), .pointer (some ⟨t, 0, none⟩)]) Tryz.ntmps98 nb)
 rcases hu with ⟨rfl, rfl⟩ | rfl
 ·refine Iq (n := 31) (d := 10) (d2 := 4) (v := .nilIface) (cs' := { s with mode := .returning } :: D) dc dc rfl rfl rfl rfl (fun _ => rfl) (fun E h => mN h) (.inr ⟨?_, rfl, ?_⟩) ha (fun a ha => ?_)
  ·simp only [recoverD, x]
  ·rw [← x]
  exact Pk (u := .returning) Tryz.results98 (kO (sg (Wm (V (Vs underlying20 rfl rfl) (ln (ze rfl (lj (lb ⟨.inr rfl, rfl, rfl, m⟩)))))))) ha
 refine Iq (n := 31) (d := 10) (d2 := 4) (v := xK 217 o y) (cs' := { s with mode := .panicking [{ v := xK 217 o y, recovered := true }] } :: D) dc dc rfl rfl rfl rfl (fun _ => rfl) (fun E h => mN h) (.inl ?_) ha (fun a ha => ?_)
 ·simp only [recoverD, x]
 refine Pk (u := .panicking [{ v := xK 217 o y, recovered := true }]) Tryz.results98 (kO (sg (Wm (V (VW underlying20 rfl rfl) (ln (qo rfl (kg (Wm (V (Qt fy (by intro q h; cases h) rfl) ?_))))))))) ha
 refine Wm (Wx rfl (Wx rfl (VE (lA m zeroValue217 (fun i J m => VO (De [] (.agg #[.pointer (some ⟨o, 0, none⟩), .int .i64 y]) #[.pointer (some ⟨o, 0, none⟩), .int .i64 y] m rfl rfl sizeOf217 oc (bB 2) rfl (fun j m => Wa (lS (Wm (V (mQ rfl) (Wm (Vg rfl rfl (kD Vx rfl) ?_))))))))))))
 refine Vg rfl rfl (kA rfl (kM m.has Mh rfl isAgg89)) (Vg rfl rfl (kH rfl) (Vg rfl rfl (OH kf sizeOf158 rfl rfl) (V (kQ rfl rfl) (ln (qo rfl (kn (kL (Wm (Wf VI (VB m Mh rfl rfl jB (Wn (VO (De [_, _] (.int .i64 y) #[.int .i64 y] m rfl rfl sizeOf62 oc (bB 1) rfl (fun k m => ?_))))))))))))))
 exact lh ⟨.inl rfl, rfl, rfl, ST.drop (A := []) m⟩
theorem Ow {S : Type} (fk : Nat) (a : Array Value) (N : Value) (T b : List Int) (s : Int ⊕ S) (rd : S → List Int) (w : World) {Q : lm} {j : LO} (h0 : pP Q j w) (hb : Sl (Pl (lJ .u8)) 1 Q N T) (Y : pG T = some b) (K : S → LO → lm → Prop) (X : Int → LO → lm → Prop) (H : ∀ args w, (callFunc fk args).run pg0 w = .ok (.enter fk args) w) (hf : ∀ (w' : World) (μ' : lm) (o : Nat) (G : Value), pP μ' ((o, Obj.cells #[G, .bool false] 158 (0, 0)) :: j) w' → kY Q μ' → Sl (Pl (lJ .u8)) 1 μ' G b →
   lM true pg0 fk (.pointer (some ⟨o, 0, none⟩) :: a.toList) w' μ' ((o, Obj.cells #[G, .bool false] 158 (0, 0)) :: j) s (fun r v B u => ∃ y z L', B = (o, Obj.cells #[y, z] 158 (0, 0)) :: L' ∧ Sl (Pl (lJ .u8)) 1 u y (rd r) ∧ K r L' u)
    (fun x c B u => ∃ y z L', c = [{ v := xK 217 o x, recovered := false }] ∧ B = (o, Obj.cells #[y, z] 158 (0, 0)) :: L' ∧ X x L' u)) :
  pg true pg0 39 [N, .func (.func fk) #[] a] w Q j (fun v B u => v = .int .i64 (Je rd s) ∧ Us K X s B u) := by
 refine R5 ?_
 have m := ST.wT (dd := true) h0
 refine N9 (n := 22) func39 rfl rfl nb (Pq (kL (VE (lA m zeroValue62 (fun W1 O m => lh ⟨rfl, (Pq (kL (Wm (VE (pF m call96 (Ct N T _ _ (hb.mono (Pl.mono _) m.kJ) Y) (fun W2 v2 a8 R2 m g W U => ?_))))))⟩)))))
 obtain ⟨aa, m, i, a1, J⟩ := ST.A4 m U (fun _ => rfl)
 obtain ⟨A, c, rfl⟩ := J.form
 refine V (nc (v := (.agg #[.slice A b.length c, .bool false])) (mI rfl) (mB zeroValue158 iB (Yi _ iB) kr)) (VE (lB m rfl (fun W3 o m => Wa (lh ⟨rfl, (Xw (QB (Yj (.inl rfl) rfl dc (kH rfl) (Rs (d := ⟨.fn (.func 98) #[], #[.pointer (some ⟨o, 0, none⟩), .pointer (some ⟨O, 0, none⟩)]⟩) (.inl rfl) rfl (RO (args := [.pointer (some ⟨o, 0, none⟩), .pointer (some ⟨O, 0, none⟩)]) rfl (by exact pI rfl rfl)) (kF (Dc (Dc (Bp (BT (.inl rfl) rfl dc (kH rfl) (BT (.inl rfl) rfl dc (Oz underlying91 rfl rfl) (Fc ?_)))))))))))⟩))))
 refine kF (Ou rfl (Bp (BT (.inl rfl) rfl dc (kH rfl) (BT (.inl rfl) rfl dc (kH rfl) ?_))))
 have hP : List.Perm ((o, Obj.cells (.agg #[.slice A b.length c, .bool false] : Value).cells 158 (0, 0)) :: (O, Obj.cells (Value.int IntKind.i64 0).cells 62 (0, 0)) :: j) (((o, Obj.cells #[.slice A b.length c, .bool false] 158 (0, 0)) :: j) ++ [(O, Obj.cells (Value.int IntKind.i64 0).cells 62 (0, 0))]) := List.Perm.cons _ (dL (l₁ := [_]))
 have hB : ∀ {M : LO} {p q : Nat × Obj}, ((p :: M) ++ [q]).Perm (p :: q :: M) := List.Perm.cons _ (dL (l₂ := [_]))
 rcases s with x | r
 ·refine Yh (.inl rfl) (nQ (args := [(.pointer (some ⟨o, 0, none⟩))]) (caps := a) _ _ m hP rfl H (by exact pH rfl) (fun hH hN R a7 => lM.l (hf _ _ o _ ⟨hH, hN, R⟩ (g.trans i) J)) (fun W4 cc Z L4 m D P hX => ?_))
  obtain ⟨y, z, L', rfl, rfl, hX⟩ := hX
  replace m := m.perm hB
  intro E' a6
  refine nt (M2 (by simp) call98 (Gr _ _ _ _ 0 x _ m (.inr rfl)) (fun I m => wL (v := .int .i64 x) rfl (a6 4) (kM m.has (.tail _ (.head _)) rfl jB) ?_))
  have m := ST.drop (A := []) (ST.drop (A := []) m)
  exact ⟨_, _, _, rfl, m.WL, (g.trans i).trans D, (W.trans a1).trans P, m.lV (fun _ h => h), rfl, hX⟩
 refine Yn (.inl rfl) rfl dc (Oi (args := [(.pointer (some ⟨o, 0, none⟩))]) (caps := a) _ _ m hP rfl H (by exact pH rfl) (fun hH hN R a7 => lM.r (hf _ _ o _ ⟨hH, hN, R⟩ (g.trans i) J)) (fun W4 v4 Z L4 m D P hK => ?_))
 obtain ⟨y, z, L', rfl, hy, hK⟩ := hK
 replace m := m.perm hB
 refine Fc (kF (Dc (Dc (Bp (BT (.inl rfl) rfl dc (kH rfl) (BT (.inl rfl) rfl dc (nv rfl) (BT (.inl rfl) rfl dc (kD zf rfl) (BT (.inl rfl) rfl dc (kA rfl (kM m.has (.head _) rfl fQ)) (BT (.inl rfl) rfl dc (ly cw rfl hy) (BT (.inl rfl) rfl dc (lL rfl rfl rfl) (Fc (kF ?_))))))))))))
 have L : ∀ (k : Int) (E : Nat → Value) (I : World), E 4 = .pointer (some ⟨O, 0, none⟩) → k = (if (rd r).length > 0 then 13 else 0) → ST true (keys j) w I Z ((o, Obj.cells #[y, z] 158 (0, 0)) :: (O, Obj.cells #[.int .i64 k] 62 (0, 0)) :: L') → ∀ tmps : Array Value, (∀ t, tmps.getD t undef = E t) → Leaves pg0 Tryz.f39 tmps (UB true w Q j (fun v B u => v = .int .i64 (Je rd (.inr r)) ∧ Us K X (.inr r) B u)) [⟨.fn (.func 98) #[], #[.pointer (some ⟨o, 0, none⟩), .pointer (some ⟨O, 0, none⟩)]⟩] .returning I := fun k E I h4 hk m => by
  refine M2 (by simp) call98 (Gr _ _ _ _ k k _ m (.inl ⟨rfl, rfl⟩)) (fun W6 m => wL (v := .int .i64 k) rfl h4 (kM m.has (.tail _ (.head _)) rfl jB) ?_)
  have m := ST.drop (A := []) (ST.drop (A := []) m)
  exact ⟨_, _, _, rfl, m.WL, (g.trans i).trans D, (W.trans a1).trans P, m.lV (fun _ h => h), by rw [hk, Je], hK⟩
 refine SH (b := decide (((rd r).length : Int) > 0)) rfl (fun hq => ?_) (fun hq => ?_)
 ·exact Dc (Bp (Sw (.inl rfl) rfl (De [_] (.int .i64 13) #[.int .i64 13] m rfl rfl sizeOf62 oc (bB 1) rfl (fun I m => Fc (kF (PM (lb (L 13 _ _ rfl (by rw [aM (by simpa using hq)]) m))))))))
 exact Tw (kF (Dc (Bp (Sw (.inl rfl) rfl (De [_] (.int .i64 0) #[.int .i64 0] m rfl rfl sizeOf62 oc (bB 1) rfl (fun I m => Fc (kF (PM (L 0 _ _ rfl (by rw [aK (by simpa using hq)]) m)))))))))
theorem CE (i : Nat) (c : Value) (g : List Int) (a r : Bool) (w : World) (k : Sl (Pl (lJ .u8)) 1 (hp w) c g) (j : At (hp w) (.pointer (some ⟨i, 0, none⟩)) [c, (.bool a)]) (hm : vi g a = some r) :
  la true pg0 163 [(.pointer (some ⟨i, 0, none⟩))] w (.bool r) := by
 refine cG 11 func163 rfl (fun d => sg (Wa (lr (Wm (V (ua kf rfl rfl) (Wm (Vg rfl rfl (kH rfl) (Vg rfl rfl (nv rfl) (Yw rfl rfl (zb [(.bool a)] Kw rfl j rfl) (fun u t => Vg rfl rfl (kA rfl (ng d.has (y := (.bool a)) t isAgg4)) ?_))))))))))
 exact V (kQ rfl rfl) (Wa (lt (rQ hm d)))
theorem mj (a : Nat) (t : kZ) (g : Value) (B : Int) (s : (Int ⊕ Unit)) (w : World) {D : lm} (T : pP D ((a, Ob #[g, (.bool t.mS)] 158) :: []) w) (I : Sl (Pl (lJ .u8)) 1 D g t.b) (hm : mX t B = some s) :
  lM true pg0 165 [(.pointer (some ⟨a, 0, none⟩)), (.int .i64 B)] w D ((a, Ob #[g, (.bool t.mS)] 158) :: []) s (fun r v G U => v = (.tuple #[]) ∧ G = ((a, Ob #[g, (.bool t.mS)] 158) :: [])) (fun x c G U => ∃ y z, c = [{ v := xK 217 a x, recovered := false }] ∧ G = ((a, Ob #[y, z] 158) :: [])) := by
 have d := ST.wT (dd := true) T
 refine qV (n := 21) func165 rfl rfl nb (sg (Wm (V (CS kf rfl rfl) (Wm (Vg rfl rfl (kH rfl) (Vg rfl rfl (nv rfl) (Vg rfl rfl (kD Kw rfl) (Vg rfl rfl (kA rfl (kM d.has Mh rfl isAgg4)) (Vg rfl rfl (mQ rfl) (V (kR rfl rfl) (Wm (LJ hm (fun K E W => ∃ H, ST true (keys ((a, Ob #[g, (.bool t.mS)] 158) :: [])) w W D ((a, Ob #[g, (.bool t.mS)] 158) :: H) ∧ E 0 = (.pointer (some ⟨a, 0, none⟩)) ∧ E 1 = (.int .i64 B) ∧ E 16 = (.bool K)) 3 ?_ (fun K j u => ?_)))))))))))))
 ·rintro Y E W ⟨H, d, M, N, Q⟩ k
  refine ln (CI k Q (fun J k => ?_) (fun J k => ?_))
  ·refine kL (Wh M (Wh N (V (nc (v := (.agg #[(.pointer (some ⟨a, 0, none⟩)), (.int .i64 B)])) (pC rfl rfl) (mB zeroValue217 fy (X4 _ fy) kr)) (V (U9 fy (by intro q h; cases h) rfl) (rX (.inl rfl) (UN rfl (pd ?_)))))))
   obtain rfl := sj k
   exact nh.li ⟨_, _, _, rfl, (d.mL (Kb Sn)), (kY.refl _), Lo.refl, (ST.lV d (np.mem (Kb Sn))), ⟨_, _, rfl, rfl⟩⟩
  refine lz (PZ (wU ?_))
  obtain rfl := sj k
  exact vX rfl (nh.ri ⟨_, _, _, rfl, (d.mL (Kb Sn)), (kY.refl _), Lo.refl, (ST.lV d (np.mem (Kb Sn))), rfl, rfl⟩)
 refine bC j (fun i j => ?_) (fun i j => ?_)
 ·refine ug i (kH rfl) (ug i (lL rfl rfl rfl) (V (kR (cB i) rfl) ?_))
  obtain rfl := sj j
  exact u _ _ ⟨_, (d.kz St), rfl, rfl, rfl⟩
 refine un i (un i (V (kQ (cB i) rfl) ?_))
 obtain rfl := sj j
 exact u _ _ ⟨_, (d.kz St), rfl, rfl, rfl⟩
theorem AO (a : Nat) (j : kZ) (g : Value) (a1 : Int) (s : (Int ⊕ (Int × kZ))) (w : World) {μ0 : lm} (h0 : pP μ0 ((a, Ob #[g, (.bool j.mS)] 158) :: []) w) (k : Sl (Pl (lJ .u8)) 1 μ0 g j.b) (hm : vr j a1 = some s) :
  lM true pg0 164 [(.pointer (some ⟨a, 0, none⟩)), (.int .i64 a1)] w μ0 ((a, Ob #[g, (.bool j.mS)] 158) :: []) s (fun r v L1 μ1 => ∃ y1, v = (.int .u8 (r.1)) ∧ L1 = ((a, Ob #[y1, (.bool ((r.2).mS))] 158) :: []) ∧ Sl (Pl (lJ .u8)) 1 μ1 y1 ((r.2).b)) (fun x c L1 μ1 => ∃ y z, c = [{ v := xK 217 a x, recovered := false }] ∧ L1 = ((a, Ob #[y, z] 158) :: [])) := by
 let c8 := (⟨(j.b.drop (Int.toNat 1)), j.mS⟩ : kZ)
 let c7 := (#[g, (.bool j.mS)] : Array Value)
 let b8 : Value := (.pointer (some ⟨a, 0, none⟩))
 let a0 := ((a, Obj.cells c7 158 (0, 0)) :: [])
 have d := ST.wT (dd := true) h0
 refine qV (n := 41) func164 rfl rfl nb (sg (Wa (ln (kO (HA hm (fun g0 E W => ∃ Y d7, kY μ0 Y ∧ Lo (keys a0) w μ0 Y ∧ ST true (keys a0) w W Y ((a, Obj.cells c7 158 (0, 0)) :: d7) ∧ E 0 = b8 ∧ E 1 = (.int .i64 a1)) (fun g0 B a2 => ?_) ?_)))))
 ·refine sg (Wm (Wi rfl (ln (CI B rfl (fun d3 B => ?_) (fun d3 B => ?_)))))
  ·refine kL (Wm (bS B fun g1 b5 B => ?_))
   rcases g1 with f6 | h6
   ·have L := d.size
    refine rX (.inl rfl) (nQ (args := [b8, (.int .i64 11)]) (caps := #[]) _ _ d (Cb Pz Cn) rfl eW (by exact pI rfl rfl) (fun hH hN A ae => (lM.l (mj a j g 11 _ _ ⟨hH, hN, A⟩ (k.mono (Pl.mono _) (kY.refl _)) b5))) (fun e7 h2 c6 e4 d T o ab => ?_))
    obtain ⟨i3, i6, d6, rfl⟩ := ab
    replace d := d.perm (Tb Tn)
    refine nt (pd ?_)
    obtain rfl := sj B
    replace a2 : some (Sum.inl f6) = some s := a2
    obtain rfl := sj a2
    exact nh.li ⟨_, _, _, rfl, (d.mL (Kb Sn)), T, o, (ST.lV d (np.mem (Kb Sn))), ⟨_, _, d6, rfl⟩⟩
   have L := d.size
   refine VE (eD d (Cb Pz Cn) eW (fun hh => (lM.r (mj a j g 11 _ _ hh (k.mono (Pl.mono _) (kY.refl _)) b5))) ?_)
   rintro e7 h9 c6 e4 d T o ⟨a6, rfl⟩
   obtain rfl := a6.symm
   replace d := d.perm (Tb Tn)
   refine ln ?_
   obtain rfl := sj B
   exact ⟨_, rfl, c6, _, T, o, (d.kz St), rfl, rfl⟩
  refine kn ?_
  obtain rfl := sj B
  exact ⟨_, rfl, μ0, _, (kY.refl _), Lo.refl, (d.kz St), rfl, rfl⟩
 rintro ⟨⟩ E W ⟨Y, d7, G, q, d, b1, e0⟩ f0
 refine kO (HA f0 (fun f8 E W => ∃ I d8, kY Y I ∧ Lo (keys a0) w Y I ∧ ST true (keys a0) w W I ((a, Obj.cells c7 158 (0, 0)) :: d8) ∧ E 0 = b8 ∧ E 1 = (.int .i64 a1)) (fun f8 u Z => ?_) ?_)
 ·refine sg (Wh b1 (Wn (Wf zf (VB d Mh rfl rfl fQ (V (ly cw rfl k) (Wi rfl (ln (CI u rfl (fun d2 u => ?_) (fun d2 u => ?_)))))))))
  ·refine kL (Wh b1 (bS u fun f9 b4 u => ?_))
   rcases f9 with f5 | h5
   ·have L := d.size
    refine rX (.inl rfl) (nQ (args := [b8, (.int .i64 10)]) (caps := #[]) _ _ d (Cb Pz Cn) rfl eW (by exact pI rfl rfl) (fun hH hN A ae => (lM.l (mj a j g 10 _ _ ⟨hH, hN, A⟩ (k.mono (Pl.mono _) G) b4))) (fun e6 h1 c5 e3 d Q m aa => ?_))
    obtain ⟨i2, i5, d5, rfl⟩ := aa
    replace d := d.perm (Tb Tn)
    refine nt (pd ?_)
    obtain rfl := sj u
    replace Z : some (Sum.inl f5) = some s := Z
    obtain rfl := sj Z
    exact nh.li ⟨_, _, _, rfl, (d.mL (Kb Sn)), (G.trans Q), (q.trans m), (ST.lV d (np.mem (Kb Sn))), ⟨_, _, d5, rfl⟩⟩
   have L := d.size
   refine VE (eD d (Cb Pz Cn) eW (fun hh => (lM.r (mj a j g 10 _ _ hh (k.mono (Pl.mono _) G) b4))) ?_)
   rintro e6 h8 c5 e3 d Q m ⟨a5, rfl⟩
   obtain rfl := a5.symm
   replace d := d.perm (Tb Tn)
   refine ln ?_
   obtain rfl := sj u
   exact ⟨_, rfl, c5, _, Q, m, (d.kz St), b1, e0⟩
  refine kn ?_
  obtain rfl := sj u
  exact ⟨_, rfl, Y, _, (kY.refl _), Lo.refl, (d.kz St), b1, e0⟩
 rintro ⟨⟩ E W ⟨I, d8, J, O, d, a7, g2⟩ U
 refine sg (Wh a7 (Wn (Wf zf (VB d Mh rfl rfl fQ (bS U fun a9 c2 U => VQ (lO (enc := (lJ .u8)) (i := 0) (x0 := a9) cw iY rfl rfl (k.mono (Pl.mono _) (G.trans J)) (lY c2) (lN c2)) (fun i8 f3 => V (kA rfl (ng d.has (y := (.int .u8 a9)) f3 isAgg5)) (Wa (lr (Wh a7 ?_)))))))))
 refine Wh a7 (Wn (Wf zf (VB d Mh rfl rfl fQ (bS U fun _ c1 U => VQ (BP (i := 1) cw iY rfl rfl (k.mono (Pl.mono _) (G.trans J)) (qD c1) (qw c1)) (fun i9 a3 => Wn (Wf zf ?_))))))
 obtain ⟨K, M, rfl⟩ := a3.1.form
 let P : Value := (.slice K (j.b.drop (Int.toNat 1)).length M)
 refine VO (lf P (#[P, (.bool j.mS)]) d rfl rfl gX oc nb rfl (fun i7 d => ln (kO (HA U (fun g4 E W => ∃ b6 d9, kY I b6 ∧ Lo (keys a0) w I b6 ∧ ST true (keys a0) w W b6 ((a, Ob #[P, (.bool j.mS)] 158) :: d9) ∧ E 5 = (.int .u8 a9)) (fun g4 f2 b0 => ?_) ?_))))
 ·refine sg (Wm (Wi rfl (Wm (LJ f2 (fun c3 E W => ∃ b9, ST true (keys a0) w W I ((a, Ob #[P, (.bool j.mS)] 158) :: b9) ∧ E 0 = b8 ∧ E 5 = (.int .u8 a9) ∧ E 37 = (.bool c3)) 3 ?_ (fun c3 H a8 => ?_)))))
  ·rintro i0 E W ⟨b9, d, e8, c0, e9⟩ t
   refine ln (CI t e9 (fun d1 t => ?_) (fun d1 t => ?_))
   ·refine kL (Wh e8 (bS t fun f7 b3 t => ?_))
    rcases f7 with f4 | h4
    ·have L := d.size
     refine rX (.inl rfl) (nQ (args := [b8, (.int .i64 11)]) (caps := #[]) _ _ d (Cb Pz Cn) rfl eW (by exact pI rfl rfl) (fun hH hN A ae => (lM.l (mj a c8 P 11 _ _ ⟨hH, hN, A⟩ (a3.1.mono (Pl.mono _) (kY.refl _)) b3))) (fun e5 g9 c4 e2 d N h R => ?_))
     obtain ⟨i1, i4, d4, rfl⟩ := R
     replace d := d.perm (Tb Tn)
     refine nt (pd ?_)
     obtain rfl := sj t
     replace b0 : some (Sum.inl f4) = some s := b0
     obtain rfl := sj b0
     exact nh.li ⟨_, _, _, rfl, (d.mL (Kb Sn)), ((G.trans J).trans N), ((q.trans O).trans h), (ST.lV d (np.mem (Kb Sn))), ⟨_, _, d4, rfl⟩⟩
    have L := d.size
    refine VE (eD d (Cb Pz Cn) eW (fun hh => (lM.r (mj a c8 P 11 _ _ hh (a3.1.mono (Pl.mono _) (kY.refl _)) b3))) ?_)
    rintro e5 h7 c4 e2 d N h ⟨a4, rfl⟩
    obtain rfl := a4.symm
    replace d := d.perm (Tb Tn)
    refine ln ?_
    obtain rfl := sj t
    exact ⟨_, rfl, c4, _, N, h, (d.kz St), c0⟩
   refine kn ?_
   obtain rfl := sj t
   exact ⟨_, rfl, I, _, (kY.refl _), Lo.refl, (d.kz St), c0⟩
  refine bC H (fun D H => ?_) (fun D H => ?_)
  ·refine ug D (kH g2) (ug D (lL rfl rfl rfl) (V (kR (cB D) rfl) ?_))
   obtain rfl := sj H
   exact a8 _ _ ⟨_, (d.kz St), a7, rfl, rfl⟩
  refine un D (un D (V (kQ (cB D) rfl) ?_))
  obtain rfl := sj H
  exact a8 _ _ ⟨_, (d.kz St), a7, rfl, rfl⟩
 rintro ⟨⟩ E W ⟨b6, d9, b2, ad, d, g3⟩ f1
 refine sg (Wh g3 (Wa (lt (wq ?_))))
 obtain rfl := sj f1
 exact lI (v := (.int .u8 a9)) rfl rfl (nh.ri ⟨_, _, _, rfl, (d.mL (Kb Sn)), ((G.trans J).trans b2), ((q.trans O).trans ad), (ST.lV d (np.mem (Kb Sn))), P, rfl, rfl, (a3.1.mono (Pl.mono _) b2)⟩)
theorem mU (g : Nat) (I : kZ) (j : Value) (a1 : Int) (s : (Int ⊕ (Int × kZ))) (w : World) {μ0 : lm} (h0 : pP μ0 ((g, Ob #[j, (.bool I.mS)] 158) :: []) w) (K : Sl (Pl (lJ .u8)) 1 μ0 j I.b) (hm : ns I a1 = some s) :
  lM true pg0 99 [(.pointer (some ⟨g, 0, none⟩)), (.int .i64 a1)] w μ0 ((g, Ob #[j, (.bool I.mS)] 158) :: []) s (fun r v L1 μ1 => ∃ y1, v = (.int .i64 (r.1)) ∧ L1 = ((g, Ob #[y1, (.bool ((r.2).mS))] 158) :: []) ∧ Sl (Pl (lJ .u8)) 1 μ1 y1 ((r.2).b)) (fun x c L1 μ1 => ∃ y z, c = [{ v := xK 217 g x, recovered := false }] ∧ L1 = ((g, Ob #[y, z] 158) :: [])) := by
 let b7 : Value := (.pointer (some ⟨g, 0, none⟩))
 let b2 := ((g, Ob #[j, (.bool I.mS)] 158) :: [])
 have d := ST.wT (dd := true) h0
 refine qV (n := 31) func99 rfl rfl nb (sg (Wa (lS (Wm (bS hm fun r1 e0 hm => VE (Eg d call163 (CE g j I.b I.mS _ _ (K.mono (Pl.mono _) d.kJ) (At.of (d.at_ Mh) _ rfl) e0) (fun W3 d => ln (CI hm rfl (fun d9 hm => ?_) (fun d9 hm => ?_)))))))))
 ·refine sg (Wa (lt (lb (wq ?_))))
  obtain rfl := sj hm
  exact lI (v := (.int .i64 0)) rfl rfl (nh.ri ⟨_, _, _, rfl, (d.mL (Kb Sn)), (kY.refl _), Lo.refl, (ST.lV d (np.mem (Kb Sn))), j, rfl, rfl, K⟩)
 refine kg (Wa (lS (Wa (ln (mK (od (fun m E W => ∃ G u Q N T Y b3, kY μ0 Y ∧ Lo (keys b2) w μ0 Y ∧ ST true (keys b2) w W Y ((g, Ob #[Q, (.bool T)] 158) :: b3) ∧ E 0 = b7 ∧ E 1 = (.int .i64 a1) ∧ E 5 = (.int .i64 G) ∧ E 6 = (.int .i64 u) ∧ Sl (Pl (lJ .u8)) 1 Y Q N ∧ nO a1 m G u N T = some s) lC ⟨0, 0, j, I.b, I.mS, μ0, _, (kY.refl _), Lo.refl, (d.kz St), rfl, rfl, rfl, rfl, K, hm⟩ ?_))))))
 rintro m E W ⟨G, u, Q, N, T, Y, b3, H, o, d, a7, b5, d2, a8, b1, i⟩
 cases m with
 | zero => rw [nO] at i; cases i
 | succ d4 =>
  refine kO (bg (Wh a7 (Wh a8 (bS i fun d8 a9 i => ?_))))
  rcases d8 with e6 | t
  ·have R := d.size
   refine rX (.inl rfl) (nQ (args := [b7, (.int .i64 u)]) (caps := #[]) _ _ d (Cb Pz Cn) rfl call164 (by exact pI rfl rfl) (fun hH hN P aa => (lM.l (AO g (⟨N, T⟩ : kZ) Q u _ _ ⟨hH, hN, P⟩ (b1.mono (Pl.mono _) (kY.refl _)) a9))) (fun d0 e3 Z c8 d D h A => ?_))
   obtain ⟨f0, f2, c3, rfl⟩ := A
   replace d := d.perm (Tb Tn)
   refine nt (xl (nt (nt (xl (nt (pd ?_))))))
   obtain rfl := sj i
   exact nh.li ⟨_, _, _, rfl, (d.mL (Kb Sn)), (H.trans D), (o.trans h), (ST.lV d (np.mem (Kb Sn))), ⟨_, _, c3, rfl⟩⟩
  have R := d.size
  refine VE (eD d (Cb Pz Cn) call164 (fun hh => (lM.r (AO g (⟨N, T⟩ : kZ) Q u _ _ hh (b1.mono (Pl.mono _) (kY.refl _)) a9))) ?_)
  rintro d0 e8 Z c8 d D h ⟨U, a3, rfl, J⟩
  obtain rfl := a3.symm
  replace d := d.perm (Tb Tn)
  refine Wa (lr (Wh d2 (Wm (V (FT (k := .u8) (a := t.1) (b := 127) (v := (.int .u8 (IntKind.u8.wrap (BitVec.ofInt (IntKind.bits .u8) t.1 &&& BitVec.ofInt (IntKind.bits .u8) 127).toNat))) rfl rfl dc rfl) (V (Cf (k' := .u8) (a := (IntKind.u8.wrap (BitVec.ofInt (IntKind.bits .u8) t.1 &&& BitVec.ofInt (IntKind.bits .u8) 127).toNat)) eU gC rfl) (Wh a8 (Wi rfl (bS i fun _ c5 i => V (P7 (a := (wi0 .i64 (IntKind.u8.wrap (BitVec.ofInt (IntKind.bits .u8) t.1 &&& BitVec.ofInt (IntKind.bits .u8) 127).toNat))) (b := (wi0 .i64 (7 * u))) rfl rfl (zK c5)) (V (Xy (k := .i64) (a := G) (b := (wi0 .i64 ((wi0 .i64 (IntKind.u8.wrap (BitVec.ofInt (IntKind.bits .u8) t.1 &&& BitVec.ofInt (IntKind.bits .u8) 127).toNat)) * 2 ^ min (Int.toNat (wi0 .i64 (7 * u))) (IntKind.bits .i64)))) (v := (.int .i64 (wi0 .i64 (BitVec.ofInt (IntKind.bits .i64) G ||| BitVec.ofInt (IntKind.bits .i64) (wi0 .i64 ((wi0 .i64 (IntKind.u8.wrap (BitVec.ofInt (IntKind.bits .u8) t.1 &&& BitVec.ofInt (IntKind.bits .u8) 127).toNat)) * 2 ^ min (Int.toNat (wi0 .i64 (7 * u))) (IntKind.bits .i64)))).toNat))) rfl rfl rfl) (Wa ?_))))))))))
  let a0 := (wi0 .i64 (BitVec.ofInt (IntKind.bits .i64) G ||| BitVec.ofInt (IntKind.bits .i64) (wi0 .i64 ((wi0 .i64 (IntKind.u8.wrap (BitVec.ofInt (IntKind.bits .u8) t.1 &&& BitVec.ofInt (IntKind.bits .u8) 127).toNat)) * 2 ^ min (Int.toNat (wi0 .i64 (7 * u))) (IntKind.bits .i64)))).toNat)
  refine lr (Wm (Wi rfl (ln (CI i rfl (fun c1 i => ?_) (fun c1 i => ?_)))))
  ·refine ob (Xr (by simp) (nN (nN (uf (kF (kO (HA i (fun d6 E W => ∃ a5 b4, kY Z a5 ∧ Lo (keys b2) w Z a5 ∧ ST true (keys b2) w W a5 ((g, Ob #[U, (.bool ((t.2).mS))] 158) :: b4) ∧ E 5 = (.int .i64 a0)) (fun d6 B a2 => ?_) ?_)))))))
   ·refine sg (Wm (Wh b5 (Wi rfl (ln (CI B rfl (fun c2 B => ?_) (fun c2 B => ?_))))))
    ·refine kL (Wh a7 (bS B fun d7 b0 B => ?_))
     rcases d7 with d5 | e7
     ·have R := d.size
      refine rX (.inl rfl) (nQ (args := [b7, (.int .i64 12)]) (caps := #[]) _ _ d (Cb Pz Cn) rfl eW (by exact pI rfl rfl) (fun hH hN P aa => (lM.l (mj g t.2 U 12 _ _ ⟨hH, hN, P⟩ (J.mono (Pl.mono _) (kY.refl _)) b0))) (fun d1 e4 b6 c9 d M q L => ?_))
      obtain ⟨f1, f3, c4, rfl⟩ := L
      replace d := d.perm (Tb Tn)
      refine nt (pd ?_)
      obtain rfl := sj B
      replace a2 : some (Sum.inl d5) = some s := a2
      obtain rfl := sj a2
      exact nh.li ⟨_, _, _, rfl, (d.mL (Kb Sn)), ((H.trans D).trans M), ((o.trans h).trans q), (ST.lV d (np.mem (Kb Sn))), ⟨_, _, c4, rfl⟩⟩
     have R := d.size
     refine VE (eD d (Cb Pz Cn) eW (fun hh => (lM.r (mj g t.2 U 12 _ _ hh (J.mono (Pl.mono _) (kY.refl _)) b0))) ?_)
     rintro d1 e9 b6 c9 d M q ⟨a4, rfl⟩
     obtain rfl := a4.symm
     replace d := d.perm (Tb Tn)
     refine ln ?_
     obtain rfl := sj B
     exact ⟨_, rfl, b6, _, M, q, (d.kz St), rfl⟩
    refine kn ?_
    obtain rfl := sj B
    exact ⟨_, rfl, Z, _, (kY.refl _), Lo.refl, (d.kz St), rfl⟩
   rintro ⟨⟩ E W ⟨a5, b4, a6, O, d, d3⟩ c6
   refine sg (Wh d3 (Wa (lt (wq ?_))))
   obtain rfl := sj c6
   exact lI (v := (.int .i64 a0)) rfl rfl (nh.ri ⟨_, _, _, rfl, (d.mL (Kb Sn)), ((H.trans D).trans a6), ((o.trans h).trans O), (ST.lV d (np.mem (Kb Sn))), U, rfl, rfl, (J.mono (Pl.mono _) a6)⟩)
  exact lz (lu (kF (kL (Wh a8 (Wi rfl (Wa (ln ⟨d4, bT _, a0, (wi0 .i64 (u + 1)), U, ((t.2).b), ((t.2).mS), Z, _, (H.trans D), (o.trans h), (d.kz St), a7, b5, rfl, rfl, J, i⟩)))))))
theorem AU (a : Nat) (J : kZ) (k : Value) (a1 : Int) (s : (Int ⊕ ((List Int) × kZ))) (w : World) {μ0 : lm} (h0 : pP μ0 ((a, Ob #[k, (.bool J.mS)] 158) :: []) w) (D : Sl (Pl (lJ .u8)) 1 μ0 k J.b) (hm : vq J a1 = some s) :
  lM true pg0 207 [(.pointer (some ⟨a, 0, none⟩)), (.int .i64 a1)] w μ0 ((a, Ob #[k, (.bool J.mS)] 158) :: []) s (fun r v L1 μ1 => ∃ y1 y3, v = y1 ∧ L1 = ((a, Ob #[y3, (.bool ((r.2).mS))] 158) :: []) ∧ Sl (Pl (lJ .u8)) 1 μ1 y1 (r.1) ∧ Sl (Pl (lJ .u8)) 1 μ1 y3 ((r.2).b)) (fun x c L1 μ1 => ∃ y z, c = [{ v := xK 217 a x, recovered := false }] ∧ L1 = ((a, Ob #[y, z] 158) :: [])) := by
 let b6 := ((a, Ob #[k, (.bool J.mS)] 158) :: [])
 let b2 : Value := (.pointer (some ⟨a, 0, none⟩))
 have d := ST.wT (dd := true) h0
 refine qV (n := 44) func207 rfl rfl nb (sg (Wa (lS (Wm (bS hm fun r1 e6 hm => VE (Eg d call163 (CE a k J.b J.mS _ _ (D.mono (Pl.mono _) d.kJ) (At.of (d.at_ Mh) _ rfl) e6) (fun W3 d => ln (CI hm rfl (fun e5 hm => ?_) (fun e5 hm => ?_)))))))))
 ·refine sg (Wa (lt (lb (wq ?_))))
  obtain rfl := sj hm
  exact lI (v := (.slice none 0 0)) rfl rfl (nh.ri ⟨_, _, _, rfl, (d.mL (Kb Sn)), (kY.refl _), Lo.refl, (ST.lV d (np.mem (Kb Sn))), (.slice none 0 0), k, rfl, rfl, (Sl.nil _ _ _), D⟩)
 refine kg (Wm (bS hm fun d9 c0 hm => ?_))
 rcases d9 with g7 | t
 ·have A := d.size
  refine rX (.inl rfl) (nQ (args := [b2, (.int .i64 9223372036854775807)]) (caps := #[]) _ _ d (Cb Pz Cn) rfl jo (by exact pI rfl rfl) (fun hH R q af => (lM.l (mU a J k 9223372036854775807 _ _ ⟨hH, R, q⟩ (D.mono (Pl.mono _) (kY.refl _)) c0))) (fun W7 g4 L e2 d I h aa => ?_))
  obtain ⟨h4, h5, d1, rfl⟩ := aa
  replace d := d.perm (Tb Tn)
  refine nt (pd ?_)
  obtain rfl := sj hm
  exact nh.li ⟨_, _, _, rfl, (d.mL (Kb Sn)), I, h, (ST.lV d (np.mem (Kb Sn))), ⟨_, _, d1, rfl⟩⟩
 have A := d.size
 refine VE (eD d (Cb Pz Cn) jo (fun hh => (lM.r (mU a J k 9223372036854775807 _ _ hh (D.mono (Pl.mono _) (kY.refl _)) c0))) ?_)
 rintro W7 h1 L e2 d I h ⟨T, U, rfl, B⟩
 obtain rfl := U.symm
 replace d := d.perm (Tb Tn)
 refine Wa (ln (kO (HA hm (fun e7 E W => ∃ a3 b7, kY L a3 ∧ Lo (keys b6) w L a3 ∧ ST true (keys b6) w W a3 ((a, Ob #[T, (.bool ((t.2).mS))] 158) :: b7) ∧ E 0 = b2 ∧ E 5 = (.int .i64 t.1)) (fun e7 g G => ?_) ?_)))
 ·refine bg (Wm (Wm (Wi rfl (Wa (ln (CI g rfl (fun d0 g => ?_) (fun d0 g => ?_)))))))
  ·refine kL (Wm (bS g fun d7 a9 g => ?_))
   rcases d7 with d5 | g9
   ·have A := d.size
    refine rX (.inl rfl) (nQ (args := [b2, (.int .i64 12)]) (caps := #[]) _ _ d (Cb Pz Cn) rfl eW (by exact pI rfl rfl) (fun hH R q af => (lM.l (mj a t.2 T 12 _ _ ⟨hH, R, q⟩ (B.mono (Pl.mono _) (kY.refl _)) a9))) (fun e3 f2 c2 c4 d M o O => ?_))
    obtain ⟨f7, f9, b4, rfl⟩ := O
    replace d := d.perm (Tb Tn)
    refine xl (nt (pd ?_))
    obtain rfl := sj g
    replace G : some (Sum.inl d5) = some s := G
    obtain rfl := sj G
    exact nh.li ⟨_, _, _, rfl, (d.mL (Kb Sn)), (I.trans M), (h.trans o), (ST.lV d (np.mem (Kb Sn))), ⟨_, _, b4, rfl⟩⟩
   have A := d.size
   refine VE (eD d (Cb Pz Cn) eW (fun hh => (lM.r (mj a t.2 T 12 _ _ hh (B.mono (Pl.mono _) (kY.refl _)) a9))) ?_)
   rintro e3 h3 c2 c4 d M o ⟨N, rfl⟩
   obtain rfl := N.symm
   replace d := d.perm (Tb Tn)
   refine lh (lu (kF ?_))
   obtain rfl := sj g
   exact ⟨_, rfl, c2, _, M, o, (d.kz St), rfl, rfl⟩
  refine sg (Wm (Wm (Wn (Wf zf (VB d Mh rfl rfl fQ (V (ly cw rfl B) (Wi rfl (Wa (ln (CI g rfl (fun b3 g => ?_) (fun b3 g => ?_)))))))))))
  ·refine kL (Wm (bS g fun d8 a2 g => ?_))
   rcases d8 with d6 | f5
   ·have A := d.size
    refine rX (.inl rfl) (nQ (args := [b2, (.int .i64 10)]) (caps := #[]) _ _ d (Cb Pz Cn) rfl eW (by exact pI rfl rfl) (fun hH R q af => (lM.l (mj a t.2 T 10 _ _ ⟨hH, R, q⟩ (B.mono (Pl.mono _) (kY.refl _)) a2))) (fun c6 f3 b1 c5 d H m P => ?_))
    obtain ⟨f8, g0, b5, rfl⟩ := P
    replace d := d.perm (Tb Tn)
    refine xl (nt (pd ?_))
    obtain rfl := sj g
    replace G : some (Sum.inl d6) = some s := G
    obtain rfl := sj G
    exact nh.li ⟨_, _, _, rfl, (d.mL (Kb Sn)), (I.trans H), (h.trans m), (ST.lV d (np.mem (Kb Sn))), ⟨_, _, b5, rfl⟩⟩
   have A := d.size
   refine VE (eD d (Cb Pz Cn) eW (fun hh => (lM.r (mj a t.2 T 10 _ _ hh (B.mono (Pl.mono _) (kY.refl _)) a2))) ?_)
   rintro c6 f6 b1 c5 d H m ⟨Q, rfl⟩
   obtain rfl := Q.symm
   replace d := d.perm (Tb Tn)
   refine lh (lu (kF ?_))
   obtain rfl := sj g
   exact ⟨_, rfl, b1, _, H, m, (d.kz St), rfl, rfl⟩
  refine lz (lu (kF ?_))
  obtain rfl := sj g
  exact ⟨_, rfl, L, _, (kY.refl _), Lo.refl, (d.kz St), rfl, rfl⟩
 rintro ⟨⟩ E W ⟨a3, b7, K, ab, d, a6, b9⟩ u
 refine sg (Wh a6 (Wn (Wf zf (VB d Mh rfl rfl fQ (Wh b9 (bS u fun _ a7 u => VQ (JM (j := t.1) cw iY rfl rfl (B.mono (Pl.mono _) K) (qD a7) (qw a7)) (fun e8 d3 => bS u fun g8 d2 u => VE (pF d call96 (Ct e8 (((t.2).b).take (Int.toNat t.1)) _ _ (d3.1.mono (Pl.mono _) d.kJ) d2) (fun g2 c1 h6 g1 d Y ad c9 => Wa (ln (kO ?_)))))))))))
 refine kL (Wh a6 (Wh a6 (Wn (Wf zf (VB d (Ma Mh) rfl rfl fQ (Wh b9 (bS u fun _ a8 u => VQ (BP (i := t.1) cw iY rfl rfl (B.mono (Pl.mono _) (K.trans Y)) (qD a8) (qw a8)) (fun h2 b0 => Wn (Wf zf ?_)))))))))
 obtain ⟨a4, a5, rfl⟩ := b0.1.form
 let a0 : Value := (.slice a4 (((t.2).b).drop (Int.toNat t.1)).length a5)
 replace d := d.perm (Nb (Pr Pz) Nz)
 refine VO (lf a0 (#[a0, (.bool ((t.2).mS))]) d rfl rfl gX oc nb rfl (fun g3 d => lr (Wm (Wa (lt (wq ?_))))))
 obtain rfl := sj u
 refine lI (v := c1) rfl rfl ?_
 replace d := d.perm (Nr (Qb Qz) Nz)
 obtain ⟨h7, d, Z, ae, d4⟩ := ST.A4 d c9 (fun _ => rfl)
 exact nh.ri ⟨_, _, _, rfl, (d.mL (Kb Sn)), (((I.trans K).trans Y).trans Z), (((h.trans ab).trans ad).trans ae), (ST.lV d (np.mem (Kb Sn))), c1, a0, rfl, rfl, d4, (b0.1.mono (Pl.mono _) Z)⟩
theorem ra (a : Nat) (G : kZ) (g : Value) (s : (Int ⊕ (ByteArray × kZ))) (w : World) {Z : lm} (h0 : pP Z ((a, Ob #[g, (.bool G.mS)] 158) :: []) w) (t : Sl (Pl (lJ .u8)) 1 Z g G.b) (hm : uk G = some s) :
  lM true pg0 166 [(.pointer (some ⟨a, 0, none⟩))] w Z ((a, Ob #[g, (.bool G.mS)] 158) :: []) s (fun r v K μ1 => ∃ W, v = (.string (r.1)) ∧ K = ((a, Ob #[W, (.bool ((r.2).mS))] 158) :: []) ∧ Sl (Pl (lJ .u8)) 1 μ1 W ((r.2).b)) (fun x c K μ1 => ∃ y z, c = [{ v := xK 217 a x, recovered := false }] ∧ K = ((a, Ob #[y, z] 158) :: [])) := by
 have d := ST.wT (dd := true) h0
 refine qV (n := 15) func166 rfl rfl nb (sg (Wa (lS (Wm (V (ua kf rfl rfl) (ln (qo rfl (lz ?_))))))))
 refine kF (sg (Wm (bS hm fun a5 J hm => ?_)))
 rcases a5 with b6 | I
 ·have q := d.size
  refine rX (.inl rfl) (nQ (args := [(.pointer (some ⟨a, 0, none⟩)), (.int .i64 16)]) (caps := #[]) _ _ d (Cb Pz Cn) rfl call207 (by exact pI rfl rfl) (fun hH M o P => (lM.l (AU a G g 16 _ _ ⟨hH, M, o⟩ (t.mono (Pl.mono _) (kY.refl _)) J))) (fun W3 b4 R L9 d j m A => ?_))
  obtain ⟨c3, c5, Q, rfl⟩ := A
  replace d := d.perm (Tb Tn)
  refine nt (pd ?_)
  obtain rfl := sj hm
  exact nh.li ⟨_, _, _, rfl, (d.mL (Kb Sn)), j, m, (ST.lV d (np.mem (Kb Sn))), ⟨_, _, Q, rfl⟩⟩
 have q := d.size
 refine VE (eD d (Cb Pz Cn) call207 (fun O => (lM.r (AU a G g 16 _ _ O (t.mono (Pl.mono _) (kY.refl _)) J))) ?_)
 rintro W3 v7 R L9 d j m ⟨c2, D, u, rfl, Y, k⟩
 obtain rfl := u.symm
 replace d := d.perm (Tb Tn)
 refine V (Ku cw eU bQ rfl (Y.mono (Pl.mono _) d.kJ)) (Wa (lS (Wm (bS hm fun b9 U hm => VE (Eg d jZ (uc (Ch I.1) _ _  U) (fun b3 d => V (mQ rfl) (ln (CI hm rfl (fun N hm => ?_) (fun N hm => ?_)))))))))
 ·refine sg (Wm (bS hm fun a4 H hm => ?_))
  rcases a4 with b7 | c0
  ·have q := d.size
   refine rX (.inl rfl) (nQ (args := [(.pointer (some ⟨a, 0, none⟩)), (.int .i64 30)]) (caps := #[]) _ _ d (Cb Pz Cn) rfl eW (by exact pI rfl rfl) (fun hH M o P => (lM.l (mj a I.2 D 30 _ _ ⟨hH, M, o⟩ (k.mono (Pl.mono _) (kY.refl _)) H))) (fun a2 b5 a8 a1 d i h L => ?_))
   obtain ⟨c4, c6, T, rfl⟩ := L
   replace d := d.perm (Tb Tn)
   refine nt (nt (pd ?_))
   obtain rfl := sj hm
   exact nh.li ⟨_, _, _, rfl, (d.mL (Kb Sn)), (j.trans i), (m.trans h), (ST.lV d (np.mem (Kb Sn))), ⟨_, _, T, rfl⟩⟩
  have q := d.size
  refine VE (eD d (Cb Pz Cn) eW (fun O => (lM.r (mj a I.2 D 30 _ _ O (k.mono (Pl.mono _) (kY.refl _)) H))) ?_)
  rintro a2 c1 a8 a1 d i h ⟨B, rfl⟩
  obtain rfl := B.symm
  replace d := d.perm (Tb Tn)
  refine lr (Wa (lt (lb (wq ?_))))
  obtain rfl := sj hm
  exact lI (v := (.string zS)) rfl rfl (nh.ri ⟨_, _, _, rfl, (d.mL (Kb Sn)), (j.trans i), (m.trans h), (ST.lV d (np.mem (Kb Sn))), D, rfl, rfl, (k.mono (Pl.mono _) i)⟩)
 refine kg (Wm (Wa (lt (wq ?_))))
 obtain rfl := sj hm
 exact lI (v := (.string (Ch I.1))) rfl rfl (nh.ri ⟨_, _, _, rfl, (d.mL (Kb Sn)), j, m, (ST.lV d (np.mem (Kb Sn))), D, rfl, rfl, k⟩)
theorem py (a : Nat) (G : kZ) (g : Value) (s : (Int ⊕ (kw × kZ))) (w : World) {Z : lm} (h0 : pP Z ((a, Ob #[g, (.bool G.mS)] 158) :: []) w) (u : Sl (Pl (lJ .u8)) 1 Z g G.b) (hm : sv G = some s) :
  lM true pg0 100 [(.pointer (some ⟨a, 0, none⟩))] w Z ((a, Ob #[g, (.bool G.mS)] 158) :: []) s (fun r v M μ1 => ∃ y1, v = (.agg (kx (r.1)).toArray) ∧ M = ((a, Ob #[y1, (.bool ((r.2).mS))] 158) :: []) ∧ Sl (Pl (lJ .u8)) 1 μ1 y1 ((r.2).b)) (fun x c M μ1 => ∃ y z, c = [{ v := xK 217 a x, recovered := false }] ∧ M = ((a, Ob #[y, z] 158) :: [])) := by
 have d := ST.wT (dd := true) h0
 refine qV (n := 10) func100 rfl rfl nb (sg (VE (lA d bP (fun W2 b1 d => lr (Wm (bS hm fun a5 J hm => ?_))))))
 rcases a5 with b7 | t
 ·have q := d.size
  refine rX (.inl rfl) (nQ (args := [(.pointer (some ⟨a, 0, none⟩))]) (caps := #[]) _ _ d (Cb (Pb Pz) Cn) rfl iZ (by exact pH rfl) (fun hH O o R => (lM.l (ra a G g _ _ ⟨hH, O, o⟩ (u.mono (Pl.mono _) (kY.refl _)) J))) (fun W5 b5 W a1 d k m A => ?_))
  obtain ⟨c1, c3, T, rfl⟩ := A
  replace d := d.perm (Tb Tn)
  refine nt (pd ?_)
  obtain rfl := sj hm
  exact nh.li ⟨_, _, _, rfl, (d.mL (Kb Sn)), k, m, (ST.lV d (np.mem (Kb Sn))), ⟨_, _, T, rfl⟩⟩
 have q := d.size
 refine VE (eD d (Cb (Pb Pz) Cn) iZ (fun P => (lM.r (ra a G g _ _ P (u.mono (Pl.mono _) (kY.refl _)) J))) ?_)
 rintro W5 v9 W a1 d k m ⟨K, B, rfl, I⟩
 obtain rfl := B.symm
 replace d := d.perm (Tb Tn)
 refine Wa (lr (Wm (Wm (bS hm fun a4 H hm => ?_))))
 rcases a4 with b9 | i
 ·have q := d.size
  refine rX (.inl rfl) (nQ (args := [(.pointer (some ⟨a, 0, none⟩))]) (caps := #[]) _ _ d (Cb Pz Cn) rfl iZ (by exact pH rfl) (fun hH O o R => (lM.l (ra a t.2 K _ _ ⟨hH, O, o⟩ (I.mono (Pl.mono _) (kY.refl _)) H))) (fun a3 b6 a9 a2 d j h L => ?_))
  obtain ⟨c2, c4, U, rfl⟩ := L
  replace d := d.perm (Tb Tn)
  refine nt (pd ?_)
  obtain rfl := sj hm
  exact nh.li ⟨_, _, _, rfl, (d.mL (Kb Sn)), (k.trans j), (m.trans h), (ST.lV d (np.mem (Kb Sn))), ⟨_, _, U, rfl⟩⟩
 have q := d.size
 refine VE (eD d (Cb Pz Cn) iZ (fun P => (lM.r (ra a t.2 K _ _ P (I.mono (Pl.mono _) (kY.refl _)) H))) ?_)
 rintro a3 c0 a9 a2 d j h ⟨a7, D, rfl, Y⟩
 obtain rfl := D.symm
 replace d := d.perm (Tb Tn)
 let N := (⟨t.1, i.1⟩ : kw)
 let Q : Value := (.agg (kx N).toArray)
 refine V (nc (v := Q) (pC rfl rfl) (mB bP cI (G5 _ cI) kr)) ?_
 replace d := d.perm (Nb (Pb Pz) Nz)
 refine VO (lf Q ((kx N).toArray) d rfl rfl aC (mE N) nb rfl (fun b4 d => lt (wq ?_)))
 obtain rfl := sj hm
 exact wL (v := Q) rfl rfl (kI d.has Mh (kx N) rfl aN aC) (nh.ri ⟨_, _, _, rfl, (d.mL (Db (Kb Sn))), (k.trans j), (m.trans h), (ST.lV d (np.mem (Db (Kb Sn)))), a7, rfl, rfl, Y⟩)
set_option maxHeartbeats 4000000 in
theorem HC (a : Nat) (a0 : kZ) (j : Value) (s : (Int ⊕ (ky × kZ))) (w : World) {μ0 : lm} (h0 : pP μ0 ((a, Ob #[j, (.bool a0.mS)] 158) :: []) w) (d1 : Sl (Pl (lJ .u8)) 1 μ0 j a0.b) (hm : Bh a0 = some s) :
  lM true pg0 167 [(.pointer (some ⟨a, 0, none⟩))] w μ0 ((a, Ob #[j, (.bool a0.mS)] 158) :: []) s (fun r v L1 μ1 => ∃ y1, v = (.agg (kC (r.1)).toArray) ∧ L1 = ((a, Ob #[y1, (.bool ((r.2).mS))] 158) :: []) ∧ Sl (Pl (lJ .u8)) 1 μ1 y1 ((r.2).b)) (fun x c L1 μ1 => ∃ y z, c = [{ v := xK 217 a x, recovered := false }] ∧ L1 = ((a, Ob #[y, z] 158) :: [])) := by
 let h2 : Value := (.agg (kC K6).toArray)
 let g5 := ((kC K6).toArray : Array Value)
 let b8 := ((a, Ob #[j, (.bool a0.mS)] 158) :: [])
 let a5 : Value := (.pointer (some ⟨a, 0, none⟩))
 have d := ST.wT (dd := true) h0
 refine qV (n := 55) func167 rfl rfl nb (sg (VE (lA d cg (fun W2 b1 d => lr (Wm (bS hm fun o5 k4 hm => ?_))))))
 let g6 : Value := (.pointer (some ⟨b1, 0, none⟩))
 rcases o5 with v3 | J
 ·have m := d.size
  refine rX (.inl rfl) (nQ (args := [a5, (.int .i64 9223372036854775807)]) (caps := #[]) _ _ d (Cb (Pb Pz) Cn) rfl jo (by exact pI rfl rfl) (fun hH L h aa => (lM.l (mU a a0 j 9223372036854775807 _ _ ⟨hH, L, h⟩ (d1.mono (Pl.mono _) (kY.refl _)) k4))) (fun W5 v1 aj p4 d u A aw => ?_))
  obtain ⟨v6, v8, m6, rfl⟩ := aw
  replace d := d.perm (Tb Tn)
  refine nt (pd ?_)
  obtain rfl := sj hm
  exact nh.li ⟨_, _, _, rfl, (d.mL (Kb Sn)), u, A, (ST.lV d (np.mem (Kb Sn))), ⟨_, _, m6, rfl⟩⟩
 have m := d.size
 refine VE (eD d (Cb (Pb Pz) Cn) jo (fun O => (lM.r (mU a a0 j 9223372036854775807 _ _ O (d1.mono (Pl.mono _) (kY.refl _)) k4))) ?_)
 rintro W5 v9 aj p4 d u A ⟨b5, d4, rfl, c8⟩
 let h3 := (#[b5, (.bool ((J.2).mS))] : Array Value)
 obtain rfl := d4.symm
 replace d := d.perm (Tb Tn)
 let f2 := (⟨J.1, K0, zS, K0, K0, zS⟩ : ky)
 refine V (nc (v := (.agg (kC f2).toArray)) (mI rfl) (mB cg cY (MA _ cY) kr)) (VE (lA d cg (fun u8 b4 d => VO (lf (.agg (kC f2).toArray) ((kC f2).toArray) d rfl rfl aI (nI f2) nb rfl (fun u9 d => ln (kO (HA hm (fun o3 E W => ∃ f0 k3, kY aj f0 ∧ Lo (keys b8) w aj f0 ∧ ST true (keys b8) w W f0 ((b4, Ol (kC f2) 108) :: ((a, Obj.cells h3 158 (0, 0)) :: ((b1, Obj.cells g5 108 (0, 0)) :: k3))) ∧ E 0 = a5 ∧ E 2 = g6 ∧ E 3 = (.pointer (some ⟨b4, 0, none⟩))) (fun o3 j7 b7 => ?_) ?_)))))))
 ·refine sg (Wf nZ (VB d Mh rfl rfl cC (Wi rfl (Wm (LJ j7 (fun g0 E W => ∃ f4, ST true (keys b8) w W aj ((b4, Ol (kC f2) 108) :: ((a, Obj.cells h3 158 (0, 0)) :: ((b1, Obj.cells g5 108 (0, 0)) :: f4))) ∧ E 0 = a5 ∧ E 2 = g6 ∧ E 3 = (.pointer (some ⟨b4, 0, none⟩)) ∧ E 14 = (.bool g0)) 4 ?_ (fun g0 Z d2 => ?_))))))
  ·rintro t1 E W ⟨f4, d, d3, f6, f7, m3⟩ H
   refine ln (CI H m3 (fun i6 H => ?_) (fun i6 H => ?_))
   ·refine kL (Wh d3 (bS H fun o4 e7 H => ?_))
    rcases o4 with n4 | s2
    ·have m := d.size
     refine rX (.inl rfl) (nQ (args := [a5, (.int .i64 11)]) (caps := #[]) _ _ d (Cb (Pb Pz) Cn) rfl eW (by exact pI rfl rfl) (fun hH L h aa => (lM.l (mj a J.2 b5 11 _ _ ⟨hH, L, h⟩ (c8.mono (Pl.mono _) (kY.refl _)) e7))) (fun m1 r7 h1 l3 d b2 ai av => ?_))
     obtain ⟨t9, u7, j6, rfl⟩ := av
     replace d := d.perm (Tb Tn)
     refine nt (pd ?_)
     obtain rfl := sj H
     replace b7 : some (Sum.inl n4) = some s := b7
     obtain rfl := sj b7
     exact nh.li ⟨_, _, _, rfl, (d.mL (Kb Sn)), (u.trans b2), (A.trans ai), (ST.lV d (np.mem (Kb Sn))), ⟨_, _, j6, rfl⟩⟩
    have m := d.size
    refine VE (eD d (Cb (Pb Pz) Cn) eW (fun O => (lM.r (mj a J.2 b5 11 _ _ O (c8.mono (Pl.mono _) (kY.refl _)) e7))) ?_)
    rintro m1 t0 h1 l3 d b2 ai ⟨c7, rfl⟩
    obtain rfl := c7.symm
    replace d := d.perm (Tb Tn)
    refine ln ?_
    obtain rfl := sj H
    exact ⟨_, rfl, h1, _, b2, ai, (d.kz (Sb (Pb Pz) St)), d3, f6, f7⟩
   refine kn ?_
   obtain rfl := sj H
   exact ⟨_, rfl, aj, _, (kY.refl _), Lo.refl, (d.kz St), d3, f6, f7⟩
  refine bC Z (fun G Z => ?_) (fun G Z => ?_)
  ·refine un G (un G (un G (V (kR (cB G) rfl) ?_)))
   obtain rfl := sj Z
   exact d2 _ _ ⟨_, (d.kz St), rfl, rfl, rfl, rfl⟩
  refine ug G (kD nZ rfl) (ug G (kA rfl (kM d.has Mh rfl cC)) (ug G (lL rfl rfl rfl) (V (kQ (cB G) rfl) ?_)))
  obtain rfl := sj Z
  exact d2 _ _ ⟨_, (d.kz St), rfl, rfl, rfl, rfl⟩
 rintro ⟨⟩ E W ⟨f0, k3, k, q, d, M, d0, I⟩ b9
 refine sg (Wh M (bS b9 fun o2 f8 b9 => ?_))
 rcases o2 with v4 | D
 ·have m := d.size
  refine rX (.inl rfl) (nQ (args := [a5]) (caps := #[]) _ _ d (Cb (Pb Pz) Cn) rfl ia (by exact pH rfl) (fun hH L h aa => (lM.l (py a J.2 b5 _ _ ⟨hH, L, h⟩ (c8.mono (Pl.mono _) k) f8))) (fun p6 v2 f1 p5 d t o ay => ?_))
  obtain ⟨v7, w0, m7, rfl⟩ := ay
  replace d := d.perm (Tb Tn)
  refine nt (pd ?_)
  obtain rfl := sj b9
  exact nh.li ⟨_, _, _, rfl, (d.mL (Kb Sn)), ((u.trans k).trans t), ((A.trans q).trans o), (ST.lV d (np.mem (Kb Sn))), ⟨_, _, m7, rfl⟩⟩
 have m := d.size
 refine VE (eD d (Cb (Pb Pz) Cn) ia (fun O => (lM.r (py a J.2 b5 _ _ O (c8.mono (Pl.mono _) k) f8))) ?_)
 rintro p6 v5 f1 p5 d t o ⟨a1, d5, rfl, K⟩
 obtain rfl := d5.symm
 replace d := d.perm (Tb Tn)
 refine V (kD oe I) ?_
 replace d := d.perm (Nb (Pb Pz) Nz)
 refine VO (lf (.agg (kx D.1).toArray) ((kC (⟨J.1, D.1, zS, K0, K0, zS⟩ : ky)).toArray) d rfl rfl aC (mE D.1) nb rfl (fun v0 d => ln (kO (HA b9 (fun c9 E W => ∃ Q b3 f3, kY f1 b3 ∧ Lo (keys b8) w f1 b3 ∧ ST true (keys b8) w W b3 ((b4, Ol (kC c9.1) 108) :: ((a, Ob #[Q, (.bool c9.2.2)] 158) :: ((b1, Obj.cells g5 108 (0, 0)) :: f3))) ∧ E 0 = a5 ∧ E 2 = g6 ∧ E 3 = (.pointer (some ⟨b4, 0, none⟩)) ∧ Sl (Pl (lJ .u8)) 1 b3 Q c9.2.1) (fun c9 g i => ?_) ?_))))
 ·refine sg (V (kD nZ I) (VB d Mh rfl rfl cC (ln (bg (Wi rfl (Wa (ln (CI g rfl (fun i2 g => ?_) (fun i2 g => ?_)))))))))
  ·refine kL (Wh M (bS g fun n6 e1 g => ?_))
   rcases n6 with m8 | d6
   ·have m := d.size
    refine rX (.inl rfl) (nQ (args := [a5]) (caps := #[]) _ _ d (Cb (Pb Pz) Cn) rfl iZ (by exact pH rfl) (fun hH L h aa => (lM.l (ra a D.2 a1 _ _ ⟨hH, L, h⟩ (K.mono (Pl.mono _) (kY.refl _)) e1))) (fun l5 r0 g4 k7 d a7 ae an => ?_))
    obtain ⟨t3, u1, i8, rfl⟩ := an
    replace d := d.perm (Tb Tn)
    refine xl (nt (pd ?_))
    obtain rfl := sj g
    replace i : some (Sum.inl m8) = some s := i
    obtain rfl := sj i
    exact nh.li ⟨_, _, _, rfl, (d.mL (Kb Sn)), (((u.trans k).trans t).trans a7), (((A.trans q).trans o).trans ae), (ST.lV d (np.mem (Kb Sn))), ⟨_, _, i8, rfl⟩⟩
   have m := d.size
   refine VE (eD d (Cb (Pb Pz) Cn) iZ (fun O => (lM.r (ra a D.2 a1 _ _ O (K.mono (Pl.mono _) (kY.refl _)) e1))) ?_)
   rintro l5 s4 g4 k7 d a7 ae ⟨o6, c1, rfl, j9⟩
   obtain rfl := c1.symm
   replace d := d.perm (Tb Tn)
   refine V (kD sL I) ?_
   replace d := d.perm (Nb (Pb Pz) Nz)
   refine VO (lf (.string d6.1) ((kC (⟨J.1, D.1, d6.1, K0, K0, zS⟩ : ky)).toArray) d rfl rfl dh (DF d6.1) nb rfl (fun q2 d => lh (lu (kF ?_))))
   obtain rfl := sj g
   exact ⟨_, rfl, o6, g4, _, a7, ae, (d.kz St), M, d0, I, j9⟩
  refine sg (Wi rfl (Wa (ln (CI g rfl (fun i3 g => ?_) (fun i3 g => ?_)))))
  ·refine kL (Wh M (bS g fun n7 e2 g => ?_))
   rcases n7 with m9 | d7
   ·have m := d.size
    refine rX (.inl rfl) (nQ (args := [a5]) (caps := #[]) _ _ d (Cb (Pb Pz) Cn) rfl ia (by exact pH rfl) (fun hH L h aa => (lM.l (py a D.2 a1 _ _ ⟨hH, L, h⟩ (K.mono (Pl.mono _) (kY.refl _)) e2))) (fun l6 r1 g7 k8 d a8 af ao => ?_))
    obtain ⟨t4, u2, i9, rfl⟩ := ao
    replace d := d.perm (Tb Tn)
    refine xl (nt (pd ?_))
    obtain rfl := sj g
    replace i : some (Sum.inl m9) = some s := i
    obtain rfl := sj i
    exact nh.li ⟨_, _, _, rfl, (d.mL (Kb Sn)), (((u.trans k).trans t).trans a8), (((A.trans q).trans o).trans af), (ST.lV d (np.mem (Kb Sn))), ⟨_, _, i9, rfl⟩⟩
   have m := d.size
   refine VE (eD d (Cb (Pb Pz) Cn) ia (fun O => (lM.r (py a D.2 a1 _ _ O (K.mono (Pl.mono _) (kY.refl _)) e2))) ?_)
   rintro l6 s5 g7 k8 d a8 af ⟨o7, c2, rfl, k0⟩
   obtain rfl := c2.symm
   replace d := d.perm (Tb Tn)
   refine V (kD mT I) ?_
   replace d := d.perm (Nb (Pb Pz) Nz)
   refine VO (lf (.agg (kx d7.1).toArray) ((kC (⟨J.1, D.1, zS, d7.1, K0, zS⟩ : ky)).toArray) d rfl rfl aC (mE d7.1) nb rfl (fun q3 d => lh (lu (kF ?_))))
   obtain rfl := sj g
   exact ⟨_, rfl, o7, g7, _, a8, af, (d.kz St), M, d0, I, k0⟩
  refine sg (Wi rfl (Wa (ln (CI g rfl (fun i4 g => ?_) (fun i4 g => ?_)))))
  ·refine sg (Wh M (bS g fun n9 e3 g => ?_))
   rcases n9 with n0 | a2
   ·have m := d.size
    refine rX (.inl rfl) (nQ (args := [a5]) (caps := #[]) _ _ d (Cb (Pb Pz) Cn) rfl ia (by exact pH rfl) (fun hH L h aa => (lM.l (py a D.2 a1 _ _ ⟨hH, L, h⟩ (K.mono (Pl.mono _) (kY.refl _)) e3))) (fun l7 r2 p2 k9 d U P ap => ?_))
    obtain ⟨t5, u3, j0, rfl⟩ := ap
    replace d := d.perm (Tb Tn)
    refine nt (xl (nt (pd ?_)))
    obtain rfl := sj g
    replace i : some (Sum.inl n0) = some s := i
    obtain rfl := sj i
    exact nh.li ⟨_, _, _, rfl, (d.mL (Kb Sn)), (((u.trans k).trans t).trans U), (((A.trans q).trans o).trans P), (ST.lV d (np.mem (Kb Sn))), ⟨_, _, j0, rfl⟩⟩
   have m := d.size
   refine VE (eD d (Cb (Pb Pz) Cn) ia (fun O => (lM.r (py a D.2 a1 _ _ O (K.mono (Pl.mono _) (kY.refl _)) e3))) ?_)
   rintro l7 s6 p2 k9 d U P ⟨g2, c3, rfl, e8⟩
   obtain rfl := c3.symm
   replace d := d.perm (Tb Tn)
   refine V (kD mT I) ?_
   replace d := d.perm (Nb (Pb Pz) Nz)
   refine VO (lf (.agg (kx a2.1).toArray) ((kC (⟨J.1, D.1, zS, a2.1, K0, zS⟩ : ky)).toArray) d rfl rfl aC (mE a2.1) nb rfl (fun q4 d => ln (kL (Wh M (bS g fun n8 e4 g => ?_)))))
   rcases n8 with n1 | d8
   ·have m := d.size
    refine rX (.inl rfl) (nQ (args := [a5]) (caps := #[]) _ _ d (Cb (Pb Pz) Cn) rfl iZ (by exact pH rfl) (fun hH L h aa => (lM.l (ra a a2.2 g2 _ _ ⟨hH, L, h⟩ (e8.mono (Pl.mono _) (kY.refl _)) e4))) (fun l8 r4 g8 l0 d a9 ag aq => ?_))
    obtain ⟨t6, u4, j3, rfl⟩ := aq
    replace d := d.perm (Tb Tn)
    refine xl (nt (pd ?_))
    obtain rfl := sj g
    replace i : some (Sum.inl n1) = some s := i
    obtain rfl := sj i
    exact nh.li ⟨_, _, _, rfl, (d.mL (Kb Sn)), ((((u.trans k).trans t).trans U).trans a9), ((((A.trans q).trans o).trans P).trans ag), (ST.lV d (np.mem (Kb Sn))), ⟨_, _, j3, rfl⟩⟩
   have m := d.size
   refine VE (eD d (Cb (Pb Pz) Cn) iZ (fun O => (lM.r (ra a a2.2 g2 _ _ O (e8.mono (Pl.mono _) (kY.refl _)) e4))) ?_)
   rintro l8 s7 g8 l0 d a9 ag ⟨o8, c4, rfl, k1⟩
   obtain rfl := c4.symm
   replace d := d.perm (Tb Tn)
   refine V (kD rO I) ?_
   replace d := d.perm (Nb (Pb Pz) Nz)
   refine VO (lf (.string d8.1) ((kC (⟨J.1, D.1, zS, a2.1, K0, d8.1⟩ : ky)).toArray) d rfl rfl dh (DF d8.1) nb rfl (fun q5 d => lh (lu (kF ?_))))
   obtain rfl := sj g
   exact ⟨_, rfl, o8, g8, _, (U.trans a9), (P.trans ag), (d.kz St), M, d0, I, k1⟩
  refine sg (Wi rfl (Wa (ln (CI g rfl (fun i5 g => ?_) (fun i5 g => ?_)))))
  ·refine sg (Wh M (bS g fun o1 e5 g => ?_))
   rcases o1 with n2 | a3
   ·have m := d.size
    refine rX (.inl rfl) (nQ (args := [a5]) (caps := #[]) _ _ d (Cb (Pb Pz) Cn) rfl ia (by exact pH rfl) (fun hH L h aa => (lM.l (py a D.2 a1 _ _ ⟨hH, L, h⟩ (K.mono (Pl.mono _) (kY.refl _)) e5))) (fun l9 r5 p3 l1 d Y R ar => ?_))
    obtain ⟨t7, u5, j4, rfl⟩ := ar
    replace d := d.perm (Tb Tn)
    refine nt (xl (nt (pd ?_)))
    obtain rfl := sj g
    replace i : some (Sum.inl n2) = some s := i
    obtain rfl := sj i
    exact nh.li ⟨_, _, _, rfl, (d.mL (Kb Sn)), (((u.trans k).trans t).trans Y), (((A.trans q).trans o).trans R), (ST.lV d (np.mem (Kb Sn))), ⟨_, _, j4, rfl⟩⟩
   have m := d.size
   refine VE (eD d (Cb (Pb Pz) Cn) ia (fun O => (lM.r (py a D.2 a1 _ _ O (K.mono (Pl.mono _) (kY.refl _)) e5))) ?_)
   rintro l9 s8 p3 l1 d Y R ⟨g3, c5, rfl, e9⟩
   obtain rfl := c5.symm
   replace d := d.perm (Tb Tn)
   refine V (kD mT I) ?_
   replace d := d.perm (Nb (Pb Pz) Nz)
   refine VO (lf (.agg (kx a3.1).toArray) ((kC (⟨J.1, D.1, zS, a3.1, K0, zS⟩ : ky)).toArray) d rfl rfl aC (mE a3.1) nb rfl (fun q6 d => ln (kL (Wh M (bS g fun o0 e6 g => ?_)))))
   rcases o0 with n3 | d9
   ·have m := d.size
    refine rX (.inl rfl) (nQ (args := [a5]) (caps := #[]) _ _ d (Cb (Pb Pz) Cn) rfl ia (by exact pH rfl) (fun hH L h aa => (lM.l (py a a3.2 g3 _ _ ⟨hH, L, h⟩ (e9.mono (Pl.mono _) (kY.refl _)) e6))) (fun m0 r6 g9 l2 d b0 ah au => ?_))
    obtain ⟨t8, u6, j5, rfl⟩ := au
    replace d := d.perm (Tb Tn)
    refine xl (nt (pd ?_))
    obtain rfl := sj g
    replace i : some (Sum.inl n3) = some s := i
    obtain rfl := sj i
    exact nh.li ⟨_, _, _, rfl, (d.mL (Kb Sn)), ((((u.trans k).trans t).trans Y).trans b0), ((((A.trans q).trans o).trans R).trans ah), (ST.lV d (np.mem (Kb Sn))), ⟨_, _, j5, rfl⟩⟩
   have m := d.size
   refine VE (eD d (Cb (Pb Pz) Cn) ia (fun O => (lM.r (py a a3.2 g3 _ _ O (e9.mono (Pl.mono _) (kY.refl _)) e6))) ?_)
   rintro m0 s9 g9 l2 d b0 ah ⟨o9, c6, rfl, k2⟩
   obtain rfl := c6.symm
   replace d := d.perm (Tb Tn)
   refine V (kD pL I) ?_
   replace d := d.perm (Nb (Pb Pz) Nz)
   refine VO (lf (.agg (kx d9.1).toArray) ((kC (⟨J.1, D.1, zS, a3.1, d9.1, zS⟩ : ky)).toArray) d rfl rfl aC (mE d9.1) nb rfl (fun q7 d => lh (lu (kF ?_))))
   obtain rfl := sj g
   exact ⟨_, rfl, o9, g9, _, (Y.trans b0), (R.trans ah), (d.kz St), M, d0, I, k2⟩
  refine lz (lu (kF ?_))
  obtain rfl := sj g
  exact ⟨_, rfl, a1, f1, _, (kY.refl _), Lo.refl, (d.kz St), M, d0, I, K⟩
 rintro ⟨N, f9, g1⟩ E W ⟨Q, b3, f3, a6, ab, d, m2, b6, f5, a4⟩ B
 refine kO (sg (V (kA f5 (kI d.has Mh (kC N) rfl bG aI)) (bS B fun s0 j8 B => VE (Eg d kc (uq N _ _  j8) (fun p9 d => V (mQ rfl) (ln (CI B rfl (fun i1 B => ?_) (fun i1 B => ?_))))))))
 ·refine sg (Wh m2 (bS B fun n5 e0 B => ?_))
  rcases n5 with r9 | s1
  ·have m := d.size
   refine rX (.inl rfl) (nQ (args := [a5, (.int .i64 11)]) (caps := #[]) _ _ d (Cb (Pb Pz) Cn) rfl eW (by exact pI rfl rfl) (fun hH L h aa => (lM.l (mj a (⟨f9, g1⟩ : kZ) Q 11 _ _ ⟨hH, L, h⟩ (a4.mono (Pl.mono _) (kY.refl _)) e0))) (fun l4 q9 p1 k6 d T ad ak => ?_))
   obtain ⟨t2, u0, i7, rfl⟩ := ak
   replace d := d.perm (Tb Tn)
   refine nt (nt (pd ?_))
   obtain rfl := sj B
   exact nh.li ⟨_, _, _, rfl, (d.mL (Kb Sn)), ((((u.trans k).trans t).trans a6).trans T), ((((A.trans q).trans o).trans ab).trans ad), (ST.lV d (np.mem (Kb Sn))), ⟨_, _, i7, rfl⟩⟩
  have m := d.size
  refine VE (eD d (Cb (Pb Pz) Cn) eW (fun O => (lM.r (mj a (⟨f9, g1⟩ : kZ) Q 11 _ _ O (a4.mono (Pl.mono _) (kY.refl _)) e0))) ?_)
  rintro l4 s3 p1 k6 d T ad ⟨c0, rfl⟩
  obtain rfl := c0.symm
  replace d := d.perm (Tb Tn)
  refine ln ?_
  replace d := d.kz (Kb (Db St))
  refine sg (V (nc (v := h2) um (mB cg cY (MA _ cY) kr)) ?_)
  replace d := d.perm (Nb (Pb Pz) Nz)
  refine VO (lf h2 ((kC K6).toArray) d b6 rfl aI (nI K6) nb rfl (fun q0 d => lt (lb (wq ?_))))
  obtain rfl := sj B
  exact wL (v := h2) rfl b6 (kI d.has Mh (kC K6) rfl bG aI) (nh.ri ⟨_, _, _, rfl, (d.mL (Db (Kb Sn))), ((((u.trans k).trans t).trans a6).trans T), ((((A.trans q).trans o).trans ab).trans ad), (ST.lV d (np.mem (Db (Kb Sn)))), Q, rfl, rfl, (a4.mono (Pl.mono _) T)⟩)
 refine kg (V (kA f5 (kI d.has Mh (kC N) rfl bG aI)) ?_)
 replace d := d.perm (Nb (Pb (Pb Pz)) Nz)
 refine VO (lf (.agg (kC N).toArray) ((kC N).toArray) d b6 rfl aI (nI N) nb rfl (fun q1 d => ln ?_))
 replace d := d.kz (Kb (Db St))
 refine lj (wq ?_)
 obtain rfl := sj B
 exact wL (v := (.agg (kC N).toArray)) rfl b6 (kI d.has Mh (kC N) rfl bG aI) (nh.ri ⟨_, _, _, rfl, (d.mL (Db (Kb Sn))), (((u.trans k).trans t).trans a6), (((A.trans q).trans o).trans ab), (ST.lV d (np.mem (Db (Kb Sn)))), Q, rfl, rfl, a4⟩)
theorem Gn (i : Nat) (Y : kZ) (j : Value) (a1 : Int) (s : (Int ⊕ ((List kV) × kZ))) (w : World) {μ0 : lm} (h0 : pP μ0 ((i, Ob #[j, (.bool Y.mS)] 158) :: []) w) (Z : Sl (Pl (lJ .u8)) 1 μ0 j Y.b) (hm : As Y a1 = some s) :
  lM true pg0 101 [(.pointer (some ⟨i, 0, none⟩)), (.int .i64 a1)] w μ0 ((i, Ob #[j, (.bool Y.mS)] 158) :: []) s (fun r v L1 μ1 => ∃ y1 y3, v = y1 ∧ L1 = ((i, Ob #[y3, (.bool ((r.2).mS))] 158) :: []) ∧ Sl (Pl kX) 12 μ1 y1 (r.1) ∧ Sl (Pl (lJ .u8)) 1 μ1 y3 ((r.2).b)) (fun x c L1 μ1 => ∃ y z, c = [{ v := xK 217 i x, recovered := false }] ∧ L1 = ((i, Ob #[y, z] 158) :: [])) := by
 let b7 := ((i, Ob #[j, (.bool Y.mS)] 158) :: [])
 let a0 : Value := (.pointer (some ⟨i, 0, none⟩))
 have d := ST.wT (dd := true) h0
 refine qV (n := 26) func101 rfl rfl nb (sg (Wa (lr (Wa (lS (Wm ?_))))))
 refine Wm (bS hm fun e3 c9 hm => ?_)
 rcases e3 with h6 | r1
 ·have P := d.size
  refine rX (.inl rfl) (nQ (args := [a0, (.int .i64 a1)]) (caps := #[]) _ _ d (Cb Pz Cn) rfl jo (by exact pI rfl rfl) (fun hH hN O ag => (lM.l (mU i Y j a1 _ _ ⟨hH, hN, O⟩ (Z.mono (Pl.mono _) (kY.refl _)) c9))) (fun W3 h5 aa L9 d H L af => ?_))
  obtain ⟨h7, h8, d7, rfl⟩ := af
  replace d := d.perm (Tb Tn)
  refine nt (nt (pd ?_))
  obtain rfl := sj hm
  exact nh.li ⟨_, _, _, rfl, (d.mL (Kb Sn)), H, L, (ST.lV d (np.mem (Kb Sn))), ⟨_, _, d7, rfl⟩⟩
 have P := d.size
 refine VE (eD d (Cb Pz Cn) jo (fun hh => (lM.r (mU i Y j a1 _ _ hh (Z.mono (Pl.mono _) (kY.refl _)) c9))) ?_)
 rintro W3 v7 aa L9 d H L ⟨f1, a4, rfl, d8⟩
 obtain rfl := a4.symm
 replace d := d.perm (Tb Tn)
 refine Wm (ln (mK (od (fun m E W => ∃ D a5 M U G I J K b0, kY aa K ∧ Lo (keys b7) w aa K ∧ ST true (keys b7) w W K ((i, Ob #[G, (.bool J)] 158) :: (M ++ b0)) ∧ E 0 = a0 ∧ E 5 = D ∧ E 9 = (.int .i64 r1.1) ∧ E 10 = (.int .i64 U) ∧ kU 140 kX 12 D a5 M ∧ Sl (Pl (lJ .u8)) 1 K G I ∧ rH r1 m a5 U I J = some s) lC ⟨(.slice none 0 0), ([]), [], 0, f1, ((r1.2).b), ((r1.2).mS), aa, _, (kY.refl _), Lo.refl, (d.kz St), rfl, rfl, rfl, rfl, (kU.nil _ _ _), d8, hm⟩ ?_)))
 rintro m E W ⟨D, a5, M, U, G, I, J, K, b0, u, o, d, a3, b2, b3, b4, a8, N, g⟩
 cases m with
 | zero => rw [rH] at g; cases g
 | succ e0 =>
  refine sg (V (lL b4 b3 rfl) (ln (kO (CI g rfl (fun c1 g => ?_) (fun c1 g => ?_)))))
  ·refine kn (kO (bg (Wh a3 (bS g fun e2 a6 g => ?_))))
   rcases e2 with g3 | a
   ·have P := d.size
    refine rX (.inl rfl) (nQ (args := [a0]) (caps := #[]) _ _ d (Cb Pz Cn) rfl call167 (by exact pH rfl) (fun hH hN O ag => (lM.l (HC i (⟨I, J⟩ : kZ) G _ _ ⟨hH, hN, O⟩ (N.mono (Pl.mono _) (kY.refl _)) a6))) (fun d4 g0 e8 d1 d B q ab => ?_))
    obtain ⟨g9, h2, c3, rfl⟩ := ab
    replace d := d.perm (Tb Tn)
    refine nt (xl (nt (nt (xl (nt (pd ?_))))))
    obtain rfl := sj g
    exact nh.li ⟨_, _, _, rfl, (d.mL (Kb Sn)), ((H.trans u).trans B), ((L.trans o).trans q), (ST.lV d (np.mem (Kb Sn))), ⟨_, _, c3, rfl⟩⟩
   have P := d.size
   refine VE (eD d (Cb Pz Cn) call167 (fun hh => (lM.r (HC i (⟨I, J⟩ : kZ) G _ _ hh (N.mono (Pl.mono _) (kY.refl _)) a6))) ?_)
   rintro d4 g7 e8 d1 d B q ⟨b5, Q, rfl, a9⟩
   obtain rfl := Q.symm
   replace d := d.perm (Tb Tn)
   refine VE (lA d cg (fun f5 f9 d => VO (lf (.agg (kC a.1).toArray) ((kC a.1).toArray) d rfl rfl aI (nI a.1) nb rfl (fun f6 d => ln ?_))))
   replace d := d.drew
   have h := d.has.kz (Kb Sn)
   refine lG h lq (X 0 rfl h (kH b2) (XH 1 rfl h (fun _ hS => kA rfl (kI hS Mh (kC a.1) rfl bG aI)) (X 2 rfl h (kD oe rfl) (XH 3 rfl h (fun _ hS => kA rfl (kI hS Mh (kx a.1.Head) rfl aN aC)) (X 4 rfl h (kH a3) (bS g fun e1 a7 g => ?_))))))
   rcases e1 with g4 | k
   ·have P := d.size
    refine Wl 5 rfl kr (.inl rfl) (nQ (args := [a0]) (caps := #[]) _ _ d (Cb (Pb Pz) Cn) rfl iZ (by exact pH rfl) (fun hH hN O ag => (lM.l (ra i a.2 b5 _ _ ⟨hH, hN, O⟩ (a9.mono (Pl.mono _) (kY.refl _)) a7))) (fun d5 g1 b6 d2 d t A ad => ?_))
    obtain ⟨h1, h3, c4, rfl⟩ := ad
    replace d := d.perm (Tb Tn)
    refine xl (nt (nt (xl (nt (pd ?_)))))
    obtain rfl := sj g
    exact nh.li ⟨_, _, _, rfl, (d.mL (Kb Sn)), (((H.trans u).trans B).trans t), (((L.trans o).trans q).trans A), (ST.lV d (np.mem (Kb Sn))), ⟨_, _, c4, rfl⟩⟩
   have P := d.size
   refine XE 5 rfl (eD d (Cb (Pb Pz) Cn) iZ (fun hh => (lM.r (ra i a.2 b5 _ _ hh (a9.mono (Pl.mono _) (kY.refl _)) a7))) ?_)
   rintro d5 g8 b6 d2 d t A ⟨e5, T, rfl, c6⟩
   obtain rfl := T.symm
   replace d := d.perm (Tb Tn)
   have h := d.has.rl t (Db (Kb Sn))
   let b1 := (⟨a.1, (⟨a.1.Head, k.1⟩ : kB)⟩ : kV)
   refine ⟨h, (X 6 rfl h (nc (v := (.agg (kK (⟨a.1.Head, k.1⟩ : kB)).toArray)) (pC rfl rfl) (mB cN cq (Dj _ cq) kr)) (X 7 rfl h (nc (v := (.agg (kX (b1)).toArray)) (pC rfl rfl) (mB dD ee (Ue _ ee) kr)) (XE 8 rfl (lg (cs := (kX (b1)).toArray) d (mI rfl) (mD aW bX dD) (fun f7 d6 d => ?_)))))⟩
   have h := d.has.rl t (Db (Db (Kb Sn)))
   refine ⟨h, ?_⟩
   replace d := d.perm (Nr (Qb (Qb (Qb Qz))) Nz)
   refine bS g fun d9 c2 g => XE 9 rfl (my (enc := kX) (v := D) (vs := (.slice (some ⟨d6, 0, none⟩) 1 1)) (R := M) d oO dc tE aW oa.1 oa.2.1 rfl oa.2.2.1 oa.2.2.2 rfl rfl a8 (Sl.lit (enc := kX) (l := [b1]) oO rfl nb rfl (d.at_ (Ma Mh))) c2 (fun f8 e4 d3 d c0 => ?_))
   have h := d.has.rl t (Dr (Db (Db (Kb Sn))))
   refine ⟨h, (X 10 rfl h (mN rfl) (lT kr (lu (kF ?_))))⟩
   replace d := d.kz (Kr (Db (Kb (Db St))))
   exact kL (V (lL b4 rfl rfl) (Wm (ln ⟨e0, bT _, e4, d9, d3, (wi0 .i64 (U + 1)), e5, ((k.2).b), ((k.2).mS), b6, _, ((u.trans B).trans t), ((o.trans q).trans A), (d.kz (Sb (Pr Pz) St)), a3, rfl, b3, rfl, c0, c6, g⟩)))
  refine ob (nN (nN (uf (kF (sg (Wh b2 (Wa (lt (wq ?_)))))))))
  obtain rfl := sj g
  refine lI (v := D) rfl rfl ?_
  replace d := d.perm (Nr (Qb Qz) Nz)
  obtain ⟨h4, d, a2, ae, c5⟩ := ST.A4 d a8 oO
  exact nh.ri ⟨_, _, _, rfl, (d.mL (Kb Sn)), ((H.trans u).trans a2), ((L.trans o).trans ae), (ST.lV d (np.mem (Kb Sn))), D, G, rfl, rfl, c5, (N.mono (Pl.mono _) a2)⟩
theorem Ew (a : Nat) (a0 : kZ) (k : Value) (s : (Int ⊕ (lZ × kZ))) (w : World) {μ0 : lm} (h0 : pP μ0 ((a, Ob #[k, (.bool a0.mS)] 158) :: []) w) (b4 : Sl (Pl (lJ .u8)) 1 μ0 k a0.b) (hm : wP a0 = some s) :
  lM true pg0 41 [(.pointer (some ⟨a, 0, none⟩))] w μ0 ((a, Ob #[k, (.bool a0.mS)] 158) :: []) s (fun r v L1 μ1 => ∃ y1 y3 y5, v = (.agg #[(.int .i64 ((r.1).State)), (.int .i64 ((r.1).oE)), y1, y3]) ∧ L1 = ((a, Ob #[y5, (.bool ((r.2).mS))] 158) :: []) ∧ Sl (Pl kx) 2 μ1 y1 ((r.1).lP) ∧ Sl (Pl kX) 12 μ1 y3 ((r.1).lX) ∧ Sl (Pl (lJ .u8)) 1 μ1 y5 ((r.2).b)) (fun x c L1 μ1 => ∃ y z, c = [{ v := xK 217 a x, recovered := false }] ∧ L1 = ((a, Ob #[y, z] 158) :: [])) := by
 let d8 := ((a, Ob #[k, (.bool a0.mS)] 158) :: [])
 let b3 : Value := (.pointer (some ⟨a, 0, none⟩))
 have d := ST.wT (dd := true) h0
 refine qV (n := 25) func41 rfl rfl nb (sg (VE (lA d eC (fun W2 b1 d => lr (Wm (bS hm fun h3 e8 hm => ?_))))))
 rcases h3 with l7 | J
 ·have P := d.size
  refine rX (.inl rfl) (nQ (args := [b3, (.int .i64 3)]) (caps := #[]) _ _ d (Cb (Pb Pz) Cn) rfl jo (by exact pI rfl rfl) (fun hH hN O af => (lM.l (mU a a0 k 3 _ _ ⟨hH, hN, O⟩ (b4.mono (Pl.mono _) (kY.refl _)) e8))) (fun W5 l4 ap h8 d H ae aj => ?_))
  obtain ⟨m2, m5, g1, rfl⟩ := aj
  replace d := d.perm (Tb Tn)
  refine nt (pd ?_)
  obtain rfl := sj hm
  exact nh.li ⟨_, _, _, rfl, (d.mL (Kb Sn)), H, ae, (ST.lV d (np.mem (Kb Sn))), ⟨_, _, g1, rfl⟩⟩
 have P := d.size
 refine VE (eD d (Cb (Pb Pz) Cn) jo (fun hh => (lM.r (mU a a0 k 3 _ _ hh (b4.mono (Pl.mono _) (kY.refl _)) e8))) ?_)
 rintro W5 v9 ap h8 d H ae ⟨e9, c0, rfl, d4⟩
 obtain rfl := c0.symm
 replace d := d.perm (Tb Tn)
 refine Wm (bS hm fun h2 d2 hm => ?_)
 rcases h2 with l8 | j
 ·have P := d.size
  refine rX (.inl rfl) (nQ (args := [b3, (.int .i64 99)]) (caps := #[]) _ _ d (Cb Pz Cn) rfl jo (by exact pI rfl rfl) (fun hH hN O af => (lM.l (mU a J.2 e9 99 _ _ ⟨hH, hN, O⟩ (d4.mono (Pl.mono _) (kY.refl _)) d2))) (fun i1 l5 i8 h9 d G A ak => ?_))
  obtain ⟨m3, m6, g2, rfl⟩ := ak
  replace d := d.perm (Tb Tn)
  refine nt (pd ?_)
  obtain rfl := sj hm
  exact nh.li ⟨_, _, _, rfl, (d.mL (Kb Sn)), (H.trans G), (ae.trans A), (ST.lV d (np.mem (Kb Sn))), ⟨_, _, g2, rfl⟩⟩
 have P := d.size
 refine VE (eD d (Cb Pz Cn) jo (fun hh => (lM.r (mU a J.2 e9 99 _ _ hh (d4.mono (Pl.mono _) (kY.refl _)) d2))) ?_)
 rintro i1 m0 i8 h9 d G A ⟨f0, c1, rfl, d5⟩
 obtain rfl := c1.symm
 replace d := d.perm (Tb Tn)
 refine V (nc (v := (.agg (C7 J.1 j.1).toArray)) (pC rfl rfl) (mB eC ej (Tf _ ej) kr)) (VE (lA d eC (fun l2 e7 d => VO (lf (.agg (C7 J.1 j.1).toArray) ((C7 J.1 j.1).toArray) d rfl rfl dq oc nb rfl (fun l3 d => lS (Wm (bS hm fun h1 d3 hm => ?_)))))))
 rcases h1 with l9 | c7
 ·have P := d.size
  refine rX (.inl rfl) (nQ (args := [b3, (.int .i64 64)]) (caps := #[]) _ _ d (Cb (Pb Pz) Cn) rfl jo (by exact pI rfl rfl) (fun hH hN O af => (lM.l (mU a j.2 f0 64 _ _ ⟨hH, hN, O⟩ (d5.mono (Pl.mono _) (kY.refl _)) d3))) (fun i2 l6 c8 i0 d N aa an => ?_))
  obtain ⟨m4, m7, g3, rfl⟩ := an
  replace d := d.perm (Tb Tn)
  refine nt (nt (pd ?_))
  obtain rfl := sj hm
  exact nh.li ⟨_, _, _, rfl, (d.mL (Kb Sn)), ((H.trans G).trans N), ((ae.trans A).trans aa), (ST.lV d (np.mem (Kb Sn))), ⟨_, _, g3, rfl⟩⟩
 have P := d.size
 refine VE (eD d (Cb (Pb Pz) Cn) jo (fun hh => (lM.r (mU a j.2 f0 64 _ _ hh (d5.mono (Pl.mono _) (kY.refl _)) d3))) ?_)
 rintro i2 m1 c8 i0 d N aa ⟨i7, c2, rfl, g4⟩
 obtain rfl := c2.symm
 replace d := d.perm (Tb Tn)
 refine Wm (ln (mK (od (fun m E W => ∃ b2 U B a6 K I M a5 c9, kY c8 a5 ∧ Lo (keys d8) w c8 a5 ∧ ST true (keys d8) w W a5 ((e7, Ob #[(.int .i64 J.1), (.int .i64 j.1), U, (.slice none 0 0)] 64) :: ((a, Ob #[K, (.bool M)] 158) :: ((b1, Ol C8 64) :: (a6 ++ c9)))) ∧ E 0 = b3 ∧ E 2 = (.pointer (some ⟨b1, 0, none⟩)) ∧ E 3 = (.pointer (some ⟨e7, 0, none⟩)) ∧ E 10 = (.int .i64 c7.1) ∧ E 11 = (.int .i64 b2) ∧ kU 28 kx 2 U B a6 ∧ Sl (Pl (lJ .u8)) 1 a5 K I ∧ qe c7 J j m b2 B I M = some s) lC ⟨0, (.slice none 0 0), ([]), [], i7, ((c7.2).b), ((c7.2).mS), c8, _, (kY.refl _), Lo.refl, (d.kz (Sb (Pb Pz) St)), rfl, rfl, rfl, rfl, rfl, (kU.nil _ _ _), g4, hm⟩ ?_)))
 rintro m E W ⟨b2, U, B, a6, K, I, M, a5, c9, Q, L, d, b7, b9, a2, d0, d1, a7, Y, g⟩
 let d7 := (⟨I, M⟩ : kZ)
 cases m with
 | zero => rw [qe] at g; cases g
 | succ g7 =>
  refine sg (V (lL d1 d0 rfl) (ln (kO (CI g rfl (fun d9 g => ?_) (fun d9 g => ?_)))))
  ·refine kn (kO (mK ?_))
   replace d := d.drew
   have o := d.has.kz Sn
   have q := d.has.kz (Kb Sn)
   refine B2 7 o q lq (nR 0 rfl kr (.inl rfl) rfl dc (fun _ _ h => ⟨h.1, qY br h.2⟩) ⟨o, fun _ => q⟩ (fun _ _ _ _ => kD sX a2) (nR 1 rfl kr (.inl rfl) rfl dc (fun _ _ h => ⟨h.1, qY br h.2⟩) ⟨o, fun _ => q⟩ (fun l W ao hs => have hS := (hs.2 (ao.Ss 7 [1] kr rfl)); kA rfl (kM hS Mh rfl dO)) (nR 2 rfl kr (.inl rfl) rfl dc (fun _ _ h => ⟨h.1, qY br h.2⟩) ⟨o, fun _ => q⟩ (fun _ _ _ _ => kH b7) (bS g fun g8 c4 g => ?_))))
   rcases g8 with k0 | T
   ·have P := d.size
    refine Wl 3 rfl kr (.inl rfl) (nQ (args := [b3]) (caps := #[]) _ _ d (Cb (Pb Pz) Cn) rfl ia (by exact pH rfl) (fun hH hN O af => (lM.l (py a d7 K _ _ ⟨hH, hN, O⟩ (Y.mono (Pl.mono _) (kY.refl _)) c4))) (fun f5 j7 d6 f2 d i ab ag => ?_))
    obtain ⟨k5, k8, e1, rfl⟩ := ag
    replace d := d.perm (Tb Tn)
    refine xl (nt (nt (xl (nt (pd ?_)))))
    obtain rfl := sj g
    exact nh.li ⟨_, _, _, rfl, (d.mL (Kb Sn)), ((((H.trans G).trans N).trans Q).trans i), ((((ae.trans A).trans aa).trans L).trans ab), (ST.lV d (np.mem (Kb Sn))), ⟨_, _, e1, rfl⟩⟩
   have P := d.size
   refine XE 3 rfl (eD d (Cb (Pb Pz) Cn) ia (fun hh => (lM.r (py a d7 K _ _ hh (Y.mono (Pl.mono _) (kY.refl _)) c4))) ?_)
   rintro f5 k2 d6 f2 d i ab ⟨h4, a8, rfl, e4⟩
   obtain rfl := a8.symm
   replace d := d.perm (Tb Tn)
   have o := d.has.rl i Sn
   have q := d.has.rl i (Db (Kb Sn))
   refine ⟨⟨o, fun _ => q⟩, (XE 4 rfl (lg (cs := (kx T.1).toArray) d (mI rfl) (mD aF aC bP) (fun j0 f7 d => ?_)))⟩
   have o := d.has.rl i Sn
   have q := d.has.rl i (Db (Db (Kb Sn)))
   refine ⟨⟨o, fun _ => q⟩, ?_⟩
   replace d := d.perm (Nr (Qb (Qb (Qb (Qb Qz)))) Nz)
   refine bS g fun b0 e0 g => XE 5 rfl (my (enc := kx) (v := U) (vs := (.slice (some ⟨f7, 0, none⟩) 1 1)) (R := a6) d mr dc mE aF mq.1 mq.2.1 rfl mq.2.2.1 mq.2.2.2 rfl rfl a7 (Sl.lit (enc := kx) (l := [T.1]) mr rfl nb rfl (d.at_ (Ma Mh))) e0 (fun j3 k3 f4 d c3 => ?_))
   have o := d.has.rl i Sn
   have q := d.has.rl i (Dr (Db (Db (Kb Sn))))
   refine ⟨⟨o, fun _ => q⟩, (nR 6 rfl kr (.inl rfl) rfl dc (fun _ _ h => ⟨h.1, qY br h.2⟩) ⟨o, fun _ => q⟩ (fun _ _ _ _ => kD sX a2) ?_)⟩
   obtain ⟨b5, b6, rfl⟩ := c3.form
   let f1 : Value := (.slice b5 b0.length b6)
   replace d := d.perm (Nb (Pr (Pb (Pb Pz))) Nz)
   refine XO 7 rfl (lf f1 (#[(.int .i64 J.1), (.int .i64 j.1), f1, (.slice none 0 0)]) d rfl rfl dZ oc nb rfl (fun j4 d => ?_))
   have o := d.has.rl i Sn
   refine ⟨⟨o, fun h => Pu kr h⟩, (lT kr (lu (kF ?_)))⟩
   replace d := d.kz (Kb (Kr (Db St)))
   exact kL (V (lL d1 rfl rfl) (Wm (ln ⟨g7, bT _, (wi0 .i64 (b2 + 1)), f1, b0, f4, h4, ((T.2).b), ((T.2).mS), d6, _, (Q.trans i), (L.trans ab), (d.kz (Kb (Sb (Pr Pz) (Sb (Pr Pz) St)))), b7, b9, a2, d0, rfl, c3, e4, g⟩)))
  refine ob (nN (nN (uf (kF (sg (Wh b7 (bS g fun g9 c5 g => ?_)))))))
  rcases g9 with k1 | D
  ·have P := d.size
   refine rX (.inl rfl) (nQ (args := [b3, (.int .i64 256)]) (caps := #[]) _ _ d (Cb (Pb Pz) Cn) rfl call101 (by exact pI rfl rfl) (fun hH hN O af => (lM.l (Gn a d7 K 256 _ _ ⟨hH, hN, O⟩ (Y.mono (Pl.mono _) (kY.refl _)) c5))) (fun f6 j8 h7 f3 d a3 ad ah => ?_))
   obtain ⟨k7, k9, e2, rfl⟩ := ah
   replace d := d.perm (Tb Tn)
   refine nt (pd ?_)
   obtain rfl := sj g
   exact nh.li ⟨_, _, _, rfl, (d.mL (Kb Sn)), ((((H.trans G).trans N).trans Q).trans a3), ((((ae.trans A).trans aa).trans L).trans ad), (ST.lV d (np.mem (Kb Sn))), ⟨_, _, e2, rfl⟩⟩
  have P := d.size
  refine VE (eD d (Cb (Pb Pz) Cn) call101 (fun hh => (lM.r (Gn a d7 K 256 _ _ hh (Y.mono (Pl.mono _) (kY.refl _)) c5))) ?_)
  rintro f6 k4 h7 f3 d a3 ad ⟨k6, h5, a9, rfl, c6, e5⟩
  obtain rfl := a9.symm
  replace d := d.perm (Tb Tn)
  refine V (kD wN a2) ?_
  obtain ⟨t, u, rfl⟩ := c6.form
  let e6 : Value := (.slice t D.1.length u)
  replace d := d.perm (Nb (Pb Pz) Nz)
  refine VO (lf e6 (#[(.int .i64 J.1), (.int .i64 j.1), U, e6]) d rfl rfl kp oc nb rfl (fun j5 d => lr (V (kA a2 (kI d.has Mh [(.int .i64 J.1), (.int .i64 j.1), U, e6] rfl eV dq)) ?_)))
  obtain ⟨Z, a1, rfl⟩ := a7.form
  let b8 := (C3 J.1 j.1 Z B.length a1 t D.1.length u)
  replace d := d.perm (Nb (Pb (Pb Pz)) Nz)
  refine VO (lf (.agg b8.toArray) (b8.toArray) d b9 rfl dq oc nb rfl (fun j6 d => ln ?_))
  replace d := d.kz (Kb (Db St))
  refine lj (wq ?_)
  obtain rfl := sj g
  refine wL (v := (.agg b8.toArray)) rfl b9 (kI d.has Mh b8 rfl eV dq) ?_
  replace d := d.perm (Nr (Qb (Qb Qz)) Nz)
  obtain ⟨l1, d, a4, ai, e3⟩ := ST.A4 d a7 mr
  exact nh.ri ⟨_, _, _, rfl, (d.mL (Db (Kb Sn))), (((((H.trans G).trans N).trans Q).trans a3).trans a4), (((((ae.trans A).trans aa).trans L).trans ad).trans ai), (ST.lV d (np.mem (Db (Kb Sn)))), (.slice Z B.length a1), e6, h5, rfl, rfl, e3, (c6.mono (Pl.mono _) a4), (e5.mono (Pl.mono _) a4)⟩
theorem G2 (i : Nat) (H : kZ) (j : Value) (k : Nat) (u : lZ) (g a : Value) (s : (Int ⊕ (kZ × lZ))) (w : World) {T : lm} (h0 : pP T ((i, Ob #[j, (.bool H.mS)] 158) :: ((k, Ob #[(.int .i64 u.State), (.int .i64 u.oE), g, a] 64) :: [])) w) (B : Sl (Pl (lJ .u8)) 1 T j H.b) (Y : Sl (Pl kx) 2 T g u.lP) (U : Sl (Pl kX) 12 T a u.lX) (hm : Cd H u = some s) :
  lM true pg0 70 [(.pointer (some ⟨i, 0, none⟩)), (.pointer (some ⟨k, 0, none⟩))] w T ((i, Ob #[j, (.bool H.mS)] 158) :: ((k, Ob #[(.int .i64 u.State), (.int .i64 u.oE), g, a] 64) :: [])) s (fun r v L1 Z => ∃ R W y5, v = (.tuple #[]) ∧ L1 = ((i, Ob #[R, (.bool ((r.1).mS))] 158) :: ((k, Ob #[(.int .i64 ((r.2).State)), (.int .i64 ((r.2).oE)), W, y5] 64) :: [])) ∧ Sl (Pl (lJ .u8)) 1 Z R ((r.1).b) ∧ Sl (Pl kx) 2 Z W ((r.2).lP) ∧ Sl (Pl kX) 12 Z y5 ((r.2).lX)) (fun x c L1 Z => ∃ y z, c = [{ v := xK 217 i x, recovered := false }] ∧ L1 = ((i, Ob #[y, z] 158) :: ((k, Ob #[(.int .i64 u.State), (.int .i64 u.oE), g, a] 64) :: []))) := by
 have d := ST.wT (dd := true) h0
 refine qV (n := 5) func70 rfl rfl nb (kL (Wm (bS hm fun a6 P hm => ?_)))
 rcases a6 with b7 | t
 ·have L := d.size
  refine rX (.inl rfl) (nQ (args := [(.pointer (some ⟨i, 0, none⟩))]) (caps := #[]) _ _ d (Cb Pz Cn) rfl call41 (by exact pH rfl) (fun hH q m A => (lM.l (Ew i H j _ _ ⟨hH, q, m⟩ (B.mono (Pl.mono _) (kY.refl _)) P))) (fun W3 b6 O L9 d D h o => ?_))
  obtain ⟨c2, c3, a3, rfl⟩ := o
  replace d := d.perm (Tb Tn)
  refine pd ?_
  obtain rfl := sj hm
  exact nh.li ⟨_, _, _, rfl, (d.mL (Kb (Kb Sn))), D, h, (ST.lV d (np.mem (Kb (Kb Sn)))), ⟨_, _, a3, rfl⟩⟩
 have L := d.size
 refine VE (PK d (Cb Pz Cn) call41 (fun hH q m A => (lM.r (Ew i H j _ _ ⟨hH, q, m⟩ (B.mono (Pl.mono _) (kY.refl _)) P))) (fun W3 v7 O L9 d D h a5 => ?_))
 obtain ⟨b9, c1, a8, G, rfl, N, Q, a4⟩ := a5
 replace G := G.symm; subst G
 replace d := d.perm (Tb Tn)
 obtain ⟨I, K, rfl⟩ := N.form
 let a0 : Value := (.slice I ((t.1).lP).length K)
 obtain ⟨J, M, rfl⟩ := Q.form
 let a2 : Value := (.slice J ((t.1).lX).length M)
 replace d := d.perm (Nb (Pb Pz) Nz)
 refine VO (lf (.agg #[(.int .i64 ((t.1).State)), (.int .i64 ((t.1).oE)), a0, a2]) (#[(.int .i64 ((t.1).State)), (.int .i64 ((t.1).oE)), a0, a2]) d rfl rfl dq oc nb rfl (fun b5 d => lh (PZ (wU ?_))))
 obtain rfl := sj hm
 exact vX rfl (nh.ri ⟨_, _, _, rfl, (d.mL (Sb (Pb Pz) (Kb Sn))), D, h, (ST.lV d (np.mem (Sb (Pb Pz) (Kb Sn)))), a8, a0, a2, rfl, rfl, a4, N, Q⟩)
theorem D1 (H : Value) (M : List Int) (i : Nat) (t : lZ) (g a : Value) (r : (Int × lZ)) (w : World) {K : lm} (I : pP K ((i, Ob #[(.int .i64 t.State), (.int .i64 t.oE), g, a] 64) :: []) w) (N : Sl (Pl (lJ .u8)) 1 K H M) (k : Sl (Pl kx) 2 K g t.lP) (j : Sl (Pl kX) 12 K a t.lX) (hm : wm M t = some r) :
  pg true pg0 39 [H, (.func (.func 70) #[] #[(.pointer (some ⟨i, 0, none⟩))])] w K ((i, Ob #[(.int .i64 t.State), (.int .i64 t.oE), g, a] 64) :: []) (fun v G D => ∃ u B, v = (.int .i64 (r.1)) ∧ G = ((i, Ob #[(.int .i64 ((r.2).State)), (.int .i64 ((r.2).oE)), u, B] 64) :: []) ∧ Sl (Pl kx) 2 D u ((r.2).lP) ∧ Sl (Pl kX) 12 D B ((r.2).lX)) := by
 refine bS hm fun l h hm => bS hm fun s m hm => ?_
 obtain rfl := sj hm
 refine pg.mono (Ow 70 #[(.pointer (some ⟨i, 0, none⟩))] H M l s (fun r => (r.1).b) w I N h (fun r G D => ∃ u B, G = ((i, Ob #[(.int .i64 ((r.2).State)), (.int .i64 ((r.2).oE)), u, B] 64) :: []) ∧ Sl (Pl kx) 2 D u ((r.2).lP) ∧ Sl (Pl kX) 12 D B ((r.2).lX)) (fun x G D => G = ((i, Ob #[(.int .i64 t.State), (.int .i64 t.oE), g, a] 64) :: [])) call70 (fun P μ' O n J hle A => lM.mono (G2 O (⟨l, false⟩ : kZ) n i t g a s P J A (k.mono (Pl.mono _) hle) (j.mono (Pl.mono _) hle) m) ?_ ?_)) ?_
 ·rintro r v G D ⟨T, u, B, R, d, Q, I, J⟩; exact ⟨_, _, _, d, Q, u, B, rfl, I, J⟩
 ·rintro x c G D ⟨y, z, L, d⟩; exact ⟨y, z, _, L, d, rfl⟩
 rintro v G D q ⟨rfl, o⟩
 cases s with
 | inl x => exact ⟨g, a, rfl, o, (k.mono (Pl.mono _) q), (j.mono (Pl.mono _) q)⟩
 | inr r => obtain ⟨u, B, d, I, J⟩ := o; exact ⟨u, B, rfl, d, I, J⟩
theorem Gv (k : Value) (G : List kV) (D : Value) (s : List ky) (K : kB) (r : (Int × Int)) (w : World) (x : Sl (Pl kX) 12 (hp w) k G) (c9 : Sl (Pl kC) 9 (hp w) D s) (hm : xX G s K = some r) :
  la false pg0 86 [k, D, (.agg (kK K).toArray)] w (.tuple #[(.int .i64 r.1), (.int .i64 r.2)]) := by
 let a0 : Value := (.int .i64 (G.length : Int))
 refine cG 43 func86 rfl (fun d => sg (VE (lB d rfl (fun W2 A d => Wa (Wa (lr (Wm (bS hm fun r3 d3 hm => VE (pF d call150 (lK.mn (Cm k G _ _ (x.mono (Pl.mono _) d.kJ) d3)) (fun W5 v9 q b7 d Y aa U => Wa (lh ?_)))))))))))
 refine kF (kO (sg (Wm (V (ly aW rfl x) (Wm (ln (lp (fun i E W => ∃ N, (E 15 = .int .i64 (i : Nat) ∧ E 14 = .int .i64 (G.length : Nat)) ∧ ST false ll w W q ((A, Ol (kK K) 38) :: (b7 ++ N)) ∧ E 0 = k ∧ E 1 = D ∧ E 5 = (.pointer (some ⟨A, 0, none⟩)) ∧ E 8 = v9 ∧ E 13 = k ∧ tP s r3 K G (G.drop i) i = some r) G.length x.len ⟨_, ⟨rfl, rfl⟩, (d.kz (Sb (Pr Pz) St)), rfl, rfl, rfl, rfl, rfl, hm⟩ dc dc dc (fun _ _ _ h => by obtain ⟨_, L, _⟩ := h; exact L) ?_ ?_)))))))
 ·rintro y E W a7 ⟨N, ⟨n, O⟩, d, z, H, I, B, J, c⟩
  let a2 : Value := (.int .i64 (y : Int))
  obtain ⟨j, d5, b5, b4, b6⟩ := lc a7
  rw [b5] at c
  refine bg (Wh n (VQ (lO (enc := kX) (i := (y : Int)) (x0 := j) aW bX J n (x.mono (Pl.mono _) Y) (aD _) b4) (fun e1 a8 => V (kA rfl (lD d.has a8 ey bX)) (VE (lA d dD (fun d6 b9 d => Wa (VO (lf (.agg (kX j).toArray) ((kX j).toArray) d rfl rfl bX (tE j) nb rfl (fun d7 d => ln (kO ?_))))))))))
  replace d := d.drew
  have m := d.has.kz (Kb Sn)
  refine lG m lq (X 0 rfl m (kH H) (X 1 rfl m (kD zl rfl) (XH 2 rfl m (fun _ P => kA rfl (kI P Mh (kC j.ky) rfl bG aI)) (bS c fun e2 a9 c => XE 3 rfl (Eg d call151 (la.mn (Jn D s j.ky _ _ (c9.mono (Pl.mono _) (Y.trans d.kJ)) a9)) (fun d8 d => ?_))))))
  have m := d.has.kz (Kb Sn)
  refine ⟨m, (X 4 rfl m (mQ rfl) (X 5 rfl m (kH rfl) (PJ c (fun Z E W => ∃ T, ST false ll w W q ((b9, Ol (kX j) 140) :: ((A, Ol (kK K) 38) :: (b7 ++ T))) ∧ E 0 = k ∧ E 1 = D ∧ E 5 = (.pointer (some ⟨A, 0, none⟩)) ∧ E 8 = v9 ∧ E 9 = a2 ∧ E 13 = k ∧ E 14 = a0 ∧ E 15 = a2 ∧ E 32 = (.bool Z)) (bm 13 8191) 0 ?_ (fun Z g M => ?_))))⟩
  ·rintro e5 E W ⟨T, d, c0, c1, c2, c3, c4, c5, c6, c7, c8⟩ t
   refine lT kr (kF ?_)
   replace d := d.kz (Db St)
   refine CI t c8 (fun a5 t => ?_) (fun a5 t => ?_)
   ·refine sg (Wh c4 (Wa (Wa (ln ?_))))
    replace d := d.kz (Db (Dr St))
    refine lj (me (lb (me (lb ?_))))
    obtain rfl := sj t
    exact qF (v := a2) (u := (.int .i64 50)) rfl rfl rfl ⟨rfl, d.ex⟩
   exact lz (lu (kF ⟨c7, _, ⟨rfl, c6⟩, (d.kz St), c0, c1, c2, c3, c5, (by rw [b6]; exact t)⟩))
  refine bC g (fun a g => ?_) (fun a g => ?_)
  ·refine Xn 6 rfl rfl (cB a) m (Xn 7 rfl rfl (cB a) m (Xn 8 rfl rfl (cB a) m (Xn 9 rfl rfl (cB a) m (Xn 10 rfl rfl (cB a) m (Xn 11 rfl rfl (cB a) m (X 12 rfl m (kR (cB a) rfl) ?_))))))
   obtain rfl := sj g
   refine nx kr (M _ _ ⟨_, (d.kz St), z, H, I, B, rfl, J, O, n, rfl⟩)
  refine uW 6 rfl rfl (cB a) m (fun _ P => kA rfl (kI P Mh (kX j) rfl ey bX)) (Xg 7 rfl rfl (cB a) m (kH B) (Xg 8 rfl rfl (cB a) m (kH rfl) (bS g fun _ Q g => FM 9 rfl kr (.inr ⟨5, false, 25, rfl, rfl, by decide, (cB a)⟩) rfl dc (fun _ _ h => h) m (ui (i := (y : Int)) bJ bO rfl rfl U nf (qD Q) (qw Q)) (fun d1 b3 => bS g fun e3 b0 g => DH 10 rfl rfl (cB a) (Eg d call152 (Bn j d1 (r3.take (Int.toNat (y : Int))) _ _ (b3.sl nf (fun b o R => d.at_ (Mt (Mt (Ml R))))) b0) (fun d9 d => ?_))))))
  have m := d.has.kz (Kb Sn)
  refine ⟨m, (Xg 11 rfl rfl (cB a) m (mQ rfl) (X 12 rfl m (kQ (cB a) rfl) ?_))⟩
  obtain rfl := sj g
  refine nx kr (M _ _ ⟨_, (d.kz St), z, H, I, B, rfl, J, O, n, rfl⟩)
 rintro E W ⟨N, ⟨n, O⟩, d, z, H, I, B, J, c⟩
 rw [aG] at c
 refine kF (kO (sg (Wh B (V (kA I (kI d.has Mh (kK K) rfl dl bO)) (bS c fun e4 b2 c => VE (Eg d call153 (la.mn (zW v9 r3 K _ _ (U.sl nf (fun b o R => d.at_ (Mt (Ml R)))) b2)) (fun e0 d => V (mQ rfl) (ln ?_))))))))
 replace d := d.kz (Db (Dr St))
 refine CI c rfl (fun a6 c => ?_) (fun a6 c => ?_)
 ·refine sg (Wh z (V (ly aW rfl x) (Wa (Wa (lt (lb ?_))))))
  obtain rfl := sj c
  exact qF (v := a0) (u := (.int .i64 42)) rfl rfl rfl ⟨rfl, d.ex⟩
 refine kg (Wh z (V (ly aW rfl x) (Wa (Wa (lt ?_)))))
 obtain rfl := sj c
 exact qF (v := a0) (u := (.int .i64 0)) rfl rfl rfl ⟨rfl, d.ex⟩
theorem yw (g : lZ) (u t B : Value) (M : List ky) (k : Formula) (y : Value) (D : ByteArray) (r : Int) (w : World) (a : Sl (Pl kx) 2 (hp w) u g.lP) (j : Sl (Pl kX) 12 (hp w) t g.lX) (N : Sl (Pl kC) 9 (hp w) B M) (x : Sl kW 5 (hp w) y k.Kids) (hm : oB g M k D = some r) :
  la false pg0 34 [(.agg #[(.int .i64 g.State), (.int .i64 g.oE), u, t]), B, (.agg #[(.int .i64 k.Op), (.int .i64 k.K), (.string k.kw.kE), (.string k.kw.kT), y]), (.string D)] w (.int .i64 r) := by
 refine cG 57 func34 rfl (fun d => sg ?_)
 obtain ⟨Q, U, rfl⟩ := a.form
 obtain ⟨T, Y, rfl⟩ := j.form
 refine VE (lB d rfl (fun W6 o d => ?_))
 obtain ⟨A7, q, rfl⟩ := x.form
 refine VE (lB d rfl (fun d2 b9 d => Wa (ln (kO (bg (Wf BU (VB d (Mt Mh) rfl rfl cC (Wi rfl (Wa (ln (CI hm rfl (fun A hm => ?_) (fun A hm => ?_))))))))))))
 ·refine sg (Wa (ln ?_))
  replace d := d.kz (Db (Db St))
  refine lj (me (lb ?_))
  obtain rfl := sj hm
  exact rP d
 refine sg (VA d Mh (C1 k.Op k.K k.kw.kE k.kw.kT A7 k.Kids.length q) cx aZ (Wf sX (VB d (Mt Mh) rfl rfl dO (bS hm fun d5 P hm => VE (Eg d call85 (Es k (.slice A7 k.Kids.length q) (.slice Q g.lP.length U) g.lP _ _ (x.mono lW.mono d.kJ) (a.mono (Pl.mono _) d.kJ) P) (fun d3 d => V (mQ rfl) (Wa (ln ?_))))))))
 replace d := d.kz (Db St)
 refine CI hm rfl (fun a9 hm => ?_) (fun a9 hm => ?_)
 ·refine sg (Wa (ln ?_))
  replace d := d.kz (Db St)
  refine lj (me (lb ?_))
  obtain rfl := sj hm
  exact rP d
 refine lz (lu (kF (kO (sg (Wf wN (VB d Mh rfl rfl fR (Wm (V (nc (v := (.agg (kK K7).toArray)) um (mB cN cq (Dj _ cq) kr)) (bS hm fun d6 R hm => VE (Eg d call86 (Gv (.slice T g.lX.length Y) g.lX B M K7 _ _ (j.mono (Pl.mono _) d.kJ) (N.mono (Pl.mono _) d.kJ) R) (fun d4 d => Wm (Wx rfl (Wx rfl ?_)))))))))))))
 refine Wa (Wa (lr (Wm (Wi rfl (ln (CI hm rfl (fun L hm => ?_) (fun L hm => ?_)))))))
 ·refine sg (Wm (Wa (ln ?_)))
  replace d := d.kz (Db St)
  refine lj (lb ?_)
  obtain rfl := sj hm
  exact rP d
 refine kS (Wf sX (VB d Mh rfl rfl dO (V (ly aF rfl a) (Wm (ln (lp (fun i E W => ∃ K, (E 39 = .int .i64 (i : Nat) ∧ E 38 = .int .i64 (g.lP.length : Nat)) ∧ ST false ll w W (hp w) ((o, Ol (C3 g.State g.oE Q g.lP.length U T g.lX.length Y) 64) :: K) ∧ E 1 = B ∧ E 3 = (.string D) ∧ E 4 = (.pointer (some ⟨o, 0, none⟩)) ∧ E 37 = (.slice Q g.lP.length U) ∧ uh g M D (g.lP.drop i) = some r) g.lP.length a.len ⟨_, ⟨rfl, rfl⟩, (d.kz St), rfl, rfl, rfl, rfl, hm⟩ dc dc dc (fun _ _ _ h => by obtain ⟨_, n, _⟩ := h; exact n) ?_ ?_))))))
 ·rintro c1 E W O ⟨K, ⟨m, s⟩, d, G, H, I, J, c⟩
  obtain ⟨z, d1, b6, b4, b7⟩ := lc O
  rw [b6] at c
  refine bg (VQ (lO (enc := kx) (i := (c1 : Int)) (x0 := z) aF aC J m a (aD _) b4) (fun c9 a4 => V (kA rfl (lD d.has a4 aN aC)) (VE (lA d bP (fun c3 c7 d => VO (lf (.agg (kx z).toArray) ((kx z).toArray) d rfl rfl aC (mE z) nb rfl (fun c5 d => lr (V (kD wN I) (VB d (Mt Mh) rfl rfl fR (Wh G (VA d Mh (kx z) aN aC ?_)))))))))))
  refine Wh H (V (nc (v := (.agg (kK (⟨z, D⟩ : kB)).toArray)) (pC rfl rfl) (mB cN cq (Dj _ cq) kr)) (bS c fun d0 a5 c => VE (Eg d call86 (Gv (.slice T g.lX.length Y) g.lX B M (⟨z, D⟩ : kB) _ _ (j.mono (Pl.mono _) d.kJ) (N.mono (Pl.mono _) d.kJ) a5) (fun c6 d => Wm (Wx rfl (Wx rfl (Wa (Wa (ln ?_)))))))))
  replace d := d.kz (Db St)
  refine sg (Wm (Wi rfl (ln (CI c rfl (fun Z c => ?_) (fun Z c => ?_)))))
  ·refine sg (Wm (Wa (ln ?_)))
   replace d := d.kz (Db St)
   refine lj (me (lb (me (lb ?_))))
   obtain rfl := sj c
   exact rP d
  exact lz (lu (kF ⟨m, _, ⟨rfl, s⟩, (d.kz St), G, H, I, J, (by rw [b7]; exact c)⟩))
 rintro E W ⟨K, ⟨m, s⟩, d, G, H, I, J, c⟩
 rw [aG] at c
 refine kF ?_
 replace d := d.kz (Db St)
 exact sg (Wa (lt (rQ c d)))
theorem GG (t : Value) (y : List kw) (u : Value) (K : List kw) (r : Bool) (w : World) (c : Sl (Pl kx) 2 (hp w) t y) (z : Sl (Pl kx) 2 (hp w) u K) (hm : vZ y K = some r) :
  la true pg0 75 [t, u] w (.bool r) := by
 refine cG 26 func75 rfl (fun m => sg (Wa (lS (Wm (V (ly aF rfl c) (Wm (V (ly aF rfl z) (Wi rfl (lh ?_)))))))))
 refine kF (CI hm rfl (fun U hm => ?_) (fun U hm => ?_))
 ·refine sg (Wa (lt (lb ?_)))
  obtain rfl := sj hm
  exact rP m
 refine kS (Wm (V (ly aF rfl c) (Wm (ln (lp (fun i E W => ∃ g, (E 13 = .int .i64 (i : Nat) ∧ E 12 = .int .i64 (y.length : Nat)) ∧ ST true ll w W (hp w) g ∧ E 0 = t ∧ E 1 = u ∧ rf K (y.drop i) i = some r) y.length c.len ⟨_, ⟨rfl, rfl⟩, (m.kz St), rfl, rfl, hm⟩ dc dc dc (fun _ _ _ h => by obtain ⟨_, o, _⟩ := h; exact o) ?_ ?_)))))
 ·rintro I E W M ⟨g, ⟨n, s⟩, m, j, k, a⟩
  obtain ⟨J, a3, Q, N, T⟩ := lc M
  rw [Q] at a
  refine bg (Wh n (Wa (ln (kO ?_))))
  replace m := m.drew
  have d := m.has.kz Sn
  refine lG d lq (X 0 rfl d (kH j) (X 1 rfl d (kH rfl) (XQ 2 rfl d (lO (enc := kx) (i := (I : Int)) (x0 := J) aF aC rfl rfl c (aD _) N) (fun Y G => XH 3 rfl d (fun _ q => kA rfl (lD q G aN aC)) (X 4 rfl d (kH k) (X 5 rfl d (kH rfl) (bS a fun B x a => XQ 6 rfl d (lO (enc := kx) (i := (I : Int)) (x0 := B) aF aC rfl rfl z (lY x) (lN x)) (fun Z H => XH 7 rfl d (fun _ q => kA rfl (lD q H aN aC)) (X 8 rfl d (EB rfl rfl (mY cQ) (AI (nJ _ J B))) (lT kr (kF (CI a rfl (fun D a => ?_) (fun D a => ?_)))))))))))))
  ·refine sg (Wa (lt (me (lb (me (lb ?_))))))
   obtain rfl := sj a
   exact rP m
  exact lz (lu (kF ⟨n, _, ⟨rfl, s⟩, (m.kz St), j, k, (by rw [T]; exact a)⟩))
 rintro E W ⟨g, ⟨n, s⟩, m, j, k, a⟩
 rw [aG] at a
 exact kF (sg (Wa (lt (rQ a m))))
theorem GB (t : Value) (y : List kV) (u : Value) (K : List kV) (r : Bool) (w : World) (c : Sl (Pl kX) 12 (hp w) t y) (z : Sl (Pl kX) 12 (hp w) u K) (hm : vY y K = some r) :
  la true pg0 76 [t, u] w (.bool r) := by
 refine cG 26 func76 rfl (fun m => sg (Wa (lS (Wm (V (ly aW rfl c) (Wm (V (ly aW rfl z) (Wi rfl (lh ?_)))))))))
 refine kF (CI hm rfl (fun U hm => ?_) (fun U hm => ?_))
 ·refine sg (Wa (lt (lb ?_)))
  obtain rfl := sj hm
  exact rP m
 refine kS (Wm (V (ly aW rfl c) (Wm (ln (lp (fun i E W => ∃ g, (E 13 = .int .i64 (i : Nat) ∧ E 12 = .int .i64 (y.length : Nat)) ∧ ST true ll w W (hp w) g ∧ E 0 = t ∧ E 1 = u ∧ rq K (y.drop i) i = some r) y.length c.len ⟨_, ⟨rfl, rfl⟩, (m.kz St), rfl, rfl, hm⟩ dc dc dc (fun _ _ _ h => by obtain ⟨_, o, _⟩ := h; exact o) ?_ ?_)))))
 ·rintro I E W M ⟨g, ⟨n, s⟩, m, j, k, a⟩
  obtain ⟨J, a3, Q, N, T⟩ := lc M
  rw [Q] at a
  refine bg (Wh n (Wa (ln (kO ?_))))
  replace m := m.drew
  have d := m.has.kz Sn
  refine lG d lq (X 0 rfl d (kH j) (X 1 rfl d (kH rfl) (XQ 2 rfl d (lO (enc := kX) (i := (I : Int)) (x0 := J) aW bX rfl rfl c (aD _) N) (fun Y G => XH 3 rfl d (fun _ q => kA rfl (lD q G ey bX)) (X 4 rfl d (kH k) (X 5 rfl d (kH rfl) (bS a fun B x a => XQ 6 rfl d (lO (enc := kX) (i := (I : Int)) (x0 := B) aW bX rfl rfl z (lY x) (lN x)) (fun Z H => XH 7 rfl d (fun _ q => kA rfl (lD q H ey bX)) (X 8 rfl d (EB rfl rfl (mY eqGuardType140) (AI (TK _ J B))) (lT kr (kF (CI a rfl (fun D a => ?_) (fun D a => ?_)))))))))))))
  ·refine sg (Wa (lt (me (lb (me (lb ?_))))))
   obtain rfl := sj a
   exact rP m
  exact lz (lu (kF ⟨n, _, ⟨rfl, s⟩, (m.kz St), j, k, (by rw [T]; exact a)⟩))
 rintro E W ⟨g, ⟨n, s⟩, m, j, k, a⟩
 rw [aG] at a
 exact kF (sg (Wa (lt (rQ a m))))
theorem E8 (i : lZ) (D B : Value) (j : lZ) (H G : Value) (r : Bool) (w : World) (x : Sl (Pl kx) 2 (hp w) D i.lP) (u : Sl (Pl kX) 12 (hp w) B i.lX) (z : Sl (Pl kx) 2 (hp w) H j.lP) (y : Sl (Pl kX) 12 (hp w) G j.lX) (hm : xy i j = some r) :
  la true pg0 28 [(.agg #[(.int .i64 i.State), (.int .i64 i.oE), D, B]), (.agg #[(.int .i64 j.State), (.int .i64 j.oE), H, G])] w (.bool r) := by
 refine cG 31 func28 rfl (fun d => sg ?_)
 obtain ⟨Y, c2, rfl⟩ := x.form
 obtain ⟨Z, O, rfl⟩ := u.form
 let m := (C3 i.State i.oE Y i.lP.length c2 Z i.lX.length O)
 refine VE (lB d rfl (fun W6 h d => ?_))
 obtain ⟨A7, P, rfl⟩ := z.form
 obtain ⟨A9, K, rfl⟩ := y.form
 let a0 := (C3 j.State j.oE A7 j.lP.length P A9 j.lX.length K)
 refine VE (lB d rfl (fun d1 J d => Wa (lr (Wf BU (VB d (Mt Mh) rfl rfl cC (Wf BU (VB d Mh rfl rfl cC (Wi rfl (Wm (LJ hm (fun L E W => ∃ n, ST true ll w W (hp w) ((J, Ol a0 64) :: ((h, Ol m 64) :: n)) ∧ E 2 = (.pointer (some ⟨h, 0, none⟩)) ∧ E 3 = (.pointer (some ⟨J, 0, none⟩)) ∧ E 4 = (.bool false) ∧ E 16 = (.bool L)) 6 ?_ (fun L I Q => ?_)))))))))))
 ·rintro d7 E W ⟨n, d, T, U, q, c5⟩ R
  refine Wh c5 (LJ R (fun A E W => ∃ a9, ST true ll w W (hp w) ((J, Ol a0 64) :: ((h, Ol m 64) :: a9)) ∧ E 2 = (.pointer (some ⟨h, 0, none⟩)) ∧ E 3 = (.pointer (some ⟨J, 0, none⟩)) ∧ E 4 = (.bool false) ∧ E 23 = (.bool A)) 6 ?_ (fun A t N => ?_))
  ·rintro d8 E W ⟨a9, d, c6, c7, s, c9⟩ b9
   refine Wh c9 (LJ b9 (fun v E W => ∃ o, ST true ll w W (hp w) o ∧ E 4 = (.bool false) ∧ E 30 = (.bool v)) 6 ?_ (fun v k M => ?_))
   ·rintro d9 E W ⟨o, d, d4, d0⟩ c0
    exact Wg d0 (lt (rQ c0 d))
   refine bC k (fun g k => ?_) (fun g k => ?_)
   ·refine ug g (kD wN c6) (ug g (kA rfl (kM d.has (Mt Mh) rfl fR)) (ug g (kD wN c7) (ug g (kA rfl (kM d.has Mh rfl fR)) (bS k fun d5 c1 k => pX g (Eg d call76 (GB (.slice Z i.lX.length O) i.lX (.slice A9 j.lX.length K) j.lX _ _ (u.mono (Pl.mono _) d.kJ) (y.mono (Pl.mono _) d.kJ) c1) (fun d2 d => V (kR (cB g) rfl) ?_))))))
    obtain rfl := sj k
    exact M _ _ ⟨_, (d.kz (Db (Db St))), s, rfl⟩
   refine un g (un g (un g (un g (un g (V (kQ (cB g) rfl) ?_)))))
   obtain rfl := sj k
   exact M _ _ ⟨_, (d.kz (Db (Db St))), s, rfl⟩
  refine bC t (fun c t => ?_) (fun c t => ?_)
  ·refine ug c (kD sX T) (ug c (kA rfl (kM d.has (Mt Mh) rfl dO)) (ug c (kD sX U) (ug c (kA rfl (kM d.has Mh rfl dO)) (bS t fun d6 c3 t => pX c (Eg d call75 (GG (.slice Y i.lP.length c2) i.lP (.slice A7 j.lP.length P) j.lP _ _ (x.mono (Pl.mono _) d.kJ) (z.mono (Pl.mono _) d.kJ) c3) (fun d3 d => V (kR (cB c) rfl) ?_))))))
   obtain rfl := sj t
   exact N _ _ ⟨_, (d.kz St), T, U, q, rfl⟩
  refine un c (un c (un c (un c (un c (V (kQ (cB c) rfl) ?_)))))
  obtain rfl := sj t
  exact N _ _ ⟨_, (d.kz St), T, U, q, rfl⟩
 refine bC I (fun a I => ?_) (fun a I => ?_)
 ·refine ug a (kD E6 rfl) (ug a (kA rfl (kM d.has (Mt Mh) rfl jB)) (ug a (kD E6 rfl) (ug a (kA rfl (kM d.has Mh rfl jB)) (ug a (lL rfl rfl rfl) (V (kR (cB a) rfl) ?_)))))
  obtain rfl := sj I
  exact Q _ _ ⟨_, (d.kz St), rfl, rfl, rfl, rfl⟩
 refine un a (un a (un a (un a (un a (V (kQ (cB a) rfl) ?_)))))
 obtain rfl := sj I
 exact Q _ _ ⟨_, (d.kz St), rfl, rfl, rfl, rfl⟩
set_option maxHeartbeats 4000000 in
theorem LL (r : Bool) (w : World) (hm : z8  = some r) :
  la false pg0 24 [] w (.bool r) := by
 let w0 := (⟨(⟨K4, [], []⟩ : lR), K3, 3, [K9], [], [], []⟩ : tH)
 refine cG 94 func24 rfl (fun d => sg (Wa (lr (V (nc (v := (.agg (kx K5).toArray)) (pC rfl rfl) (mB bP cI (G5 _ cI) kr)) (V (nc (v := (.agg (kC K9).toArray)) (SJ rfl rfl rfl) (mB cg cY (MA _ cY) kr)) (VE (lA d cg (fun W2 b1 d => VO (lf (.agg (kC K9).toArray) ((kC K9).toArray) d rfl rfl aI (nI K9) nb rfl (fun W3 d => ln (kO ?_)))))))))))
 refine kL (Wf oe (VA d Mh (kx K5) aN aC (V (nc (v := (.agg C6.toArray)) (pC rfl rfl) (mB dB fP (YK _ fP) kr)) (VE (lA d dB (fun W5 s d => VO (lf (.agg C6.toArray) (C6.toArray) d rfl rfl aZ oc nb rfl (fun W6 d => lr (V (nc (v := (.agg #[(.string K4), (.slice none 0 0), (.slice none 0 0)])) (mI rfl) (mB zeroValue52 gZ (Y2 _ gZ) kr)) (VA d (Mt Mh) (kC K9) bG aI (VE (lg (cs := (kC K9).toArray) d (mI rfl) (mD aX aI cg) (fun W8 A d => V (nc (v := (.agg (C5 A).toArray)) (NK rfl rfl rfl rfl) (mB zeroValue54 eT (YU _ eT) kr)) (VE (lA d zeroValue54 (fun s5 b9 d => ?_))))))))))))))))
 let v7 : Value := (.pointer (some ⟨b9, 0, none⟩))
 let p6 : Value := (.slice (some ⟨A, 0, none⟩) 1 1)
 let g6 : Value := (.pointer (some ⟨s, 0, none⟩))
 refine VO (lf (.agg (C5 A).toArray) ((C5 A).toArray) d rfl rfl gb oc nb rfl (fun s6 d => ln ?_))
 replace d := d.kz (Kb (Kb (Kb (Db St))))
 refine sg (VA d Mh (C5 A) ke gb (VA d (Mt (Mt Mh)) C6 cx aZ ?_))
 replace d := d.perm (Nb (Pb Pz) Nz)
 have q3 : Fr w.heap.size p6 := Fr.box d Mh
 obtain ⟨u6, d, p5, ab, c7⟩ := ST.A4 (R := [(A, Ol (kC K9) 108)]) d (kU.lit (l := [K9]) (enc := kC) (b := A) (m := 1) rfl dc rfl rfl) mW
 let v9 := ((C5 A).toArray : Array Value)
 refine bS hm fun a o5 hm => ?_
 let v6 : Value := (.int .i64 ((a).oE))
 let v5 := (⟨(a).State, (a).oE, (a).lP, (a).lX⟩ : lZ)
 let v2 : Value := (.int .i64 ((a).State))
 refine VE (PK d (dp _) call27 (fun hH O h P => (DQ w0 (.slice none 0 0) (.slice none 0 0) p6 (.slice none 0 0) (.slice none 0 0) (.slice none 0 0) Pf (.slice none 0 0) 1 0 true _ _ ⟨hH, O, h⟩ (Sl.nil _ _ _) (Sl.nil _ _ _) (c7.mono (Pl.mono _) (kY.refl _)) (Sl.nil _ _ _) (Sl.nil _ _ _) (Sl.nil _ _ _) (Sl.nil _ _ _) o5)) (fun s7 t8 u7 r9 d c6 ad o1 => ?_) (L0 := []))
 obtain ⟨u2, u3, e5, rfl, b3, b5⟩ := o1
 replace e5 := e5.symm; subst e5
 replace d := d.perm Tn
 refine VE (lA d eC (fun s8 Q d => ?_))
 let j1 : Value := (.pointer (some ⟨Q, 0, none⟩))
 obtain ⟨H, J, rfl⟩ := b3.form
 let n : Value := (.slice H ((a).lP).length J)
 obtain ⟨I, K, rfl⟩ := b5.form
 let g5 : Value := (.slice I ((a).lX).length K)
 let a3 := (#[v2, v6, n, g5] : Array Value)
 refine VO (lf (.agg #[v2, v6, n, g5]) (#[v2, v6, n, g5]) d rfl rfl dq oc nb rfl (fun s9 d => lr (VA d (Mt Mh) (C5 A) ke gb (VA d (Mt (Mt Mh)) C6 cx aZ (bS hm fun c o6 hm => ?_)))))
 let w2 : Value := (.int .i64 ((c).oE))
 let w1 : Value := (.int .i64 ((c).State))
 refine VE (PK d (dp _) call27 (fun hH O h P => (DQ w0 (.slice none 0 0) (.slice none 0 0) p6 (.slice none 0 0) (.slice none 0 0) (.slice none 0 0) Pf (.slice none 0 0) 1 0 false _ _ ⟨hH, O, h⟩ (Sl.nil _ _ _) (Sl.nil _ _ _) (c7.mono (Pl.mono _) c6) (Sl.nil _ _ _) (Sl.nil _ _ _) (Sl.nil _ _ _) (Sl.nil _ _ _) o6)) (fun t0 t9 u8 s0 d y ae o2 => ?_) (L0 := []))
 obtain ⟨u4, u5, e6, rfl, e8, e9⟩ := o2
 replace e6 := e6.symm; subst e6
 replace d := d.perm Tn
 refine VE (lA d eC (fun t1 c1 d => ?_))
 let v8 : Value := (.pointer (some ⟨c1, 0, none⟩))
 obtain ⟨b6, c2, rfl⟩ := e8.form
 let v3 : Value := (.slice b6 ((c).lP).length c2)
 obtain ⟨c0, c3, rfl⟩ := e9.form
 let v4 : Value := (.slice c0 ((c).lX).length c3)
 let b8 := (#[w1, w2, v3, v4] : Array Value)
 refine VO (lf (.agg #[w1, w2, v3, v4]) (#[w1, w2, v3, v4]) d rfl rfl dq oc nb rfl (fun t2 d => lr (V (nc (v := (.agg #[(.slice none 0 0)])) um (mB zeroValue81 fl (Tl _ fl) kr)) (VE (lB d rfl (fun t3 m4 d => Wa (lr (Wm (VA d (Mt (Mt Mh)) [v2, v6, n, g5] eV dq (bS hm fun c4 o7 hm => ?_))))))))))
 refine VE (Jy d (Cb Pz (C0 Cn)) call36 (fun hH O h P => (Jx m4 (.slice none 0 0) ([]) [] a n g5 _ _ ⟨hH, O, kY.refl _⟩ (kU.nil _ _ _) (b3.mono (Pl.mono _) (y.trans h)) (b5.mono (Pl.mono _) (y.trans h)) o7)) (fun t4 u0 u9 s1 d z af aa o3 => ?_))
 obtain ⟨p4, s4, e7, rfl, p1⟩ := o3
 replace e7 := e7.symm; subst e7
 replace d := d.perm (Tb (Tr Tn))
 refine Wa (lr (VE (lA d eC (fun t5 N d => lr (Wm (bS hm fun p2 o8 hm => VE (pF d call37 (lK.mn (Ay m4 p4 c4.2 _ _ (p1.sl (fun _ => rfl) (fun b o hq => d.at_ (Mt (Mt (Ml hq))))) (At.of (d.at_ (Mt Mh)) _ rfl) o8)) (fun t6 p3 v0 s3 d B ag j8 => V (vz (by exact pH rfl) rfl) ?_))))))))
 let j2 : Value := (.pointer (some ⟨N, 0, none⟩))
 have q4 := j8.RA d (fun p hq => (Ml hq))
 obtain ⟨v1, d, D, ah, p0⟩ := ST.A4 d j8 (fun _ => rfl)
 refine bS hm fun k o9 hm => ?_
 refine VE (PK d (Cb Pz Cn) call39 (fun hH O h P => pg.mn (D1 p3 p2 N (⟨0, 0, [], []⟩ : lZ) (.slice none 0 0) (.slice none 0 0) _ _ ⟨hH, O, h⟩ (p0.mono (Pl.mono _) (kY.refl _)) (Sl.nil _ _ _) (Sl.nil _ _ _) o9)) (fun t7 u1 q s2 d G ai o4 => ?_))
 obtain ⟨b0, a2, c8, rfl, m2, m3⟩ := o4
 let a4 := (#[(.int .i64 ((k.2).State)), (.int .i64 ((k.2).oE)), b0, a2] : Array Value)
 replace c8 := c8.symm; subst c8
 replace d := d.perm (Tb Tn)
 refine Wa (ln ?_)
 replace d := d.kz (Kb (Db (Dr St)))
 refine sg (Wf sX (VB d (Mt (Mt Mh)) rfl rfl dO (V (ly aF rfl b3) (Wi rfl (Wm (LJ hm (fun k7 E W => ∃ f0, ST false ll w W q ((N, Obj.cells a4 64 (0, 0)) :: ((c1, Obj.cells b8 64 (0, 0)) :: ((Q, Obj.cells a3 64 (0, 0)) :: ((b9, Obj.cells v9 54 (0, 0)) :: ((s, Ol C6 57) :: f0))))) ∧ E 0 = (.bool false) ∧ E 2 = g6 ∧ E 3 = v7 ∧ E 4 = j1 ∧ E 5 = v8 ∧ E 7 = (.bool c4.1) ∧ E 8 = j2 ∧ E 9 = (.int .i64 k.1) ∧ E 43 = (.bool k7)) 5 ?_ (fun k7 a9 d8 => ?_)))))))
 ·rintro r0 E W ⟨f0, d, f9, d9, e0, e1, g0, g1, g2, g3, m5⟩ k8
  refine Wh m5 (LJ k8 (fun k6 E W => ∃ f1, ST false ll w W q ((N, Obj.cells a4 64 (0, 0)) :: ((c1, Obj.cells b8 64 (0, 0)) :: ((Q, Obj.cells a3 64 (0, 0)) :: ((b9, Obj.cells v9 54 (0, 0)) :: ((s, Ol C6 57) :: f1))))) ∧ E 0 = (.bool false) ∧ E 2 = g6 ∧ E 3 = v7 ∧ E 4 = j1 ∧ E 5 = v8 ∧ E 7 = (.bool c4.1) ∧ E 8 = j2 ∧ E 9 = (.int .i64 k.1) ∧ E 51 = (.bool k6)) 7 ?_ (fun k6 L d7 => ?_))
  ·rintro r1 E W ⟨f1, d, g4, e2, g7, e3, g8, g9, h0, h1, m6⟩ k9
   refine Wh m6 (LJ k9 (fun k5 E W => ∃ f2, ST false ll w W q ((N, Obj.cells a4 64 (0, 0)) :: ((c1, Obj.cells b8 64 (0, 0)) :: ((Q, Obj.cells a3 64 (0, 0)) :: ((b9, Obj.cells v9 54 (0, 0)) :: ((s, Ol C6 57) :: f2))))) ∧ E 0 = (.bool false) ∧ E 2 = g6 ∧ E 3 = v7 ∧ E 4 = j1 ∧ E 5 = v8 ∧ E 7 = (.bool c4.1) ∧ E 8 = j2 ∧ E 9 = (.int .i64 k.1) ∧ E 57 = (.bool k5)) 5 ?_ (fun k5 a0 d6 => ?_))
   ·rintro r2 E W ⟨f2, d, h2, h3, h4, h5, c5, h6, h7, h8, m7⟩ l0
    refine Wh m7 (LJ l0 (fun k4 E W => ∃ f3, ST false ll w W q ((N, Obj.cells a4 64 (0, 0)) :: ((c1, Obj.cells b8 64 (0, 0)) :: ((Q, Obj.cells a3 64 (0, 0)) :: ((b9, Obj.cells v9 54 (0, 0)) :: ((s, Ol C6 57) :: f3))))) ∧ E 0 = (.bool false) ∧ E 2 = g6 ∧ E 3 = v7 ∧ E 4 = j1 ∧ E 5 = v8 ∧ E 7 = (.bool c4.1) ∧ E 8 = j2 ∧ E 9 = (.int .i64 k.1) ∧ E 67 = (.bool k4)) 9 ?_ (fun k4 a8 d5 => ?_))
    ·rintro r3 E W ⟨f3, d, h9, e4, m8, i0, m9, i1, i2, i3, n0⟩ l1
     refine Wh n0 (LJ l1 (fun k3 E W => ∃ f4, ST false ll w W q ((N, Obj.cells a4 64 (0, 0)) :: ((Q, Obj.cells a3 64 (0, 0)) :: ((s, Ol C6 57) :: f4))) ∧ E 0 = (.bool false) ∧ E 2 = g6 ∧ E 4 = j1 ∧ E 7 = (.bool c4.1) ∧ E 8 = j2 ∧ E 9 = (.int .i64 k.1) ∧ E 75 = (.bool k3)) 7 ?_ (fun k3 Z d4 => ?_))
     ·rintro r4 E W ⟨f4, d, i4, i5, i6, n1, i7, i8, n2⟩ l2
      refine Wh n2 (LJ l2 (fun k2 E W => ∃ f5, ST false ll w W q ((N, Obj.cells a4 64 (0, 0)) :: ((Q, Obj.cells a3 64 (0, 0)) :: ((s, Ol C6 57) :: f5))) ∧ E 0 = (.bool false) ∧ E 2 = g6 ∧ E 4 = j1 ∧ E 8 = j2 ∧ E 9 = (.int .i64 k.1) ∧ E 78 = (.bool k2)) 2 ?_ (fun k2 a7 d3 => ?_))
      ·rintro r5 E W ⟨f5, d, i9, j0, j3, j4, n3, n4⟩ l3
       refine Wh n4 (LJ l3 (fun k1 E W => ∃ f6, ST false ll w W q ((N, Obj.cells a4 64 (0, 0)) :: ((Q, Obj.cells a3 64 (0, 0)) :: ((s, Ol C6 57) :: f6))) ∧ E 0 = (.bool false) ∧ E 2 = g6 ∧ E 4 = j1 ∧ E 8 = j2 ∧ E 82 = (.bool k1)) 3 ?_ (fun k1 a6 d2 => ?_))
       ·rintro r6 E W ⟨f6, d, j5, j6, n5, n6, n7⟩ l4
        refine Wh n7 (LJ l4 (fun k0 E W => ∃ f7, ST false ll w W q ((s, Ol C6 57) :: f7) ∧ E 0 = (.bool false) ∧ E 2 = g6 ∧ E 87 = (.bool k0)) 4 ?_ (fun k0 Y d1 => ?_))
        ·rintro r7 E W ⟨f7, d, j7, n8, n9⟩ l5
         refine Wh n9 (LJ l5 (fun j9 E W => ∃ f8, ST false ll w W q f8 ∧ E 0 = (.bool false) ∧ E 93 = (.bool j9)) 5 ?_ (fun j9 U d0 => ?_))
         ·rintro r8 E W ⟨f8, d, q2, o0⟩ l6
          exact Wg o0 (lt (rQ l6 d))
         refine bC U (fun x U => ?_) (fun x U => ?_)
         ·refine ug x (nc (v := (.agg C8.toArray)) um (mB eC ej (Tf _ ej) kr)) (ug x (kA n8 (kI d.has Mh C6 rfl cx aZ)) (bS U fun q5 l7 U => pX x (Eg d call34 (yw (⟨0, 0, [], []⟩ : lZ) (.slice none 0 0) (.slice none 0 0) (.slice none 0 0) ([]) Pf (.slice none 0 0) K3 _ _ (Sl.nil _ _ _) (Sl.nil _ _ _) (Sl.nil _ _ _) (Sl.nil _ _ _) l7) (fun p7 d => ug x (lL rfl rfl rfl) (V (kR (cB x) rfl) ?_)))))
          obtain rfl := sj U
          exact d0 _ _ ⟨_, (d.kz (Db St)), j7, rfl⟩
         refine un x (un x (un x (un x (V (kQ (cB x) rfl) ?_))))
         obtain rfl := sj U
         exact d0 _ _ ⟨_, (d.kz (Db St)), j7, rfl⟩
        refine bC Y (fun M Y => ?_) (fun M Y => ?_)
        ·refine ug M (kA n6 (kI d.has Mh [(.int .i64 ((k.2).State)), (.int .i64 ((k.2).oE)), b0, a2] rfl eV dq)) (ug M (kA n5 (kI d.has (Mt Mh) [v2, v6, n, g5] rfl eV dq)) (bS Y fun q6 l8 Y => pX M (Eg d call28 (la.mn (E8 k.2 b0 a2 v5 n g5 _ _ (m2.mono (Pl.mono _) d.kJ) (m3.mono (Pl.mono _) d.kJ) (b3.mono (Pl.mono _) (((((y.trans z).trans B).trans D).trans G).trans d.kJ)) (b5.mono (Pl.mono _) (((((y.trans z).trans B).trans D).trans G).trans d.kJ)) l8)) (fun p8 d => V (kR (cB M) rfl) ?_))))
         obtain rfl := sj Y
         exact d1 _ _ ⟨_, (d.kz (Db (Db St))), j5, j6, rfl⟩
        refine un M (un M (un M (V (kQ (cB M) rfl) ?_)))
        obtain rfl := sj Y
        exact d1 _ _ ⟨_, (d.kz (Db (Db St))), j5, j6, rfl⟩
       refine bC a6 (fun T a6 => ?_) (fun T a6 => ?_)
       ·refine ug T (kH n3) (ug T (lL rfl rfl rfl) (V (kR (cB T) rfl) ?_))
        obtain rfl := sj a6
        exact d2 _ _ ⟨_, (d.kz St), i9, j0, j3, j4, rfl⟩
       refine un T (un T (V (kQ (cB T) rfl) ?_))
       obtain rfl := sj a6
       exact d2 _ _ ⟨_, (d.kz St), i9, j0, j3, j4, rfl⟩
      refine bC a7 (fun a5 a7 => ?_) (fun a5 a7 => ?_)
      ·refine ug a5 (kH n1) (V (kR (cB a5) rfl) ?_)
       obtain rfl := sj a7
       exact d3 _ _ ⟨_, (d.kz St), i4, i5, i6, i7, i8, rfl⟩
      refine un a5 (V (kQ (cB a5) rfl) ?_)
      obtain rfl := sj a7
      exact d3 _ _ ⟨_, (d.kz St), i4, i5, i6, i7, i8, rfl⟩
     refine bC Z (fun j Z => ?_) (fun j Z => ?_)
     ·refine ug j (kA m9 (kI d.has (Mt Mh) [w1, w2, v3, v4] rfl eV dq)) (ug j (kD Du m8) (ug j (kA rfl (kM d.has (Mt (Mt (Mt Mh))) rfl iC)) (ug j (kA e4 (kI d.has (Mt (Mt (Mt (Mt Mh)))) C6 rfl cx aZ)) (bS Z fun q7 l9 Z => pX j (Eg d call34 (yw (⟨(c).State, (c).oE, (c).lP, (c).lX⟩ : lZ) v3 v4 p6 ([K9]) Pf (.slice none 0 0) K3 _ _ (e8.mono (Pl.mono _) ((((z.trans B).trans D).trans G).trans d.kJ)) (e9.mono (Pl.mono _) ((((z.trans B).trans D).trans G).trans d.kJ)) (c7.mono (Pl.mono _) ((((((c6.trans y).trans z).trans B).trans D).trans G).trans d.kJ)) (Sl.nil _ _ _) l9) (fun p9 d => ug j (lL rfl rfl rfl) (V (kR (cB j) rfl) ?_)))))))
      obtain rfl := sj Z
      exact d4 _ _ ⟨_, (d.kz (Kb (Db (Kb (Db St))))), h9, e4, i0, i1, i2, i3, rfl⟩
     refine un j (un j (un j (un j (un j (un j (V (kQ (cB j) rfl) ?_))))))
     obtain rfl := sj Z
     exact d4 _ _ ⟨_, (d.kz (Kb (Db (Kb (Db St))))), h9, e4, i0, i1, i2, i3, rfl⟩
    refine bC a8 (fun g a8 => ?_) (fun g a8 => ?_)
    ·refine ug g (kD sX c5) (ug g (kA rfl (kM d.has (Mt Mh) rfl dO)) (ug g (ly aF rfl e8) (ug g (kD wN c5) (ug g (kA rfl (kM d.has (Mt Mh) rfl fR)) (ug g (ly aW rfl e9) (ug g (lL rfl rfl rfl) (ug g (lL rfl rfl rfl) (V (kR (cB g) rfl) ?_))))))))
     obtain rfl := sj a8
     exact d5 _ _ ⟨_, (d.kz St), h2, h3, h4, h5, c5, h6, h7, h8, rfl⟩
    refine un g (un g (un g (un g (un g (un g (un g (un g (V (kQ (cB g) rfl) ?_))))))))
    obtain rfl := sj a8
    exact d5 _ _ ⟨_, (d.kz St), h2, h3, h4, h5, c5, h6, h7, h8, rfl⟩
   refine bC a0 (fun u a0 => ?_) (fun u a0 => ?_)
   ·refine ug u (kA e3 (kI d.has (Mt (Mt Mh)) [v2, v6, n, g5] rfl eV dq)) (ug u (kA e2 (kI d.has (Mt (Mt (Mt (Mt Mh)))) C6 rfl cx aZ)) (bS a0 fun q8 m0 a0 => pX u (Eg d call34 (yw v5 n g5 (.slice none 0 0) ([]) Pf (.slice none 0 0) K3 _ _ (b3.mono (Pl.mono _) (((((y.trans z).trans B).trans D).trans G).trans d.kJ)) (b5.mono (Pl.mono _) (((((y.trans z).trans B).trans D).trans G).trans d.kJ)) (Sl.nil _ _ _) (Sl.nil _ _ _) m0) (fun q0 d => ug u (lL rfl rfl rfl) (V (kR (cB u) rfl) ?_)))))
    obtain rfl := sj a0
    exact d6 _ _ ⟨_, (d.kz St), g4, e2, g7, e3, g8, g9, h0, h1, rfl⟩
   refine un u (un u (un u (un u (V (kQ (cB u) rfl) ?_))))
   obtain rfl := sj a0
   exact d6 _ _ ⟨_, (d.kz St), g4, e2, g7, e3, g8, g9, h0, h1, rfl⟩
  refine bC L (fun i L => ?_) (fun i L => ?_)
  ·refine ug i (kA e1 (kI d.has (Mt (Mt Mh)) [v2, v6, n, g5] rfl eV dq)) (ug i (kD Du e0) (ug i (kA rfl (kM d.has (Mt (Mt (Mt Mh))) rfl iC)) (ug i (kA d9 (kI d.has (Mt (Mt (Mt (Mt Mh)))) C6 rfl cx aZ)) (bS L fun q9 m1 L => pX i (Eg d call34 (yw v5 n g5 p6 ([K9]) Pf (.slice none 0 0) K3 _ _ (b3.mono (Pl.mono _) (((((y.trans z).trans B).trans D).trans G).trans d.kJ)) (b5.mono (Pl.mono _) (((((y.trans z).trans B).trans D).trans G).trans d.kJ)) (c7.mono (Pl.mono _) ((((((c6.trans y).trans z).trans B).trans D).trans G).trans d.kJ)) (Sl.nil _ _ _) m1) (fun q1 d => ug i (lL rfl rfl rfl) (V (kR (cB i) rfl) ?_)))))))
   obtain rfl := sj L
   exact d7 _ _ ⟨_, (d.kz St), f9, d9, e0, e1, g0, g1, g2, g3, rfl⟩
  refine un i (un i (un i (un i (un i (un i (V (kQ (cB i) rfl) ?_))))))
  obtain rfl := sj L
  exact d7 _ _ ⟨_, (d.kz St), f9, d9, e0, e1, g0, g1, g2, g3, rfl⟩
 refine bC a9 (fun t a9 => ?_) (fun t a9 => ?_)
 ·refine ug t (kD wN rfl) (ug t (kA rfl (kM d.has (Mt (Mt Mh)) rfl fR)) (ug t (ly aW rfl b5) (ug t (lL rfl rfl rfl) (V (kR (cB t) rfl) ?_))))
  obtain rfl := sj a9
  exact d8 _ _ ⟨_, (d.kz St), rfl, rfl, rfl, rfl, rfl, rfl, rfl, rfl, rfl⟩
 refine un t (un t (un t (un t (V (kQ (cB t) rfl) ?_))))
 obtain rfl := sj a9
 exact d8 _ _ ⟨_, (d.kz St), rfl, rfl, rfl, rfl, rfl, rfl, rfl, rfl, rfl⟩
theorem Ai (k : Value) (u : List ky) (r : Int) (w : World) (j : Sl (Pl kC) 9 (hp w) k u) (hm : ru u = some r) :
  la true pg0 11 [k] w (.int .i64 r) := by
 refine cG 54 func11 rfl (fun d => sg (Wa (lr (Wa (lS (Wm ?_))))))
 refine V (ly aX rfl j) (Wm (ln (lp (fun i E W => ∃ g t, (E 8 = .int .i64 (i : Nat) ∧ E 7 = .int .i64 (u.length : Nat)) ∧ ST true ll w W (hp w) t ∧ E 3 = (.int .i64 g) ∧ E 6 = k ∧ tk (u.drop i) g = some r) u.length j.len ⟨0, _, ⟨rfl, rfl⟩, (d.kz St), rfl, rfl, hm⟩ dc dc dc (fun _ _ _ h => by obtain ⟨_, _, n, _⟩ := h; exact n) ?_ ?_)))
 ·rintro I E W z ⟨g, t, ⟨m, o⟩, d, x, y, c⟩
  obtain ⟨a, J, G, D, H⟩ := lc z
  rw [G] at c
  refine bg (VQ (lO (enc := kC) (i := (I : Int)) (x0 := a) aX aI y m j (aD _) D) (fun Q B => V (kA rfl (lD d.has B bG aI)) (VE (lA d cg (fun K N d => VO (lf (.agg (kC a).toArray) ((kC a).toArray) d rfl rfl aI (nI a) nb rfl (fun M d => ln (kL (Wh x (Wf oe (Wf oQ (VB d Mh rfl rfl aY (V (om bQ rfl) ?_)))))))))))))
  refine Wi rfl (Wf oe (Wf vO (VB d Mh rfl rfl aY (V (om bQ rfl) (Wi rfl (Wf sL (VB d Mh rfl rfl aY (V (om bQ rfl) (Wi rfl (Wf mT (Wf oQ (VB d Mh rfl rfl aY (V (om bQ rfl) (Wi rfl ?_))))))))))))))
  refine Wf mT (Wf vO (VB d Mh rfl rfl aY (V (om bQ rfl) (Wi rfl (Wf pL (Wf oQ (VB d Mh rfl rfl aY (V (om bQ rfl) (Wi rfl (Wf pL (Wf vO (VB d Mh rfl rfl aY (V (om bQ rfl) (Wi rfl ?_))))))))))))))
  refine Wf rO (VB d Mh rfl rfl aY (V (om bQ rfl) (Wi rfl (Wi rfl (Wa (lh (lu (kF ?_))))))))
  replace d := d.kz (Db St)
  exact ⟨m, (wi0 .i64 (g + (wi0 .i64 ((wi0 .i64 ((wi0 .i64 ((wi0 .i64 ((wi0 .i64 ((wi0 .i64 ((wi0 .i64 ((wi0 .i64 (20 + (a.Head.kE.size : Int))) + (a.Head.kT.size : Int))) + (a.lx.size : Int))) + (a.B.kE.size : Int))) + (a.B.kT.size : Int))) + (a.C.kE.size : Int))) + (a.C.kT.size : Int))) + (a.lU.size : Int))))), _, ⟨rfl, o⟩, (d.kz St), rfl, y, (by rw [H]; exact c)⟩
 rintro E W ⟨g, t, ⟨m, o⟩, d, x, y, c⟩
 rw [aG] at c
 exact kF (sg (Wh x (Wa (lt (rQ c d)))))
theorem Cl (H : Value) (Q : List Key) (u : Value) (J : List Signed) (r : Int) (w : World) (B : Sl Fp 2 (hp w) H Q) (D : Sl vu 10 (hp w) u J) (hm : Aq Q J = some r) :
  la true pg0 140 [H, u] w (.int .i64 r) := by
 refine cG 45 func140 rfl (fun d => sg (Wa (lr (Wa (lS (Wm ?_))))))
 refine V (ly underlying239 rfl B) (Wm (ln (lp (fun i E W => ∃ t N, (E 12 = .int .i64 (i : Nat) ∧ E 11 = .int .i64 (Q.length : Nat)) ∧ ST true ll w W (hp w) N ∧ E 1 = u ∧ E 5 = (.int .i64 t) ∧ E 10 = H ∧ xP J (Q.drop i) t = some r) Q.length B.len ⟨0, _, ⟨rfl, rfl⟩, (d.kz St), rfl, rfl, rfl, hm⟩ dc dc dc (fun _ _ _ h => by obtain ⟨_, _, o, _⟩ := h; exact o) ?_ ?_)))
 ·rintro c3 E W b5 ⟨t, N, ⟨n, q⟩, d, U, Y, Z, g⟩
  obtain ⟨k, d4, b9, b7, c0⟩ := lc b5
  rw [b9] at g
  refine bg (VQ (su (i := (c3 : Int)) (x0 := k) Fp.out underlying239 sizeOf242 Z n B (aD _) b7) (fun d8 ⟨_, ⟨d9, rfl, a2⟩, b6⟩ => V (kA rfl (lD d.has b6 isAgg242 sizeOf242)) (VE (lA d zeroValue242 (fun d5 d7 d => ?_)))))
  obtain ⟨v, A, rfl⟩ := a2.form
  refine VO (lf (.agg #[(.string k.lx), (.slice v k.Key.length A)]) (#[(.string k.lx), (.slice v k.Key.length A)]) d rfl rfl sizeOf242 oc nb rfl (fun d6 d => ln (kL (Wh Y (Wf Vd (VB d Mh rfl rfl aY (V (om bQ rfl) (Wi rfl (Wf U5 (VB d Mh rfl rfl fQ (V (ly cw rfl a2) (Wi rfl (Wi rfl (Wa ?_))))))))))))))
  refine lh (lu (kF ?_))
  replace d := d.kz (Db St)
  exact ⟨n, (wi0 .i64 (t + (wi0 .i64 ((wi0 .i64 (10 + (k.lx.size : Int))) + (k.Key.length : Int))))), _, ⟨rfl, q⟩, (d.kz St), U, rfl, Z, (by rw [c0]; exact g)⟩
 rintro E W ⟨t, N, ⟨n, q⟩, d, U, Y, Z, g⟩
 rw [aG] at g
 refine kF (kO (sg (Wh U (V (ly jS rfl D) (Wm (ln (CJ g (fun G E W => ∃ M, ST true ll w W (hp w) M ∧ E 5 = (.int .i64 G)) (fun G a5 => ?_) ?_)))))))
 ·refine lp (fun i E W => ∃ j x, (E 29 = .int .i64 (i : Nat) ∧ E 28 = .int .i64 (J.length : Nat)) ∧ ST true ll w W (hp w) x ∧ E 5 = (.int .i64 j) ∧ E 27 = u ∧ vQ (J.drop i) j = some G) J.length D.len ⟨t, _, ⟨rfl, rfl⟩, (d.kz St), Y, rfl, a5⟩ dc dc dc (fun _ _ _ h => by obtain ⟨_, _, o, _⟩ := h; exact o) ?_ ?_
  ·rintro c1 E W a3 ⟨j, x, ⟨n, q⟩, d, y, z, c⟩
   obtain ⟨a, c4, a9, P, R⟩ := lc a3
   rw [a9] at c
   refine bg (VQ (su (i := (c1 : Int)) (x0 := a) vu.out jS ja z n D (aD _) P) (fun d0 ⟨_, ⟨d1, rfl, I⟩, L⟩ => V (kA rfl (lD d.has L isAgg197 ja)) (VE (lA d zeroValue197 (fun c5 c9 d => ?_)))))
   obtain ⟨K, T, rfl⟩ := I.form
   let a0 := (C4 a.ky.Kind a.ky.Head.kE a.ky.Head.kT a.ky.lx a.ky.B.kE a.ky.B.kT a.ky.C.kE a.ky.C.kT a.ky.lU K a.Tag.length T)
   refine VO (lf (.agg a0.toArray) (a0.toArray) d rfl rfl ja oc nb rfl (fun c6 d => ln ?_))
   replace d := d.drew
   have m := d.has.kz (Kb Sn)
   refine lG m lq (X 0 rfl m (kH y) (X 1 rfl m (kD UO rfl) (XH 2 rfl m (fun _ s => kA rfl (kI s Mh (kC a.ky) rfl bG aI)) (X 5 rfl m (kD Vk rfl) (XH 6 rfl m (fun _ s => kA rfl (kM s Mh rfl fQ)) (X 7 rfl m (ly cw rfl I) (XE 3 rfl (lg (cs := (kC a.ky).toArray) d (mI rfl) (mD aX aI cg) (fun c7 b3 d => ?_)))))))))
   have m := d.has.kz (Db (Kb Sn))
   refine ⟨m, (bS c fun c2 O c => XE 4 rfl (Eg d call11 (Ai (.slice (some ⟨b3, 0, none⟩) 1 1) ([a.ky]) _ _ (Sl.lit (enc := kC) (l := [a.ky]) mW rfl nb rfl (d.at_ Mh)) O) (fun c8 d => ?_)))⟩
   have m := d.has.kz (Db (Kb Sn))
   refine ⟨m, (X 8 rfl m (lL rfl rfl rfl) (X 9 rfl m (lL rfl rfl rfl) (X 10 rfl m (mN rfl) (lT kr (lu (kF ?_))))))⟩
   replace d := d.kz (Db (Db St))
   exact ⟨n, (wi0 .i64 (j + (wi0 .i64 (c2 + (a.Tag.length : Int))))), _, ⟨rfl, q⟩, (d.kz St), rfl, z, (by rw [R]; exact c)⟩
  rintro E W ⟨j, x, ⟨n, q⟩, d, y, z, c⟩
  rw [aG] at c
  refine kF ?_
  obtain rfl := sj c
  exact ⟨_, (d.kz St), y⟩
 rintro d3 E W ⟨M, d, b4⟩ a4
 exact sg (Wh b4 (Wa (lt (rQ a4 d))))
theorem HI (I : (List Formula) → Option Int) (N : ∀ (j : Value) (u : List Formula) (r : Int) (w : World) (t : Sl kW 5 (hp w) j u), I u = some r → la false pg0 26 [j] w (.int .i64 r)) (j : Value) (u : List Formula) (r : Int) (w : World) (t : Sl kW 5 (hp w) j u) (hm : wF I u = some r) :
  la false pg0 26 [j] w (.int .i64 r) := by
 refine cG 31 func26 rfl (fun m => sg (Wa (lr (Wa (lS (Wm ?_))))))
 refine V (ly bZ rfl t) (Wm (ln (lp (fun i E W => ∃ x z, (E 8 = .int .i64 (i : Nat) ∧ E 7 = .int .i64 (u.length : Nat)) ∧ ST false ll w W (hp w) z ∧ E 3 = (.int .i64 x) ∧ E 6 = j ∧ qf I (u.drop i) x = some r) u.length t.len ⟨0, _, ⟨rfl, rfl⟩, (m.kz St), rfl, rfl, hm⟩ dc dc dc (fun _ _ _ h => by obtain ⟨_, _, q, _⟩ := h; exact q) ?_ ?_)))
 ·rintro Z E W M ⟨x, z, ⟨o, A⟩, m, D, G, g⟩
  obtain ⟨c, P, T, Q, U⟩ := lc M
  let a0 := ((c.kw.kE.size : Int) + (c.kw.kT.size : Int))
  rw [T] at g
  refine bg (VQ (su (i := (Z : Int)) (x0 := c) kW.out bZ aZ G o t (aD _) Q) (fun a5 ⟨_, ⟨O, rfl, H⟩, J⟩ => V (kA rfl (lD m.has J cx aZ)) (VE (lA m dB (fun L a4 m => ?_)))))
  obtain ⟨y, B, rfl⟩ := H.form
  let s := (C1 c.Op c.K c.kw.kE c.kw.kT y c.Kids.length B)
  refine VO (lf (.agg s.toArray) (s.toArray) m rfl rfl aZ oc nb rfl (fun a2 m => ln ?_))
  replace m := m.drew
  have d := m.has.kz (Kb Sn)
  refine lG d lq (X 0 rfl d (kH D) (X 1 rfl d (kD yI rfl) (X 2 rfl d (kD oQ rfl) (XH 3 rfl d (fun _ n => kA rfl (kM n Mh rfl aY)) (X 4 rfl d (om bQ rfl) (X 5 rfl d (kD yI rfl) (X 6 rfl d (kD vO rfl) (XH 7 rfl d (fun _ n => kA rfl (kM n Mh rfl aY)) (X 8 rfl d (om bQ rfl) (X 9 rfl d (lL rfl rfl rfl) (X 10 rfl d (FT (k := .i64) (a := (wi0 .i64 a0)) (b := 16) (v := (.int .i64 (wi0 .i64 (Int.tdiv (wi0 .i64 a0) 16)))) rfl rfl dc rfl) (X 11 rfl d (lL rfl rfl rfl) (X 12 rfl d (kD uu rfl) (XH 13 rfl d (fun _ n => kA rfl (kM n Mh rfl fa)) ?_))))))))))))))
  refine bS g fun Y K g => XE 14 rfl (Eg m call26 (N (.slice y c.Kids.length B) c.Kids _ _ (H.mono lW.mono m.kJ) K) (fun a3 m => ?_))
  have d := m.has.kz (Kb Sn)
  refine ⟨d, (X 15 rfl d (lL rfl rfl rfl) (X 16 rfl d (lL rfl rfl rfl) (X 17 rfl d (mN rfl) (lT kr (lu (kF ?_))))))⟩
  replace m := m.kz (Db St)
  exact ⟨o, (wi0 .i64 (x + (wi0 .i64 ((wi0 .i64 (1 + (wi0 .i64 (Int.tdiv (wi0 .i64 a0) 16)))) + Y)))), _, ⟨rfl, A⟩, (m.kz St), rfl, G, (by rw [U]; exact g)⟩
 rintro E W ⟨x, z, ⟨o, A⟩, m, D, G, g⟩
 rw [aG] at g
 exact kF (sg (Wh D (Wa (lt (rQ g m)))))
theorem Au : ∀ (n : Nat) (a : Value) (c : List Formula) (r : Int) (w : World) (g : Sl kW 5 (hp w) a c) (_ : nU n c = some r),
  la false pg0 26 [a] w (.int .i64 r)
 | 0 => by intros; rename_i h; simp only [nU] at h; cases h
 | n + 1 => HI (nU n) (Au n)
set_option maxHeartbeats 4000000 in
theorem L5 (x : lR) (J N : Value) (r : Int) (w : World) (y : Sl oL 15 (hp w) J x.nr) (G : Sl vc 8 (hp w) N x.oq) (hm : Ap x = some r) :
  la false pg0 71 [(.agg #[(.string x.Name), J, N])] w (.int .i64 r) := by
 refine cG 61 func71 rfl (fun d => sg ?_)
 obtain ⟨A1, c2, rfl⟩ := y.form
 let d8 : Value := (.slice A1 x.nr.length c2)
 obtain ⟨A3, c4, rfl⟩ := G.form
 let k6 : Value := (.slice A3 x.oq.length c4)
 refine VE (lB d rfl (fun W6 P d => Wa (lr (Wf Wb (VB d Mh rfl rfl aY (V (om bQ rfl) (Wa (lS ?_))))))))
 refine Wf WD (VB d Mh rfl rfl isAgg49 (V (ly underlying49 rfl y) (Wm (ln (lp (fun i E W => ∃ I b1, (E 14 = .int .i64 (i : Nat) ∧ E 13 = .int .i64 (x.nr.length : Nat)) ∧ ST false ll w W (hp w) ((P, Ob #[(.string x.Name), d8, k6] 52) :: b1) ∧ E 1 = (.pointer (some ⟨P, 0, none⟩)) ∧ E 3 = (.int .i64 I) ∧ E 12 = d8 ∧ tm x (x.nr.drop i) I = some r) x.nr.length y.len ⟨(x.Name.size : Int), _, ⟨rfl, rfl⟩, (d.kz St), rfl, rfl, rfl, hm⟩ dc dc dc (fun _ _ _ h => by obtain ⟨_, _, v, _⟩ := h; exact v) ?_ ?_)))))
 ·rintro d5 E W e1 ⟨I, b1, ⟨s, A⟩, d, U, M, Y, H⟩
  obtain ⟨a, h9, e9, e8, f0⟩ := lc e1
  let l1 : Value := (.int .i64 a.lo.K)
  let l0 : Value := (.int .i64 a.lo.Op)
  let k9 : Value := (.string a.Signed.ky.lx)
  let k8 : Value := (.string a.lo.kw.kT)
  let k7 : Value := (.string a.Signed.ky.lU)
  let k4 : Value := (.string a.lo.kw.kE)
  let k3 : Value := (.string a.Signed.ky.C.kT)
  let k2 : Value := (.string a.Signed.ky.B.kT)
  let k1 : Value := (.int .i64 a.Signed.ky.Kind)
  let k0 : Value := (.string a.Signed.ky.C.kE)
  let j2 : Value := (.string a.Signed.ky.B.kE)
  let g6 : Value := (.string a.Signed.ky.Head.kT)
  let g5 : Value := (.string a.Signed.ky.Head.kE)
  rw [e9] at H
  refine bg (VQ (su (i := (d5 : Int)) (x0 := a) oL.out underlying49 sizeOf199 Y s y (aD _) e8) (fun j4 ⟨_, ⟨j8, j9, rfl, Q, T⟩, e2⟩ => V (kA rfl (lD d.has e2 isAgg199 sizeOf199)) (VE (lA d zeroValue199 (fun i0 f4 d => ?_)))))
  obtain ⟨t, u, rfl⟩ := Q.form
  let L : Value := (.slice t a.Signed.Tag.length u)
  let b7 := (C4 a.Signed.ky.Kind a.Signed.ky.Head.kE a.Signed.ky.Head.kT a.Signed.ky.lx a.Signed.ky.B.kE a.Signed.ky.B.kT a.Signed.ky.C.kE a.Signed.ky.C.kT a.Signed.ky.lU t a.Signed.Tag.length u)
  obtain ⟨g, j, rfl⟩ := T.form
  let b8 : Value := (.slice g a.lo.Kids.length j)
  let a0 := (C1 a.lo.Op a.lo.K a.lo.kw.kE a.lo.kw.kT g a.lo.Kids.length j)
  refine VO (lf (.agg #[k1, g5, g6, k9, j2, k2, k0, k3, k7, L, l0, l1, k4, k8, b8]) (#[k1, g5, g6, k9, j2, k2, k0, k3, k7, L, l0, l1, k4, k8, b8]) d rfl rfl sizeOf199 oc nb rfl (fun i1 d => ln ?_))
  replace d := d.drew
  have m := d.has.kz (Kb Sn)
  refine lG m lq (X 0 rfl m (kH M) (X 1 rfl m (kD VF rfl) (XH 2 rfl m (fun _ q => kA rfl (kI q Mh b7 rfl isAgg197 ja)) (X 5 rfl m (kD U2 rfl) (XH 6 rfl m (fun _ q => kA rfl (kI q Mh a0 rfl cx aZ)) (PJ H (fun b4 E W => ∃ O b2 b9, ST false ll w W (hp w) ((f4, Ob #[k1, g5, g6, k9, j2, k2, k0, k3, k7, L, l0, l1, k4, k8, b8] 199) :: ((P, Ob #[(.string x.Name), d8, k6] 52) :: (b2 ++ b9))) ∧ E 1 = (.pointer (some ⟨P, 0, none⟩)) ∧ E 3 = (.int .i64 I) ∧ E 12 = d8 ∧ E 13 = (.int .i64 (x.nr.length : Int)) ∧ E 14 = (.int .i64 (d5 : Int)) ∧ E 18 = (.int .i64 I) ∧ E 22 = (.int .i64 b4.1) ∧ E 25 = O ∧ nm 57 kW 5 (hp w) O b4.2 b2) (bm 13 255) 5 ?_ (fun b4 z Z => ?_)))))))
  ·rintro ⟨g7, g3⟩ E W ⟨O, b2, b9, d, f6, j3, f7, f8, f9, g0, g1, g2, e7⟩ R
   refine bS R fun g4 e3 R => XE 8 rfl (Eg d call26 ((Au lC) O g3 _ _ (e7.sl lW d.kJ (fun b o n => d.at_ (Mt (Mt (Ml n))))) e3) (fun i2 d => ?_) (ha := Zm g2))
   have m := d.has.kz (Kb Sn)
   refine ⟨m, (X 9 rfl m (lL rfl rfl rfl) (X 10 rfl m (lL g1 rfl rfl) (X 11 rfl m (lL g0 rfl rfl) (X 12 rfl m (mN rfl) (lT kr (lu (kF ?_)))))))⟩
   replace d := d.kz (Db (Kb (Dr St)))
   exact ⟨f9, (wi0 .i64 (I + (wi0 .i64 (g7 + (wi0 .i64 (20 * g4)))))), _, ⟨rfl, f8⟩, (d.kz St), f6, rfl, f7, (by rw [f0]; exact R)⟩
  refine Ha 3 7 rfl rfl kr (.inl rfl) (.inl rfl) rfl rfl dc dc ?_ ?_
  ·refine lg (cs := b7.toArray) d (mI rfl) (mD jS ja zeroValue197) (fun i3 b3 d => ?_)
   let d9 : Value := (.slice (some ⟨b3, 0, none⟩) 1 1)
   have m := d.has.kz (Db (Kb Sn))
   refine ⟨m, (Ha 4 7 rfl rfl kr (.inl rfl) (.inl rfl) rfl rfl dc dc ?_ ?_)⟩
   ·refine bS z fun j5 e4 z => Pv (args := [(.slice none 0 0), d9]) d rfl call140 (by exact pI rfl rfl) (la.mn (Cl (.slice none 0 0) ([]) d9 ([a.Signed]) _ _ (Sl.nil _ _ _) ((nm.lit Da (l := [a.Signed]) (.cons (ys := C4 a.Signed.ky.Kind a.Signed.ky.Head.kE a.Signed.ky.Head.kT a.Signed.ky.lx a.Signed.ky.B.kE a.Signed.ky.B.kT a.Signed.ky.C.kE a.Signed.ky.C.kT a.Signed.ky.lU t a.Signed.Tag.length u) (vu.mk ⟨L, rfl, Q⟩) .nil) rfl nb rfl).sl Da d.kJ (fun b o n => (by rw [aO] at n; cases n; exact d.at_ Mh))) e4)) (fun i4 d => ?_)
    have m := d.has.kz (Db (Kb Sn))
    refine ⟨m, (XE 7 rfl (lg (cs := a0.toArray) d (mI rfl) (mD bZ aZ dB) (fun i5 c0 d => ?_)))⟩
    have m := d.has.kz (Db (Db (Kb Sn)))
    refine ⟨m, ?_⟩
    obtain rfl := sj z
    replace d := d.Ht
    refine nx kr (Z _ _ ⟨(.slice (some ⟨c0, 0, none⟩) 1 1), [(c0, Ol a0 57)], _, (d.kz (Sb (Pr (Pb Pz)) (Sb (Pr (Pb Pz)) (Kr (Db St))))), U, M, Y, A, s, rfl, rfl, rfl, (nm.lit lW (l := [a.lo]) (.cons (ys := C1 a.lo.Op a.lo.K a.lo.kw.kE a.lo.kw.kT g a.lo.Kids.length j) (kW.mk ⟨b8, rfl, T⟩) .nil) rfl nb rfl)⟩)
   ·refine lg (cs := a0.toArray) d (mI rfl) (mD bZ aZ dB) (fun i6 c1 d => ?_)
    have m := d.has.kz (Db (Db (Kb Sn)))
    refine ⟨m, (bS z fun j6 e5 z => XE 4 rfl (Eg d call140 (la.mn (Cl (.slice none 0 0) ([]) d9 ([a.Signed]) _ _ (Sl.nil _ _ _) ((nm.lit Da (l := [a.Signed]) (.cons (ys := C4 a.Signed.ky.Kind a.Signed.ky.Head.kE a.Signed.ky.Head.kT a.Signed.ky.lx a.Signed.ky.B.kE a.Signed.ky.B.kT a.Signed.ky.C.kE a.Signed.ky.C.kT a.Signed.ky.lU t a.Signed.Tag.length u) (vu.mk ⟨L, rfl, Q⟩) .nil) rfl nb rfl).sl Da d.kJ (fun b o n => (by rw [aO] at n; cases n; exact d.at_ (Mt Mh)))) e5)) (fun i7 d => ?_)))⟩
    have m := d.has.kz (Db (Db (Kb Sn)))
    refine ⟨m, ?_⟩
    obtain rfl := sj z
    replace d := d.Ht
    refine nx kr (Z _ _ ⟨(.slice (some ⟨c1, 0, none⟩) 1 1), [(c1, Ol a0 57)], _, (d.kz (Sb (Pr (Pb Pz)) (Sb (Pr (Pb Pz)) (Kr (Db St))))), U, M, Y, A, s, rfl, rfl, rfl, (nm.lit lW (l := [a.lo]) (.cons (ys := C1 a.lo.Op a.lo.K a.lo.kw.kE a.lo.kw.kT g a.lo.Kids.length j) (kW.mk ⟨b8, rfl, T⟩) .nil) rfl nb rfl)⟩)
  ·refine lg (cs := a0.toArray) d (mI rfl) (mD bZ aZ dB) (fun i8 c3 d => ?_)
   have m := d.has.kz (Db (Kb Sn))
   refine ⟨m, (XE 3 rfl (lg (cs := b7.toArray) d (mI rfl) (mD jS ja zeroValue197) (fun i9 f5 d => ?_)))⟩
   have m := d.has.kz (Db (Db (Kb Sn)))
   refine ⟨m, (bS z fun j7 e6 z => XE 4 rfl (Eg d call140 (la.mn (Cl (.slice none 0 0) ([]) (.slice (some ⟨f5, 0, none⟩) 1 1) ([a.Signed]) _ _ (Sl.nil _ _ _) ((nm.lit Da (l := [a.Signed]) (.cons (ys := C4 a.Signed.ky.Kind a.Signed.ky.Head.kE a.Signed.ky.Head.kT a.Signed.ky.lx a.Signed.ky.B.kE a.Signed.ky.B.kT a.Signed.ky.C.kE a.Signed.ky.C.kT a.Signed.ky.lU t a.Signed.Tag.length u) (vu.mk ⟨L, rfl, Q⟩) .nil) rfl nb rfl).sl Da d.kJ (fun b o n => (by rw [aO] at n; cases n; exact d.at_ Mh))) e6)) (fun j0 d => ?_)))⟩
   have m := d.has.kz (Db (Db (Kb Sn)))
   refine ⟨m, ?_⟩
   obtain rfl := sj z
   replace d := d.perm (Nb (Pb Pz) Nz)
   replace d := d.Ht
   refine nx kr (Z _ _ ⟨(.slice (some ⟨c3, 0, none⟩) 1 1), [(c3, Ol a0 57)], _, (d.kz (Sb (Pr (Pb Pz)) (Sb (Pr (Pb Pz)) (Kr (Db St))))), U, M, Y, A, s, rfl, rfl, rfl, (nm.lit lW (l := [a.lo]) (.cons (ys := C1 a.lo.Op a.lo.K a.lo.kw.kE a.lo.kw.kT g a.lo.Kids.length j) (kW.mk ⟨b8, rfl, T⟩) .nil) rfl nb rfl)⟩)
 rintro E W ⟨I, b1, ⟨s, A⟩, d, U, M, Y, H⟩
 rw [aG] at H
 refine kF (kO (sg (V (kD WH U) (VB d Mh rfl rfl isAgg50 (V (ly underlying50 rfl G) (Wm (ln ?_)))))))
 replace d := d.kz (Db St)
 refine CJ H (fun a7 E W => ∃ b6, ST false ll w W (hp w) b6 ∧ E 3 = (.int .i64 a7)) (fun a7 c8 => ?_) ?_
 ·refine lp (fun i E W => ∃ K a2, (E 34 = .int .i64 (i : Nat) ∧ E 33 = .int .i64 (x.oq.length : Nat)) ∧ ST false ll w W (hp w) a2 ∧ E 3 = (.int .i64 K) ∧ E 32 = k6 ∧ tG (x.oq.drop i) K = some a7) x.oq.length G.len ⟨I, _, ⟨rfl, rfl⟩, (d.kz St), M, rfl, c8⟩ dc dc dc (fun _ _ _ h => by obtain ⟨_, _, v, _⟩ := h; exact v) ?_ ?_
  ·rintro f1 E W c6 ⟨K, a2, ⟨s, A⟩, d, a4, a5, k⟩
   obtain ⟨c, g8, d3, d2, d4⟩ := lc c6
   rw [d3] at k
   refine bg (VQ (su (i := (f1 : Int)) (x0 := c) vc.out underlying50 sizeOf202 a5 s G (aD _) d2) (fun h5 ⟨_, ⟨h6, h7, rfl, a9, b0⟩, c9⟩ => V (kA rfl (lD d.has c9 isAgg202 sizeOf202)) (VE (lA d zeroValue202 (fun g9 h4 d => ?_)))))
   obtain ⟨B, D, rfl⟩ := a9.form
   let j1 : Value := (.slice B c.lo.Kids.length D)
   let d6 := (C1 c.lo.Op c.lo.K c.lo.kw.kE c.lo.kw.kT B c.lo.Kids.length D)
   obtain ⟨a1, a3, rfl⟩ := b0.form
   let k5 : Value := (.slice a1 c.qv.length a3)
   refine VO (lf (.agg #[(.string c.kw.kE), (.string c.kw.kT), (.int .i64 c.lo.Op), (.int .i64 c.lo.K), (.string c.lo.kw.kE), (.string c.lo.kw.kT), j1, k5]) (#[(.string c.kw.kE), (.string c.kw.kT), (.int .i64 c.lo.Op), (.int .i64 c.lo.K), (.string c.lo.kw.kE), (.string c.lo.kw.kT), j1, k5]) d rfl rfl sizeOf202 oc nb rfl (fun h0 d => ln ?_))
   replace d := d.drew
   have m := d.has.kz (Kb Sn)
   refine lG m lq (X 0 rfl m (kH a4) (X 1 rfl m (kD Pe rfl) (X 2 rfl m (kD oQ rfl) (XH 3 rfl m (fun _ q => kA rfl (kM q Mh rfl aY)) (X 4 rfl m (om bQ rfl) (X 5 rfl m (kD Pe rfl) (X 6 rfl m (kD vO rfl) (XH 7 rfl m (fun _ q => kA rfl (kM q Mh rfl aY)) (X 8 rfl m (om bQ rfl) (X 9 rfl m (lL rfl rfl rfl) (X 10 rfl m (kD UR rfl) (XH 11 rfl m (fun _ q => kA rfl (kI q Mh d6 rfl cx aZ)) (X 16 rfl m (kD Va rfl) (XH 17 rfl m (fun _ q => kA rfl (kM q Mh rfl iC)) ?_))))))))))))))
   refine XE 12 rfl (lg (cs := d6.toArray) d (mI rfl) (mD bZ aZ dB) (fun h1 d7 d => ?_))
   have m := d.has.kz (Db (Kb Sn))
   refine ⟨m, (bS k fun f2 d0 k => XE 13 rfl (Eg d call26 ((Au lC) (.slice (some ⟨d7, 0, none⟩) 1 1) ([c.lo]) _ _ ((nm.lit lW (l := [c.lo]) (.cons (ys := C1 c.lo.Op c.lo.K c.lo.kw.kE c.lo.kw.kT B c.lo.Kids.length D) (kW.mk ⟨j1, rfl, a9⟩) .nil) rfl nb rfl).sl lW d.kJ (fun b o n => (by rw [aO] at n; cases n; exact d.at_ Mh))) d0) (fun h2 d => ?_)))⟩
   have m := d.has.kz (Db (Kb Sn))
   refine ⟨m, (X 14 rfl m (lL rfl rfl rfl) (X 15 rfl m (lL rfl rfl rfl) (bS k fun f3 d1 k => XE 18 rfl (Eg d call11 (la.mn (Ai k5 c.qv _ _ (b0.mono (Pl.mono _) d.kJ) d1)) (fun h3 d => ?_)))))⟩
   have m := d.has.kz (Db (Kb Sn))
   refine ⟨m, (X 19 rfl m (lL rfl rfl rfl) (X 20 rfl m (lL rfl rfl rfl) (X 21 rfl m (mN rfl) (lT kr (lu (kF ?_))))))⟩
   replace d := d.kz (Db (Db St))
   exact ⟨s, (wi0 .i64 (K + (wi0 .i64 ((wi0 .i64 ((wi0 .i64 ((c.kw.kE.size : Int) + (c.kw.kT.size : Int))) + (wi0 .i64 (20 * f2)))) + f3)))), _, ⟨rfl, A⟩, (d.kz St), rfl, a5, (by rw [d4]; exact k)⟩
  rintro E W ⟨K, a2, ⟨s, A⟩, d, a4, a5, k⟩
  rw [aG] at k
  refine kF ?_
  obtain rfl := sj k
  exact ⟨_, (d.kz St), a4⟩
 rintro h8 E W ⟨b6, d, e0⟩ c7
 exact sg (Wh e0 (Wa (lt (rQ c7 d))))
theorem Mo (a : tH) (g k x H z G : Value) (r : Int) (w : World) (c : Sl oL 15 (hp w) g a.lR.nr) (j : Sl vc 8 (hp w) k a.lR.oq) (u : Sl (Pl kC) 9 (hp w) x a.lH) (D : Sl (Pl kC) 9 (hp w) H a.Shown) (y : Sl (Pl kx) 2 (hp w) z a.mA) (B : Sl (Pl kx) 2 (hp w) G a.qz) (hm : Ak a = some r) :
  la false pg0 25 [(.agg #[(.string a.lR.Name), g, k, (.string a.og), (.int .i64 a.Room), x, H, z, G])] w (.int .i64 r) := by
 refine cG 45 func25 rfl (fun d => sg ?_)
 obtain ⟨A1, c2, rfl⟩ := c.form
 obtain ⟨A3, s, rfl⟩ := j.form
 obtain ⟨A5, c6, rfl⟩ := u.form
 obtain ⟨A7, c8, rfl⟩ := D.form
 obtain ⟨A9, a5, rfl⟩ := y.form
 obtain ⟨a3, O, rfl⟩ := B.form
 refine VE (lB d rfl (fun e0 e7 d => Wa (ln (kO ?_))))
 replace d := d.drew
 have m := d.has.kz (Kb Sn)
 refine lG m lq (X 0 rfl m (kD Wt rfl) (XH 1 rfl m (fun _ n => kA rfl (kI n Mh [(.string a.lR.Name), (.slice A1 a.lR.nr.length c2), (.slice A3 a.lR.oq.length s)] rfl isAgg52 sizeOf52)) (X 3 rfl m (kD GS rfl) (XH 4 rfl m (fun _ n => kA rfl (kM n Mh rfl aY)) (X 5 rfl m (om bQ rfl) (X 7 rfl m (kD Du rfl) (XH 8 rfl m (fun _ n => kA rfl (kM n Mh rfl iC)) (X 11 rfl m (kD V8 rfl) (XH 12 rfl m (fun _ n => kA rfl (kM n Mh rfl iC)) (bS hm fun d0 b4 hm => XE 2 rfl (Eg d call71 (L5 a.lR (.slice A1 a.lR.nr.length c2) (.slice A3 a.lR.oq.length s) _ _ (c.mono AE.mono d.kJ) (j.mono I1.mono d.kJ) b4) (fun e1 d => ?_))))))))))))
 have m := d.has.kz (Kb Sn)
 refine ⟨m, (X 6 rfl m (lL rfl rfl rfl) (bS hm fun d1 b5 hm => XE 9 rfl (Eg d call11 (la.mn (Ai (.slice A5 a.lH.length c6) a.lH _ _ (u.mono (Pl.mono _) d.kJ) b5)) (fun e2 d => ?_))))⟩
 have m := d.has.kz (Kb Sn)
 refine ⟨m, (X 10 rfl m (lL rfl rfl rfl) (bS hm fun d2 b6 hm => XE 13 rfl (Eg d call11 (la.mn (Ai (.slice A7 a.Shown.length c8) a.Shown _ _ (D.mono (Pl.mono _) d.kJ) b6)) (fun e3 d => ?_))))⟩
 have m := d.has.kz (Kb Sn)
 refine ⟨m, (X 14 rfl m (lL rfl rfl rfl) (X 15 rfl m (mN rfl) (lT kr (kF (kO (kO ?_))))))⟩
 replace d := d.drew
 have m := d.has.kz (Kb Sn)
 refine lG m lq (X 1 rfl m (kD Xi rfl) (XH 2 rfl m (fun _ n => kA rfl (kM n Mh rfl dO)) (X 4 rfl m (kD WC rfl) (XH 5 rfl m (fun _ n => kA rfl (kM n Mh rfl dO)) (X 8 rfl m (kH rfl) (XE 0 rfl (lg (cs := #[]) d um (zB [] aF aC bP dc rfl (by simp) rfl rfl) (fun e4 a4 d => ?_))))))))
 have m := d.has.kz (Db (Kb Sn))
 refine ⟨m, (bS hm fun e8 b2 hm => XE 3 rfl (my (enc := kx) (v := (.slice (some ⟨a4, 0, none⟩) 0 0)) (vs := (.slice A9 a.mA.length a5)) (R := [(a4, Ob #[] 28)]) d mr dc mE aF mq.1 mq.2.1 rfl mq.2.2.1 mq.2.2.2 rfl rfl (kU.lit (l := []) (enc := kx) rfl dc rfl rfl) (y.mono (Pl.mono _) d.kJ) b2 (fun e5 d3 c3 d P => ?_)))⟩
 have m := d.has.kz (Dr (Kb Sn))
 refine ⟨m, (bS hm fun U b3 hm => XE 6 rfl (my (enc := kx) (v := d3) (vs := (.slice a3 a.qz.length O)) (R := c3) d mr dc mE aF mq.1 mq.2.1 rfl mq.2.2.1 mq.2.2.2 rfl rfl P (B.mono (Pl.mono _) d.kJ) b3 (fun e6 d4 c5 d K => ?_)))⟩
 have m := d.has.kz (Dr (Kb Sn))
 refine ⟨m, (X 7 rfl m (mP aF rfl K) (lT kr (kF ?_)))⟩
 replace d := d.kz (Kr (Db St))
 refine lp (fun i E W => ∃ J M, (E 29 = .int .i64 (i : Nat) ∧ E 28 = .int .i64 (U.length : Nat)) ∧ ST false ll w W (hp w) (c5 ++ M) ∧ E 3 = (.int .i64 J) ∧ E 27 = d4 ∧ tK (U.drop i) J = some r) U.length K.len ⟨(wi0 .i64 ((wi0 .i64 ((wi0 .i64 (d0 + (a.og.size : Int))) + d1)) + d2)), _, ⟨rfl, rfl⟩, (d.kz St), rfl, rfl, hm⟩ dc dc dc (fun _ _ _ h => by obtain ⟨_, _, q, _⟩ := h; exact q) ?_ ?_
 ·rintro b7 E W Y ⟨J, M, ⟨o, A⟩, d, N, Q, t⟩
  obtain ⟨I, d5, L, T, a2⟩ := lc Y
  rw [L] at t
  refine bg (VQ (mC (i := (b7 : Int)) (x0 := I) aF aC Q o K (aD _) T) (fun d9 Z => V (kA rfl (ot d.has (fun p hq => (Ml hq)) K mr Z T aN aC)) (VE (lA d bP (fun d6 d8 d => VO (lf (.agg (kx I).toArray) ((kx I).toArray) d rfl rfl aC (mE I) nb rfl (fun d7 d => ln (kL (Wh N (Wf oQ (VB d Mh rfl rfl aY (V (om bQ rfl) (Wi rfl ?_)))))))))))))
  refine Wf vO (VB d Mh rfl rfl aY (V (om bQ rfl) (Wi rfl (Wi rfl (Wa (lh (lu (kF ?_))))))))
  replace d := d.kz (Db St)
  exact ⟨o, (wi0 .i64 (J + (wi0 .i64 ((wi0 .i64 (5 + (I.kE.size : Int))) + (I.kT.size : Int))))), _, ⟨rfl, A⟩, (d.kz St), rfl, Q, (by rw [a2]; exact t)⟩
 rintro E W ⟨J, M, ⟨o, A⟩, d, N, Q, t⟩
 rw [aG] at t
 refine kF ?_
 replace d := d.kz (Dr St)
 exact sg (Wh N (Wa (lt (rQ t d))))
theorem Hp (G : Formula → Option Int) (K : ∀ (j : Formula) (g : Value) (r : Int) (w : World) (c : Sl kW 5 (hp w) g j.Kids), G j = some r → la false pg0 77 [(.agg #[(.int .i64 j.Op), (.int .i64 j.K), (.string j.kw.kE), (.string j.kw.kT), g])] w (.int .i64 r)) (j : Formula) (g : Value) (r : Int) (w : World) (c : Sl kW 5 (hp w) g j.Kids) (hm : yP G j = some r) :
  la false pg0 77 [(.agg #[(.int .i64 j.Op), (.int .i64 j.K), (.string j.kw.kE), (.string j.kw.kT), g])] w (.int .i64 r) := by
 refine cG 19 func77 rfl (fun d => sg ?_)
 obtain ⟨U, Y, rfl⟩ := c.form
 refine VE (lB d rfl (fun W4 A d => Wa (lr (Wa (lS (Wf uu (VB d Mh rfl rfl fa (V (ly bZ rfl c) ?_))))))))
 refine Wm (ln ?_)
 replace d := d.kz (Db St)
 refine lp (fun i E W => ∃ x z, (E 9 = .int .i64 (i : Nat) ∧ E 8 = .int .i64 (j.Kids.length : Nat)) ∧ ST false ll w W (hp w) z ∧ E 3 = (.int .i64 x) ∧ E 7 = (.slice U j.Kids.length Y) ∧ tD G (j.Kids.drop i) x = some r) j.Kids.length c.len ⟨1, _, ⟨rfl, rfl⟩, (d.kz St), rfl, rfl, hm⟩ dc dc dc (fun _ _ _ h => by obtain ⟨_, _, n, _⟩ := h; exact n) ?_ ?_
 ·rintro Z E W J ⟨x, z, ⟨m, o⟩, d, B, D, k⟩
  obtain ⟨a, v, N, M, Q⟩ := lc J
  rw [N] at k
  refine bg (VQ (su (i := (Z : Int)) (x0 := a) kW.out bZ aZ D m c (aD _) M) (fun a5 ⟨_, ⟨s, rfl, y⟩, H⟩ => V (kA rfl (lD d.has H cx aZ)) (VE (lA d dB (fun q a4 d => ?_)))))
  obtain ⟨t, u, rfl⟩ := y.form
  let a0 := (C1 a.Op a.K a.kw.kE a.kw.kT t a.Kids.length u)
  refine VO (lf (.agg a0.toArray) (a0.toArray) d rfl rfl aZ oc nb rfl (fun a2 d => ln (kL (Wh B (VA d Mh a0 cx aZ (bS k fun T I k => VE (Eg d call77 (K a (.slice t a.Kids.length u) _ _ (y.mono lW.mono d.kJ) I) (fun a3 d => Wi rfl (Wa (lh (lu (kF ?_))))))))))))
  replace d := d.kz (Db St)
  exact ⟨m, (wi0 .i64 (x + T)), _, ⟨rfl, o⟩, (d.kz St), rfl, D, (by rw [Q]; exact k)⟩
 rintro E W ⟨x, z, ⟨m, o⟩, d, B, D, k⟩
 rw [aG] at k
 exact kF (sg (Wh B (Wa (lt (rQ k d)))))
theorem Gq : ∀ (n : Nat) (c : Formula) (a : Value) (r : Int) (w : World) (g : Sl kW 5 (hp w) a c.Kids) (_ : sO n c = some r),
  la false pg0 77 [(.agg #[(.int .i64 c.Op), (.int .i64 c.K), (.string c.kw.kE), (.string c.kw.kT), a])] w (.int .i64 r)
 | 0 => by intros; rename_i h; simp only [sO] at h; cases h
 | n + 1 => Hp (sO n) (Gq n)
theorem Ia (I : Formula → Option Int) (N : ∀ (j : Formula) (g : Value) (r : Int) (w : World) (c : Sl kW 5 (hp w) g j.Kids), I j = some r → la false pg0 78 [(.agg #[(.int .i64 j.Op), (.int .i64 j.K), (.string j.kw.kE), (.string j.kw.kT), g])] w (.int .i64 r)) (j : Formula) (g : Value) (r : Int) (w : World) (c : Sl kW 5 (hp w) g j.Kids) (hm : zM I j = some r) :
  la false pg0 78 [(.agg #[(.int .i64 j.Op), (.int .i64 j.K), (.string j.kw.kE), (.string j.kw.kT), g])] w (.int .i64 r) := by
 refine cG 20 func78 rfl (fun d => sg ?_)
 obtain ⟨Y, Z, rfl⟩ := c.form
 refine VE (lB d rfl (fun W4 L d => Wa (lr (Wa (lS (Wf uu (VB d Mh rfl rfl fa (V (ly bZ rfl c) ?_))))))))
 refine Wm (ln ?_)
 replace d := d.kz (Db St)
 refine lp (fun i E W => ∃ u B, (E 9 = .int .i64 (i : Nat) ∧ E 8 = .int .i64 (j.Kids.length : Nat)) ∧ ST false ll w W (hp w) B ∧ E 3 = (.int .i64 u) ∧ E 7 = (.slice Y j.Kids.length Z) ∧ uA I (j.Kids.drop i) u = some r) j.Kids.length c.len ⟨0, _, ⟨rfl, rfl⟩, (d.kz St), rfl, rfl, hm⟩ dc dc dc (fun _ _ _ h => by obtain ⟨_, _, n, _⟩ := h; exact n) ?_ ?_
 ·rintro q E W M ⟨u, B, ⟨m, o⟩, d, D, G, t⟩
  obtain ⟨a, A, T, Q, U⟩ := lc M
  rw [T] at t
  refine bg (VQ (su (i := (q : Int)) (x0 := a) kW.out bZ aZ G m c (aD _) Q) (fun s ⟨_, ⟨v, rfl, z⟩, J⟩ => V (kA rfl (lD d.has J cx aZ)) (VE (lA d dB (fun a2 a5 d => ?_)))))
  obtain ⟨x, y, rfl⟩ := z.form
  let a0 := (C1 a.Op a.K a.kw.kE a.kw.kT x a.Kids.length y)
  refine VO (lf (.agg a0.toArray) (a0.toArray) d rfl rfl aZ oc nb rfl (fun a3 d => ln (kL (Wh D (VA d Mh a0 cx aZ (bS t fun H K t => VE (Eg d call78 (N a (.slice x a.Kids.length y) _ _ (z.mono lW.mono d.kJ) K) (fun a4 d => V (N7 (k := .i64) rfl rfl) (Wa (lh (lu (kF ?_))))))))))))
  replace d := d.kz (Db St)
  exact ⟨m, (if H > u then H else u), _, ⟨rfl, o⟩, (d.kz St), rfl, G, (by rw [U]; exact t)⟩
 rintro E W ⟨u, B, ⟨m, o⟩, d, D, G, t⟩
 rw [aG] at t
 exact kF (sg (Wh D (Wi rfl (Wa (lt (rQ t d))))))
theorem G0 : ∀ (n : Nat) (c : Formula) (a : Value) (r : Int) (w : World) (g : Sl kW 5 (hp w) a c.Kids) (_ : ud n c = some r),
  la false pg0 78 [(.agg #[(.int .i64 c.Op), (.int .i64 c.K), (.string c.kw.kE), (.string c.kw.kT), a])] w (.int .i64 r)
 | 0 => by intros; rename_i h; simp only [ud] at h; cases h
 | n + 1 => Ia (ud n) (G0 n)
theorem ya (M : ByteArray) (r : Bool) (w : World) (hm : sQ M = some r) :
  la true pg0 138 [(.string M)] w (.bool r) := by
 refine cG 49 func138 rfl (fun d => sg (Wa (lS (Wm (V (rU rfl rfl rfl) (Wm (LJ hm (fun c7 E W => ∃ L3, ST true ll w W (hp w) L3 ∧ E 0 = (.string M) ∧ E 11 = (.bool c7)) 4 ?_ (fun c7 K a5 => ?_))))))))
 ·rintro x2 E W ⟨L3, d, s, e6⟩ f7
  refine Wh e6 (LJ f7 (fun c6 E W => ∃ d3, ST true ll w W (hp w) d3 ∧ E 0 = (.string M) ∧ E 16 = (.bool c6)) 4 ?_ (fun c6 x a4 => ?_))
  ·rintro g4 E W ⟨d3, d, q, f4⟩ f0
   refine Wh f4 (LJ f0 (fun c5 E W => ∃ d4, ST true ll w W (hp w) d4 ∧ E 0 = (.string M) ∧ E 21 = (.bool c5)) 4 ?_ (fun c5 u a3 => ?_))
   ·rintro g7 E W ⟨d4, d, f5, f6⟩ Q
    refine ln (CI Q f6 (fun e9 Q => ?_) (fun e9 Q => ?_))
    ·refine sg (Wa (lt (lb ?_)))
     obtain rfl := sj Q
     exact rP d
    refine kS (Wa (ln (mK (od (fun m E W => ∃ y O, ST true ll w W (hp w) O ∧ E 0 = (.string M) ∧ E 3 = (.int .i64 y) ∧ rC M m y = some r) lC ⟨0, _, (d.kz St), f5, rfl, Q⟩ ?_))))
    rintro m E W ⟨y, O, d, T, U, c⟩
    cases m with
    | zero => rw [rC] at c; cases c
    | succ f1 =>
     refine kO (sg (Wh U (Wh T (V (om bQ rfl) (Wi rfl (ln (CI c rfl (fun c8 c => ?_) (fun c8 c => ?_))))))))
     ·refine kn (kO (bg (Wh T (Wh U (bS c fun h a9 c => V (CU (i := y) bQ rfl rfl (BQ a9) (FX a9)) (Wa (lr ?_)))))))
      refine Wm (Wi rfl (Wm (LJ c (fun c4 E W => ∃ P, ST true ll w W (hp w) P ∧ E 0 = (.string M) ∧ E 3 = (.int .i64 y) ∧ E 4 = (.int .u8 (h.toNat : Int)) ∧ E 36 = (.bool c4)) 3 ?_ (fun c4 J a2 => ?_))))
      ·rintro f2 E W ⟨P, d, n, o, N, d5⟩ d0
       refine Wh d5 (LJ d0 (fun c2 E W => ∃ R, ST true ll w W (hp w) R ∧ E 0 = (.string M) ∧ E 3 = (.int .i64 y) ∧ E 4 = (.int .u8 (h.toNat : Int)) ∧ E 44 = (.bool c2)) 7 ?_ (fun c2 H Z => ?_))
       ·rintro g1 E W ⟨R, d, b9, c0, d6, d7⟩ d1
        refine Wh d7 (LJ d1 (fun c1 E W => ∃ b5, ST true ll w W (hp w) b5 ∧ E 0 = (.string M) ∧ E 3 = (.int .i64 y) ∧ E 48 = (.bool c1)) 3 ?_ (fun c1 G Y => ?_))
        ·rintro g2 E W ⟨b5, d, d8, d9, e0⟩ D
         refine ln (CI D e0 (fun c9 D => ?_) (fun c9 D => ?_))
         ·refine sg (Wa (lt (me (lb (lb (me (lb ?_)))))))
          obtain rfl := sj D
          exact rP d
         exact lz (lu (kF (kL (Wh d9 (Wi rfl (Wa (ln ⟨f1, bT _, (wi0 .i64 (y + 1)), _, (d.kz St), d8, rfl, D⟩)))))))
        refine bC G (fun k G => ?_) (fun k G => ?_)
        ·refine ug k (kH d6) (ug k (lL rfl rfl rfl) (V (kR (cB k) rfl) ?_))
         obtain rfl := sj G
         exact Y _ _ ⟨_, (d.kz St), b9, c0, rfl⟩
        refine un k (un k (V (kQ (cB k) rfl) ?_))
        obtain rfl := sj G
        exact Y _ _ ⟨_, (d.kz St), b9, c0, rfl⟩
       refine bC H (fun a H => ?_) (fun a H => ?_)
       ·refine ug a (kH N) (ug a (lL rfl rfl rfl) (ug a (kH rfl) (LJ H (fun c3 E W => ∃ b6, ST true ll w W (hp w) b6 ∧ E 0 = (.string M) ∧ E 3 = (.int .i64 y) ∧ E 4 = (.int .u8 (h.toNat : Int)) ∧ E 37 = (.bool f2) ∧ E 43 = (.bool c3)) 3 ?_ (fun c3 I v => ?_))))
        ·rintro g3 E W ⟨b6, d, e1, e2, e3, e4, e7⟩ d2
         refine V (kR (e4.trans (cB a)) e7) ?_
         obtain rfl := sj d2
         exact Z _ _ ⟨_, (d.kz St), e1, e2, e3, rfl⟩
        refine bC I (fun t I => ?_) (fun t I => ?_)
        ·refine un t (un t (ug a (kR (cB t) rfl) ?_))
         obtain rfl := sj I
         exact v _ _ ⟨_, (d.kz St), n, o, N, rfl, rfl⟩
        refine ug t (kH N) (ug t (lL rfl rfl rfl) (ug a (kQ (cB t) rfl) ?_))
        obtain rfl := sj I
        exact v _ _ ⟨_, (d.kz St), n, o, N, rfl, rfl⟩
       refine un a (un a (un a (Vu rfl rfl (Vu rfl rfl (un a (V (kQ (cB a) rfl) ?_))))))
       obtain rfl := sj H
       exact Z _ _ ⟨_, (d.kz St), n, o, N, rfl⟩
      refine bC J (fun j J => ?_) (fun j J => ?_)
      ·refine un j (un j (V (kR (cB j) rfl) ?_))
       obtain rfl := sj J
       exact a2 _ _ ⟨_, (d.kz St), T, U, rfl, rfl⟩
      refine ug j (kH rfl) (ug j (lL rfl rfl rfl) (V (kQ (cB j) rfl) ?_))
      obtain rfl := sj J
      exact a2 _ _ ⟨_, (d.kz St), T, U, rfl, rfl⟩
     exact ob (nN (nN (uf (kF (sg (Wa (lt (rQ c d))))))))
   refine bC u (fun g u => ?_) (fun g u => ?_)
   ·refine un g (un g (un g (V (kR (cB g) rfl) ?_)))
    obtain rfl := sj u
    exact a3 _ _ ⟨_, (d.kz St), q, rfl⟩
   refine ug g (kH q) (bS u fun f8 A u => ug g (CU (i := 0) bQ rfl rfl (BQ A) (FX A)) (ug g (lL rfl rfl rfl) (V (kQ (cB g) rfl) ?_)))
   obtain rfl := sj u
   exact a3 _ _ ⟨_, (d.kz St), q, rfl⟩
  refine bC x (fun B x => ?_) (fun B x => ?_)
  ·refine un B (un B (un B (V (kR (cB B) rfl) ?_)))
   obtain rfl := sj x
   exact a4 _ _ ⟨_, (d.kz St), s, rfl⟩
  refine ug B (kH s) (bS x fun f9 L x => ug B (CU (i := 0) bQ rfl rfl (BQ L) (FX L)) (ug B (lL rfl rfl rfl) (V (kQ (cB B) rfl) ?_)))
  obtain rfl := sj x
  exact a4 _ _ ⟨_, (d.kz St), s, rfl⟩
 refine bC K (fun z K => ?_) (fun z K => ?_)
 ·refine un z (un z (un z (V (kR (cB z) rfl) ?_)))
  obtain rfl := sj K
  exact a5 _ _ ⟨_, (d.kz St), rfl, rfl⟩
 refine ug z (kH rfl) (ug z (om bQ rfl) (ug z (lL rfl rfl rfl) (V (kQ (cB z) rfl) ?_)))
 obtain rfl := sj K
 exact a5 _ _ ⟨_, (d.kz St), rfl, rfl⟩
theorem xY (i : kw) (r : Bool) (w : World) (hm : sS i = some r) :
  la true pg0 88 [(.agg (kx i).toArray)] w (.bool r) := by
 refine cG 11 func88 rfl (fun d => sg (VE (lB d rfl (fun H J d => Wa (lr (Wf oQ (VB d Mh rfl rfl aY (bS hm fun K y hm => VE (Eg d call138 (ya i.kE _ _  y) (fun I d => Wm (LJ hm (fun k E W => ∃ j, ST true ll w W (hp w) j ∧ E 2 = (.bool false) ∧ E 10 = (.bool k)) 4 ?_ (fun k a g => ?_))))))))))))
 ·rintro G E W ⟨j, d, B, x⟩ t
  exact Wg x (lt (rQ t d))
 refine bC a (fun c a => ?_) (fun c a => ?_)
 ·refine ug c (kD vO rfl) (ug c (kA rfl (kM d.has Mh rfl aY)) (bS a fun D u a => pX c (Eg d call138 (ya i.kT _ _  u) (fun z d => V (kR (cB c) rfl) ?_))))
  obtain rfl := sj a
  exact g _ _ ⟨_, (d.kz (Db St)), rfl, rfl⟩
 refine un c (un c (un c (V (kQ (cB c) rfl) ?_)))
 obtain rfl := sj a
 exact g _ _ ⟨_, (d.kz (Db St)), rfl, rfl⟩
set_option maxHeartbeats 4000000 in
theorem H8 (d8 : Formula → Option Bool) (i9 : ∀ (a : Formula) (x : Value) (r : Bool) (w : World) (k : Sl kW 5 (hp w) x a.Kids), d8 a = some r → la false pg0 79 [(.agg #[(.int .i64 a.Op), (.int .i64 a.K), (.string a.kw.kE), (.string a.kw.kT), x])] w (.bool r)) (a : Formula) (x : Value) (r : Bool) (w : World) (k : Sl kW 5 (hp w) x a.Kids) (hm : zJ d8 a = some r) :
  la false pg0 79 [(.agg #[(.int .i64 a.Op), (.int .i64 a.K), (.string a.kw.kE), (.string a.kw.kT), x])] w (.bool r) := by
 refine cG 81 func79 rfl (fun d => sg ?_)
 obtain ⟨A1, c2, rfl⟩ := k.form
 let b8 := (C1 a.Op a.K a.kw.kE a.kw.kT A1 a.Kids.length c2)
 refine VE (lB d rfl (fun W4 H d => Wa (lr (Wf uu (VB d Mh rfl rfl fa (V (ly bZ rfl k) (Wa (lS ?_))))))))
 refine Wf wS (VB d Mh rfl rfl cC (Wi rfl (ln (CI hm rfl (fun k0 hm => ?_) (fun k0 hm => ?_)))))
 ·refine sg (Wf yI (VA d Mh (kx a.kw) aN aC (bS hm fun r6 k1 hm => VE (Eg d call88 (la.mn (xY a.kw _ _  k1)) (fun W8 d => Wm (LJ hm (fun h2 E W => ∃ f9, ST false ll w W (hp w) ((H, Ol b8 57) :: f9) ∧ E 1 = (.pointer (some ⟨H, 0, none⟩)) ∧ E 2 = (.bool false) ∧ E 18 = (.bool h2)) 3 ?_ (fun h2 o c8 => ?_)))))))
  ·rintro l5 E W ⟨f9, d, j3, g7, j4⟩ i4
   refine Wh j4 (LJ i4 (fun h1 E W => ∃ g0, ST false ll w W (hp w) g0 ∧ E 2 = (.bool false) ∧ E 23 = (.bool h1)) 4 ?_ (fun h1 a5 c7 => ?_))
   ·rintro l6 E W ⟨g0, d, l4, j5⟩ i5
    refine Wg j5 (lt (lb ?_))
    obtain rfl := sj i5
    exact rP d
   refine bC a5 (fun B a5 => ?_) (fun B a5 => ?_)
   ·refine ug B (kD zV j3) (ug B (kA rfl (kM d.has Mh rfl cC)) (ug B (lL rfl rfl rfl) (V (kR (cB B) rfl) ?_)))
    obtain rfl := sj a5
    exact c7 _ _ ⟨_, (d.kz (Db St)), g7, rfl⟩
   refine un B (un B (un B (V (kQ (cB B) rfl) ?_)))
   obtain rfl := sj a5
   exact c7 _ _ ⟨_, (d.kz (Db St)), g7, rfl⟩
  refine bC o (fun a4 o => ?_) (fun a4 o => ?_)
  ·refine ug a4 (kH rfl) (ug a4 (lL rfl rfl rfl) (V (kR (cB a4) rfl) ?_))
   obtain rfl := sj o
   exact c8 _ _ ⟨_, (d.kz St), rfl, rfl, rfl⟩
  refine un a4 (un a4 (V (kQ (cB a4) rfl) ?_))
  obtain rfl := sj o
  exact c8 _ _ ⟨_, (d.kz St), rfl, rfl, rfl⟩
 let a0 := (b8.toArray : Array Value)
 let m : Value := (.pointer (some ⟨H, 0, none⟩))
 refine kS (Wf wS (VB d Mh rfl rfl cC (Wi rfl (Wm (LJ hm (fun e6 E W => ∃ g1, ST false ll w W (hp w) ((H, Obj.cells a0 57 (0, 0)) :: g1) ∧ E 1 = m ∧ E 3 = (.int .i64 (a.Kids.length : Int)) ∧ E 31 = (.bool e6)) 4 ?_ (fun e6 Z c0 => ?_))))))
 ·let s : Value := (.int .i64 (a.Kids.length : Int))
  rintro l7 E W ⟨g1, d, d5, g8, j6⟩ i6
  refine Wh j6 (LJ i6 (fun e5 E W => ∃ g2, ST false ll w W (hp w) ((H, Obj.cells a0 57 (0, 0)) :: g2) ∧ E 1 = m ∧ E 3 = s ∧ E 37 = (.bool e5)) 5 ?_ (fun e5 Y b9 => ?_))
  ·rintro l8 E W ⟨g2, d, g9, d6, j7⟩ i7
   refine Wh j7 (LJ i7 (fun e4 E W => ∃ g3, ST false ll w W (hp w) ((H, Obj.cells a0 57 (0, 0)) :: g3) ∧ E 1 = m ∧ E 3 = s ∧ E 41 = (.bool e4)) 3 ?_ (fun e4 U b7 => ?_))
   ·rintro l9 E W ⟨g3, d, A, h0, j8⟩ q
    refine ln (CI q j8 (fun i3 q => ?_) (fun i3 q => ?_))
    ·refine sg (Wa (ln ?_))
     replace d := d.kz (Db St)
     refine lj (lb ?_)
     obtain rfl := sj q
     exact rP d
    refine kS (V (kD wS A) (VB d Mh rfl rfl cC (Wi rfl (Wm (LJ q (fun e3 E W => ∃ g4, ST false ll w W (hp w) ((H, Obj.cells a0 57 (0, 0)) :: g4) ∧ E 1 = m ∧ E 3 = s ∧ E 49 = (.bool e3)) 4 ?_ (fun e3 T b6 => ?_))))))
    ·rintro P E W ⟨g4, d, n, d7, j9⟩ i8
     refine Wh j9 (LJ i8 (fun d9 E W => ∃ c9, ST false ll w W (hp w) ((H, Obj.cells a0 57 (0, 0)) :: c9) ∧ E 1 = m ∧ E 69 = (.bool d9)) 19 ?_ (fun d9 K b1 => ?_))
     ·rintro l0 E W ⟨c9, d, h3, h4⟩ J
      refine ln (CI J h4 (fun e8 J => ?_) (fun e8 J => ?_))
      ·refine sg (Wa (ln ?_))
       replace d := d.kz (Db St)
       refine lj (lb ?_)
       obtain rfl := sj J
       exact rP d
      refine kS (V (kD uu h3) (VB d Mh rfl rfl fa (V (ly bZ rfl k) (Wm (ln ?_)))))
      replace d := d.kz (Db St)
      refine lp (fun i E W => ∃ c1, (E 73 = .int .i64 (i : Nat) ∧ E 72 = .int .i64 (a.Kids.length : Nat)) ∧ ST false ll w W (hp w) c1 ∧ E 71 = (.slice A1 a.Kids.length c2) ∧ uM d8 (a.Kids.drop i) = some r) a.Kids.length k.len ⟨_, ⟨rfl, rfl⟩, (d.kz St), rfl, J⟩ dc dc dc (fun _ _ _ h => by obtain ⟨_, aa, _⟩ := h; exact aa) ?_ ?_
      ·rintro j0 E W f0 ⟨c1, ⟨R, eN⟩, d, L, j⟩
       obtain ⟨g, k2, f7, f6, f8⟩ := lc f0
       rw [f7] at j
       refine bg (VQ (su (i := (j0 : Int)) (x0 := g) kW.out bZ aZ L R k (aD _) f6) (fun k7 ⟨_, ⟨k9, rfl, c6⟩, f4⟩ => V (kA rfl (lD d.has f4 cx aZ)) (VE (lA d dB (fun k3 k6 d => ?_)))))
       obtain ⟨a9, b0, rfl⟩ := c6.form
       let a2 := (C1 g.Op g.K g.kw.kE g.kw.kT a9 g.Kids.length b0)
       refine VO (lf (.agg a2.toArray) (a2.toArray) d rfl rfl aZ oc nb rfl (fun k4 d => lr (VA d Mh a2 cx aZ (bS j fun k8 f5 j => VE (Eg d call79 (i9 g (.slice a9 g.Kids.length b0) _ _ (c6.mono lW.mono d.kJ) f5) (fun k5 d => V (mQ rfl) (ln ?_)))))))
       replace d := d.kz (Db St)
       refine CI j rfl (fun e9 j => ?_) (fun e9 j => ?_)
       ·refine sg (Wa (lt (me (lb (me (lb ?_))))))
        obtain rfl := sj j
        exact rP d
       exact lz (lu (kF ⟨R, _, ⟨rfl, eN⟩, (d.kz St), L, (by rw [f8]; exact j)⟩))
      rintro E W ⟨c1, ⟨R, eN⟩, d, L, j⟩
      rw [aG] at j
      exact kF (sg (Wa (lt (rQ j d))))
     refine bC K (fun u K => ?_) (fun u K => ?_)
     ·refine un u (un u (un u (un u (Vu rfl rfl (Vu rfl rfl (Vu rfl rfl (Vu rfl rfl (Vu rfl rfl (Vu rfl rfl (Vu rfl rfl (Vu rfl rfl (Vu rfl rfl (Vu rfl rfl (Vu rfl rfl ?_))))))))))))))
      refine Vu rfl rfl (Vu rfl rfl (un u (V (kR (cB u) rfl) ?_)))
      obtain rfl := sj K
      exact b1 _ _ ⟨_, (d.kz St), n, rfl⟩
     refine ug u (kD wS n) (ug u (kA rfl (kM d.has Mh rfl cC)) (ug u (lL rfl rfl rfl) (ug u (kH rfl) (LJ K (fun e0 E W => ∃ d0, ST false ll w W (hp w) ((H, Obj.cells a0 57 (0, 0)) :: d0) ∧ E 1 = m ∧ E 50 = (.bool P) ∧ E 68 = (.bool e0)) 14 ?_ (fun e0 M b2 => ?_)))))
     ·rintro l1 E W ⟨d0, d, h5, h6, h7⟩ f1
      refine V (kQ (h6.trans (cB u)) h7) ?_
      obtain rfl := sj f1
      exact b1 _ _ ⟨_, (d.kz St), h5, rfl⟩
     refine bC M (fun c M => ?_) (fun c M => ?_)
     ·refine ug c (kH d7) (ug c (lL rfl rfl rfl) (ug c (kH rfl) (LJ M (fun e2 E W => ∃ d1, ST false ll w W (hp w) ((H, Obj.cells a0 57 (0, 0)) :: d1) ∧ E 1 = m ∧ E 3 = s ∧ E 50 = (.bool P) ∧ E 54 = (.bool (a.Op == 4)) ∧ E 61 = (.bool e2)) 4 ?_ (fun e2 Q b5 => ?_))))
      ·rintro l2 E W ⟨d1, d, O, h8, d3, a3, h9⟩ f2
       refine Vg rfl (a3.trans (cB c)) (kH h9) (LJ f2 (fun e1 E W => ∃ d2, ST false ll w W (hp w) ((H, Obj.cells a0 57 (0, 0)) :: d2) ∧ E 1 = m ∧ E 50 = (.bool P) ∧ E 54 = (.bool (a.Op == 4)) ∧ E 67 = (.bool e1)) 5 ?_ (fun e1 N b4 => ?_))
       ·rintro l3 E W ⟨d2, d, i0, d4, i1, i2⟩ f3
        refine Vg rfl (d4.trans (cB u)) (kR (i1.trans (cB c)) i2) ?_
        obtain rfl := sj f3
        exact b2 _ _ ⟨_, (d.kz St), i0, d4, rfl⟩
       refine bC N (fun t N => ?_) (fun t N => ?_)
       ·refine un t (un t (un t (un t (Vg rfl (a3.trans (cB c)) (kR (cB t) rfl) ?_))))
        obtain rfl := sj N
        exact b4 _ _ ⟨_, (d.kz St), O, d3, a3, rfl⟩
       refine ug t (kD zV O) (ug t (kA rfl (kM d.has Mh rfl cC)) (ug t (kH h8) (ug t (lL rfl rfl rfl) (Vg rfl (a3.trans (cB c)) (kQ (cB t) rfl) ?_))))
       obtain rfl := sj N
       exact b4 _ _ ⟨_, (d.kz St), O, d3, a3, rfl⟩
      refine bC Q (fun y Q => ?_) (fun y Q => ?_)
      ·refine un y (un y (un y (ug c (kR (cB y) rfl) ?_)))
       obtain rfl := sj Q
       exact b5 _ _ ⟨_, (d.kz St), n, d7, rfl, rfl, rfl⟩
      refine ug y (kD zV n) (ug y (kA rfl (kM d.has Mh rfl cC)) (ug y (lL rfl rfl rfl) (ug c (kQ (cB y) rfl) ?_)))
      obtain rfl := sj Q
      exact b5 _ _ ⟨_, (d.kz St), n, d7, rfl, rfl, rfl⟩
     refine un c (un c (un c (Vu rfl rfl (Vu rfl rfl (Vu rfl rfl (un c (un c (Vu rfl rfl (Vu rfl rfl (Vu rfl rfl (Vu rfl rfl (un c (ug u (kQ (cB c) rfl) ?_)))))))))))))
     obtain rfl := sj M
     exact b2 _ _ ⟨_, (d.kz St), n, rfl, rfl⟩
    refine bC T (fun G T => ?_) (fun G T => ?_)
    ·refine ug G (kD zV A) (ug G (kA rfl (kM d.has Mh rfl cC)) (ug G (lL rfl rfl rfl) (V (kR (cB G) rfl) ?_)))
     obtain rfl := sj T
     exact b6 _ _ ⟨_, (d.kz St), A, h0, rfl⟩
    refine un G (un G (un G (V (kQ (cB G) rfl) ?_)))
    obtain rfl := sj T
    exact b6 _ _ ⟨_, (d.kz St), A, h0, rfl⟩
   refine bC U (fun I U => ?_) (fun I U => ?_)
   ·refine un I (un I (V (kR (cB I) rfl) ?_))
    obtain rfl := sj U
    exact b7 _ _ ⟨_, (d.kz St), g9, d6, rfl⟩
   refine ug I (kH d6) (ug I (lL rfl rfl rfl) (V (kQ (cB I) rfl) ?_))
   obtain rfl := sj U
   exact b7 _ _ ⟨_, (d.kz St), g9, d6, rfl⟩
  refine bC Y (fun z Y => ?_) (fun z Y => ?_)
  ·refine un z (un z (un z (un z (V (kR (cB z) rfl) ?_))))
   obtain rfl := sj Y
   exact b9 _ _ ⟨_, (d.kz St), d5, g8, rfl⟩
  refine ug z (kD yI d5) (ug z (kA rfl (kI d.has Mh (kx a.kw) rfl aN aC)) (ug z (nc (v := (.agg (kx K0).toArray)) um (mB bP cI (G5 _ cI) kr)) (ug z (EB rfl rfl (mY cQ) (AI (nJ _ a.kw K0))) (V (kQ (cB z) rfl) ?_))))
  obtain rfl := sj Y
  exact b9 _ _ ⟨_, (d.kz St), d5, g8, rfl⟩
 refine bC Z (fun D Z => ?_) (fun D Z => ?_)
 ·refine un D (un D (un D (V (kR (cB D) rfl) ?_)))
  obtain rfl := sj Z
  exact c0 _ _ ⟨_, (d.kz St), rfl, rfl, rfl⟩
 refine ug D (kD wS rfl) (ug D (kA rfl (kM d.has Mh rfl cC)) (ug D (lL rfl rfl rfl) (V (kQ (cB D) rfl) ?_)))
 obtain rfl := sj Z
 exact c0 _ _ ⟨_, (d.kz St), rfl, rfl, rfl⟩
theorem Hx : ∀ (n : Nat) (c : Formula) (a : Value) (r : Bool) (w : World) (g : Sl kW 5 (hp w) a c.Kids) (_ : ur n c = some r),
  la false pg0 79 [(.agg #[(.int .i64 c.Op), (.int .i64 c.K), (.string c.kw.kE), (.string c.kw.kT), a])] w (.bool r)
 | 0 => by intros; rename_i h; simp only [ur] at h; cases h
 | n + 1 => H8 (ur n) (Hx n)
theorem Gy (a : Formula) (t : Value) (r : Bool) (w : World) (c : Sl kW 5 (hp w) t a.Kids) (hm : xU a = some r) :
  la false pg0 29 [(.agg #[(.int .i64 a.Op), (.int .i64 a.K), (.string a.kw.kE), (.string a.kw.kT), t])] w (.bool r) := by
 refine cG 15 func29 rfl (fun d => sg ?_)
 obtain ⟨u, x, rfl⟩ := c.form
 let h : Value := (.slice u a.Kids.length x)
 let a0 := (C1 a.Op a.K a.kw.kE a.kw.kT u a.Kids.length x)
 refine VE (lB d rfl (fun W4 Q d => Wa (lr (VA d Mh a0 cx aZ (bS hm fun q Z hm => VE (Eg d call77 ((Gq lC) a h _ _ (c.mono lW.mono d.kJ) Z) (fun W7 d => Wi rfl (Wm (LJ hm (fun I E W => ∃ B, ST false ll w W (hp w) ((Q, Ol a0 57) :: B) ∧ E 1 = (.pointer (some ⟨Q, 0, none⟩)) ∧ E 2 = (.bool false) ∧ E 10 = (.bool I)) 4 ?_ (fun I j z => ?_))))))))))
 ·rintro n E W ⟨B, d, T, G, U⟩ J
  refine Wh U (LJ J (fun H E W => ∃ D, ST false ll w W (hp w) D ∧ E 2 = (.bool false) ∧ E 14 = (.bool H)) 3 ?_ (fun H i y => ?_))
  ·rintro o E W ⟨D, d, a3, Y⟩ K
   exact Wg Y (lt (rQ K d))
  refine bC i (fun g i => ?_) (fun g i => ?_)
  ·refine ug g (kA T (kI d.has Mh a0 rfl cx aZ)) (bS i fun a4 M i => pX g (Eg d call79 ((Hx lC) a h _ _ (c.mono lW.mono d.kJ) M) (fun m d => V (kR (cB g) rfl) ?_)))
   obtain rfl := sj i
   exact y _ _ ⟨_, (d.kz (Db St)), G, rfl⟩
  refine un g (un g (V (kQ (cB g) rfl) ?_))
  obtain rfl := sj i
  exact y _ _ ⟨_, (d.kz (Db St)), G, rfl⟩
 refine bC j (fun k j => ?_) (fun k j => ?_)
 ·refine ug k (kA rfl (kI d.has Mh a0 rfl cx aZ)) (bS j fun a5 N j => pX k (Eg d call78 ((G0 lC) a h _ _ (c.mono lW.mono d.kJ) N) (fun a2 d => ug k (lL rfl rfl rfl) (V (kR (cB k) rfl) ?_))))
  obtain rfl := sj j
  exact z _ _ ⟨_, (d.kz St), rfl, rfl, rfl⟩
 refine un k (un k (un k (V (kQ (cB k) rfl) ?_)))
 obtain rfl := sj j
 exact z _ _ ⟨_, (d.kz St), rfl, rfl, rfl⟩
theorem HF (N : Formula → Option (List kw)) (O : ∀ (g : Formula) (k : Value) (r : List kw) (w : World) (j : Sl kW 5 (hp w) k g.Kids), N g = some r → lK false pg0 80 [(.agg #[(.int .i64 g.Op), (.int .i64 g.K), (.string g.kw.kE), (.string g.kw.kT), k])] w 28 kx 2 r) (g : Formula) (k : Value) (r : List kw) (w : World) (j : Sl kW 5 (hp w) k g.Kids) (hm : yM N g = some r) :
  lK false pg0 80 [(.agg #[(.int .i64 g.Op), (.int .i64 g.K), (.string g.kw.kE), (.string g.kw.kT), k])] w 28 kx 2 r := by
 refine sP 25 func80 rfl (fun d => sg ?_)
 obtain ⟨A1, c2, rfl⟩ := j.form
 refine VE (lB d rfl (fun W4 b3 d => Wa (lS (Wf wS (VB d Mh rfl rfl cC (Wi rfl (ln (CI hm rfl (fun b7 hm => ?_) (fun b7 hm => ?_)))))))))
 ·refine sg (Wf yI (VA d Mh (kx g.kw) aN aC (VE (lg (cs := (kx g.kw).toArray) d (mI rfl) (mD aF aC bP) (fun W7 s d => Wa (ln ?_))))))
  replace d := d.kz (Kb (Db St))
  refine lj (lb ?_)
  obtain rfl := sj hm
  exact lI (v := (.slice (some ⟨s, 0, none⟩) 1 1)) rfl rfl ⟨_, [(s, Ol (kx g.kw) 28)], rfl, d.mO (fun p m => by rw [aO] at m; subst m; exact Mh) (by simp), (kU.lit (l := [g.kw]) (enc := kx) rfl dc rfl rfl)⟩
 refine kg (Wa (lS (Wf uu (VB d Mh rfl rfl fa (V (ly bZ rfl j) (Wm (lh ?_)))))))
 refine kF ?_
 replace d := d.kz (Db St)
 refine lp (fun i E W => ∃ u D t G H, (E 15 = .int .i64 (i : Nat) ∧ E 14 = .int .i64 (g.Kids.length : Nat)) ∧ kY (hp w) G ∧ ST false ll w W G (t ++ H) ∧ E 3 = u ∧ E 13 = (.slice A1 g.Kids.length c2) ∧ kU 28 kx 2 u D t ∧ te N (g.Kids.drop i) D = some r) g.Kids.length j.len ⟨(.slice none 0 0), ([]), [], (hp w), _, ⟨rfl, rfl⟩, (kY.refl _), (d.kz St), rfl, rfl, (kU.nil _ _ _), hm⟩ dc dc dc (fun _ _ _ h => by obtain ⟨_, _, _, _, _, o, _⟩ := h; exact o) ?_ ?_
 ·rintro P E W Y ⟨u, D, t, G, H, ⟨n, A⟩, y, d, I, J, x, c⟩
  obtain ⟨a, b9, a3, a2, a4⟩ := lc Y
  rw [a3] at c
  refine bg (VQ (su (i := (P : Int)) (x0 := a) kW.out bZ aZ J n (j.mono lW.mono y) (aD _) a2) (fun c7 ⟨_, ⟨c9, rfl, K⟩, Z⟩ => V (kA rfl (lD d.has Z cx aZ)) (VE (lA d dB (fun c1 c6 d => ?_)))))
  obtain ⟨z, B, rfl⟩ := K.form
  let a0 := (C1 a.Op a.K a.kw.kE a.kw.kT z a.Kids.length B)
  refine VO (lf (.agg a0.toArray) (a0.toArray) d rfl rfl aZ oc nb rfl (fun c3 d => ln (kL (Wh I (VA d Mh a0 cx aZ (bS c fun c8 L c => VE (pF d call80 (O a (.slice z a.Kids.length B) _ _ (K.mono lW.mono d.kJ) L) (fun c4 a9 b1 c0 d M q Q => ?_))))))))
  replace d := d.perm (Nr (Qr (Qb Qz)) Nz)
  refine bS c fun a8 U c => VE (my (enc := kx) (v := u) (vs := a9) (R := t) d mr dc mE aF mq.1 mq.2.1 rfl mq.2.2.1 mq.2.2.2 rfl rfl x (Q.Sd mr d (fun p m => (Ma (Ml m)))) U (fun c5 b0 a5 d T => Wa (lh (lu (kF ?_)))))
  replace d := d.kz (Kr (Dr (Db St)))
  exact ⟨n, b0, a8, a5, b1, _, ⟨rfl, A⟩, (y.trans M), (d.kz St), rfl, J, T, (by rw [a4]; exact c)⟩
 rintro E W ⟨u, D, t, G, H, ⟨n, A⟩, y, d, I, J, x, c⟩
 rw [aG] at c
 refine kF (sg (Wh I (Wa (lt ?_))))
 obtain rfl := sj c
 exact lI (v := u) rfl rfl ⟨_, t, rfl, d.mO (fun p m => (Ml m)) x.nd, x⟩
theorem Gp : ∀ (n : Nat) (c : Formula) (a : Value) (r : List kw) (w : World) (g : Sl kW 5 (hp w) a c.Kids) (_ : uV n c = some r),
  lK false pg0 80 [(.agg #[(.int .i64 c.Op), (.int .i64 c.K), (.string c.kw.kE), (.string c.kw.kT), a])] w 28 kx 2 r
 | 0 => by intros; rename_i h; simp only [uV] at h; cases h
 | n + 1 => HF (uV n) (Gp n)
end Go.Proofs.YtbnbdigcbldfhaaGreat
