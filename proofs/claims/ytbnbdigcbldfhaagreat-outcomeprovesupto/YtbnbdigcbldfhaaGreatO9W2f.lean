/- a part of a proof of OutcomeProves -/
import Derived.Test.YtbnbdigcbldfhaaGreatO9W1f
set_option linter.all false
namespace Go.Proofs.YtbnbdigcbldfhaaGreat
open Go.IntKind renaming wrap → wi0
open Go.Proofs.Tryz renaming prog → pg0
open Go.RowKit
set_option maxRecDepth 10000
open Tryz
theorem L5 (c : kB) (B : Value) (f1 : (kA × ByteArray) → Option Bool) (T : Value) (a2 : List ByteArray) (r : List kF) (w : World) (b0 : tu pg0 B (hp w) (fun (x : (kA × ByteArray)) => [(.agg (kC x.1).toArray), (.string x.2)]) (fun (r : Bool) => (.bool r)) f1) (d9 : Sl (Pl nu) 1 (hp w) T a2) (hm : wy c f1 a2 = some r) :
  lT false pg0 130 [(.agg (kG c).toArray), B, T] w 38 kO 3 r := by
 refine tT 47 func130 rfl (fun d => sg (VE (lF d rfl (fun W2 n d => Wa (lS (VA d Mh (kG c) bM aM (bS hm fun r3 f6 hm => VE (Eg d ki (lg.mz (uv c _ _  f6)) (fun W5 d => V (nr rfl) (Wm ?_))))))))))
 refine LJ hm (fun b6 E W => ∃ L8, ST false lu w W (hp w) ((n, Ol (kG c) 108) :: L8) ∧ E 1 = B ∧ E 2 = T ∧ E 3 = (.pointer (some ⟨n, 0, none⟩)) ∧ E 17 = (.bool b6)) 3 ?_ (fun b6 u U => ?_)
 ·rintro x7 E W ⟨L8, d, d3, e9, a4, f0⟩ H
  refine ln (CI H f0 (fun e0 H => ?_) (fun e0 H => ?_))
  ·refine sg (Wa (ln ?_))
   replace d := d.kD (Db St)
   refine lx (lm ?_)
   obtain rfl := sj H
   exact lQ (v := (.slice none 0 0)) rfl rfl ⟨_, [], rfl, d.mV (fun p o => by cases o) (by simp), kZ.nil _ _ _⟩
  refine kg (Wh e9 (bS H fun d4 e3 H => VE (qu d call188 (lT.mz (Ju T a2 _ _ (d9.mono (Pl.mono _) d.kN) e3)) (fun g8 q g9 g7 d c5 aa a9 => Wa (lr (Wm (Wa (lo ?_))))))))
  refine kK (kV ?_)
  have e1 := a9.RQ d (fun p o => (Ml o))
  obtain ⟨d5, d, c6, ab, b3⟩ := ST.Bf d a9 (fun _ => rfl)
  refine CJ H (fun b5 E W => ∃ Y Z d2, lb d5 Z ∧ ST false lu w W Z ((n, Ol (kG c) 108) :: d2) ∧ E 1 = B ∧ E 2 = q ∧ E 3 = (.pointer (some ⟨n, 0, none⟩)) ∧ E 7 = Y ∧ Sl (Pl nu) 1 Z Y b5 ∧ Fr w.heap.size Y) (fun b5 t => ?_) ?_
  ·refine sg (V (kH om a4) (VB d Mh rfl rfl cH (Wi rfl (ln (CI t rfl (fun c2 t => ?_) (fun c2 t => ?_))))))
   ·refine kT (V (kH sW a4) (VB d Mh rfl rfl aY (VE (lj (cs := [(.string c.ly)].toArray) d (mN rfl) (mJ bJ dl jr) (fun g1 J d => Wa (ln ?_))))))
    obtain rfl := sj t
    have c3 : Fr w.heap.size (.slice (some ⟨J, 0, none⟩) 1 1) := Fr.box d Mh
    obtain ⟨e7, d, b2, a8, c9⟩ := ST.Bf (R := [(J, Ol [(.string c.ly)] 9)]) d (kZ.lit (l := [c.ly]) (enc := nu) (b := J) (m := 1) rfl dc rfl rfl) (fun _ => rfl)
    exact ⟨(.slice (some ⟨J, 0, none⟩) 1 1), e7, _, b2, (d.kD St), d3, rfl, a4, rfl, c9, c3⟩
   refine kn ?_
   obtain rfl := sj t
   exact ⟨q, d5, _, (lb.refl _), (d.kD St), d3, rfl, a4, rfl, b3, e1⟩
  rintro L E W ⟨Y, Z, d2, a5, d, f2, f3, f4, f5, a3, g2⟩ e2
  refine sg (Wa (lS (Wh f5 (V (lJ bJ rfl a3) (Wm (ln (lz (fun i E W => ∃ k I j A, (E 29 = .int .i64 (i : Nat) ∧ E 28 = .int .i64 (L.length : Nat)) ∧ ST false lu w W Z ((n, Ol (kG c) 108) :: (j ++ A)) ∧ E 1 = B ∧ E 2 = q ∧ E 3 = (.pointer (some ⟨n, 0, none⟩)) ∧ E 8 = k ∧ E 27 = Y ∧ kZ 38 kO 3 k I j ∧ rT c f1 d4 (L.drop i) I = some r) L.length a3.len ⟨(.slice none 0 0), ([]), [], _, ⟨rfl, rfl⟩, (d.kD St), f2, f3, f4, rfl, rfl, (kZ.nil _ _ _), e2⟩ dc dc dc (fun _ _ _ h => by obtain ⟨_, _, _, _, P, _⟩ := h; exact P) ?_ ?_)))))))
  ·rintro e4 E W c4 ⟨k, I, j, A, ⟨s, eN⟩, d, K, M, D, N, Q, z, a⟩
   obtain ⟨g, f7, d1, d0, a6⟩ := ll c4
   let a0 := (⟨c.Head, g⟩ : kF)
   rw [d1] at a
   refine bg (VQ (lY (enc := nu) (i := (e4 : Int)) (x0 := g) bJ dl Q s a3 (aD _) d0) (fun g3 c7 => V (kE rfl (nh d.has (y := (.string g)) c7 aY)) (Wa (lr (V (kE D (kL d.has Mh (kG c) rfl bM aM)) (Wh K (Wh M (Wm (bS a fun g4 c8 a => ?_)))))))))
   refine VE (Eg d call190 (La c B f1 q d4 g _ _ (b0.mono (((c5.trans c6).trans a5).trans d.kN)) (b3.mono (Pl.mono _) (a5.trans d.kN)) c8) (fun f8 d => ln (CI a rfl (fun c0 a => ?_) (fun c0 a => ?_))))
   ·refine kT (Wh N (V (kH oD D) (VA d Mh (kC c.Head) aO aC (Wm (V (nm (v := (.agg (kO (a0)).toArray)) (pH rfl rfl) (mE cX cA (EH _ cA) kr)) (VE (lj (cs := (kO (a0)).toArray) d (mN rfl) (mJ bR bU cX) (fun f9 d8 d => ?_))))))))
    replace d := d.perm (Nr (Qb (Qb Qz)) Nz)
    refine bS a fun e5 c1 a => VE (mD (enc := kO) (v := k) (vs := (.slice (some ⟨d8, 0, none⟩) 1 1)) (R := j) d nA dc wA bR pW.1 pW.2.1 rfl pW.2.2.1 pW.2.2.2 rfl rfl z (Sl.lit (enc := kO) (l := [a0]) nA rfl nb rfl (d.at_ (Ma Mh))) c1 (fun g0 e6 d6 d b9 => Wa (lo (lA (kK ?_)))))
    replace d := d.kD (Kr (Db St))
    exact ⟨s, e6, e5, d6, _, ⟨rfl, eN⟩, (d.kD (Sb (Pr Pz) St)), K, M, D, rfl, Q, b9, (by rw [a6]; exact a)⟩
   exact lG (lA (kK ⟨s, k, I, j, _, ⟨rfl, eN⟩, (d.kD St), K, M, D, N, Q, z, (by rw [a6]; exact a)⟩))
  rintro E W ⟨k, I, j, A, ⟨s, eN⟩, d, K, M, D, N, Q, z, a⟩
  rw [aG] at a
  refine kK ?_
  replace d := d.kD (Db St)
  refine sg (Wh N (Wa (lt ?_)))
  obtain rfl := sj a
  exact lQ (v := k) rfl rfl ⟨_, j, rfl, d.mV (fun p o => (Ml o)) z.nd, z⟩
 refine bC u (fun G u => ?_) (fun G u => ?_)
 ·refine un G (un G (V (kX (cB G) rfl) ?_))
  obtain rfl := sj u
  exact U _ _ ⟨_, (d.kD St), rfl, rfl, rfl, rfl⟩
 refine ug G (kM rfl) (ug G (LU underlying104 b0 rfl rfl) (V (kW (cB G) rfl) ?_))
 obtain rfl := sj u
 exact U _ _ ⟨_, (d.kD St), rfl, rfl, rfl, rfl⟩
theorem Jc (a : kA) (g : ByteArray) (i : Nat) (c : Value) (u : List (kF × Bool)) (r : Bool) (w : World) (t : xp (fun (x : kF) => (.agg (kO x).toArray)) (fun (x : Bool) => (Value.bool x)) (hp w) c u) (j : At (hp w) (.pointer (some ⟨i, 0, none⟩)) [c]) (hm : vO a g u = some r) :
  lg true pg0 133 [(.agg (kC a).toArray), (.string g), (.pointer (some ⟨i, 0, none⟩))] w (.bool r) := by
 refine cG 11 func133 rfl (fun d => sg (VE (lF d rfl (fun B D d => Wa (lr (V (kE rfl (nh d.has (y := c) j isAgg191)) (VA d Mh (kC a) aO aC (Wm (V (nm (v := (.agg (kO (⟨a, g⟩ : kF)).toArray)) (pH rfl rfl) (mE cX cA (EH _ cA) kr)) (V (xF (k := (⟨a, g⟩ : kF)) (z := false) (vf := (fun (x : Bool) => (Value.bool x))) NE iC gv rfl rfl (t.mono (fun b o h => d.has.1 b o h))) (Wa ?_)))))))))))
 refine ln ?_
 exact lx (rQ hm d)
theorem MD (f7 : Value) (a0 : List kB) (q : kF) (r : ((List kY) × Bool)) (w : World) (i1 : Sl (Pl kG) 9 (hp w) f7 a0) (hm : yi a0 q = some r) :
  mn false pg0 66 [f7, (.agg (kO q).toArray)] w [] (fun v L1 W' => ∃ y1 S2, v = (.tuple #[y1, (.bool (r.2))]) ∧ L1 = (S2 ++ []) ∧ kZ 140 lf 12 y1 r.1 S2) := by
 refine tT 60 func66 rfl (fun d => sg (VE (lF d rfl (fun W2 A d => Wa (Wa (lr (Wm (bS hm fun r3 o5 hm => VE (qu d call51 (QK f7 a0 _ _ (i1.mono (Pl.mono _) d.kN) o5) (fun W5 v9 ae g0 d o1 ad f2 => Wm (bS hm fun k5 o2 hm => ?_)))))))))))
 refine VE (qu d call132 (lT.mz (My f7 a0 _ _ (i1.mono (Pl.mono _) (o1.trans d.kN)) o2)) (fun q3 e2 n9 g1 d p8 ab o0 => Wa (Wa (lr (VE (Ee (P := pg0) (fun (x : kF) => (.agg (kO x).toArray)) (fun (x : Bool) => (Value.bool x)) d (fun q4 q7 o3 d h9 => VE (lD d zeroValue191 (fun q5 t d => ?_)))))))))
 obtain ⟨D, rfl⟩ := h9.form
 refine VO (lh (.map (some D)) (#[(.map (some D))]) d rfl rfl sizeOf191 oc nb rfl (fun q6 d => lr (V (tX (by exact pz rfl) rfl) (Wa (lr (Wa (ln (kV ?_))))))))
 refine sg (Wa (ln (mP (ou (fun m E W => ∃ d3 B b2 f8 d1 b3 Y g9, lb n9 Y ∧ ST false lu w W Y ((t, Ob #[(.map (some D))] 191) :: ((A, Ol (kO q) 38) :: (b2 ++ (b3 ++ (g1 ++ (g0 ++ g9)))))) ∧ E 3 = (.pointer (some ⟨A, 0, none⟩)) ∧ E 6 = v9 ∧ E 7 = e2 ∧ E 8 = (.pointer (some ⟨t, 0, none⟩)) ∧ E 9 = (.func (.func 133) #[] #[(.pointer (some ⟨t, 0, none⟩))]) ∧ E 10 = d3 ∧ E 11 = (.int .i64 f8) ∧ kZ 140 lf 12 d3 B b2 ∧ mx (fun (x : kF) => (.agg (kO x).toArray)) (fun (x : Bool) => (Value.bool x)) (.map (some D)) d1 b3 ∧ rM k5 q r3 m B f8 d1 = some r) lE ⟨(.slice none 0 0), ([]), [], (-1), ([]), o3, n9, _, (lb.refl _), (d.kD (Kb (Sb (Pr (Pr (Pr Pz))) St))), rfl, rfl, rfl, rfl, rfl, rfl, rfl, (kZ.nil _ _ _), h9, hm⟩ ?_))))
 let g6 := (#[(.map (some D))] : Array Value)
 let g5 : Value := (.pointer (some ⟨A, 0, none⟩))
 let e1 := ((kO q).toArray : Array Value)
 let a9 : Value := (.pointer (some ⟨t, 0, none⟩))
 let b8 : Value := (.func (.func 133) #[] #[a9])
 rintro m E W ⟨d3, B, b2, f8, d1, b3, Y, g9, h5, d, l0, h4, l1, l2, l3, e5, l4, d9, j7, y⟩
 cases m with
 | zero => rw [rM] at y; cases y
 | succ n7 =>
  refine kV (sg (Wh l4 (Wh e5 (V (mR aX rfl d9) (Wi rfl (ln (CI y rfl (fun i2 y => ?_) (fun i2 y => ?_))))))))
  ·refine kn (bg (Wh e5 (V (mR aX rfl d9) (Wa (lr (Wh h4 (V (mR aW rfl f2) (Wm ?_))))))))
   refine ln (vG (GJ y (fun a7 E W => ∃ d4 b4 b5 d6 h0, lb Y d6 ∧ ST false lu w W d6 ((t, Obj.cells g6 191 (0, 0)) :: ((A, Obj.cells e1 38 (0, 0)) :: (b4 ++ (b5 ++ (g1 ++ (g0 ++ h0)))))) ∧ E 3 = g5 ∧ E 6 = v9 ∧ E 7 = e2 ∧ E 8 = a9 ∧ E 9 = b8 ∧ E 10 = d4 ∧ E 11 = (.int .i64 (B.length : Int)) ∧ kZ 140 lf 12 d4 a7.1 b4 ∧ mx (fun (x : kF) => (.agg (kO x).toArray)) (fun (x : Bool) => (Value.bool x)) (.map (some D)) a7.2 b5) (fun a7 i9 d7 => ?_) ?_))
   ·let g8 : Value := (.int .i64 (B.length : Int))
    refine lz (fun i E W => ∃ U a5 K H M a8 e3, (E 30 = .int .i64 (i : Nat) ∧ E 29 = .int .i64 (r3.length : Nat)) ∧ lb Y a8 ∧ ST false lu w W a8 ((t, Obj.cells g6 191 (0, 0)) :: ((A, Obj.cells e1 38 (0, 0)) :: (K ++ (M ++ (g1 ++ (g0 ++ e3)))))) ∧ E 3 = g5 ∧ E 6 = v9 ∧ E 7 = e2 ∧ E 8 = a9 ∧ E 9 = b8 ∧ E 10 = U ∧ E 11 = g8 ∧ E 28 = v9 ∧ kZ 140 lf 12 U a5 K ∧ mx (fun (x : kF) => (.agg (kO x).toArray)) (fun (x : Bool) => (Value.bool x)) (.map (some D)) H M ∧ rK k5 q (r3.drop i) a5 H = some a7) r3.length f2.len ⟨d3, B, b2, d1, b3, Y, _, ⟨rfl, rfl⟩, (lb.refl _), (d.kD St), l0, h4, l1, l2, l3, e5, rfl, rfl, d9, j7, i9⟩ dc dc dc (fun _ _ _ h => by obtain ⟨_, _, _, _, _, _, _, L, _⟩ := h; exact L) ?_ ?_
    ·rintro f3 E W i6 ⟨U, a5, K, H, M, a8, e3, ⟨s, eN⟩, b0, d, e6, e7, b9, e8, c0, e9, f0, f1, e0, a3, j⟩
     obtain ⟨g, o6, k2, g3, k3⟩ := ll i6
     rw [k2] at j
     refine bg (VQ (mF (i := (f3 : Int)) (x0 := g) aW aM f1 s f2 (aD _) g3) (fun p9 j4 => V (kE rfl (oy d.has (fun p n => (Mt (Mt (Ma (Ma (Ma (Ml n))))))) f2 mT j4 g3 bM aM)) (VE (lD d cg (fun o9 h3 d => VO (lh (.agg (kG g).toArray) ((kG g).toArray) d rfl rfl aM (nQ g) nb rfl (fun p0 d => lr (VA d Mh (kG g) bM aM (Wh c0 (Wh b9 (bS j fun f5 j6 j => ?_)))))))))))
     refine VE (qu d call130 (L5 g b8 (fun (x : (kA × ByteArray)) => vO x.1 x.2 H) e2 k5 _ _ ⟨133, #[], #[a9], rfl, call133, fun W x r hs hm => (Jc x.1 x.2 t (.map (some D)) H r W (a3.at (fun b o n => hs _ _ ((fun b o n => d.at_ (Mt (Mt (Mt (Ma (Ml n)))))) b o n))) (At.of (hs _ _ (d.at_ (Mt Mh))) _ rfl) hm).mz⟩ (o0.sl (fun _ => rfl) (fun b o n => d.at_ (Mt (Mt (Mt (Ma (Ma (Ml n)))))))) j6) (fun p1 n8 f9 k6 d h7 aa a2 => V (mR bR rfl a2) (Wm (ln (vG (GJ j (fun d2 E W => ∃ d5 b6 b7 h1, ST false lu w W f9 ((t, Obj.cells g6 191 (0, 0)) :: ((A, Obj.cells e1 38 (0, 0)) :: (b6 ++ (b7 ++ (g1 ++ (g0 ++ h1)))))) ∧ E 3 = g5 ∧ E 6 = v9 ∧ E 7 = e2 ∧ E 8 = a9 ∧ E 9 = b8 ∧ E 10 = d5 ∧ E 11 = g8 ∧ E 28 = v9 ∧ E 29 = (.int .i64 (r3.length : Int)) ∧ E 30 = (.int .i64 (f3 : Int)) ∧ kZ 140 lf 12 d5 d2.1 b6 ∧ mx (fun (x : kF) => (.agg (kO x).toArray)) (fun (x : Bool) => (Value.bool x)) (.map (some D)) d2.2 b7) (fun d2 j3 d8 => ?_) ?_))))))
     ·refine lz (fun i E W => ∃ I a6 G T N e4, (E 39 = .int .i64 (i : Nat) ∧ E 38 = .int .i64 (f5.length : Nat)) ∧ ST false lu w W f9 ((h3, Ol (kG g) 108) :: ((t, Obj.cells g6 191 (0, 0)) :: ((A, Obj.cells e1 38 (0, 0)) :: (G ++ (N ++ (k6 ++ (g1 ++ (g0 ++ e4)))))))) ∧ E 3 = g5 ∧ E 6 = v9 ∧ E 7 = e2 ∧ E 8 = a9 ∧ E 9 = b8 ∧ E 10 = I ∧ E 11 = g8 ∧ E 13 = (.pointer (some ⟨h3, 0, none⟩)) ∧ E 28 = v9 ∧ E 29 = (.int .i64 (r3.length : Int)) ∧ E 30 = (.int .i64 (f3 : Int)) ∧ E 37 = n8 ∧ kZ 140 lf 12 I a6 G ∧ mx (fun (x : kF) => (.agg (kO x).toArray)) (fun (x : Bool) => (Value.bool x)) (.map (some D)) T N ∧ qn g q (f5.drop i) a6 T = some d2) f5.length a2.len ⟨U, a5, K, H, M, _, ⟨rfl, rfl⟩, (d.kD (Sb (Pr Pz) (Sb (Pr Pz) (Sb (Pr Pz) (Sr (Qr Qz) (Sr (Qr Qz) St)))))), e6, e7, b9, e8, c0, e9, f0, rfl, f1, eN, s, rfl, e0, a3, j3⟩ dc dc dc (fun _ _ _ h => by obtain ⟨_, _, _, _, _, _, L, _⟩ := h; exact L) ?_ ?_
      ·rintro n2 E W i7 ⟨I, a6, G, T, N, e4, ⟨s, eN⟩, d, Z, c1, c2, Q, c3, c4, c5, c6, c7, c8, c9, d0, a4, J, a⟩
       obtain ⟨c, o7, k4, g4, g7⟩ := ll i7
       rw [k4] at a
       refine bg (VQ (mF (i := (n2 : Int)) (x0 := c) bR bU d0 s a2 (aD _) g4) (fun q0 j5 => V (kE rfl (oy d.has (fun p n => (Mt (Mt (Mt (Ma (Ma (Ml n))))))) a2 nA j5 g4 dx bU)) (VE (lD d cX (fun p2 p7 d => VO (lh (.agg (kO c).toArray) ((kO c).toArray) d rfl rfl bU (wA c) nb rfl (fun p3 d => lS (V (kE Q (kR d.has (Mt (Mt Mh)) rfl isAgg191)) (VA d Mh (kO c) dx bU (V (xF (k := c) (z := false) (vf := (fun (x : Bool) => (Value.bool x))) NE iC gv rfl rfl (J.at (fun b o n => d.has.2 b o (Mt (Mt (Mt (Mt (Ma (Ml n))))))))) ?_))))))))))
       refine ln (CI a rfl (fun i3 a => ?_) (fun i3 a => ?_))
       ·refine ot (nT (uj (kK ?_)))
        replace d := d.kD (Db St)
        exact ⟨s, I, a6, G, T, N, _, ⟨rfl, eN⟩, (d.kD St), Z, c1, c2, Q, c3, c4, c5, c6, c7, c8, c9, d0, a4, J, (by rw [g7]; exact a)⟩
       refine kg (V (kE Q (kR d.has (Mt (Mt Mh)) rfl isAgg191)) (VA d Mh (kO c) dx bU ?_))
       replace d := d.perm (Nr (Qb (Qb (Qb (Qb (Qr Qz))))) Nz)
       refine VO (Iz (k := c) (v := true) (vf := (fun (x : Bool) => (Value.bool x)))  NE iC d J rfl rfl rfl (fun p4 k7 d i0 => lr (Wh c4 (V (kE c6 (kL d.has (Ma (Mt Mh)) (kG g) rfl bM aM)) (VA d (Ma Mh) (kO c) dx bU (V (nm (v := (.agg (lf (⟨g, c⟩ : kY)).toArray)) (pH rfl rfl) (mE dK dZ (UC _ dZ) kr)) (VE (lj (cs := (lf (⟨g, c⟩ : kY)).toArray) d (mN rfl) (mJ aX cu dK) (fun p5 k9 d => ?_)))))))))
       replace d := d.perm (Nr (Qb (Qr (Qb (Qb (Qb (Qb Qz)))))) Nz)
       refine bS a fun f4 i4 a => VE (mD (enc := lf) (v := I) (vs := (.slice (some ⟨k9, 0, none⟩) 1 1)) (R := G) d oV dc uH aX oq.1 oq.2.1 rfl oq.2.2.1 oq.2.2.2 rfl rfl a4 (Sl.lit (enc := lf) (l := [(⟨g, c⟩ : kY)]) oV rfl nb rfl (d.at_ (Ma Mh))) i4 (fun p6 f6 h2 d g2 => Wa (ln ?_)))
       replace d := d.kD (Kr (Db St))
       refine sg (VA d (Ma (Ma Mh)) (kO c) dx bU (V (kE Z (kL d.has (Ma (Ma (Mt (Mt (Mt Mh))))) (kO q) rfl dx bU)) (V (vt rfl rfl (ns eqGuardType38) (qH (DA _ c q))) (ln ?_))))
       replace d := d.kD (Kr (Kr (Db St)))
       refine CI a rfl (fun i5 a => ?_) (fun i5 a => ?_)
       ·refine sg (Wm (Wa (Wa (ln ?_))))
        replace d := d.kD (Kr (Dr (Db (Db (Db (Dr (Dr (Dr St))))))))
        refine lx (mu (lm (mu (lm (mu (lm (mu (lm (mu (lm (mu (lm ?_))))))))))))
        obtain rfl := sj a
        replace d8 : some (Sum.inl (f4, true)) = some a7 := d8
        obtain rfl := sj d8
        replace d7 : some (f4, true) = some r := d7
        obtain rfl := sj d7
        exact uk (v := f6) (u := (.bool true)) rfl rfl rfl ⟨_, _, rfl, (d.NP (Kr Sn)), f6, h2, rfl, rfl, g2⟩
       exact lG (lA (kK ⟨s, f6, f4, h2, (ow nq T c true), k7, _, ⟨rfl, eN⟩, (d.kD (Sb (Pr (Pr Pz)) (Sb (Pr (Pr Pz)) (Sb (Pr (Pr Pz)) St)))), Z, c1, c2, Q, c3, rfl, c5, c6, c7, c8, c9, d0, g2, i0, (by rw [g7]; exact a)⟩))
      rintro E W ⟨I, a6, G, T, N, e4, ⟨s, eN⟩, d, Z, c1, c2, Q, c3, c4, c5, c6, c7, c8, c9, d0, a4, J, a⟩
      rw [aG] at a
      refine kK ?_
      obtain rfl := sj a
      exact ⟨_, rfl, I, G, N, _, (d.kD (Db (Kb (Kb (Kr (Kr (Dr St))))))), Z, c1, c2, Q, c3, c4, c5, c7, c8, c9, a4, J⟩
     rintro ⟨n5, n6⟩ E W ⟨d5, b6, b7, h1, d, m2, m3, m4, m5, m6, m7, m8, m9, n0, n1, k0, k1⟩ j0
     exact lA (kK ⟨n1, d5, n5, b6, n6, b7, f9, _, ⟨rfl, n0⟩, (b0.trans h7), (d.kD St), m2, m3, m4, m5, m6, m7, m8, m9, k0, k1, (by rw [k3]; exact j0)⟩)
    rintro E W ⟨U, a5, K, H, M, a8, e3, ⟨s, eN⟩, b0, d, e6, e7, b9, e8, c0, e9, f0, f1, e0, a3, j⟩
    rw [aG] at j
    refine kK ?_
    obtain rfl := sj j
    exact ⟨_, rfl, U, K, M, a8, _, b0, (d.kD St), e6, e7, b9, e8, c0, e9, f0, e0, a3⟩
   rintro ⟨n3, n4⟩ E W ⟨d4, b4, b5, d6, h0, h6, d, l5, l6, l7, l8, l9, m0, m1, j8, j9⟩ i8
   exact lA (kK ⟨n7, bT _, d4, n3, b4, (B.length : Int), n4, b5, d6, _, (h5.trans h6), (d.kD St), l5, l6, l7, l8, l9, m0, m1, j8, j9, i8⟩)
  refine ot (nT (nT (uj (kK ?_))))
  replace d := d.kD (Db (Db (Dr (Dr (Dr (Dr St))))))
  refine sg (Wa (Wa (lt ?_)))
  obtain rfl := sj y
  refine uk (v := (.slice none 0 0)) (u := (.bool false)) rfl rfl rfl ?_
  replace d := d.Xq
  exact ⟨_, _, rfl, (d.NP (Kr Sn)), (.slice none 0 0), [], rfl, rfl, (kZ.nil _ _ _)⟩
theorem Cq (z : Value) (D : List kY) (r : List kF) (w : World) (y : Sl (Pl lf) 12 (hp w) z D) (hm : wE D = some r) :
  lT true pg0 150 [z] w 38 kO 3 r := by
 refine tT 19 func150 rfl (fun d => sg (Wa (lr (Wa (lS (Wm ?_))))))
 refine V (lJ aX rfl y) (Wm (ln (lz (fun i E W => ∃ j B g t, (E 8 = .int .i64 (i : Nat) ∧ E 7 = .int .i64 (D.length : Nat)) ∧ ST true lu w W (hp w) (g ++ t) ∧ E 3 = j ∧ E 6 = z ∧ kZ 38 kO 3 j B g ∧ tI (D.drop i) B = some r) D.length y.len ⟨(.slice none 0 0), ([]), [], _, ⟨rfl, rfl⟩, (d.kD St), rfl, rfl, (kZ.nil _ _ _), hm⟩ dc dc dc (fun _ _ _ h => by obtain ⟨_, _, _, _, n, _⟩ := h; exact n) ?_ ?_)))
 ·rintro Z E W M ⟨j, B, g, t, ⟨m, o⟩, d, u, x, k, a⟩
  obtain ⟨c, L, Q, N, T⟩ := ll M
  rw [Q] at a
  refine bg (VQ (lY (enc := lf) (i := (Z : Int)) (x0 := c) aX cu x m y (aD _) N) (fun A I => V (kE rfl (lO d.has I eX cu)) (VE (lD d dK (fun s a5 d => VO (lh (.agg (lf c).toArray) ((lf c).toArray) d rfl rfl cu (uH c) nb rfl (fun a2 d => ln (kT (Wh u (Wf sX (VA d Mh (kO c.kF) dx bU (VE (lj (cs := (kO c.kF).toArray) d (mN rfl) (mJ bR bU cX) (fun a3 K d => ?_))))))))))))))
  replace d := d.perm (Nr (Qb (Qb Qz)) Nz)
  refine bS a fun U H a => VE (mD (enc := kO) (v := j) (vs := (.slice (some ⟨K, 0, none⟩) 1 1)) (R := g) d nA dc wA bR pW.1 pW.2.1 rfl pW.2.2.1 pW.2.2.2 rfl rfl k (Sl.lit (enc := kO) (l := [c.kF]) nA rfl nb rfl (d.at_ (Ma Mh))) H (fun a4 Y J d G => Wa (lo (lA (kK ?_)))))
  replace d := d.kD (Kr (Db (Db St)))
  exact ⟨m, Y, U, J, _, ⟨rfl, o⟩, (d.kD St), rfl, x, G, (by rw [T]; exact a)⟩
 rintro E W ⟨j, B, g, t, ⟨m, o⟩, d, u, x, k, a⟩
 rw [aG] at a
 refine kK (sg (Wh u (Wa (lt ?_))))
 obtain rfl := sj a
 exact lQ (v := j) rfl rfl ⟨_, g, rfl, d.mV (fun p q => (Ml q)) k.nd, k⟩
theorem GW (j : Value) (t : List kF) (c : kF) (r : Int) (w : World) (g : Sl (Pl kO) 3 (hp w) j t) (hm : yv t c = some r) :
  lg true pg0 204 [j, (.agg (kO c).toArray)] w (.int .i64 r) := by
 refine cG 19 func204 rfl (fun d => sg (VE (lF d rfl (fun Q J d => Wa (lS (Wm (V (lJ bR rfl g) (Wm (ln ?_)))))))))
 refine lz (fun i E W => ∃ k, (E 8 = .int .i64 (i : Nat) ∧ E 7 = .int .i64 (t.length : Nat)) ∧ ST true lu w W (hp w) ((J, Ol (kO c) 38) :: k) ∧ E 0 = j ∧ E 3 = (.pointer (some ⟨J, 0, none⟩)) ∧ rC c (t.drop i) i = some r) t.length g.len ⟨_, ⟨rfl, rfl⟩, (d.kD St), rfl, rfl, hm⟩ dc dc dc (fun _ _ _ h => by obtain ⟨_, o, _⟩ := h; exact o) ?_ ?_
 ·rintro K E W B ⟨k, ⟨n, s⟩, d, u, x, a⟩
  obtain ⟨y, M, H, G, I⟩ := ll B
  rw [H] at a
  refine bg (Wh n (Wa (ln (kV ?_))))
  replace d := d.drew
  have m := d.has.kD (Kb Sn)
  refine lN m lB (XH 0 rfl m (fun _ q => kE x (kL q Mh (kO c) rfl dx bU)) (X 1 rfl m (kM u) (X 2 rfl m (kM rfl) (XQ 3 rfl m (lY (enc := kO) (i := (K : Int)) (x0 := y) bR bU rfl rfl g (aD _) G) (fun N D => XH 4 rfl m (fun _ q => kE rfl (lO q D dx bU)) (X 5 rfl m (vt rfl rfl (ns eqGuardType38) (qH (DA _ c y))) (me kr (kK (CI a rfl (fun z a => ?_) (fun z a => ?_))))))))))
  ·refine sg (Wm (Wa (ln ?_)))
   replace d := d.kD (Db St)
   refine lx (mu (lm (mu (lm ?_))))
   obtain rfl := sj a
   exact rP d
  exact lG (lA (kK ⟨n, _, ⟨rfl, s⟩, (d.kD St), u, x, (by rw [I]; exact a)⟩))
 rintro E W ⟨k, ⟨n, s⟩, d, u, x, a⟩
 rw [aG] at a
 refine kK ?_
 replace d := d.kD (Db St)
 exact sg (Wa (lt (rQ a d)))
theorem Af (a : Value) (g : List kF) (c : kF) (r : Bool) (w : World) (i : Sl (Pl kO) 3 (hp w) a g) (hm : re g c = some r) :
  lg true pg0 153 [a, (.agg (kO c).toArray)] w (.bool r) := by
 refine cG 9 func153 rfl (fun d => sg (VE (lF d rfl (fun k u d => Wa (lr (Wm (VA d Mh (kO c) dx bU (bS hm fun x j hm => VE (Eg d call204 (GW a g c _ _ (i.mono (Pl.mono _) d.kN) j) (fun t d => Wi rfl (Wa ?_)))))))))))
 refine ln ?_
 exact lx (rQ hm d)
theorem D3 (j : Value) (t : List kF) (c : kF) (r : Int) (w : World) (g : Sl (Pl kO) 3 (hp w) j t) (hm : wu t c = some r) :
  lg true pg0 287 [j, (.agg (kO c).toArray)] w (.int .i64 r) := by
 refine cG 19 func287 rfl (fun d => sg (VE (lF d rfl (fun Q J d => Wa (lS (Wm (V (lJ jV rfl g) (Wm (ln ?_)))))))))
 refine lz (fun i E W => ∃ k, (E 8 = .int .i64 (i : Nat) ∧ E 7 = .int .i64 (t.length : Nat)) ∧ ST true lu w W (hp w) ((J, Ol (kO c) 38) :: k) ∧ E 0 = j ∧ E 3 = (.pointer (some ⟨J, 0, none⟩)) ∧ pE c (t.drop i) i = some r) t.length g.len ⟨_, ⟨rfl, rfl⟩, (d.kD St), rfl, rfl, hm⟩ dc dc dc (fun _ _ _ h => by obtain ⟨_, o, _⟩ := h; exact o) ?_ ?_
 ·rintro K E W B ⟨k, ⟨n, s⟩, d, u, x, a⟩
  obtain ⟨y, M, H, G, I⟩ := ll B
  rw [H] at a
  refine bg (Wh n (Wa (ln (kV ?_))))
  replace d := d.drew
  have m := d.has.kD (Kb Sn)
  refine lN m lB (XH 0 rfl m (fun _ q => kE x (kL q Mh (kO c) rfl dx bU)) (X 1 rfl m (kM u) (X 2 rfl m (kM rfl) (XQ 3 rfl m (lY (enc := kO) (i := (K : Int)) (x0 := y) jV bU rfl rfl g (aD _) G) (fun N D => XH 4 rfl m (fun _ q => kE rfl (lO q D dx bU)) (X 5 rfl m (vt rfl rfl (ns eqGuardType38) (qH (DA _ c y))) (me kr (kK (CI a rfl (fun z a => ?_) (fun z a => ?_))))))))))
  ·refine sg (Wm (Wa (ln ?_)))
   replace d := d.kD (Db St)
   refine lx (mu (lm (mu (lm ?_))))
   obtain rfl := sj a
   exact rP d
  exact lG (lA (kK ⟨n, _, ⟨rfl, s⟩, (d.kD St), u, x, (by rw [I]; exact a)⟩))
 rintro E W ⟨k, ⟨n, s⟩, d, u, x, a⟩
 rw [aG] at a
 refine kK ?_
 replace d := d.kD (Db St)
 exact sg (Wa (lt (rQ a d)))
theorem Ck (a : Value) (g : List kF) (c : kF) (r : Bool) (w : World) (i : Sl (Pl kO) 3 (hp w) a g) (hm : rF g c = some r) :
  lg true pg0 249 [a, (.agg (kO c).toArray)] w (.bool r) := by
 refine cG 9 func249 rfl (fun d => sg (VE (lF d rfl (fun k u d => Wa (lr (Wm (VA d Mh (kO c) dx bU (bS hm fun x j hm => VE (Eg d call287 (D3 a g c _ _ (i.mono (Pl.mono _) d.kN) j) (fun t d => Wi rfl (Wa ?_)))))))))))
 refine ln ?_
 exact lx (rQ hm d)
theorem zw (c : Value) (i : List kF) (a : kA) (g : ByteArray) (r : Bool) (w : World) (j : Sl (Pl kO) 3 (hp w) c i) (hm : tE i a g = some r) :
  lg true pg0 202 [c, (.agg (kC a).toArray), (.string g)] w (.bool r) := by
 refine cG 12 func202 rfl (fun d => sg (VE (lF d rfl (fun t x d => Wa (lr (Wm (VA d Mh (kC a) aO aC (Wm (V (nm (v := (.agg (kO (⟨a, g⟩ : kF)).toArray)) (pH rfl rfl) (mE cX cA (EH _ cA) kr)) (bS hm fun y k hm => VE (Eg d call249 (Ck c i (⟨a, g⟩ : kF) _ _ (j.mono (Pl.mono _) d.kN) k) (fun u d => ?_))))))))))))
 refine Wa (ln ?_)
 exact lx (rQ hm d)
theorem B6 (g : Value) (t : List kF) (j : Value) (B : kF → Option Bool) (r : Int) (w : World) (c : Sl (Pl kO) 3 (hp w) g t) (D : tu pg0 j (hp w) (fun (x : kF) => [(.agg (kO x).toArray)]) (fun (r : Bool) => (.bool r)) B) (hm : ui t B = some r) :
  lg false pg0 288 [g, j] w (.int .i64 r) := by
 refine cG 19 func288 rfl (fun d => sg (Wa (lS (Wm (V (lJ jV rfl c) (Wm (ln (lz (fun i E W => ∃ k, (E 8 = .int .i64 (i : Nat) ∧ E 7 = .int .i64 (t.length : Nat)) ∧ ST false lu w W (hp w) k ∧ E 0 = g ∧ E 1 = j ∧ oE B (t.drop i) i = some r) t.length c.len ⟨_, ⟨rfl, rfl⟩, (d.kD St), rfl, rfl, hm⟩ dc dc dc (fun _ _ _ h => by obtain ⟨_, n, _⟩ := h; exact n) ?_ ?_))))))))
 ·rintro Q E W H ⟨k, ⟨m, o⟩, d, u, y, a⟩
  obtain ⟨z, T, M, K, N⟩ := ll H
  rw [M] at a
  refine bg (Wh m (Wa (lr (Wh y (Wh u (Wm (VQ (lY (enc := kO) (i := (Q : Int)) (x0 := z) jV bU rfl rfl c (aD _) K) (fun Y I => V (kE rfl (lO d.has I dx bU)) (bS a fun Z J a => ?_)))))))))
  refine VE (Bq z d D (lb.refl _) rfl (pz rfl) J (fun U d => ln (CI a rfl (fun G a => ?_) (fun G a => ?_))))
  ·refine sg (Wm (Wa (lt (mu (lm (mu (lm ?_)))))))
   obtain rfl := sj a
   exact rP d
  exact lG (lA (kK ⟨m, _, ⟨rfl, o⟩, (d.kD St), u, y, (by rw [N]; exact a)⟩))
 rintro E W ⟨k, ⟨m, o⟩, d, u, y, a⟩
 rw [aG] at a
 exact kK (sg (Wa (lt (rQ a d))))
theorem Bg (a : Value) (g : List kF) (c : Value) (i : kF → Option Bool) (r : Bool) (w : World) (j : Sl (Pl kO) 3 (hp w) a g) (k : tu pg0 c (hp w) (fun (x : kF) => [(.agg (kO x).toArray)]) (fun (r : Bool) => (.bool r)) i) (hm : pT g i = some r) :
  lg false pg0 250 [a, c] w (.bool r) := by
 refine cG 9 func250 rfl (fun d => sg (Wa (lr (Wm (Wm (bS hm fun y t hm => VE (Eg d call288 (B6 a g c i _ _ (j.mono (Pl.mono _) d.kN) (k.mono d.kN) t) (fun u d => Wi rfl (Wa (lo ?_))))))))))
 exact kK (lx (rQ hm d))
theorem Fb (i : kF) (t : Nat) (K : kA) (u : Nat) (g : Value) (M : List kF) (x : Nat) (k : ByteArray) (z : Nat) (B : ByteArray) (r : Bool) (w : World) (D : At (hp w) (.pointer (some ⟨t, 0, none⟩)) (kC K)) (N : Sl (Pl kO) 3 (hp w) g M) (G : At (hp w) (.pointer (some ⟨u, 0, none⟩)) [g]) (H : At (hp w) (.pointer (some ⟨x, 0, none⟩)) [(.string k)]) (I : At (hp w) (.pointer (some ⟨z, 0, none⟩)) [(.string B)]) (hm : uO i K M k B = some r) :
  lg true pg0 251 [(.agg (kO i).toArray), (.pointer (some ⟨t, 0, none⟩)), (.pointer (some ⟨u, 0, none⟩)), (.pointer (some ⟨x, 0, none⟩)), (.pointer (some ⟨z, 0, none⟩))] w (.bool r) := by
 refine cG 20 func251 rfl (fun d => sg (VE (lF d rfl (fun W2 m d => Wa (lr (Wf wS (VA d Mh (kC i.kA) aO aC (V (kE rfl (lO d.has D aO aC)) (V (vt rfl rfl (ns cY) (qH (ob _ i.kA K))) (Wm (LJ hm (fun J E W => ∃ T, ST true lu w W (hp w) T ∧ E 6 = (.bool false) ∧ E 19 = (.bool J)) 8 ?_ (fun J c j => ?_))))))))))))
 ·rintro x7 E W ⟨T, d, h, U⟩ Y
  exact Wg U (lt (rQ Y d))
 refine bC c (fun a c => ?_) (fun a c => ?_)
 ·refine ug a (kE rfl (nh d.has (y := g) G isAgg250)) (ug a (kH sP rfl) (ug a (kE rfl (kR d.has Mh rfl aY)) (ug a (kE rfl (nh d.has (y := (.string k)) H aY)) (ug a (nm (v := (.agg (kC (⟨i.ly, k⟩ : kA)).toArray)) (pH rfl rfl) (mE bQ cI (Hn _ cI) kr)) (ug a (kE rfl (nh d.has (y := (.string B)) I aY)) (bS c fun a2 Q c => qy a (Eg d call202 (zw g M (⟨i.ly, k⟩ : kA) B _ _ (N.mono (Pl.mono _) d.kN) Q) (fun Z d => V (kX (cB a) rfl) ?_))))))))
  obtain rfl := sj c
  exact j _ _ ⟨_, (d.kD (Db St)), rfl, rfl⟩
 refine un a (un a (un a (un a (un a (un a (un a (V (kW (cB a) rfl) ?_)))))))
 obtain rfl := sj c
 exact j _ _ ⟨_, (d.kD (Db St)), rfl, rfl⟩
theorem G7 (k : Value) (a : List kF) (g : kA) (i j : ByteArray) (r : Bool) (w : World) (c : Sl (Pl kO) 3 (hp w) k a) (hm : yY a g i j = some r) :
  lg false pg0 203 [k, (.agg (kC g).toArray), (.string i), (.string j)] w (.bool r) := by
 refine cG 12 func203 rfl (fun d => sg ?_)
 obtain ⟨t, D, rfl⟩ := c.form
 refine VE (lF d rfl (fun K u d => VE (lF d rfl (fun M y d => VE (lF d rfl (fun N z d => VE (lF d rfl (fun H B d => Wa (lr (VB d (Mt (Mt (Mt Mh))) rfl rfl isAgg250 (V (tX (by exact YG rfl rfl rfl rfl) rfl) (bS hm fun J G hm => VE (Eg d call250 (Bg (.slice t a.length D) a (.func (.func 251) #[] #[(.pointer (some ⟨y, 0, none⟩)), (.pointer (some ⟨u, 0, none⟩)), (.pointer (some ⟨z, 0, none⟩)), (.pointer (some ⟨B, 0, none⟩))]) (fun (x : kF) => uO x g a i j) _ _ (c.mono (Pl.mono _) d.kN) ⟨251, #[], #[(.pointer (some ⟨y, 0, none⟩)), (.pointer (some ⟨u, 0, none⟩)), (.pointer (some ⟨z, 0, none⟩)), (.pointer (some ⟨B, 0, none⟩))], rfl, call251, fun W x r h hm => (Fb x y g u (.slice t a.length D) a z i B j r W (At.of (h _ _ (d.at_ (Mt (Mt Mh)))) _ rfl) (c.mono (Pl.mono _) (d.kN.trans h)) (At.of (h _ _ (d.at_ (Mt (Mt (Mt Mh))))) _ rfl) (At.of (h _ _ (d.at_ (Mt Mh))) _ rfl) (At.of (h _ _ (d.at_ Mh)) _ rfl) hm).mz⟩ G) (fun I d => Wa (lo ?_)))))))))))))))
 refine kK ?_
 exact lx (rQ hm d)
theorem Bt (i : kY) (k : Value) (G : List kF) (r : Bool) (w : World) (x : Sl (Pl kO) 3 (hp w) k G) (hm : uP i G = some r) :
  lg false pg0 152 [(.agg (lf i).toArray), k] w (.bool r) := by
 refine cG 67 func152 rfl (fun d => sg (VE (lF d rfl (fun W2 m d => Wa (ln (kV ?_))))))
 replace d := d.drew
 have h := d.has.kD (Kb Sn)
 refine lN h lB (X 0 rfl h (kM rfl) (X 1 rfl h (kH Dh rfl) (XH 2 rfl h (fun _ s => kE rfl (kL s Mh (kG i.kB) rfl bM aM)) (XE 3 rfl (lD d cg (fun a9 n d => ?_))))))
 have h := d.has.kD (Db (Kb Sn))
 refine ⟨h, (X 4 rfl h (nH rfl) (XO 5 rfl (lh (.agg (kG i.kB).toArray) ((kG i.kB).toArray) d rfl rfl aM (nQ i.kB) nb rfl (fun v d => ?_))))⟩
 have h := d.has.kD (Db (Kb Sn))
 refine ⟨h, (me kr (kK (kV (sg (VA d Mh (kG i.kB) bM aM (bS hm fun b7 Y hm => VE (Eg d ki (lg.mz (uv i.kB _ _  Y)) (fun A d => V (nr rfl) (Wm (LJ hm (fun K E W => ∃ H, ST false lu w W (hp w) ((n, Ol (kG i.kB) 108) :: ((m, Ol (lf i) 140) :: H)) ∧ E 2 = (.pointer (some ⟨m, 0, none⟩)) ∧ E 5 = k ∧ E 6 = (.pointer (some ⟨n, 0, none⟩)) ∧ E 20 = (.bool K)) 7 ?_ (fun K u D => ?_)))))))))))⟩
 ·rintro c4 E W ⟨H, d, y, z, t, o⟩ a
  refine ln (CI a o (fun M a => ?_) (fun M a => ?_))
  ·refine sg (Wa (ln ?_))
   replace d := d.kD (Db (Db St))
   refine lx (lm ?_)
   obtain rfl := sj a
   exact rP d
  refine kS (V (kH om t) (VB d Mh rfl rfl cH (ln (bg (Wi rfl (Wa (lo ?_)))))))
  refine kK (CI a rfl (fun N a => ?_) (fun N a => ?_))
  ·refine sg (V (kH sW t) (VB d Mh rfl rfl aY (V (kH sX y) (Wf sP (VB d (Mt Mh) rfl rfl aY (V (se rfl rfl rfl) (Wa (ln ?_))))))))
   replace d := d.kD (Db (Db St))
   refine lx (mu (lm ?_))
   obtain rfl := sj a
   exact rP d
  refine sg (Wi rfl (Wa (ln (CI a rfl (fun Q a => ?_) (fun Q a => ?_)))))
  ·refine sg (Wh z (V (kH mW t) (VA d Mh (kC i.kB.B) aO aC (V (kH sX y) (Wf sP (VB d (Mt Mh) rfl rfl aY (bS a fun c0 Z a => VE (Eg d call202 (lg.mz (zw k G i.kB.B i.kF.ly _ _ (x.mono (Pl.mono _) d.kN) Z)) (fun L d => Wa (ln ?_))))))))))
   replace d := d.kD (Db (Db St))
   refine lx (mu (lm ?_))
   obtain rfl := sj a
   exact rP d
  refine sg (Wi rfl (Wa (ln (CI a rfl (fun T a => ?_) (fun T a => ?_)))))
  ·refine sg (Wh z (V (kH mW t) (VA d Mh (kC i.kB.B) aO aC (V (kH rX t) (VB d Mh rfl rfl aY (V (kH sX y) (Wf sP (VB d (Mt Mh) rfl rfl aY (bS a fun c1 a2 a => VE (Eg d call203 (G7 k G i.kB.B i.kB.lU i.kF.ly _ _ (x.mono (Pl.mono _) d.kN) a2) (fun P d => Wa (ln ?_))))))))))))
   replace d := d.kD (Db (Db St))
   refine lx (mu (lm ?_))
   obtain rfl := sj a
   exact rP d
  refine lG (lA (kK (sg (Wh z (V (kH mW t) (VA d Mh (kC i.kB.B) aO aC (V (kH sX y) (Wf sP (VB d (Mt Mh) rfl rfl aY (bS a fun c2 a3 a => VE (Eg d call202 (lg.mz (zw k G i.kB.B i.kF.ly _ _ (x.mono (Pl.mono _) d.kN) a3)) (fun R d => Wm (LJ a (fun J E W => ∃ I, ST false lu w W (hp w) I ∧ E 66 = (.bool J)) 8 ?_ (fun J j B => ?_))))))))))))))
  ·rintro c5 E W ⟨I, d, q⟩ U
   exact Wg q (lt (rQ U d))
  refine bC j (fun c j => ?_) (fun c j => ?_)
  ·refine ug c (kM z) (ug c (kH pO t) (ug c (kE rfl (kL d.has Mh (kC i.kB.C) rfl aO aC)) (ug c (kH sX y) (ug c (kH sP rfl) (ug c (kE rfl (kR d.has (Mt Mh) rfl aY)) (bS j fun c3 a4 j => qy c (Eg d call202 (lg.mz (zw k G i.kB.C i.kF.ly _ _ (x.mono (Pl.mono _) d.kN) a4)) (fun b6 d => V (kX (cB c) rfl) ?_))))))))
   obtain rfl := sj j
   exact B _ _ ⟨_, (d.kD (Db (Db St))), rfl⟩
  refine un c (un c (un c (un c (un c (un c (un c (V (kW (cB c) rfl) ?_)))))))
  obtain rfl := sj j
  exact B _ _ ⟨_, (d.kD (Db (Db St))), rfl⟩
 refine bC u (fun g u => ?_) (fun g u => ?_)
 ·refine un g (un g (un g (un g (un g (un g (V (kX (cB g) rfl) ?_))))))
  obtain rfl := sj u
  exact D _ _ ⟨_, (d.kD St), rfl, rfl, rfl, rfl⟩
 refine ug g (kH sX rfl) (ug g (kH wS rfl) (ug g (kE rfl (kL d.has (Mt Mh) (kC i.kF.kA) rfl aO aC)) (ug g (kH oD rfl) (ug g (kE rfl (kL d.has Mh (kC i.kB.Head) rfl aO aC)) (ug g (Gp rfl rfl (ns cY) (BD (ob _ i.kF.kA i.kB.Head))) (V (kW (cB g) rfl) ?_))))))
 obtain rfl := sj u
 exact D _ _ ⟨_, (d.kD St), rfl, rfl, rfl, rfl⟩
theorem Fm (j : Value) (y : List kY) (r : Bool) (w : World) (g : Sl (Pl lf) 12 (hp w) j y) (hm : xy y = some r) :
  lg false pg0 191 [j] w (.bool r) := by
 refine cG 22 func191 rfl (fun d => sg (Wa (lr (Wm (bS hm fun Y U hm => VE (qu d call150 (lT.mz (Cq j y _ _ (g.mono (Pl.mono _) d.kN) U)) (fun W3 v7 s R8 d N L T => Wa (ln (kV ?_)))))))))
 refine sg (Wm (V (lJ aX rfl g) (Wm (ln (lz (fun i E W => ∃ k, (E 10 = .int .i64 (i : Nat) ∧ E 9 = .int .i64 (y.length : Nat)) ∧ ST false lu w W s (R8 ++ k) ∧ E 3 = v7 ∧ E 8 = j ∧ sZ Y (y.drop i) i = some r) y.length g.len ⟨_, ⟨rfl, rfl⟩, (d.kD St), rfl, rfl, hm⟩ dc dc dc (fun _ _ _ h => by obtain ⟨_, q, _⟩ := h; exact q) ?_ ?_)))))
 ·rintro z E W D ⟨k, ⟨n, v⟩, d, t, u, a⟩
  obtain ⟨c, Z, K, J, M⟩ := ll D
  rw [K] at a
  refine bg (Wh n (VQ (lY (enc := lf) (i := (z : Int)) (x0 := c) aX cu u n (g.mono (Pl.mono _) N) (aD _) J) (fun R G => V (kE rfl (lO d.has G eX cu)) (VE (lD d dK (fun a2 a5 d => Wa (VO (lh (.agg (lf c).toArray) ((lf c).toArray) d rfl rfl cu (uH c) nb rfl (fun a3 d => ln (kV ?_))))))))))
  replace d := d.drew
  have m := d.has.kD (Kb Sn)
  refine lN m lB (XH 0 rfl m (fun _ A => kE rfl (kL A Mh (lf c) rfl eX cu)) (X 1 rfl m (kM t) (X 2 rfl m (kM rfl) (bS a fun _ x a => XQ 3 rfl m (um (i := (z : Int)) bR bU rfl rfl T nA (qW x) (qR x)) (fun Q I => bS a fun a7 H a => XE 4 rfl (Eg d call152 (Bt c Q (Y.take (Int.toNat (z : Int))) _ _ (I.sl nA (fun b o P => d.at_ (Mt (Ml P)))) H) (fun a4 d => ?_)))))))
  have m := d.has.kD (Kb Sn)
  refine ⟨m, (X 5 rfl m (nr rfl) (me kr (kK ?_)))⟩
  replace d := d.kD (Db St)
  refine CI a rfl (fun B a => ?_) (fun B a => ?_)
  ·refine sg (Wa (ln ?_))
   replace d := d.kD (Dr St)
   refine lx (mu (lm (mu (lm ?_))))
   obtain rfl := sj a
   exact rP d
  exact lG (lA (kK ⟨n, _, ⟨rfl, v⟩, (d.kD St), t, u, (by rw [M]; exact a)⟩))
 rintro E W ⟨k, ⟨n, v⟩, d, t, u, a⟩
 rw [aG] at a
 refine kK ?_
 replace d := d.kD (Dr St)
 exact sg (Wa (lt (rQ a d)))
theorem Bx (g : Value) (i r : List kY) (w : World) (a : Sl (Pl lf) 12 (hp w) g i) (hm : qX i = some r) :
  lT true pg0 136 [g] w 140 lf 12 r := by
 unfold qX at hm
 refine tT 8 func136 rfl (fun d => sg (Wa (lS (Wm ?_))))
 obtain ⟨y, B, rfl⟩ := a.form
 refine V (Ed aX rfl rfl) (ln ?_)
 rcases y with _ | z
 ·have u := a.isNil
  replace hm : some [] = some r := by rw [u] at hm; simpa [mM, maxLen] using hm
  refine zj (rfl) (sg (Wa (lt (lm ?_))))
  obtain rfl := sj hm
  exact lQ (v := (.slice none 0 0)) rfl rfl ⟨_, [], rfl, d.mV (fun p h => by cases h) (by simp), kZ.nil _ _ _⟩
 ·refine qx (rfl) (kg (VE (lj (cs := #[]) d vj (zK [] aX cu dK dc rfl (by simp) rfl rfl) (fun G k d => Wm (bS hm fun H t hm => VE (mD (enc := lf) (v := (.slice (some ⟨k, 0, none⟩) 0 0)) (vs := (.slice (some z) i.length B)) (R := [(k, Ob #[] 140)]) d oV dc uH aX oq.1 oq.2.1 rfl oq.2.2.1 oq.2.2.2 rfl rfl (kZ.lit (l := []) (enc := lf) rfl dc rfl rfl) (a.mono (Pl.mono _) d.kN) t (fun D x j d c => Wa (lt ?_))))))))
  obtain rfl := sj hm
  exact lQ (v := x) rfl rfl ⟨_, j, rfl, d.mV (fun p h => (Ml h)) c.nd, c⟩
theorem AW (t : Value) (B : List kY) (k : LO) (D G : Int) (r : List kY) (w : World) {μ0 : lq} (o : pY μ0 (k ++ []) w) (c : kZ 140 lf 12 t B k) (hm : sx B D G = some r) :
  mn true pg0 135 [t, (.int .i64 D), (.int .i64 G)] w (k ++ []) (fun v L1 W' => ∃ n Y, v = n ∧ L1 = (Y ++ []) ∧ kZ 140 lf 12 n r Y) := by
 refine zX o 33 func135 rfl (fun h => sg (Wa (lr (Wm (Wm (Wm (Wm (V (mR aX rfl c) (bS hm fun _ y hm => VQ (Tj (a := D) (b := G) (m := (B.length : Int)) aX cu c rfl rfl rfl rfl (zT y).1 (zT y).2.1 (zT y).2.2.1 (zT y).2.2.2) (fun v1 A => ?_))))))))))
 refine lS (Wm (Wm (Wi rfl (ln (CI hm rfl (fun Z hm => ?_) (fun Z hm => ?_))))))
 ·refine sg (Wm (Wa (lt (lm ?_))))
  obtain rfl := sj hm
  exact lQ (v := t) rfl rfl ⟨_, _, rfl, (h.mQ (Kr Sn)), t, k, rfl, rfl, c⟩
 refine kg (Wm (V (mR aX rfl c) (Wa (ln (kV ?_)))))
 replace h := h.drew
 have d := h.has.kD Sn
 refine lN d lB (X 0 rfl d (kM rfl) (X 1 rfl d (kM rfl) (bS hm fun _ I hm => XQ 2 rfl d (um (i := D) aX cu rfl rfl c oV (qW I) (qR I)) (fun L N => X 3 rfl d (kM rfl) (X 4 rfl d (kM rfl) (bS hm fun _ J hm => XQ 5 rfl d (tW (i := G) aX cu rfl rfl c (qW J) (qR J)) (fun P Q => bS hm fun E H hm => XE 6 rfl (NO (i := (Int.toNat D)) (j := (Int.toNat G))  h c N oV dc uH aX oq.1 oq.2.2.1 (zT H).1 (zT H).2 Q rfl rfl (fun s K q h u x => ?_)))))))))
 have d := h.has.kD Sn
 refine ⟨d, (X 7 rfl d (nH rfl) (me kr (kK (sg (Wm (Wm (V (mR aX rfl x) (Wm (bS hm fun _ g hm => VQ (Sm (a := ((B.take (Int.toNat D) ++ B.drop (Int.toNat G)).length : Int)) (b := (B.length : Int)) aX cu dc u x rfl rfl rfl (zT g).1 (zT g).2.1 (zT g).2.2.1 (zT g).2.2.2) (fun R T => VO (yr (z := (⟨K7, K9⟩ : kY))  h u oV uH aX dK T rfl rfl (fun a9 U h M => ln ?_))))))))))))⟩
 refine sg (Wm (Wa (lt ?_)))
 obtain rfl := sj hm
 exact lQ (v := K) rfl rfl ⟨_, _, rfl, (h.mQ (Kr Sn)), K, U, rfl, rfl, (kZ.Tl dc oV u x M (by have := zT g; rw [wD _ _ _ (by omega)]; omega))⟩
theorem Mv (g : Value) (y : List kY) (r : Bool) (w : World) (z : Sl (Pl lf) 12 (hp w) g y) (hm : An y = some r) :
  lg false pg0 134 [g] w (.bool r) := by
 refine cG 40 func134 rfl (fun d => sg (Wa (lr (Wm (bS hm fun v d8 hm => VE (qu d call150 (lT.mz (Cq g y _ _ (z.mono (Pl.mono _) d.kN) d8)) (fun W3 v7 q R8 d a5 a8 H => Wa (ln (kV ?_)))))))))
 refine sg (Wm (V (mR bR rfl H) (Wm (ln (lz (fun i E W => ∃ I, (E 11 = .int .i64 (i : Nat) ∧ E 10 = .int .i64 (v.length : Nat)) ∧ ST false lu w W q (R8 ++ I) ∧ E 0 = g ∧ E 3 = v7 ∧ E 9 = v7 ∧ tO v y (v.drop i) i = some r) v.length H.len ⟨_, ⟨rfl, rfl⟩, (d.kD St), rfl, rfl, rfl, hm⟩ dc dc dc (fun _ _ _ h => by obtain ⟨_, L, _⟩ := h; exact L) ?_ ?_)))))
 ·rintro N E W b4 ⟨I, ⟨A, eN⟩, d, u, J, K, a⟩
  obtain ⟨j, e0, c5, U, c6⟩ := ll b4
  rw [c5] at a
  refine bg (Wh A (VQ (mF (i := (N : Int)) (x0 := j) bR bU K A H (aD _) U) (fun f2 b7 => V (kE rfl (oy d.has (fun p s => (Ml s)) H nA b7 U dx bU)) (VE (lD d cX (fun e4 f1 d => Wa (VO (lh (.agg (kO j).toArray) ((kO j).toArray) d rfl rfl bU (wA j) nb rfl (fun e5 d => ln (kV ?_))))))))))
  replace d := d.drew
  have n := d.has.kD (Kb Sn)
  refine lN n lB (X 0 rfl n (kM J) (X 1 rfl n (kM rfl) (bS a fun _ T a => XQ 2 rfl n (um (i := (N : Int)) bR bU rfl rfl H nA (qW T) (qR T)) (fun d3 c4 => XH 3 rfl n (fun _ hS => kE rfl (kL hS Mh (kO j) rfl dx bU)) (bS a fun f3 b9 a => XE 4 rfl (Eg d call153 (lg.mz (Af d3 (v.take (Int.toNat (N : Int))) j _ _ (c4.sl nA (fun b o s => d.at_ (Mt (Ml s)))) b9)) (fun e6 d => ?_)))))))
  have n := d.has.kD (Kb Sn)
  refine ⟨n, (me kr (kK ?_))⟩
  replace d := d.kD (Db St)
  refine CI a rfl (fun b0 a => ?_) (fun b0 a => ?_)
  ·refine sg (Wa (ln ?_))
   replace d := d.kD (Dr St)
   refine lx (mu (lm (mu (lm ?_))))
   obtain rfl := sj a
   exact rP d
  exact lG (lA (kK ⟨A, _, ⟨rfl, eN⟩, (d.kD St), u, J, K, (by rw [c6]; exact a)⟩))
 rintro E W ⟨I, ⟨A, eN⟩, d, u, J, K, a⟩
 rw [aG] at a
 refine kK ?_
 replace d := d.kD (Dr St)
 refine kV (sg (Wh u (bS a fun f4 c0 a => VE (Eg d call191 (Fm g y _ _ (z.mono (Pl.mono _) (a5.trans d.kN)) c0) (fun e7 d => V (nr rfl) (ln (CI a rfl (fun b1 a => ?_) (fun b1 a => ?_))))))))
 ·refine sg (Wa (lt (lm ?_)))
  obtain rfl := sj a
  exact rP d
 refine kS (Wh u (V (lJ aX rfl z) (Wi rfl (V (Ot (k := .i64) rfl rfl) (Wm (ln (GJ a (fun a7 E W => ∃ Q Y, lb q Q ∧ ST false lu w W Q Y) (fun a7 b6 B => ?_) ?_)))))))
 ·refine mP (ou (fun m E W => ∃ t G Z, lb q G ∧ ST false lu w W G Z ∧ E 0 = g ∧ E 28 = (.int .i64 (if 0 > (wi0 .i64 ((y.length : Int) - 1)) then 0 else (wi0 .i64 ((y.length : Int) - 1)))) ∧ E 29 = (.int .i64 t) ∧ tG y m t = some a7) lE ⟨0, q, _, (lb.refl _), (d.kD St), u, rfl, rfl, b6⟩ ?_)
  rintro m E W ⟨t, G, Z, x, d, a1, a2, M, c⟩
  cases m with
  | zero => rw [tG] at c; cases c
  | succ d0 =>
   refine sg (V (lK M a2 rfl) (ln (kV (CI c rfl (fun b2 c => ?_) (fun b2 c => ?_)))))
   ·refine kn (kV (bg (Wh M (Wa (lr (Wh a1 (bS c fun d1 c1 c => VE (qu d call136 (lT.mz (Bx g y _ _ (z.mono (Pl.mono _) ((a5.trans x).trans d.kN)) c1)) (fun e8 d4 f7 c9 d a3 P a9 => ?_)))))))))
    refine Wm (Wm (Wi rfl (bS c fun d2 c2 c => ?_)))
    refine VE (eM d (Cr Qz Cn) call135 (fun hh _ => mn.mz (AW d4 d1 c9 t (wi0 .i64 (t + 1)) _ _ hh a9 c2)) ?_)
    rintro _ f6 d6 e1 d a4 R a6 ⟨d5, e3, D, rfl, c7⟩
    obtain rfl := D.symm
    replace d := d.perm (Tr Tn)
    refine bS c fun f5 c3 c => VE (Eg d call191 (Fm d5 d2 _ _ (c7.sl oV (fun b o s => d.at_ (Ml s))) c3) (fun f0 d => ln ?_))
    replace d := d.kD (Dr St)
    refine CI c rfl (fun b3 c => ?_) (fun b3 c => ?_)
    ·refine sg (Wa (lt (mu (lm (lm (mu (lm ?_)))))))
     obtain rfl := sj c
     replace B : some false = some r := B
     obtain rfl := sj B
     exact rP d
    exact lG (lA (kK (kT (V (lK M rfl rfl) (Wm (ln ⟨d0, bT _, (wi0 .i64 (t + 1)), d6, _, ((x.trans a3).trans a4), (d.kD St), a1, a2, rfl, c⟩))))))
   refine ot (nT (nT (uj (kK ?_))))
   obtain rfl := sj c
   exact ⟨_, rfl, G, _, x, (d.kD St)⟩
 rintro ⟨⟩ E W ⟨Q, Y, d7, d⟩ b5
 exact sg (Wa (lt (rQ b5 d)))
theorem KU (B : Value) (D : List kY) (r : Bool) (w : World) (z : Sl (Pl lf) 12 (hp w) B D) (hm : zx D = some r) :
  lg false pg0 137 [B] w (.bool r) := by
 refine cG 22 func137 rfl (fun d => sg (Wa (lr (Wa (lS (Wm ?_))))))
 refine V (lJ aX rfl z) (Wm (ln (lz (fun i E W => ∃ g k j u, (E 8 = .int .i64 (i : Nat) ∧ E 7 = .int .i64 (D.length : Nat)) ∧ ST false lu w W (hp w) (j ++ u) ∧ E 3 = g ∧ E 6 = B ∧ kZ 38 kO 3 g k j ∧ sU (D.drop i) k = some r) D.length z.len ⟨(.slice none 0 0), ([]), [], _, ⟨rfl, rfl⟩, (d.kD St), rfl, rfl, (kZ.nil _ _ _), hm⟩ dc dc dc (fun _ _ _ h => by obtain ⟨_, _, _, _, n, _⟩ := h; exact n) ?_ ?_)))
 ·rintro a2 E W Q ⟨g, k, j, u, ⟨m, q⟩, d, x, y, t, a⟩
  obtain ⟨c, b1, U, T, Y⟩ := ll Q
  rw [U] at a
  refine bg (VQ (lY (enc := lf) (i := (a2 : Int)) (x0 := c) aX cu y m z (aD _) T) (fun a9 J => V (kE rfl (lO d.has J eX cu)) (VE (lD d dK (fun a3 a8 d => VO (lh (.agg (lf c).toArray) ((lf c).toArray) d rfl rfl cu (uH c) nb rfl (fun a4 d => lS (VA d Mh (lf c) eX cu (Wh x (bS a fun b0 K a => ?_))))))))))
  refine VE (Eg d call152 (Bt c g k _ _ (t.sl nA (fun b o A => d.at_ (Mt (Ml A)))) K) (fun a5 d => V (nr rfl) (ln (CI a rfl (fun H a => ?_) (fun H a => ?_)))))
  ·refine sg (Wa (ln ?_))
   replace d := d.kD (Db (Dr St))
   refine lx (lm (mu (lm (mu (lm ?_)))))
   obtain rfl := sj a
   exact rP d
  refine kn (kT (Wh x (Wf sX (VA d Mh (kO c.kF) dx bU (VE (lj (cs := (kO c.kF).toArray) d (mN rfl) (mJ bR bU cX) (fun L N d => ?_)))))))
  replace d := d.perm (Nr (Qb (Qb Qz)) Nz)
  refine bS a fun Z I a => VE (mD (enc := kO) (v := g) (vs := (.slice (some ⟨N, 0, none⟩) 1 1)) (R := j) d nA dc wA bR pW.1 pW.2.1 rfl pW.2.2.1 pW.2.2.2 rfl rfl t (Sl.lit (enc := kO) (l := [c.kF]) nA rfl nb rfl (d.at_ (Ma Mh))) I (fun P s M d G => Wa (lo (lA (kK ?_)))))
  replace d := d.kD (Kr (Db (Db St)))
  exact ⟨m, s, Z, M, _, ⟨rfl, q⟩, (d.kD St), rfl, y, G, (by rw [Y]; exact a)⟩
 rintro E W ⟨g, k, j, u, ⟨m, q⟩, d, x, y, t, a⟩
 rw [aG] at a
 refine kK ?_
 replace d := d.kD (Dr St)
 exact sg (Wa (lt (rQ a d)))
theorem Iq (s : Value) (a0 : List kY) (k : LO) (r : List kY) (w : World) {μ0 : lq} (h0 : pY μ0 (k ++ []) w) (e5 : kZ 140 lf 12 s a0 k) (hm : xu a0 = some r) :
  mn false pg0 67 [s] w (k ++ []) (fun v L1 W' => ∃ y1 S2, v = y1 ∧ L1 = (S2 ++ []) ∧ kZ 140 lf 12 y1 r S2) := by
 refine zX h0 25 func67 rfl (fun d => sg (Wa (ln (kV (mP (ou (fun m E W => ∃ i t y x P, lb μ0 x ∧ ST false (keys (k ++ [])) w W x (y ++ P) ∧ E 0 = i ∧ kZ 140 lf 12 i t y ∧ qC m t = some r) lE ⟨s, a0, k, μ0, _, (lb.refl _), (d.kD St), rfl, e5, hm⟩ ?_))))))
 rintro m E W ⟨i, t, y, x, P, b4, d, J, D, c⟩
 cases m with
 | zero => rw [qC] at c; cases c
 | succ d9 =>
  refine kV (sg (Wh J (bS c fun f4 c6 c => VE (Eg d call134 (Mv i t _ _ (D.sl oV (fun b o h => d.at_ (Ml h))) c6) (fun f0 d => V (nr rfl) (ln (CI c rfl (fun c0 c => ?_) (fun c0 c => ?_))))))))
  ·refine kn (bg (Wh J (V (mR aX rfl D) (Wi rfl (Wa (ln (vG (CJ c (fun a4 E W => ∃ M H Q R, lb x Q ∧ ST false (keys (k ++ [])) w W Q (H ++ R) ∧ E 0 = M ∧ kZ 140 lf 12 M a4 H) (fun a4 c4 => ?_) ?_))))))))
   ·refine mP (ou (fun m E W => ∃ u K z j G a9, lb x G ∧ ST false (keys (k ++ [])) w W G (z ++ a9) ∧ E 0 = u ∧ E 3 = (.int .i64 j) ∧ kZ 140 lf 12 u K z ∧ px m K j = some a4) lE ⟨i, t, y, (wi0 .i64 ((t.length : Int) - 2)), x, _, (lb.refl _), (d.kD St), J, rfl, D, c4⟩ ?_)
    rintro m E W ⟨u, K, z, j, G, a9, Z, d, a3, B, U, g⟩
    cases m with
    | zero => rw [px] at g; cases g
    | succ e0 =>
     refine kV (sg (Wh B (Wi rfl (ln (CI g rfl (fun c1 g => ?_) (fun c1 g => ?_))))))
     ·refine kn (kV (CJ g (fun b1 E W => ∃ N I T b0, lb G T ∧ ST false (keys (k ++ [])) w W T (I ++ b0) ∧ E 0 = N ∧ E 3 = (.int .i64 j) ∧ kZ 140 lf 12 N b1 I) (fun b1 a => ?_) ?_))
      ·refine bg (Wh a3 (bS a fun e1 c7 a => VE (qu d call136 (lT.mz (Bx u K _ _ (U.sl oV (fun b o h => d.at_ (Ml h))) c7)) (fun f1 e3 f7 d2 d L n b9 => Wh B (Wh B (Wi rfl (bS a fun e2 c8 a => ?_)))))))
       refine VE (eM d (Cr Qz Cn) call135 (fun hh _ => mn.mz (AW e3 e1 d2 j (wi0 .i64 (j + 1)) _ _ hh b9 c8)) ?_)
       rintro _ f6 b3 e9 d a2 q A ⟨b2, d3, Y, rfl, a5⟩
       obtain rfl := Y.symm
       replace d := d.perm (Tr Tn)
       refine Wa (lr (Wm (bS a fun f5 c9 a => VE (Eg d call137 (KU b2 e2 _ _ (a5.sl oV (fun b o h => d.at_ (Ml h))) c9) (fun f3 d => ln (CI a rfl (fun c2 a => ?_) (fun c2 a => ?_)))))))
       ·refine kT (Wm (Wa (lo (lA (kK ?_)))))
        obtain rfl := sj a
        exact ⟨b2, d3, b3, _, (L.trans a2), (d.kD (Kr (Dr St))), rfl, B, a5⟩
       refine lG (lA (kK ?_))
       obtain rfl := sj a
       exact ⟨u, z, b3, _, (L.trans a2), (d.kD (Dr St)), a3, B, U⟩
      rintro d8 E W ⟨N, I, T, b0, b6, d, d5, d6, d1⟩ c5
      exact kT (Wh d6 (Wi rfl (Wa (ln ⟨e0, bT _, N, d8, I, (wi0 .i64 (j - 1)), T, _, (Z.trans b6), (d.kD St), d5, rfl, d1, c5⟩))))
     refine ot (nT (nT (uj (kK ?_))))
     obtain rfl := sj g
     exact ⟨u, z, G, _, Z, (d.kD St), a3, U⟩
   rintro d7 E W ⟨M, H, Q, R, b5, d, d4, d0⟩ c3
   exact lA (kK ⟨d9, bT _, M, d7, H, Q, _, (b4.trans b5), (d.kD St), d4, d0, c3⟩)
  refine ot (nT (nT (uj (kK (sg (Wh J (Wa (lt ?_))))))))
  obtain rfl := sj c
  exact lQ (v := i) rfl rfl ⟨_, _, rfl, (d.mQ (Kr Sn)), i, y, rfl, rfl, D⟩
theorem NJ (g : Value) (k : List kB) (i : kF) (r : ((List kY) × Bool)) (w : World) (y : Sl (Pl kG) 9 (hp w) g k) (hm : vM k i = some r) :
  mn false pg0 22 [g, (.agg (kO i).toArray)] w [] (fun v T W' => ∃ M I, v = (.tuple #[M, (.bool (r.2))]) ∧ T = (I ++ []) ∧ kZ 140 lf 12 M r.1 I) := by
 refine tT 18 func22 rfl (fun d => sg (VE (lF d rfl (fun W2 x d => Wa (Wa (lr (Wm (VA d Mh (kO i) dx bU (bS hm fun Y K hm => ?_)))))))))
 refine VE (IG d (du _) call66 (fun _ _ _ _ => (MD g k i _ _ (y.mono (Pl.mono _) d.kN) K)) (fun W5 v9 q Z d U o h t => ?_) (L0 := []))
 obtain ⟨N, H, a, rfl, D⟩ := t
 replace a := a.symm; subst a
 replace d := d.perm (Tr Tn)
 refine Wm (Wx rfl (Wx rfl (Wa (Wa (ln ?_)))))
 replace d := d.kD (Kr (Db St))
 refine kV (sg (Wm (V (nr rfl) (ln (CI hm rfl (fun z hm => ?_) (fun z hm => ?_))))))
 ·refine sg (Wa (Wa (ln ?_)))
  replace d := d.kD (Dr St)
  refine lx (lm ?_)
  obtain rfl := sj hm
  refine uk (v := (.slice none 0 0)) (u := (.bool false)) rfl rfl rfl ?_
  replace d := d.Xq
  exact ⟨_, _, rfl, (d.NP (Kr Sn)), (.slice none 0 0), [], rfl, rfl, (kZ.nil _ _ _)⟩
 refine kg (Wm (bS hm fun a4 B hm => ?_))
 refine VE (eM d (Cr Qz Cn) call67 (fun n _ => (Iq N Y.1 H _ _ n D B)) ?_)
 rintro _ a5 s a2 d Q m h ⟨j, J, c, rfl, G⟩
 obtain rfl := c.symm
 replace d := d.perm (Tr Tn)
 refine Wa (Wa (lt ?_))
 obtain rfl := sj hm
 exact uk (v := j) (u := (.bool true)) rfl rfl rfl ⟨_, _, rfl, (d.NP (Kr Sn)), j, J, rfl, rfl, G⟩
theorem ET (I : Int) (r : List kY) (w : World) (hm : tZ I = some r) :
  lT true pg0 198 [(.slice none 0 0), (.int .i64 I)] w 140 lf 12 r := by
 refine tT 27 func198 rfl (fun d => sg (Wa (lS (Wm (Wi rfl (ln (CI hm rfl (fun K hm => ?_) (fun K hm => ?_))))))))
 ·cases hm
 refine kn (kV (CJ hm (fun u E W => ∃ g c t, ST true lu w W (hp w) (c ++ t) ∧ E 0 = g ∧ kZ 140 lf 12 g u c) (fun u a => ?_) ?_))
 ·refine sg (Wm (Wm (V (NY aX rfl) (Wm (V (BR aX rfl) (Wi rfl (Wi rfl (Wa (lr (Wm ?_))))))))))
  refine Wi rfl (ln (CI a rfl (fun y a => ?_) (fun y a => ?_)))
  ·refine kT (Wm (Wm (V (NY aX rfl) (V (Rz aX cu rfl rfl) (Wm (bS a fun T B a => VE (Nk (enc := lf) (z := (⟨K7, K9⟩ : kY)) d oV dc aX gz oq.1 oq.2.1 oq.2.2.1 oq.2.2.2 rfl rfl rfl B (fun N U H d x => Wm (V (BR aX rfl) (bS a fun _ j a => VQ (um (i := 0) aX cu rfl rfl x oV (qW j) (qR j)) (fun M G => Wa (ln ?_))))))))))))
   obtain rfl := sj a
   exact ⟨M, H, _, (d.kD St), rfl, G⟩
  refine kn ?_
  obtain rfl := sj a
  exact ⟨(.slice none 0 0), [], _, (d.kD St), rfl, (kZ.nil _ _ _)⟩
 rintro Q E W ⟨g, c, t, d, J, k⟩ D
 refine sg (Wh J (Wa (lt ?_)))
 obtain rfl := sj D
 exact lQ (v := g) rfl rfl ⟨_, c, rfl, d.mV (fun p h => (Ml h)) k.nd, k⟩
theorem Gf (t : Value) (z : List (List kY)) (r : List kY) (w : World) (j : Sl (vQ lf 12) 1 (hp w) t z) (hm : xV z = some r) :
  lT true pg0 145 [t] w 140 lf 12 r := by
 refine tT 36 func145 rfl (fun d => sg (Wa (lr (Wa (lS (Wm ?_))))))
 refine V (lJ iD rfl j) (Wm (ln (lz (fun i E W => ∃ u Q, (E 11 = .int .i64 (i : Nat) ∧ E 10 = .int .i64 (z.length : Nat)) ∧ ST true lu w W (hp w) Q ∧ E 0 = t ∧ E 3 = (.int .i64 u) ∧ E 9 = t ∧ pt z (z.drop i) u = some r) z.length j.len ⟨0, _, ⟨rfl, rfl⟩, (d.kD St), rfl, rfl, rfl, hm⟩ dc dc dc (fun _ _ _ h => by obtain ⟨_, _, n, _⟩ := h; exact n) ?_ ?_)))
 ·rintro d1 E W b9 ⟨u, Q, ⟨m, o⟩, d, T, U, Y, a⟩
  obtain ⟨q, e0, c4, c3, c5⟩ := ll b9
  rw [c4] at a
  refine bg (VQ (F6 (enc := lf) (k2 := 12) (i := (d1 : Int)) (x0 := q) iD kw Y m j (aD _) c3) (fun e2 ⟨d3, c0, c2⟩ => V (kE rfl (nh d.has (y := d3) c0 iE)) (Wa (lr (Wh U (Wm (V (lJ aX rfl c2) (Wi rfl (Wa ?_)))))))))
  refine lr (Wm (Wi rfl (ln (CI a rfl (fun b7 a => ?_) (fun b7 a => ?_)))))
  ·cases a
  exact lG (lA (kK ⟨m, (wi0 .i64 (u + (q.length : Int))), _, ⟨rfl, o⟩, (d.kD St), T, rfl, Y, (by rw [c5]; exact a)⟩))
 rintro E W ⟨u, Q, ⟨m, o⟩, d, T, U, Y, a⟩
 rw [aG] at a
 refine kK (sg (Wh U (bS a fun d2 c1 a => VE (qu d call198 (ET u _ _  c1) (fun e1 d4 s d0 d a4 A b6 => Wa (lS (Wh T (V (lJ iD rfl j) (Wm ?_)))))))))
 refine ln (CJ a (fun K E W => ∃ G x N, ST true lu w W s (x ++ N) ∧ E 6 = G ∧ kZ 140 lf 12 G K x) (fun K P => ?_) ?_)
 ·refine lz (fun i E W => ∃ k D g H, (E 27 = .int .i64 (i : Nat) ∧ E 26 = .int .i64 (z.length : Nat)) ∧ ST true lu w W s (g ++ H) ∧ E 6 = k ∧ E 25 = t ∧ kZ 140 lf 12 k D g ∧ pw (z.drop i) D = some K) z.length j.len ⟨d4, d2, d0, _, ⟨rfl, rfl⟩, (d.kD St), rfl, rfl, b6, P⟩ dc dc dc (fun _ _ _ h => by obtain ⟨_, _, _, _, n, _⟩ := h; exact n) ?_ ?_
  ·rintro c6 E W a3 ⟨k, D, g, H, ⟨m, o⟩, d, I, J, B, c⟩
   obtain ⟨c9, d5, b0, a9, b1⟩ := ll a3
   rw [b0] at c
   refine bg (VQ (F6 (enc := lf) (k2 := 12) (i := (c6 : Int)) (x0 := c9) iD kw J m (j.mono (vQ.mono _ _) a4) (aD _) a9) (fun d8 ⟨Z, a7, a8⟩ => V (kE rfl (nh d.has (y := Z) a7 iE)) (Wa (ln (kT (Wh I (Wm (bS c fun c7 a2 c => VE (mD (enc := lf) (v := k) (vs := Z) (R := g) d oV dc uH aX oq.1 oq.2.1 rfl oq.2.2.1 oq.2.2.2 rfl rfl B (a8.mono (Pl.mono _) d.kN) a2 (fun d6 c8 b4 d L => Wa (lo ?_)))))))))))
   exact lA (kK ⟨m, c8, c7, b4, _, ⟨rfl, o⟩, (d.kD St), rfl, J, L, (by rw [b1]; exact c)⟩)
  rintro E W ⟨k, D, g, H, ⟨m, o⟩, d, I, J, B, c⟩
  rw [aG] at c
  refine kK ?_
  obtain rfl := sj c
  exact ⟨k, g, _, (d.kD St), I, B⟩
 rintro d7 E W ⟨G, x, N, d, b5, M⟩ a5
 refine sg (Wh b5 (Wa (lt ?_)))
 obtain rfl := sj a5
 exact lQ (v := G) rfl rfl ⟨_, x, rfl, d.mV (fun p hq => (Ml hq)) M.nd, M⟩
theorem MC (M : Value) (a0 : List (List kY)) (r : List kY) (w : World) (a8 : Sl (vQ lf 12) 1 (hp w) M a0) (hm : AB a0 = some r) :
  lT true pg0 74 [M] w 140 lf 12 r := by
 refine tT 29 func74 rfl (fun d => sg (Wa (lr (VE (Ee (P := pg0) (fun (x : kF) => (.agg (kO x).toArray)) (fun (x : Bool) => (Value.bool x)) d (fun W1 v4 R2 d b3 => Wa (lr (Wa ?_))))))))
 refine lS (Wm (bS hm fun A b4 hm => VE (qu d call145 (Gf M a0 _ _ (a8.mono (vQ.mono _ _) d.kN) b4) (fun W7 b6 L b2 d c6 a6 J => V (mR aX rfl J) (Wm (ln (lz (fun i E W => ∃ u B j G g K, (E 11 = .int .i64 (i : Nat) ∧ E 10 = .int .i64 (A.length : Nat)) ∧ ST true lu w W L (g ++ (b2 ++ (B ++ K))) ∧ E 3 = v4 ∧ E 4 = j ∧ E 9 = b6 ∧ mx (fun (x : kF) => (.agg (kO x).toArray)) (fun (x : Bool) => (Value.bool x)) v4 u B ∧ kZ 140 lf 12 j G g ∧ rV (A.drop i) u G = some r) A.length J.len ⟨([]), R2, (.slice none 0 0), ([]), [], _, ⟨rfl, rfl⟩, (d.kD St), rfl, rfl, rfl, b3, (kZ.nil _ _ _), hm⟩ dc dc dc (fun _ _ _ h => by obtain ⟨_, _, _, _, _, _, q, _⟩ := h; exact q) ?_ ?_)))))))
 ·rintro b5 E W a1 ⟨u, B, j, G, g, K, ⟨n, s⟩, d, D, H, I, y, t, a⟩
  obtain ⟨c, c8, a3, N, Q⟩ := ll a1
  rw [a3] at a
  refine bg (VQ (mF (i := (b5 : Int)) (x0 := c) aX cu I n J (aD _) N) (fun c7 a2 => V (kE rfl (oy d.has (fun p m => (Ma (Ml m))) J oV a2 N eX cu)) (VE (lD d dK (fun c0 c5 d => VO (lh (.agg (lf c).toArray) ((lf c).toArray) d rfl rfl cu (uH c) nb rfl (fun c1 d => lr (Wh D (Wf sX (VA d Mh (kO c.kF) dx bU (V (xF (k := c.kF) (z := false) (vf := (fun (x : Bool) => (Value.bool x))) NE iC gv rfl rfl (y.at (fun b o m => d.has.2 b o (Mt (Ma (Ma (Ml m))))))) ?_)))))))))))
  refine V (nr rfl) (ln (CI a rfl (fun Y a => ?_) (fun Y a => ?_)))
  ·refine sg (Wh D (Wf sX (VA d Mh (kO c.kF) dx bU ?_)))
   replace d := d.perm (Nr (Qb (Qr (Qr Qz))) Nz)
   refine VO (Iz (k := c.kF) (v := true) (vf := (fun (x : Bool) => (Value.bool x)))  NE iC d y rfl rfl rfl (fun c2 a4 d T => ln (kT (Wh H (VA d (Ma Mh) (lf c) eX cu (VE (lj (cs := (lf c).toArray) d (mN rfl) (mJ aX cu dK) (fun c3 a7 d => ?_))))))))
   replace d := d.perm (Nr (Qb (Qr (Qb Qz))) Nz)
   refine bS a fun a9 Z a => VE (mD (enc := lf) (v := j) (vs := (.slice (some ⟨a7, 0, none⟩) 1 1)) (R := g) d oV dc uH aX oq.1 oq.2.1 rfl oq.2.2.1 oq.2.2.2 rfl rfl t (Sl.lit (enc := lf) (l := [c]) oV rfl nb rfl (d.at_ (Ma Mh))) Z (fun c4 b1 a5 d U => Wa (lo (lA (kK ?_)))))
   replace d := d.kD (Kr (Db (Kr (Db St))))
   exact ⟨n, (ow nq u c.kF true), a4, b1, a9, a5, _, ⟨rfl, s⟩, (d.kD (Kr (Sr (Qr Qz) St))), D, rfl, I, T, U, (by rw [Q]; exact a)⟩
  refine lG (lA (kK ?_))
  replace d := d.kD (Db St)
  exact ⟨n, u, B, j, G, g, _, ⟨rfl, s⟩, (d.kD St), D, H, I, y, t, (by rw [Q]; exact a)⟩
 rintro E W ⟨u, B, j, G, g, K, ⟨n, s⟩, d, D, H, I, y, t, a⟩
 rw [aG] at a
 refine kK ?_
 replace d := d.kD (Kr (Dr (Dr St)))
 refine sg (Wh H (Wa (lt ?_)))
 obtain rfl := sj a
 exact lQ (v := j) rfl rfl ⟨_, g, rfl, d.mV (fun p m => (Ml m)) t.nd, t⟩
set_option maxHeartbeats 4000000 in
theorem DT (a : ur) (a5 a6 b1 c1 b3 c0 : Value) (Y : Formula) (c7 : Value) (Q T : Int) (a4 : Bool) (r : lX) (w : World) {μ0 : lq} (h0 : pY μ0 [] w) (H : Sl oR 15 μ0 a5 a.mg.mY) (K : Sl ve 8 μ0 a6 a.mg.oX) (G : Sl (Pl kG) 9 μ0 b1 a.lL) (b0 : Sl (Pl kG) 9 μ0 c1 a.Shown) (a7 : Sl (Pl kC) 2 μ0 b3 a.mG) (a9 : Sl (Pl kC) 2 μ0 c0 a.sI) (c5 : Sl la 5 μ0 c7 Y.Kids) (hm : oK a Y Q T a4 = some r) :
  pK false pg0 27 [(.agg #[(.string a.mg.Name), a5, a6, (.string a.od), (.int .i64 a.Room), b1, c1, b3, c0]), (.agg #[(.int .i64 Y.Op), (.int .i64 Y.K), (.string Y.kA.kI), (.string Y.kA.kU), c7]), (.int .i64 Q), (.int .i64 T), (.bool a4)] w μ0 [] (fun v L1 μ1 => ∃ y1 y3, v = (.agg #[(.int .i64 ((r).State)), (.int .i64 ((r).ox)), y1, y3]) ∧ L1 = [] ∧ Sl (Pl kC) 2 μ1 y1 ((r).lV) ∧ Sl (Pl lf) 12 μ1 y3 ((r).lW)) := by
 let a2 : Value := (.agg (C7 Q T).toArray)
 refine RY h0 64 func27 rfl (fun d => sg ?_)
 obtain ⟨A1, c2, rfl⟩ := H.form
 obtain ⟨A3, c4, rfl⟩ := K.form
 obtain ⟨A5, c6, rfl⟩ := G.form
 let b8 : Value := (.slice A5 a.lL.length c6)
 obtain ⟨A7, c8, rfl⟩ := b0.form
 obtain ⟨A9, d1, rfl⟩ := a7.form
 obtain ⟨c9, d2, rfl⟩ := a9.form
 let a0 := (C2 a.mg.Name A1 a.mg.mY.length c2 A3 a.mg.oX.length c4 a.od a.Room A5 a.lL.length c6 A7 a.Shown.length c8 A9 a.mG.length d1 c9 a.sI.length d2)
 refine VE (lF d rfl (fun r7 h3 d => ?_))
 obtain ⟨h2, h6, rfl⟩ := c5.form
 let d7 := (C1 Y.Op Y.K Y.kA.kI Y.kA.kU h2 Y.Kids.length h6)
 refine VE (lF d rfl (fun r8 m1 d => VE (lD d dQ (fun r9 h4 d => lr (Wm (Wm (V (nm (v := a2) (pH rfl rfl) (mE dQ ec (Tz _ ec) kr)) (VE (lD d dQ (fun s0 h5 d => VO (lh a2 ((C7 Q T).toArray) d rfl rfl di oc nb rfl (fun s1 d => ln (kV (kV ?_))))))))))))))
 refine kT (Wm (V (nr rfl) (Wm (LJ hm (fun i2 E W => ∃ m0, ST false (keys []) w W μ0 ((h5, Ol (C7 Q T) 64) :: ((h4, Ol C8 64) :: ((m1, Ol d7 57) :: ((h3, Ol a0 54) :: m0)))) ∧ E 5 = (.pointer (some ⟨h3, 0, none⟩)) ∧ E 6 = (.pointer (some ⟨m1, 0, none⟩)) ∧ E 10 = (.pointer (some ⟨h4, 0, none⟩)) ∧ E 11 = (.pointer (some ⟨h5, 0, none⟩)) ∧ E 26 = (.bool i2)) 3 ?_ (fun i2 b6 f5 => ?_)))))
 ·rintro s3 E W ⟨m0, d, m2, n0, f3, h7, n1⟩ N
  refine ln (CI N n1 (fun m5 N => ?_) (fun m5 N => ?_))
  ·refine sg (V (kE h7 (kL d.has Mh (C7 Q T) rfl eP di)) ?_)
   replace d := d.perm (Nb (Pb Pz) Nz)
   refine VO (lh a2 ((C7 Q T).toArray) d f3 rfl di oc nb rfl (fun s2 d => ln ?_))
   replace d := d.kD (Kb (Db (Db (Db St))))
   refine lx (lm ?_)
   obtain rfl := sj N
   exact wR (v := a2) rfl f3 (kL d.has Mh (C7 Q T) rfl eP di) ⟨_, _, _, rfl, (d.mQ Sn), (lb.refl _), Lo.refl, (ST.ma d (ny.mem Sn)), (.slice none 0 0), (.slice none 0 0), rfl, rfl, (Sl.nil _ _ _), (Sl.nil _ _ _)⟩
  refine kn (kV ?_)
  replace d := d.drew
  have m := d.has.kD (Db (Db (Kb (Kb Sn))))
  refine lN m lB (XH 0 rfl m (fun _ hS => kE n0 (kL hS Mh d7 rfl cx aZ)) (XH 1 rfl m (fun _ hS => kE m2 (kL hS (Mt Mh) a0 rfl kz gX)) (bS N fun t k5 N => ?_)))
  refine XE 2 rfl (IG d (du _) call73 (fun _ _ _ _ => (Sv a (.slice A1 a.mg.mY.length c2) (.slice A3 a.mg.oX.length c4) b8 (.slice A7 a.Shown.length c8) (.slice A9 a.mG.length d1) (.slice c9 a.sI.length d2) _ _ (H.mono BQ.mono d.kN) (K.mono KX.mono d.kN) (G.mono (Pl.mono _) d.kN) (b0.mono (Pl.mono _) d.kN) (a7.mono (Pl.mono _) d.kN) (a9.mono (Pl.mono _) d.kN) k5)) (fun o6 q0 q6 n7 d z s ak i8 => ?_) (L0 := []))
  obtain ⟨e1, g2, i3, o0, i4, o1, i5, o2, i6, o3, i7, o4, e2, e7, rfl, l5, l6, l7, l8, l9⟩ := i8
  replace e7 := e7.symm; subst e7
  replace d := d.perm (Tb (Tb (Tb (Tr (Tr (Tr (Tr (Tr Tn))))))))
  have m := d.has.sL z (Db (Db (Db (Dr (Dr (Dr (Dr (Dr (Db (Db (Kb (Kb Sn))))))))))))
  refine ⟨m, ?_⟩
  replace d := d.perm (Nr (Qb (Qb (Qb Qz))) Nz)
  obtain ⟨q7, d, D, A, j8⟩ := ST.A2 d
  replace d := d.perm (Nr (Qb (Qb (Qb Qz))) Nz)
  obtain ⟨q8, d, B, L, k9⟩ := ST.Bf d l6 mT
  replace d := d.perm (Nr (Qb (Qb (Qb Qz))) Nz)
  obtain ⟨q9, d, y, P, j9⟩ := ST.A2 d
  replace d := d.perm (Nr (Qb (Qb (Qb Qz))) Nz)
  obtain ⟨r0, d, u, aa, k0⟩ := ST.A2 d
  replace d := d.perm (Nr (Qb (Qb (Qb Qz))) Nz)
  obtain ⟨r1, d, k, ab, l0⟩ := ST.Yk d l9 nA
  replace d := d.perm (Nb (Pb Pz) Nz)
  obtain ⟨r2, d, j, ad, k1⟩ := ST.A2 (R := [(g2, Ob #[i3, i4, i5, i6, i7, (.int .i64 (t.2.2.2.2.2.1))] 174)]) d
  have j3 := At.of (k1 _ _ (.head _)) _ rfl
  obtain ⟨r3, d, g, ae, k2⟩ := ST.A2 (R := [(e1, Ob #[(.pointer (some ⟨g2, 0, none⟩))] 101)]) d
  have j4 := At.of (k2 _ _ (.head _)) _ rfl
  obtain ⟨r4, d, c, af, k3⟩ := ST.A2 (R := [(e2, Ol (C2 (t.2.2.2.2.2.2.1) A1 a.mg.mY.length c2 A3 a.mg.oX.length c4 (t.2.2.2.2.2.2.2.1) (t.2.2.2.2.2.2.2.2) A5 a.lL.length c6 A7 a.Shown.length c8 A9 a.mG.length d1 c9 a.sI.length d2) 54)]) d
  have j5 := At.of (k3 _ _ (.head _)) _ rfl
  refine bS N fun J k6 N => ?_
  refine XE 3 rfl (eD d (du _) call72 (fun hh => (NI Y (.slice h2 Y.Kids.length h6) (.func (.func 144) #[] #[(.pointer (some ⟨e1, 0, none⟩)), (.pointer (some ⟨e2, 0, none⟩))]) (fun (x : kA) => zd x t.1 t.2.1 t.2.2.1 t.2.2.2.1 t.2.2.2.2.1 t.2.2.2.2.2.1 t.2.2.2.2.2.2.1 a.mg.mY a.mg.oX t.2.2.2.2.2.2.2.1 t.2.2.2.2.2.2.2.2 a.lL a.Shown a.mG a.sI) _ _ hh (c5.mono lZ.mono ((((((((z.trans D).trans B).trans y).trans u).trans k).trans j).trans g).trans c)) ⟨144, #[], #[(.pointer (some ⟨e1, 0, none⟩)), (.pointer (some ⟨e2, 0, none⟩))], rfl, call144, fun W x r q hm => (Nn x e1 g2 i3 t.1 i4 t.2.1 i5 t.2.2.1 i6 t.2.2.2.1 i7 t.2.2.2.2.1 t.2.2.2.2.2.1 e2 t.2.2.2.2.2.2.1 (.slice A1 a.mg.mY.length c2) a.mg.mY (.slice A3 a.mg.oX.length c4) a.mg.oX t.2.2.2.2.2.2.2.1 t.2.2.2.2.2.2.2.2 b8 a.lL (.slice A7 a.Shown.length c8) a.Shown (.slice A9 a.mG.length d1) a.mG (.slice c9 a.sI.length d2) a.sI r W ((l5.at j8).mono (((((((B.trans y).trans u).trans k).trans j).trans g).trans c).trans q)) (k9.mono (Pl.mono _) ((((((y.trans u).trans k).trans j).trans g).trans c).trans q)) ((l7.at j9).mono (((((u.trans k).trans j).trans g).trans c).trans q)) ((l8.at k0).mono ((((k.trans j).trans g).trans c).trans q)) (l0.mono (Pl.mono _) (((j.trans g).trans c).trans q)) (j3.mono ((g.trans c).trans q)) (j4.mono (c.trans q)) (H.mono BQ.mono (((((((((z.trans D).trans B).trans y).trans u).trans k).trans j).trans g).trans c).trans q)) (K.mono KX.mono (((((((((z.trans D).trans B).trans y).trans u).trans k).trans j).trans g).trans c).trans q)) (G.mono (Pl.mono _) (((((((((z.trans D).trans B).trans y).trans u).trans k).trans j).trans g).trans c).trans q)) (b0.mono (Pl.mono _) (((((((((z.trans D).trans B).trans y).trans u).trans k).trans j).trans g).trans c).trans q)) (a7.mono (Pl.mono _) (((((((((z.trans D).trans B).trans y).trans u).trans k).trans j).trans g).trans c).trans q)) (a9.mono (Pl.mono _) (((((((((z.trans D).trans B).trans y).trans u).trans k).trans j).trans g).trans c).trans q)) (j5.mono ((lb.refl _).trans q)) hm).mz⟩ k6)) ?_ (L0 := []))
  rintro _ q1 h1 n8 d b5 ag ⟨q4, e8, rfl, b9⟩
  obtain rfl := e8.symm
  have m := d.has.sL (((((((((z.trans D).trans B).trans y).trans u).trans k).trans j).trans g).trans c).trans b5) (Db (Db (Kb (Kb Sn))))
  refine ⟨m, (X 4 rfl m (kM rfl) (X 5 rfl m (Cd rfl rfl) (X 6 rfl m (Cd rfl rfl) (X 7 rfl m (nH rfl) (X 8 rfl m (nH rfl) (me kr (kK ?_)))))))⟩
  replace d := d.kD (Kb (Kb (Db St)))
  refine kV (sg (Wm (V (nr rfl) (ln (CI N rfl (fun j6 N => ?_) (fun j6 N => ?_))))))
  ·refine sg (V (kE h7 (kL d.has Mh (C7 Q T) rfl eP di)) ?_)
   replace d := d.perm (Nb (Pb Pz) Nz)
   refine VO (lh a2 ((C7 Q T).toArray) d f3 rfl di oc nb rfl (fun o8 d => ln ?_))
   replace d := d.kD (Kb (Db (Db St)))
   refine lx (lm ?_)
   obtain rfl := sj N
   exact wR (v := a2) rfl f3 (kL d.has Mh (C7 Q T) rfl eP di) ⟨_, _, _, rfl, (d.mQ Sn), (((((((((z.trans D).trans B).trans y).trans u).trans k).trans j).trans g).trans c).trans b5), (((((((((s.trans A).trans L).trans P).trans aa).trans ab).trans ad).trans ae).trans af).trans ag), (ST.ma d (ny.mem Sn)), (.slice none 0 0), (.slice none 0 0), rfl, rfl, (Sl.nil _ _ _), (Sl.nil _ _ _)⟩
  refine kg (Wm (V (kH wL h7) ?_))
  obtain ⟨U, Z, rfl⟩ := b9.form
  let a3 : Value := (.slice U J.1.length Z)
  refine VO (lh a3 (#[(.int .i64 Q), (.int .i64 T), a3, (.slice none 0 0)]) d rfl rfl ek oc nb rfl (fun o9 d => lS (Wm (V (lJ aF rfl b9) (Wm (ln (lz (fun i E W => ∃ d5 I e0 d6 g1, (E 42 = .int .i64 (i : Nat) ∧ E 41 = .int .i64 (J.1.length : Nat)) ∧ lb h1 d6 ∧ Lo (keys []) w h1 d6 ∧ ST false (keys []) w W d6 ((h5, Ob #[(.int .i64 Q), (.int .i64 T), a3, d5] 64) :: ((h4, Ol C8 64) :: ((h3, Ol a0 54) :: (e0 ++ g1)))) ∧ E 5 = (.pointer (some ⟨h3, 0, none⟩)) ∧ E 10 = (.pointer (some ⟨h4, 0, none⟩)) ∧ E 11 = (.pointer (some ⟨h5, 0, none⟩)) ∧ E 40 = a3 ∧ kZ 140 lf 12 d5 I e0 ∧ qQ a Q T J (J.1.drop i) I = some r) J.1.length b9.len ⟨(.slice none 0 0), ([]), [], h1, _, ⟨rfl, rfl⟩, (lb.refl _), Lo.refl, (d.kD St), m2, f3, h7, rfl, (kZ.nil _ _ _), N⟩ dc dc dc (fun _ _ _ h => by obtain ⟨_, _, _, _, _, an, _⟩ := h; exact an) ?_ ?_)))))))
  ·rintro m6 E W j7 ⟨d5, I, e0, d6, g1, ⟨eI, eN⟩, a8, n, d, e5, e6, d4, g9, b7, M⟩
   obtain ⟨b2, n5, l3, l2, l4⟩ := ll j7
   rw [l3] at M
   refine bg (VQ (lY (enc := kC) (i := (m6 : Int)) (x0 := b2) aF aC g9 eI (b9.mono (Pl.mono _) a8) (aD _) l2) (fun p9 k4 => V (kE rfl (lO d.has k4 aO aC)) (VE (lD d bQ (fun p0 p7 d => VO (lh (.agg (kC b2).toArray) ((kC b2).toArray) d rfl rfl aC (mH b2) nb rfl (fun p1 d => lr (V (kH Dw e5) (VB d (Mt (Mt (Mt Mh))) rfl rfl gZ (VA d Mh (kC b2) aO aC (V (kH G9 e5) ?_)))))))))))
   refine VB d (Mt (Mt (Mt Mh))) rfl rfl aY (V (nm (v := (.agg (kO (⟨b2, a.od⟩ : kF)).toArray)) (pH rfl rfl) (mE cX cA (EH _ cA) kr)) (bS M fun c3 k7 M => ?_))
   refine VE (IG d (du _) call22 (fun _ _ _ _ => (NJ b8 a.lL (⟨b2, a.od⟩ : kF) _ _ (G.mono (Pl.mono _) (((((((((((z.trans D).trans B).trans y).trans u).trans k).trans j).trans g).trans c).trans b5).trans a8).trans d.kN)) k7)) (fun p2 q2 r5 n9 d i0 ah ak j0 => ?_) (L0 := []))
   obtain ⟨q5, o5, e9, rfl, h9⟩ := j0
   replace e9 := e9.symm; subst e9
   replace d := d.perm (Tr Tn)
   refine Wm (Wx rfl (Wx rfl (Wa (Wa (ln ?_)))))
   replace d := d.kD (Kr (Db St))
   refine kT (V (kH yU d4) (VB d (Ma Mh) rfl rfl iE (Wm ?_)))
   obtain ⟨d8, e3, rfl⟩ := b7.form
   obtain ⟨d9, e4, rfl⟩ := h9.form
   refine VE (lj (cs := #[(.slice d8 I.length e3), (.slice d9 c3.1.length e4)]) d (pH rfl rfl) (mJ iD kw zeroValue45) (fun p3 m4 d => bS M fun f0 k8 M => VE (qu d call74 (lT.mz (MC (.slice (some ⟨m4, 0, none⟩) 2 2) ([I, c3.1]) _ _ (vQ.lit (l := [I, c3.1]) (vs := [(.slice d8 I.length e3), (.slice d9 c3.1.length e4)]) rfl nb (d.at_ Mh) (.cons (b7.sl oV (fun b o hq => d.at_ (Mt (Ma (Mt (Mt (Mt (Ml hq)))))))) (.cons (h9.sl oV (fun b o hq => d.at_ (Mt (Ml hq)))) .nil))) k8)) (fun p4 q3 m7 m3 d i1 ai h8 => V (kH yU d4) ?_))))
   obtain ⟨f8, g7, rfl⟩ := h8.form
   replace d := d.perm (Nb (Pr (Pb (Pr Pz))) Nz)
   refine VO (lh (.slice f8 f0.length g7) ((C3 Q T U J.1.length Z f8 f0.length g7).toArray) d rfl rfl kw oc nb rfl (fun p5 d => lo (lA (kK ?_))))
   replace d := d.kD (Kb (Kr (Db (Dr (Kb (Kb (Dr St)))))))
   exact ⟨eI, (.slice f8 f0.length g7), f0, m3, m7, _, ⟨rfl, eN⟩, ((a8.trans i0).trans i1), ((n.trans ah).trans ai), (d.kD (Kb (Sb (Pr Pz) (Sb (Pr Pz) St)))), e5, e6, d4, g9, h8, (by rw [l4]; exact M)⟩
  rintro E W ⟨d5, I, e0, d6, g1, ⟨eI, eN⟩, a8, n, d, e5, e6, d4, g9, b7, M⟩
  rw [aG] at M
  refine kK ?_
  replace d := d.kD (Kb (Kb (Db St)))
  refine sg (V (kE d4 (kL d.has Mh [(.int .i64 Q), (.int .i64 T), a3, d5] rfl eP di)) ?_)
  obtain ⟨d0, d3, rfl⟩ := b7.form
  let a1 := (C3 Q T U J.1.length Z d0 I.length d3)
  replace d := d.perm (Nb (Pb Pz) Nz)
  refine VO (lh (.agg a1.toArray) (a1.toArray) d e6 rfl di oc nb rfl (fun p6 d => ln ?_))
  replace d := d.kD (Kb (Db St))
  refine lx ?_
  obtain rfl := sj M
  refine wR (v := (.agg a1.toArray)) rfl e6 (kL d.has Mh a1 rfl eP di) ?_
  replace d := d.perm (Nr (Qb Qz) Nz)
  obtain ⟨r6, d, f4, aj, l1⟩ := ST.Bf d b7 oV
  exact ⟨_, _, _, rfl, (d.mQ Sn), (((((((((((z.trans D).trans B).trans y).trans u).trans k).trans j).trans g).trans c).trans b5).trans a8).trans f4), (((((((((((s.trans A).trans L).trans P).trans aa).trans ab).trans ad).trans ae).trans af).trans ag).trans n).trans aj), (ST.ma d (ny.mem Sn)), a3, (.slice d0 I.length d3), rfl, rfl, (b9.mono (Pl.mono _) (a8.trans f4)), l1⟩
 refine bC b6 (fun b4 b6 => ?_) (fun b4 b6 => ?_)
 ·refine un b4 (un b4 (V (kX (cB b4) rfl) ?_))
  obtain rfl := sj b6
  exact f5 _ _ ⟨_, (d.kD St), rfl, rfl, rfl, rfl, rfl⟩
 refine ug b4 (kM rfl) (ug b4 (lK rfl rfl rfl) (V (kW (cB b4) rfl) ?_))
 obtain rfl := sj b6
 exact f5 _ _ ⟨_, (d.kD St), rfl, rfl, rfl, rfl, rfl⟩
theorem HC (a : kA) (r : Bool) (w : World) (hm : wV a = some r) :
  lg true pg0 156 [(.agg (kC a).toArray)] w (.bool r) := by
 refine cG 6 func156 rfl (fun d => sg (VE (lF d rfl (fun g j d => Wa (lr (VA d Mh (kC a) aO aC (bS hm fun k c hm => VE (Eg d jE (sM a _ _  c) (fun i d => V (nr rfl) (Wa (lo ?_)))))))))))
 refine kK ?_
 exact lx (rQ hm d)
theorem JP (a : lX) (z y : Value) (r : Bool) (w : World) (i : Sl (Pl kC) 2 (hp w) z a.lV) (I : Sl (Pl lf) 12 (hp w) y a.lW) (hm : yA a = some r) :
  lg false pg0 91 [(.agg #[(.int .i64 a.State), (.int .i64 a.ox), z, y])] w (.bool r) := by
 refine cG 33 func91 rfl (fun d => sg ?_)
 obtain ⟨U, Y, rfl⟩ := i.form
 obtain ⟨Z, c4, rfl⟩ := I.form
 let a0 := (C3 a.State a.ox U a.lV.length Y Z a.lW.length c4)
 refine VE (lF d rfl (fun W6 J d => Wa (lr (Wf Fe (VB d Mh rfl rfl cH (Wi rfl (Wm (LJ hm (fun b9 E W => ∃ L9, ST false lu w W (hp w) ((J, Ol a0 64) :: L9) ∧ E 1 = (.pointer (some ⟨J, 0, none⟩)) ∧ E 2 = (.bool false) ∧ E 10 = (.bool b9)) 4 ?_ (fun b9 H T => ?_)))))))))
 ·let h : Value := (.pointer (some ⟨J, 0, none⟩))
  rintro x8 E W ⟨L9, d, a2, a9, c9⟩ c0
  refine Wh c9 (LJ c0 (fun R E W => ∃ a5, ST false lu w W (hp w) ((J, Ol a0 64) :: a5) ∧ E 1 = h ∧ E 2 = (.bool false) ∧ E 15 = (.bool R)) 4 ?_ (fun R G Q => ?_))
  ·rintro d8 E W ⟨a5, d, a3, q, d0⟩ c1
   refine Wh d0 (LJ c1 (fun P E W => ∃ m, ST false lu w W (hp w) ((J, Ol a0 64) :: m) ∧ E 1 = h ∧ E 2 = (.bool false) ∧ E 20 = (.bool P)) 4 ?_ (fun P D N => ?_))
   ·rintro d9 E W ⟨m, d, a4, s, d1⟩ c3
    refine Wh d1 (LJ c3 (fun L E W => ∃ n, ST false lu w W (hp w) ((J, Ol a0 64) :: n) ∧ E 1 = h ∧ E 2 = (.bool false) ∧ E 26 = (.bool L)) 5 ?_ (fun L B M => ?_))
    ·rintro e0 E W ⟨n, d, d2, v, d3⟩ c5
     refine Wh d3 (LJ c5 (fun A E W => ∃ o, ST false lu w W (hp w) o ∧ E 2 = (.bool false) ∧ E 32 = (.bool A)) 5 ?_ (fun A t K => ?_))
     ·rintro e1 E W ⟨o, d, d6, d4⟩ c6
      exact Wg d4 (lt (rQ c6 d))
     refine bC t (fun g t => ?_) (fun g t => ?_)
     ·refine ug g (kH wL d2) (ug g (kE rfl (kR d.has Mh rfl ew)) (bS t fun d7 c7 t => qy g (Eg d call142 (yk (.slice U a.lV.length Y) a.lV (.func (.func 156) #[] #[]) (fun (x : kA) => wV x) _ _ (i.mono (Pl.mono _) d.kN) ⟨156, #[], #[], rfl, call156, fun W x r hs hm => (HC x r W  hm).mz⟩ c7) (fun d5 d => ug g (nr rfl) (V (kX (cB g) rfl) ?_)))))
      obtain rfl := sj t
      exact K _ _ ⟨_, (d.kD (Db St)), v, rfl⟩
     refine un g (un g (un g (un g (V (kW (cB g) rfl) ?_))))
     obtain rfl := sj t
     exact K _ _ ⟨_, (d.kD (Db St)), v, rfl⟩
    refine bC B (fun c B => ?_) (fun c B => ?_)
    ·refine ug c (kH wL a4) (ug c (kE rfl (kR d.has Mh rfl ew)) (ug c (lJ aF rfl i) (ug c (lK rfl rfl rfl) (V (kX (cB c) rfl) ?_))))
     obtain rfl := sj B
     exact M _ _ ⟨_, (d.kD St), a4, s, rfl⟩
    refine un c (un c (un c (un c (V (kW (cB c) rfl) ?_))))
    obtain rfl := sj B
    exact M _ _ ⟨_, (d.kD St), a4, s, rfl⟩
   refine bC D (fun k D => ?_) (fun k D => ?_)
   ·refine ug k (kH G4 a3) (ug k (kE rfl (kR d.has Mh rfl kk)) (ug k (lK rfl rfl rfl) (V (kX (cB k) rfl) ?_)))
    obtain rfl := sj D
    exact N _ _ ⟨_, (d.kD St), a3, q, rfl⟩
   refine un k (un k (un k (V (kW (cB k) rfl) ?_)))
   obtain rfl := sj D
   exact N _ _ ⟨_, (d.kD St), a3, q, rfl⟩
  refine bC G (fun j G => ?_) (fun j G => ?_)
  ·refine ug j (kH G4 a2) (ug j (kE rfl (kR d.has Mh rfl kk)) (ug j (lK rfl rfl rfl) (V (kX (cB j) rfl) ?_)))
   obtain rfl := sj G
   exact Q _ _ ⟨_, (d.kD St), a2, a9, rfl⟩
  refine un j (un j (un j (V (kW (cB j) rfl) ?_)))
  obtain rfl := sj G
  exact Q _ _ ⟨_, (d.kD St), a2, a9, rfl⟩
 refine bC H (fun u H => ?_) (fun u H => ?_)
 ·refine ug u (kH Fe rfl) (ug u (kE rfl (kR d.has Mh rfl cH)) (ug u (lK rfl rfl rfl) (V (kX (cB u) rfl) ?_)))
  obtain rfl := sj H
  exact T _ _ ⟨_, (d.kD St), rfl, rfl, rfl⟩
 refine un u (un u (un u (V (kW (cB u) rfl) ?_)))
 obtain rfl := sj H
 exact T _ _ ⟨_, (d.kD St), rfl, rfl, rfl⟩
theorem D4 (g : Value) (t : List kY) (j : Value) (B : kY → Option Bool) (r : Int) (w : World) (c : Sl (Pl lf) 12 (hp w) g t) (D : tu pg0 j (hp w) (fun (x : kY) => [(.agg (lf x).toArray)]) (fun (r : Bool) => (.bool r)) B) (hm : wq t B = some r) :
  lg false pg0 205 [g, j] w (.int .i64 r) := by
 refine cG 19 func205 rfl (fun d => sg (Wa (lS (Wm (V (lJ aX rfl c) (Wm (ln (lz (fun i E W => ∃ k, (E 8 = .int .i64 (i : Nat) ∧ E 7 = .int .i64 (t.length : Nat)) ∧ ST false lu w W (hp w) k ∧ E 0 = g ∧ E 1 = j ∧ pG B (t.drop i) i = some r) t.length c.len ⟨_, ⟨rfl, rfl⟩, (d.kD St), rfl, rfl, hm⟩ dc dc dc (fun _ _ _ h => by obtain ⟨_, n, _⟩ := h; exact n) ?_ ?_))))))))
 ·rintro Q E W H ⟨k, ⟨m, o⟩, d, u, y, a⟩
  obtain ⟨z, T, M, K, N⟩ := ll H
  rw [M] at a
  refine bg (Wh m (Wa (lr (Wh y (Wh u (Wm (VQ (lY (enc := lf) (i := (Q : Int)) (x0 := z) aX cu rfl rfl c (aD _) K) (fun Y I => V (kE rfl (lO d.has I eX cu)) (bS a fun Z J a => ?_)))))))))
  refine VE (Bq z d D (lb.refl _) rfl (pz rfl) J (fun U d => ln (CI a rfl (fun G a => ?_) (fun G a => ?_))))
  ·refine sg (Wm (Wa (lt (mu (lm (mu (lm ?_)))))))
   obtain rfl := sj a
   exact rP d
  exact lG (lA (kK ⟨m, _, ⟨rfl, o⟩, (d.kD St), u, y, (by rw [N]; exact a)⟩))
 rintro E W ⟨k, ⟨m, o⟩, d, u, y, a⟩
 rw [aG] at a
 exact kK (sg (Wa (lt (rQ a d))))
theorem Cu (a : Value) (g : List kY) (c : Value) (i : kY → Option Bool) (r : Bool) (w : World) (j : Sl (Pl lf) 12 (hp w) a g) (k : tu pg0 c (hp w) (fun (x : kY) => [(.agg (lf x).toArray)]) (fun (r : Bool) => (.bool r)) i) (hm : rE g i = some r) :
  lg false pg0 158 [a, c] w (.bool r) := by
 refine cG 9 func158 rfl (fun d => sg (Wa (lr (Wm (Wm (bS hm fun y t hm => VE (Eg d call205 (D4 a g c i _ _ (j.mono (Pl.mono _) d.kN) (k.mono d.kN) t) (fun u d => Wi rfl (Wa (lo ?_))))))))))
 exact kK (lx (rQ hm d))
theorem Mo (i : kY) (r : Bool) (w : World) (hm : Ak i = some r) :
  lg true pg0 160 [(.agg (lf i).toArray)] w (.bool r) := by
 refine cG 21 func160 rfl (fun d => sg (VE (lF d rfl (fun Z H d => Wa (lr (Wf Dh (VA d Mh (kG i.kB) bM aM (bS hm fun h N hm => VE (Eg d ki (uv i.kB _ _  N) (fun W5 d => Wm (LJ hm (fun z E W => ∃ G, ST true lu w W (hp w) ((H, Ol (lf i) 140) :: G) ∧ E 1 = (.pointer (some ⟨H, 0, none⟩)) ∧ E 2 = (.bool false) ∧ E 14 = (.bool z)) 8 ?_ (fun z j t => ?_))))))))))))
 ·rintro x7 E W ⟨G, d, I, x, J⟩ M
  refine Wh J (LJ M (fun y E W => ∃ u, ST true lu w W (hp w) u ∧ E 2 = (.bool false) ∧ E 20 = (.bool y)) 5 ?_ (fun y g k => ?_))
  ·rintro Y E W ⟨u, d, T, K⟩ B
   exact Wg K (lt (rQ B d))
  refine bC g (fun c g => ?_) (fun c g => ?_)
  ·refine ug c (kH sX I) (ug c (kH sP rfl) (ug c (kE rfl (kR d.has Mh rfl aY)) (bS g fun U D g => qy c (Eg d kh (uf i.kF.ly _ _  D) (fun Q d => V (kX (cB c) rfl) ?_)))))
   obtain rfl := sj g
   exact k _ _ ⟨_, (d.kD (Db St)), x, rfl⟩
  refine un c (un c (un c (un c (V (kW (cB c) rfl) ?_))))
  obtain rfl := sj g
  exact k _ _ ⟨_, (d.kD (Db St)), x, rfl⟩
 refine bC j (fun a j => ?_) (fun a j => ?_)
 ·refine ug a (kH sX rfl) (ug a (kH wS rfl) (ug a (kE rfl (kL d.has Mh (kC i.kF.kA) rfl aO aC)) (ug a (kH Dh rfl) (ug a (kH oD rfl) (ug a (kE rfl (kL d.has Mh (kC i.kB.Head) rfl aO aC)) (ug a (vt rfl rfl (ns cY) (qH (ob _ i.kF.kA i.kB.Head))) (V (kX (cB a) rfl) ?_)))))))
  obtain rfl := sj j
  exact t _ _ ⟨_, (d.kD St), rfl, rfl, rfl⟩
 refine un a (un a (un a (un a (un a (un a (un a (V (kW (cB a) rfl) ?_)))))))
 obtain rfl := sj j
 exact t _ _ ⟨_, (d.kD St), rfl, rfl, rfl⟩
theorem KZ (a : kY) (r : Bool) (w : World) (hm : zG a = some r) :
  lg true pg0 159 [(.agg (lf a).toArray)] w (.bool r) := by
 refine cG 6 func159 rfl (fun d => sg (VE (lF d rfl (fun g j d => Wa (lr (VA d Mh (lf a) eX cu (bS hm fun k c hm => VE (Eg d call160 (Mo a _ _  c) (fun i d => V (nr rfl) (Wa (lo ?_)))))))))))
 refine kK ?_
 exact lx (rQ hm d)
theorem D0 (g : Nat) (c : Value) (j : List Int) (a : LO) (i : Value) (D : List Int) (r : (Bool × (List Int))) (w : World) {I : lq} (M : pY I ((g, Ob #[c] 81) :: (a ++ [])) w) (k : kZ 5 (lM .u8) 1 c j a) (y : Sl (Pl (lM .u8)) 1 I i D) (hm : vZ j D = some r) :
  mn true pg0 95 [(.pointer (some ⟨g, 0, none⟩)), i] w ((g, Ob #[c] 81) :: (a ++ [])) (fun v J W' => ∃ H B, v = (.bool (r.1)) ∧ J = ((g, Ob #[H] 81) :: (B ++ [])) ∧ kZ 5 (lM .u8) 1 H r.2 B) := by
 refine zX M 16 func95 rfl (fun d => sg (Wa (lS (Wm (V (uc fu rfl rfl) (ln (qx rfl (lG ?_))))))))
 refine kK (sg (Wm (Wm (Wn (Wf Bh (VB d Mh rfl rfl fR (Wm ?_)))))))
 replace d := d.perm (Nr (Qb Qz) Nz)
 refine bS hm fun z G hm => VE (mD (enc := (lM .u8)) (v := c) (vs := i) (R := a) d (fun _ => rfl) dc (Jo _) cw uF.1 uF.2.1 rfl uF.2.2.1 uF.2.2.2 rfl rfl k (y.mono (Pl.mono _) d.kN) G (fun N T K d t => Wn (Wf Bh ?_)))
 obtain ⟨u, x, rfl⟩ := t.form
 replace d := d.perm (Nb (Pr Pz) Nz)
 refine VO (lh (.slice u z.length x) (#[(.slice u z.length x)]) d rfl rfl gV oc nb rfl (fun Q d => lr (Wa (lt ?_))))
 obtain rfl := sj hm
 exact lQ (v := (.bool true)) rfl rfl ⟨_, _, rfl, (d.mQ (Kb (Kr Sn))), (.slice u z.length x), K, rfl, rfl, t⟩
theorem Mj (c : Nat) (j : Value) (Z : List Int) (g : LO) (I : Value) (n : List kY) (r : (Bool × (List Int))) (w : World) {μ0 : lq} (h0 : pY μ0 ((c, Ob #[j] 81) :: (g ++ [])) w) (T : kZ 5 (lM .u8) 1 j Z g) (y : Sl (Pl lf) 12 μ0 I n) (hm : As Z n = some r) :
  mn false pg0 92 [(.pointer (some ⟨c, 0, none⟩)), I] w ((c, Ob #[j] 81) :: (g ++ [])) (fun v L1 W' => ∃ y1 S2, v = (.bool (r.1)) ∧ L1 = ((c, Ob #[y1] 81) :: (S2 ++ [])) ∧ kZ 5 (lM .u8) 1 y1 r.2 S2) := by
 let a0 := ((c, Ob #[j] 81) :: (g ++ []))
 refine zX h0 39 func92 rfl (fun d => sg (Wa (lS (Wm (V (uc fu rfl rfl) (Wm (Vg rfl rfl (kM rfl) (Vg rfl rfl (lJ aX rfl y) (Vg rfl rfl (lK rfl rfl rfl) ?_)))))))))
 refine V (kW rfl rfl) (Wm (LJ hm (fun a7 E W => ∃ L6, ST false (keys a0) w W μ0 ((c, Ob #[j] 81) :: (g ++ L6)) ∧ E 0 = (.pointer (some ⟨c, 0, none⟩)) ∧ E 1 = I ∧ E 17 = (.bool a7)) 3 ?_ (fun a7 k U => ?_)))
 ·rintro x5 E W ⟨L6, d, e8, e9, e3⟩ G
  refine ln (CI G e3 (fun c8 G => ?_) (fun c8 G => ?_))
  ·refine sg (Wa (lt (lm ?_)))
   obtain rfl := sj G
   exact lQ (v := (.bool false)) rfl rfl ⟨_, _, rfl, (d.mQ (Kb (Kr Sn))), j, g, rfl, rfl, T⟩
  refine kg (Wh e8 (Wh e9 (V (lJ aX rfl y) (bS G fun e6 c9 G => ?_))))
  refine VE (eM d (Cb Pz (Cr Qz Cn)) call93 (fun A _ => mn.mz (qY c j Z g (n.length : Int) _ _ A T c9)) ?_)
  rintro _ h5 c4 h3 d b2 ab m ⟨f0, e2, a3, rfl, d0⟩
  obtain rfl := a3.symm
  replace d := d.perm (Tb (Tr Tn))
  refine lS (Wh e9 (V (lJ aX rfl y) (Wm (ln (lz (fun i E W => ∃ z H u Q Y, (E 24 = .int .i64 (i : Nat) ∧ E 23 = .int .i64 (n.length : Nat)) ∧ lb c4 Q ∧ ST false (keys a0) w W Q ((c, Ob #[z] 81) :: (u ++ Y)) ∧ E 0 = (.pointer (some ⟨c, 0, none⟩)) ∧ E 22 = I ∧ kZ 5 (lM .u8) 1 z H u ∧ tz (n.drop i) H = some r) n.length y.len ⟨f0, e6.2, e2, c4, _, ⟨rfl, rfl⟩, (lb.refl _), (d.kD St), e8, rfl, d0, G⟩ dc dc dc (fun _ _ _ h => by obtain ⟨_, _, _, _, _, s, _⟩ := h; exact s) ?_ ?_)))))
  ·rintro d1 E W b1 ⟨z, H, u, Q, Y, ⟨q, eN⟩, D, d, J, a2, K, a⟩
   obtain ⟨t, f1, c0, b9, c1⟩ := ll b1
   rw [c0] at a
   refine bg (VQ (lY (enc := lf) (i := (d1 : Int)) (x0 := t) aX cu a2 q (y.mono (Pl.mono _) (b2.trans D)) (aD _) b9) (fun g4 b3 => V (kE rfl (lO d.has b3 eX cu)) (VE (lD d dK (fun f6 g2 d => VO (lh (.agg (lf t).toArray) ((lf t).toArray) d rfl rfl cu (uH t) nb rfl (fun f7 d => lr (Wh J (Wf Dh (VA d Mh (kG t.kB) bM aM (bS a fun d2 b4 a => ?_)))))))))))
   refine VE (qu d call161 (lT.mz (DU t.kB _ _  b4)) (fun f8 d5 h1 f5 d a4 L b0 => bS a fun d3 b5 a => ?_))
   refine VE (IG d (Cb (Pr (Pb Pz)) (Cr (Qr (Qb Qz)) Cn)) call95 (fun hH hN ad aa => mn.mz (D0 c z H u d5 d2 _ _ ⟨hH, hN, lb.refl _⟩ K (b0.sl (fun _ => rfl) (fun b o hq => aa b o (Ml hq))) b5)) (fun f9 g8 h2 f3 d a5 P m a8 => ?_))
   obtain ⟨d6, c5, M, rfl, c2⟩ := a8
   replace M := M.symm; subst M
   replace d := d.perm (Tb (Tr Tn))
   refine ln ?_
   replace d := d.kD (Kb (Kr (Dr St)))
   refine kT (Wh J (Wf sX (Wf sP (VB d (Mt (Ma Mh)) rfl rfl aY (bS a fun d4 b6 a => ?_)))))
   refine VE (eM d (Cb Pz (Cr Qz Cn)) call162 (fun A _ => mn.mz (yO c d6 d3.2 c5 t.kF.ly _ _ A c2 b6)) ?_)
   rintro _ g9 d9 f4 d a6 R m ⟨d7, c6, N, rfl, c3⟩
   obtain rfl := N.symm
   replace d := d.perm (Tb (Tr Tn))
   refine lo (lA (kK ?_))
   replace d := d.kD (Kb (Kr (Db St)))
   exact ⟨q, d7, d4.2, c6, d9, _, ⟨rfl, eN⟩, (((D.trans a4).trans a5).trans a6), (d.kD St), J, a2, c3, (by rw [c1]; exact a)⟩
  rintro E W ⟨z, H, u, Q, Y, ⟨q, eN⟩, D, d, J, a2, K, a⟩
  rw [aG] at a
  refine kK (sg (Wa (lt ?_)))
  obtain rfl := sj a
  exact lQ (v := (.bool true)) rfl rfl ⟨_, _, rfl, (d.mQ (Kb (Kr Sn))), z, u, rfl, rfl, K⟩
 refine bC k (fun B k => ?_) (fun B k => ?_)
 ·refine un B (un B (V (kX (cB B) rfl) ?_))
  obtain rfl := sj k
  exact U _ _ ⟨_, (d.kD St), rfl, rfl, rfl⟩
 refine ug B (kM rfl) (bS k fun g7 b7 k => qy B (Eg d call158 (Cu I n (.func (.func 159) #[] #[]) (fun (x : kY) => zG x) _ _ (y.mono (Pl.mono _) d.kN) ⟨159, #[], #[], rfl, call159, fun W x r hs hm => (KZ x r W  hm).mz⟩ b7) (fun g1 d => V (kW (cB B) rfl) ?_)))
 obtain rfl := sj k
 exact U _ _ ⟨_, (d.kD St), rfl, rfl, rfl⟩
theorem JR (g : Nat) (u : Value) (a4 : List Int) (t : LO) (j : lX) (D B : Value) (r : (Bool × (List Int))) (w : World) {μ0 : lq} (h0 : pY μ0 ((g, Ob #[u] 81) :: (t ++ [])) w) (Z : kZ 5 (lM .u8) 1 u a4 t) (a : Sl (Pl kC) 2 μ0 D j.lV) (y : Sl (Pl lf) 12 μ0 B j.lW) (hm : wP a4 j = some r) :
  mn false pg0 36 [(.pointer (some ⟨g, 0, none⟩)), (.agg #[(.int .i64 j.State), (.int .i64 j.ox), D, B])] w ((g, Ob #[u] 81) :: (t ++ [])) (fun v L1 W' => ∃ y1 S2, v = (.bool (r.1)) ∧ L1 = ((g, Ob #[y1] 81) :: (S2 ++ [])) ∧ kZ 5 (lM .u8) 1 y1 r.2 S2) := by
 let b4 := ((g, Ob #[u] 81) :: (t ++ []))
 refine zX h0 52 func36 rfl (fun d => sg ?_)
 obtain ⟨A1, c2, rfl⟩ := a.form
 obtain ⟨A3, c4, rfl⟩ := y.form
 let a1 := (C3 j.State j.ox A1 j.lV.length c2 A3 j.lW.length c4)
 refine VE (lF d rfl (fun W6 b5 d => Wa (lr (V (nm (v := (.agg #[(.slice none 0 0)])) vj (mE zeroValue81 fq (TG _ fq) kr)) (VE (lF d rfl (fun W8 q d => Wa (lS (Wm ?_)))))))))
 refine V (uc fu rfl rfl) (Wm (Vg rfl rfl (kE rfl (kL d.has (Mt Mh) a1 rfl eP di)) (bS hm fun r9 f8 hm => SR rfl rfl (Eg d call91 (JP j (.slice A1 j.lV.length c2) (.slice A3 j.lW.length c4) _ _ (a.mono (Pl.mono _) d.kN) (y.mono (Pl.mono _) d.kN) f8) (fun m1 d => Vg rfl rfl (nr rfl) (V (kW rfl rfl) (Wm (LJ hm (fun b0 E W => ∃ a2 A c7 e8, lb μ0 c7 ∧ ST false (keys b4) w W c7 ((q, Ob #[a2] 81) :: ((b5, Ol a1 64) :: ((g, Ob #[u] 81) :: (A ++ (t ++ e8))))) ∧ E 0 = (.pointer (some ⟨g, 0, none⟩)) ∧ E 3 = (.pointer (some ⟨b5, 0, none⟩)) ∧ E 5 = (.pointer (some ⟨q, 0, none⟩)) ∧ E 23 = (.bool b0.1) ∧ kZ 5 (lM .u8) 1 a2 b0.2 A) 6 ?_ (fun b0 z a0 => ?_)))))))))
 ·rintro ⟨m8, e9⟩ E W ⟨a2, A, c7, e8, d3, d, L, P, i4, i5, g2⟩ x
  refine ln (CI x i5 (fun f7 x => ?_) (fun f7 x => ?_))
  ·refine sg (Wa (ln ?_))
   replace d := d.kD (Db (Db (Kb (Dr St))))
   refine lx (lm ?_)
   obtain rfl := sj x
   exact lQ (v := (.bool false)) rfl rfl ⟨_, _, rfl, (d.mQ (Kb (Kr Sn))), u, t, rfl, rfl, Z⟩
  refine kg (Wh L (V (kH Fe P) (VB d (Mt Mh) rfl rfl cH (bS x fun i8 f9 x => ?_))))
  refine VE (eM d (Cb (Pb (Pb Pz)) (Cr (Qb (Qb (Qr Qz))) Cn)) call93 (fun n _ => mn.mz (qY g u a4 t j.State _ _ n Z f9)) ?_)
  rintro _ m5 m9 l8 d d4 ah m ⟨j4, i0, a7, rfl, g3⟩
  obtain rfl := a7.symm
  replace d := d.perm (Tb (Tr Tn))
  refine lr (Wh L (V (kH G4 P) (VB d (Mt (Ma (Mt Mh))) rfl rfl kk (bS x fun i9 g0 x => ?_))))
  refine VE (eM d (Cb Pz (Cr Qz Cn)) call93 (fun n _ => mn.mz (qY g j4 i8.2 i0 j.ox _ _ n g3 g0)) ?_)
  rintro _ m6 n0 l9 d d5 ai m ⟨j5, i1, a8, rfl, g4⟩
  obtain rfl := a8.symm
  replace d := d.perm (Tb (Tr Tn))
  refine lr (Wh L (V (kH wL P) (VB d (Mt (Ma (Mt Mh))) rfl rfl ew (V (lJ aF rfl a) (bS x fun j0 g1 x => ?_)))))
  refine VE (eM d (Cb Pz (Cr Qz Cn)) call93 (fun n _ => mn.mz (qY g j5 i9.2 i1 (j.lV.length : Int) _ _ n g4 g1)) ?_)
  rintro _ m7 f0 m0 d d6 aj m ⟨j6, i2, a9, rfl, g7⟩
  obtain rfl := a9.symm
  replace d := d.perm (Tb (Tr Tn))
  refine lS (V (kH wL P) (VB d (Mt (Ma (Mt Mh))) rfl rfl ew (V (lJ aF rfl a) (Wm (ln ?_)))))
  replace d := d.kD (Kb (Kr (Kb (Db St))))
  refine lz (fun i E W => ∃ I H G Y a3, (E 40 = .int .i64 (i : Nat) ∧ E 39 = .int .i64 (j.lV.length : Nat)) ∧ lb f0 Y ∧ ST false (keys b4) w W Y ((g, Ob #[I] 81) :: ((q, Ob #[a2] 81) :: (G ++ (A ++ a3)))) ∧ E 0 = (.pointer (some ⟨g, 0, none⟩)) ∧ E 5 = (.pointer (some ⟨q, 0, none⟩)) ∧ E 38 = (.slice A1 j.lV.length c2) ∧ kZ 5 (lM .u8) 1 I H G ∧ rZ e9 (j.lV.drop i) H = some r) j.lV.length a.len ⟨j6, j0.2, i2, f0, _, ⟨rfl, rfl⟩, (lb.refl _), (d.kD (Kb (Sb (Pr Pz) St))), L, i4, rfl, g7, x⟩ dc dc dc (fun _ _ _ h => by obtain ⟨_, _, _, _, _, aa, _⟩ := h; exact aa) ?_ ?_
  ·rintro g8 E W d2 ⟨I, H, G, Y, a3, ⟨eI, eN⟩, K, d, M, a5, R, N, c⟩
   obtain ⟨J, j7, e3, e2, e4⟩ := ll d2
   rw [e3] at c
   refine bg (VQ (lY (enc := kC) (i := (g8 : Int)) (x0 := J) aF aC R eI (a.mono (Pl.mono _) ((((d3.trans d4).trans d5).trans d6).trans K)) (aD _) e2) (fun l1 d7 => V (kE rfl (lO d.has d7 aO aC)) (VE (lD d bQ (fun k3 k9 d => VO (lh (.agg (kC J).toArray) ((kC J).toArray) d rfl rfl aC (mH J) nb rfl (fun k4 d => ln (kT (Wh M (VA d Mh (kC J) aO aC (bS c fun g9 d8 c => ?_)))))))))))
   refine VE (eM d (Cb (Pb Pz) (Cr (Qb (Qb Qz)) Cn)) call94 (fun n _ => mn.mz (xC g I H G J _ _ n N d8)) ?_)
   rintro _ l3 h7 j9 d c3 ab m ⟨h4, f1, Q, rfl, e5⟩
   obtain rfl := Q.symm
   replace d := d.perm (Tb (Tr Tn))
   refine lo (lA (kK ?_))
   replace d := d.kD (Kb (Kr (Db St)))
   exact ⟨eI, h4, g9.2, f1, h7, _, ⟨rfl, eN⟩, (K.trans c3), (d.kD (Kb (Sb (Pr Pz) St))), M, a5, R, e5, (by rw [e4]; exact c)⟩
  rintro E W ⟨I, H, G, Y, a3, ⟨eI, eN⟩, K, d, M, a5, R, N, c⟩
  rw [aG] at c
  refine kK (sg (Wh M (Wh a5 (bS c fun h1 d9 c => VE (qu d call37 (lT.mz (AI q a2 e9 _ _ (g2.sl (fun _ => rfl) (fun b o hq => d.at_ (Mt (Mt (Ma (Ml hq)))))) (At.of (d.at_ (Mt Mh)) _ rfl) d9)) (fun k6 h3 l6 k2 d i6 ad d1 => bS c fun h2 e0 c => ?_))))))
  refine VE (IG d (Cb (Pr Pz) (Cr (Qr (Qb Qz)) Cn)) call95 (fun hH hN s ag => mn.mz (D0 g I H G h3 h1 _ _ ⟨hH, hN, lb.refl _⟩ N (d1.sl (fun _ => rfl) (fun b o hq => ag b o (Ml hq))) e0)) (fun k7 l4 l7 k0 d i7 ae m c9 => ?_))
  obtain ⟨h5, f2, T, rfl, e6⟩ := c9
  replace T := T.symm; subst T
  replace d := d.perm (Tb (Tr Tn))
  refine Wa (ln ?_)
  replace d := d.kD (Kb (Kr (Dr (Db (Dr St)))))
  refine lx ?_
  obtain rfl := sj c
  exact lQ (v := (.bool h2.1)) rfl rfl ⟨_, _, rfl, (d.mQ (Kb (Kr Sn))), h5, f2, rfl, rfl, e6⟩
 refine bC z (fun k z => ?_) (fun k z => ?_)
 ·refine un k (un k (un k (un k (un k (V (kX (cB k) rfl) ?_)))))
  obtain rfl := sj z
  exact a0 _ _ ⟨(.slice none 0 0), [], μ0, _, (lb.refl _), (d.kD St), rfl, rfl, rfl, rfl, (kZ.nil _ _ _)⟩
 refine ug k (kM rfl) (ug k (kH yU rfl) (ug k (kE rfl (kR d.has (Mt Mh) rfl iE)) (bS z fun l2 e1 z => ?_)))
 refine qy k (eM d (Cb Pz (C0 Cn)) call92 (fun n s => (Mj q (.slice none 0 0) ([]) [] (.slice A3 j.lW.length c4) j.lW _ _ n (kZ.nil _ _ _) (y.mono (Pl.mono _) s) e1)) ?_)
 rintro _ l5 h8 k1 d c5 af m ⟨h6, f3, U, rfl, e7⟩
 obtain rfl := U.symm
 replace d := d.perm (Tb (Tr Tn))
 refine ug k (nr rfl) (V (kW (cB k) rfl) ?_)
 obtain rfl := sj z
 exact a0 _ _ ⟨h6, f3, h8, _, c5, (d.kD (Kb (Sb (Pr Pz) (Sb (Pr Pz) St)))), rfl, rfl, rfl, rfl, e7⟩
theorem GC {dd : Bool} {F : Nat → Prop} {w W : World} {μ : lq} {L : LO} (o t : Nat) (z I : Value) (c y : Int) (u : FrameMode) (m : ST dd F w W μ ((o, .cells #[z, I] 158 (0, 0)) :: (t, .cells #[.int .i64 c] 62 (0, 0)) :: L)) (hu : (u = .returning ∧ y = c) ∨ u = .panicking [{ v := xP 217 o y, recovered := false }]) :
  CallsD pg0 98 #[.pointer (some ⟨o, 0, none⟩), .pointer (some ⟨t, 0, none⟩)] u W fun e G W' => e = .returned (.tuple #[]) ∧ settle G = .returning ∧ ST dd F w W' μ ((o, .cells #[z, .bool true] 158 (0, 0)) :: (t, .cells #[.int .i64 y] 62 (0, 0)) :: L) := by
 refine callsD_of_wpS func98 rfl fun s D x => X4 (n := 31) (kT (Wm (Wn (Wf KJ (VO (Di [] (.bool true) #[z, .bool true] m rfl rfl sizeOf4 oc (bD 2) rfl (fun g m => lo ⟨rfl, fun a ha => wpS_seq ?_⟩))))))) (NU (args := [.pointer (some ⟨o, 0, none⟩), .pointer (some ⟨t, 0, none⟩)]) Tryz.ntmps98 nb)
 rcases hu with ⟨rfl, rfl⟩ | rfl
 ·refine IJ (n := 31) (d := 10) (d2 := 4) (v := .nilIface) (cs' := { s with mode := .returning } :: D) dc dc rfl rfl rfl rfl (fun _ => rfl) (fun E h => nH h) (.inr ⟨?_, rfl, ?_⟩) ha (fun a ha => ?_)
  ·simp only [recoverD, x]
  ·rw [← x]
  exact PD (u := .returning) Tryz.results98 (kV (sg (Wm (V (VV underlying20 rfl rfl) (ln (zj rfl (lx (lm ⟨.inr rfl, rfl, rfl, m⟩)))))))) ha
 refine IJ (n := 31) (d := 10) (d2 := 4) (v := xP 217 o y) (cs' := { s with mode := .panicking [{ v := xP 217 o y, recovered := true }] } :: D) dc dc rfl rfl rfl rfl (fun _ => rfl) (fun E h => nH h) (.inl ?_) ha (fun a ha => ?_)
 ·simp only [recoverD, x]
 refine PD (u := .panicking [{ v := xP 217 o y, recovered := true }]) Tryz.results98 (kV (sg (Wm (V (Wt underlying20 rfl rfl) (ln (qx rfl (kg (Wm (V (QN fz (by intro q h; cases h) rfl) ?_))))))))) ha
 refine Wm (Wx rfl (Wx rfl (VE (lD m zeroValue217 (fun i J m => VO (Di [] (.agg #[.pointer (some ⟨o, 0, none⟩), .int .i64 y]) #[.pointer (some ⟨o, 0, none⟩), .int .i64 y] m rfl rfl sizeOf217 oc (bD 2) rfl (fun j m => Wa (lS (Wm (V (nr rfl) (Wm (Vg rfl rfl (kH V1 rfl) ?_))))))))))))
 refine Vg rfl rfl (kE rfl (kR m.has Mh rfl isAgg89)) (Vg rfl rfl (kM rfl) (Vg rfl rfl (OW kl sizeOf158 rfl rfl) (V (kW rfl rfl) (ln (qx rfl (kn (kT (Wm (Wf Wc (VB m Mh rfl rfl kk (Wn (VO (Di [_, _] (.int .i64 y) #[.int .i64 y] m rfl rfl sizeOf62 oc (bD 1) rfl (fun k m => ?_))))))))))))))
 exact lo ⟨.inl rfl, rfl, rfl, ST.drop (A := []) m⟩
theorem OM {S : Type} (fk : Nat) (a : Array Value) (N : Value) (T b : List Int) (s : Int ⊕ S) (rd : S → List Int) (w : World) {Q : lq} {j : LO} (h0 : pY Q j w) (hb : Sl (Pl (lM .u8)) 1 Q N T) (Y : pL T = some b) (K : S → LO → lq → Prop) (X : Int → LO → lq → Prop) (H : ∀ args w, (callFunc fk args).run pg0 w = .ok (.enter fk args) w) (hf : ∀ (w' : World) (μ' : lq) (o : Nat) (G : Value), pY μ' ((o, Obj.cells #[G, .bool false] 158 (0, 0)) :: j) w' → lb Q μ' → Sl (Pl (lM .u8)) 1 μ' G b →
   lP true pg0 fk (.pointer (some ⟨o, 0, none⟩) :: a.toList) w' μ' ((o, Obj.cells #[G, .bool false] 158 (0, 0)) :: j) s (fun r v B u => ∃ y z L', B = (o, Obj.cells #[y, z] 158 (0, 0)) :: L' ∧ Sl (Pl (lM .u8)) 1 u y (rd r) ∧ K r L' u)
    (fun x c B u => ∃ y z L', c = [{ v := xP 217 o x, recovered := false }] ∧ B = (o, Obj.cells #[y, z] 158 (0, 0)) :: L' ∧ X x L' u)) :
  pK true pg0 39 [N, .func (.func fk) #[] a] w Q j (fun v B u => v = .int .i64 (Jy rd s) ∧ UP K X s B u) := by
 refine Ss ?_
 have m := ST.xD (dd := true) h0
 refine Ov (n := 22) func39 rfl rfl nb (PL (kT (VE (lD m zeroValue62 (fun W1 P m => lo ⟨rfl, (PL (kT (Wm (VE (qu m call96 (Cv N T _ _ (hb.mono (Pl.mono _) m.kN) Y) (fun W2 v2 aa R2 m g a1 U => ?_))))))⟩)))))
 obtain ⟨ab, m, i, a6, J⟩ := ST.Bf m U (fun _ => rfl)
 obtain ⟨A, c, rfl⟩ := J.form
 refine V (nm (v := (.agg #[.slice A b.length c, .bool false])) (mN rfl) (mE zeroValue158 iA (YM _ iA) kr)) (VE (lF m rfl (fun W3 o m => Wa (lo ⟨rfl, (XZ (QU (YN (.inl rfl) rfl dc (kM rfl) (RK (d := ⟨.fn (.func 98) #[], #[.pointer (some ⟨o, 0, none⟩), .pointer (some ⟨P, 0, none⟩)]⟩) (.inl rfl) rfl (R7 (args := [.pointer (some ⟨o, 0, none⟩), .pointer (some ⟨P, 0, none⟩)]) rfl (by exact pM rfl rfl)) (kK (De (De (Bv (B1 (.inl rfl) rfl dc (kM rfl) (B1 (.inl rfl) rfl dc (OP underlying91 rfl rfl) (Fj ?_)))))))))))⟩))))
 refine kK (OK rfl (Bv (B1 (.inl rfl) rfl dc (kM rfl) (B1 (.inl rfl) rfl dc (kM rfl) ?_))))
 have hP : List.Perm ((o, Obj.cells (.agg #[.slice A b.length c, .bool false] : Value).cells 158 (0, 0)) :: (P, Obj.cells (Value.int IntKind.i64 0).cells 62 (0, 0)) :: j) (((o, Obj.cells #[.slice A b.length c, .bool false] 158 (0, 0)) :: j) ++ [(P, Obj.cells (Value.int IntKind.i64 0).cells 62 (0, 0))]) := List.Perm.cons _ (dM (l₁ := [_]))
 have hB : ∀ {M : LO} {p q : Nat × Obj}, ((p :: M) ++ [q]).Perm (p :: q :: M) := List.Perm.cons _ (dM (l₂ := [_]))
 rcases s with x | r
 ·refine YL (.inl rfl) (nW (args := [(.pointer (some ⟨o, 0, none⟩))]) (caps := a) _ _ m hP rfl H (by exact pz rfl) (fun hH hN W a8 => lP.l (hf _ _ o _ ⟨hH, hN, W⟩ (g.trans i) J)) (fun W4 cc Z L4 m D R hX => ?_))
  obtain ⟨y, z, L', rfl, rfl, hX⟩ := hX
  replace m := m.perm hB
  intro E' a7
  refine nw (Ni (by simp) call98 (GC _ _ _ _ 0 x _ m (.inr rfl)) (fun I m => wR (v := .int .i64 x) rfl (a7 4) (kR m.has (.tail _ (.head _)) rfl kk) ?_))
  have m := ST.drop (A := []) (ST.drop (A := []) m)
  exact ⟨_, _, _, rfl, m.Xm, (g.trans i).trans D, (a1.trans a6).trans R, m.ma (fun _ h => h), rfl, hX⟩
 refine YR (.inl rfl) rfl dc (OC (args := [(.pointer (some ⟨o, 0, none⟩))]) (caps := a) _ _ m hP rfl H (by exact pz rfl) (fun hH hN W a8 => lP.r (hf _ _ o _ ⟨hH, hN, W⟩ (g.trans i) J)) (fun W4 v4 Z L4 m D R hK => ?_))
 obtain ⟨y, z, L', rfl, hy, hK⟩ := hK
 replace m := m.perm hB
 refine Fj (kK (De (De (Bv (B1 (.inl rfl) rfl dc (kM rfl) (B1 (.inl rfl) rfl dc (nz rfl) (B1 (.inl rfl) rfl dc (kH zl rfl) (B1 (.inl rfl) rfl dc (kE rfl (kR m.has (.head _) rfl fR)) (B1 (.inl rfl) rfl dc (lJ cw rfl hy) (B1 (.inl rfl) rfl dc (lK rfl rfl rfl) (Fj (kK ?_))))))))))))
 have L : ∀ (k : Int) (E : Nat → Value) (I : World), E 4 = .pointer (some ⟨P, 0, none⟩) → k = (if (rd r).length > 0 then 13 else 0) → ST true (keys j) w I Z ((o, Obj.cells #[y, z] 158 (0, 0)) :: (P, Obj.cells #[.int .i64 k] 62 (0, 0)) :: L') → ∀ tmps : Array Value, (∀ t, tmps.getD t undef = E t) → Leaves pg0 Tryz.f39 tmps (U0 true w Q j (fun v B u => v = .int .i64 (Jy rd (.inr r)) ∧ UP K X (.inr r) B u)) [⟨.fn (.func 98) #[], #[.pointer (some ⟨o, 0, none⟩), .pointer (some ⟨P, 0, none⟩)]⟩] .returning I := fun k E I h4 hk m => by
  refine Ni (by simp) call98 (GC _ _ _ _ k k _ m (.inl ⟨rfl, rfl⟩)) (fun W6 m => wR (v := .int .i64 k) rfl h4 (kR m.has (.tail _ (.head _)) rfl kk) ?_)
  have m := ST.drop (A := []) (ST.drop (A := []) m)
  exact ⟨_, _, _, rfl, m.Xm, (g.trans i).trans D, (a1.trans a6).trans R, m.ma (fun _ h => h), by rw [hk, Jy], hK⟩
 refine Ta (b := decide (((rd r).length : Int) > 0)) rfl (fun hq => ?_) (fun hq => ?_)
 ·exact De (Bv (SN (.inl rfl) rfl (Di [_] (.int .i64 13) #[.int .i64 13] m rfl rfl sizeOf62 oc (bD 1) rfl (fun I m => Fj (kK (P8 (lm (L 13 _ _ rfl (by rw [aK (by simpa using hq)]) m))))))))
 exact TQ (kK (De (Bv (SN (.inl rfl) rfl (Di [_] (.int .i64 0) #[.int .i64 0] m rfl rfl sizeOf62 oc (bD 1) rfl (fun I m => Fj (kK (P8 (L 0 _ _ rfl (by rw [aJ (by simpa using hq)]) m)))))))))
theorem CF (i : Nat) (c : Value) (g : List Int) (a r : Bool) (w : World) (k : Sl (Pl (lM .u8)) 1 (hp w) c g) (j : At (hp w) (.pointer (some ⟨i, 0, none⟩)) [c, (.bool a)]) (hm : vk g a = some r) :
  lg true pg0 163 [(.pointer (some ⟨i, 0, none⟩))] w (.bool r) := by
 refine cG 11 func163 rfl (fun d => sg (Wa (lr (Wm (V (uc kl rfl rfl) (Wm (Vg rfl rfl (kM rfl) (Vg rfl rfl (nz rfl) (Y0 rfl rfl (zf [(.bool a)] KJ rfl j rfl) (fun u t => Vg rfl rfl (kE rfl (nh d.has (y := (.bool a)) t isAgg4)) ?_))))))))))
 exact V (kW rfl rfl) (Wa (lt (rQ hm d)))
theorem mq (a : Nat) (t : lc) (g : Value) (B : Int) (s : (Int ⊕ Unit)) (w : World) {D : lq} (T : pY D ((a, Ob #[g, (.bool t.mU)] 158) :: []) w) (I : Sl (Pl (lM .u8)) 1 D g t.b) (hm : na t B = some s) :
  lP true pg0 165 [(.pointer (some ⟨a, 0, none⟩)), (.int .i64 B)] w D ((a, Ob #[g, (.bool t.mU)] 158) :: []) s (fun r v G U => v = (.tuple #[]) ∧ G = ((a, Ob #[g, (.bool t.mU)] 158) :: [])) (fun x c G U => ∃ y z, c = [{ v := xP 217 a x, recovered := false }] ∧ G = ((a, Ob #[y, z] 158) :: [])) := by
 have d := ST.xD (dd := true) T
 refine rj (n := 21) func165 rfl rfl nb (sg (Wm (V (CU kl rfl rfl) (Wm (Vg rfl rfl (kM rfl) (Vg rfl rfl (nz rfl) (Vg rfl rfl (kH KJ rfl) (Vg rfl rfl (kE rfl (kR d.has Mh rfl isAgg4)) (Vg rfl rfl (nr rfl) (V (kX rfl rfl) (Wm (LJ hm (fun K E W => ∃ H, ST true (keys ((a, Ob #[g, (.bool t.mU)] 158) :: [])) w W D ((a, Ob #[g, (.bool t.mU)] 158) :: H) ∧ E 0 = (.pointer (some ⟨a, 0, none⟩)) ∧ E 1 = (.int .i64 B) ∧ E 16 = (.bool K)) 3 ?_ (fun K j u => ?_)))))))))))))
 ·rintro Y E W ⟨H, d, M, N, Q⟩ k
  refine ln (CI k Q (fun J k => ?_) (fun J k => ?_))
  ·refine kT (Wh M (Wh N (V (nm (v := (.agg #[(.pointer (some ⟨a, 0, none⟩)), (.int .i64 B)])) (pH rfl rfl) (mE zeroValue217 fz (Yx _ fz) kr)) (V (VC fz (by intro q h; cases h) rfl) (sn (.inl rfl) (Vd rfl (pn ?_)))))))
   obtain rfl := sj k
   exact nj.li ⟨_, _, _, rfl, (d.mQ (Kb Sn)), (lb.refl _), Lo.refl, (ST.ma d (ny.mem (Kb Sn))), ⟨_, _, rfl, rfl⟩⟩
  refine lG (Qm (wZ ?_))
  obtain rfl := sj k
  exact wc rfl (nj.ri ⟨_, _, _, rfl, (d.mQ (Kb Sn)), (lb.refl _), Lo.refl, (ST.ma d (ny.mem (Kb Sn))), rfl, rfl⟩)
 refine bC j (fun i j => ?_) (fun i j => ?_)
 ·refine ug i (kM rfl) (ug i (lK rfl rfl rfl) (V (kX (cB i) rfl) ?_))
  obtain rfl := sj j
  exact u _ _ ⟨_, (d.kD St), rfl, rfl, rfl⟩
 refine un i (un i (V (kW (cB i) rfl) ?_))
 obtain rfl := sj j
 exact u _ _ ⟨_, (d.kD St), rfl, rfl, rfl⟩
theorem AX (a : Nat) (j : lc) (g : Value) (a1 : Int) (s : (Int ⊕ (Int × lc))) (w : World) {μ0 : lq} (h0 : pY μ0 ((a, Ob #[g, (.bool j.mU)] 158) :: []) w) (k : Sl (Pl (lM .u8)) 1 μ0 g j.b) (hm : vw j a1 = some s) :
  lP true pg0 164 [(.pointer (some ⟨a, 0, none⟩)), (.int .i64 a1)] w μ0 ((a, Ob #[g, (.bool j.mU)] 158) :: []) s (fun r v L1 μ1 => ∃ y1, v = (.int .u8 (r.1)) ∧ L1 = ((a, Ob #[y1, (.bool ((r.2).mU))] 158) :: []) ∧ Sl (Pl (lM .u8)) 1 μ1 y1 ((r.2).b)) (fun x c L1 μ1 => ∃ y z, c = [{ v := xP 217 a x, recovered := false }] ∧ L1 = ((a, Ob #[y, z] 158) :: [])) := by
 let c8 := (⟨(j.b.drop (Int.toNat 1)), j.mU⟩ : lc)
 let c7 := (#[g, (.bool j.mU)] : Array Value)
 let b8 : Value := (.pointer (some ⟨a, 0, none⟩))
 let a0 := ((a, Obj.cells c7 158 (0, 0)) :: [])
 have d := ST.xD (dd := true) h0
 refine rj (n := 41) func164 rfl rfl nb (sg (Wa (ln (kV (GJ hm (fun g0 E W => ∃ Y d7, lb μ0 Y ∧ Lo (keys a0) w μ0 Y ∧ ST true (keys a0) w W Y ((a, Obj.cells c7 158 (0, 0)) :: d7) ∧ E 0 = b8 ∧ E 1 = (.int .i64 a1)) (fun g0 B a2 => ?_) ?_)))))
 ·refine sg (Wm (Wi rfl (ln (CI B rfl (fun d3 B => ?_) (fun d3 B => ?_)))))
  ·refine kT (Wm (bS B fun g1 b5 B => ?_))
   rcases g1 with f6 | h6
   ·have L := d.size
    refine sn (.inl rfl) (nW (args := [b8, (.int .i64 11)]) (caps := #[]) _ _ d (Cb Pz Cn) rfl eY (by exact pM rfl rfl) (fun hH hN A af => (lP.l (mq a j g 11 _ _ ⟨hH, hN, A⟩ (k.mono (Pl.mono _) (lb.refl _)) b5))) (fun e7 h2 c6 e4 d T o ad => ?_))
    obtain ⟨i3, i6, d6, rfl⟩ := ad
    replace d := d.perm (Tb Tn)
    refine nw (pn ?_)
    obtain rfl := sj B
    replace a2 : some (Sum.inl f6) = some s := a2
    obtain rfl := sj a2
    exact nj.li ⟨_, _, _, rfl, (d.mQ (Kb Sn)), T, o, (ST.ma d (ny.mem (Kb Sn))), ⟨_, _, d6, rfl⟩⟩
   have L := d.size
   refine VE (eD d (Cb Pz Cn) eY (fun hh => (lP.r (mq a j g 11 _ _ hh (k.mono (Pl.mono _) (lb.refl _)) b5))) ?_)
   rintro e7 h9 c6 e4 d T o ⟨a6, rfl⟩
   obtain rfl := a6.symm
   replace d := d.perm (Tb Tn)
   refine ln ?_
   obtain rfl := sj B
   exact ⟨_, rfl, c6, _, T, o, (d.kD St), rfl, rfl⟩
  refine kn ?_
  obtain rfl := sj B
  exact ⟨_, rfl, μ0, _, (lb.refl _), Lo.refl, (d.kD St), rfl, rfl⟩
 rintro ⟨⟩ E W ⟨Y, d7, G, q, d, b1, e0⟩ f0
 refine kV (GJ f0 (fun f8 E W => ∃ I d8, lb Y I ∧ Lo (keys a0) w Y I ∧ ST true (keys a0) w W I ((a, Obj.cells c7 158 (0, 0)) :: d8) ∧ E 0 = b8 ∧ E 1 = (.int .i64 a1)) (fun f8 u Z => ?_) ?_)
 ·refine sg (Wh b1 (Wn (Wf zl (VB d Mh rfl rfl fR (V (lJ cw rfl k) (Wi rfl (ln (CI u rfl (fun d2 u => ?_) (fun d2 u => ?_)))))))))
  ·refine kT (Wh b1 (bS u fun f9 b4 u => ?_))
   rcases f9 with f5 | h5
   ·have L := d.size
    refine sn (.inl rfl) (nW (args := [b8, (.int .i64 10)]) (caps := #[]) _ _ d (Cb Pz Cn) rfl eY (by exact pM rfl rfl) (fun hH hN A af => (lP.l (mq a j g 10 _ _ ⟨hH, hN, A⟩ (k.mono (Pl.mono _) G) b4))) (fun e6 h1 c5 e3 d Q m ab => ?_))
    obtain ⟨i2, i5, d5, rfl⟩ := ab
    replace d := d.perm (Tb Tn)
    refine nw (pn ?_)
    obtain rfl := sj u
    replace Z : some (Sum.inl f5) = some s := Z
    obtain rfl := sj Z
    exact nj.li ⟨_, _, _, rfl, (d.mQ (Kb Sn)), (G.trans Q), (q.trans m), (ST.ma d (ny.mem (Kb Sn))), ⟨_, _, d5, rfl⟩⟩
   have L := d.size
   refine VE (eD d (Cb Pz Cn) eY (fun hh => (lP.r (mq a j g 10 _ _ hh (k.mono (Pl.mono _) G) b4))) ?_)
   rintro e6 h8 c5 e3 d Q m ⟨a5, rfl⟩
   obtain rfl := a5.symm
   replace d := d.perm (Tb Tn)
   refine ln ?_
   obtain rfl := sj u
   exact ⟨_, rfl, c5, _, Q, m, (d.kD St), b1, e0⟩
  refine kn ?_
  obtain rfl := sj u
  exact ⟨_, rfl, Y, _, (lb.refl _), Lo.refl, (d.kD St), b1, e0⟩
 rintro ⟨⟩ E W ⟨I, d8, J, P, d, a7, g2⟩ U
 refine sg (Wh a7 (Wn (Wf zl (VB d Mh rfl rfl fR (bS U fun a9 c2 U => VQ (lY (enc := (lM .u8)) (i := 0) (x0 := a9) cw iZ rfl rfl (k.mono (Pl.mono _) (G.trans J)) (mi c2) (lR c2)) (fun i8 f3 => V (kE rfl (nh d.has (y := (.int .u8 a9)) f3 isAgg5)) (Wa (lr (Wh a7 ?_)))))))))
 refine Wh a7 (Wn (Wf zl (VB d Mh rfl rfl fR (bS U fun _ c1 U => VQ (BY (i := 1) cw iZ rfl rfl (k.mono (Pl.mono _) (G.trans J)) (qW c1) (qR c1)) (fun i9 a3 => Wn (Wf zl ?_))))))
 obtain ⟨K, M, rfl⟩ := a3.1.form
 let R : Value := (.slice K (j.b.drop (Int.toNat 1)).length M)
 refine VO (lh R (#[R, (.bool j.mU)]) d rfl rfl gV oc nb rfl (fun i7 d => ln (kV (GJ U (fun g4 E W => ∃ b6 d9, lb I b6 ∧ Lo (keys a0) w I b6 ∧ ST true (keys a0) w W b6 ((a, Ob #[R, (.bool j.mU)] 158) :: d9) ∧ E 5 = (.int .u8 a9)) (fun g4 f2 b0 => ?_) ?_))))
 ·refine sg (Wm (Wi rfl (Wm (LJ f2 (fun c3 E W => ∃ b9, ST true (keys a0) w W I ((a, Ob #[R, (.bool j.mU)] 158) :: b9) ∧ E 0 = b8 ∧ E 5 = (.int .u8 a9) ∧ E 37 = (.bool c3)) 3 ?_ (fun c3 H a8 => ?_)))))
  ·rintro i0 E W ⟨b9, d, e8, c0, e9⟩ t
   refine ln (CI t e9 (fun d1 t => ?_) (fun d1 t => ?_))
   ·refine kT (Wh e8 (bS t fun f7 b3 t => ?_))
    rcases f7 with f4 | h4
    ·have L := d.size
     refine sn (.inl rfl) (nW (args := [b8, (.int .i64 11)]) (caps := #[]) _ _ d (Cb Pz Cn) rfl eY (by exact pM rfl rfl) (fun hH hN A af => (lP.l (mq a c8 R 11 _ _ ⟨hH, hN, A⟩ (a3.1.mono (Pl.mono _) (lb.refl _)) b3))) (fun e5 g9 c4 e2 d N h aa => ?_))
     obtain ⟨i1, i4, d4, rfl⟩ := aa
     replace d := d.perm (Tb Tn)
     refine nw (pn ?_)
     obtain rfl := sj t
     replace b0 : some (Sum.inl f4) = some s := b0
     obtain rfl := sj b0
     exact nj.li ⟨_, _, _, rfl, (d.mQ (Kb Sn)), ((G.trans J).trans N), ((q.trans P).trans h), (ST.ma d (ny.mem (Kb Sn))), ⟨_, _, d4, rfl⟩⟩
    have L := d.size
    refine VE (eD d (Cb Pz Cn) eY (fun hh => (lP.r (mq a c8 R 11 _ _ hh (a3.1.mono (Pl.mono _) (lb.refl _)) b3))) ?_)
    rintro e5 h7 c4 e2 d N h ⟨a4, rfl⟩
    obtain rfl := a4.symm
    replace d := d.perm (Tb Tn)
    refine ln ?_
    obtain rfl := sj t
    exact ⟨_, rfl, c4, _, N, h, (d.kD St), c0⟩
   refine kn ?_
   obtain rfl := sj t
   exact ⟨_, rfl, I, _, (lb.refl _), Lo.refl, (d.kD St), c0⟩
  refine bC H (fun D H => ?_) (fun D H => ?_)
  ·refine ug D (kM g2) (ug D (lK rfl rfl rfl) (V (kX (cB D) rfl) ?_))
   obtain rfl := sj H
   exact a8 _ _ ⟨_, (d.kD St), a7, rfl, rfl⟩
  refine un D (un D (V (kW (cB D) rfl) ?_))
  obtain rfl := sj H
  exact a8 _ _ ⟨_, (d.kD St), a7, rfl, rfl⟩
 rintro ⟨⟩ E W ⟨b6, d9, b2, ae, d, g3⟩ f1
 refine sg (Wh g3 (Wa (lt (wz ?_))))
 obtain rfl := sj f1
 exact lQ (v := (.int .u8 a9)) rfl rfl (nj.ri ⟨_, _, _, rfl, (d.mQ (Kb Sn)), ((G.trans J).trans b2), ((q.trans P).trans ae), (ST.ma d (ny.mem (Kb Sn))), R, rfl, rfl, (a3.1.mono (Pl.mono _) b2)⟩)
theorem mX (g : Nat) (I : lc) (j : Value) (a1 : Int) (s : (Int ⊕ (Int × lc))) (w : World) {μ0 : lq} (h0 : pY μ0 ((g, Ob #[j, (.bool I.mU)] 158) :: []) w) (K : Sl (Pl (lM .u8)) 1 μ0 j I.b) (hm : nt I a1 = some s) :
  lP true pg0 99 [(.pointer (some ⟨g, 0, none⟩)), (.int .i64 a1)] w μ0 ((g, Ob #[j, (.bool I.mU)] 158) :: []) s (fun r v L1 μ1 => ∃ y1, v = (.int .i64 (r.1)) ∧ L1 = ((g, Ob #[y1, (.bool ((r.2).mU))] 158) :: []) ∧ Sl (Pl (lM .u8)) 1 μ1 y1 ((r.2).b)) (fun x c L1 μ1 => ∃ y z, c = [{ v := xP 217 g x, recovered := false }] ∧ L1 = ((g, Ob #[y, z] 158) :: [])) := by
 let b7 : Value := (.pointer (some ⟨g, 0, none⟩))
 let b2 := ((g, Ob #[j, (.bool I.mU)] 158) :: [])
 have d := ST.xD (dd := true) h0
 refine rj (n := 31) func99 rfl rfl nb (sg (Wa (lS (Wm (bS hm fun r1 e0 hm => VE (Eg d call163 (CF g j I.b I.mU _ _ (K.mono (Pl.mono _) d.kN) (At.of (d.at_ Mh) _ rfl) e0) (fun W3 d => ln (CI hm rfl (fun d9 hm => ?_) (fun d9 hm => ?_)))))))))
 ·refine sg (Wa (lt (lm (wz ?_))))
  obtain rfl := sj hm
  exact lQ (v := (.int .i64 0)) rfl rfl (nj.ri ⟨_, _, _, rfl, (d.mQ (Kb Sn)), (lb.refl _), Lo.refl, (ST.ma d (ny.mem (Kb Sn))), j, rfl, rfl, K⟩)
 refine kg (Wa (lS (Wa (ln (mP (ou (fun m E W => ∃ G u Q N T Y b3, lb μ0 Y ∧ Lo (keys b2) w μ0 Y ∧ ST true (keys b2) w W Y ((g, Ob #[Q, (.bool T)] 158) :: b3) ∧ E 0 = b7 ∧ E 1 = (.int .i64 a1) ∧ E 5 = (.int .i64 G) ∧ E 6 = (.int .i64 u) ∧ Sl (Pl (lM .u8)) 1 Y Q N ∧ nU a1 m G u N T = some s) lE ⟨0, 0, j, I.b, I.mU, μ0, _, (lb.refl _), Lo.refl, (d.kD St), rfl, rfl, rfl, rfl, K, hm⟩ ?_))))))
 rintro m E W ⟨G, u, Q, N, T, Y, b3, H, o, d, a7, b5, d2, a8, b1, i⟩
 cases m with
 | zero => rw [nU] at i; cases i
 | succ d4 =>
  refine kV (bg (Wh a7 (Wh a8 (bS i fun d8 a9 i => ?_))))
  rcases d8 with e6 | t
  ·have aa := d.size
   refine sn (.inl rfl) (nW (args := [b7, (.int .i64 u)]) (caps := #[]) _ _ d (Cb Pz Cn) rfl call164 (by exact pM rfl rfl) (fun hH hN R ab => (lP.l (AX g (⟨N, T⟩ : lc) Q u _ _ ⟨hH, hN, R⟩ (b1.mono (Pl.mono _) (lb.refl _)) a9))) (fun d0 e3 Z c8 d D h A => ?_))
   obtain ⟨f0, f2, c3, rfl⟩ := A
   replace d := d.perm (Tb Tn)
   refine nw (xr (nw (nw (xr (nw (pn ?_))))))
   obtain rfl := sj i
   exact nj.li ⟨_, _, _, rfl, (d.mQ (Kb Sn)), (H.trans D), (o.trans h), (ST.ma d (ny.mem (Kb Sn))), ⟨_, _, c3, rfl⟩⟩
  have aa := d.size
  refine VE (eD d (Cb Pz Cn) call164 (fun hh => (lP.r (AX g (⟨N, T⟩ : lc) Q u _ _ hh (b1.mono (Pl.mono _) (lb.refl _)) a9))) ?_)
  rintro d0 e8 Z c8 d D h ⟨U, a3, rfl, J⟩
  obtain rfl := a3.symm
  replace d := d.perm (Tb Tn)
  refine Wa (lr (Wh d2 (Wm (V (F3 (k := .u8) (a := t.1) (b := 127) (v := (.int .u8 (IntKind.u8.wrap (BitVec.ofInt (IntKind.bits .u8) t.1 &&& BitVec.ofInt (IntKind.bits .u8) 127).toNat))) rfl rfl dc rfl) (V (Cj (k' := .u8) (a := (IntKind.u8.wrap (BitVec.ofInt (IntKind.bits .u8) t.1 &&& BitVec.ofInt (IntKind.bits .u8) 127).toNat)) eW gz rfl) (Wh a8 (Wi rfl (bS i fun _ c5 i => V (Qs (a := (wi0 .i64 (IntKind.u8.wrap (BitVec.ofInt (IntKind.bits .u8) t.1 &&& BitVec.ofInt (IntKind.bits .u8) 127).toNat))) (b := (wi0 .i64 (7 * u))) rfl rfl (zT c5)) (V (X2 (k := .i64) (a := G) (b := (wi0 .i64 ((wi0 .i64 (IntKind.u8.wrap (BitVec.ofInt (IntKind.bits .u8) t.1 &&& BitVec.ofInt (IntKind.bits .u8) 127).toNat)) * 2 ^ min (Int.toNat (wi0 .i64 (7 * u))) (IntKind.bits .i64)))) (v := (.int .i64 (wi0 .i64 (BitVec.ofInt (IntKind.bits .i64) G ||| BitVec.ofInt (IntKind.bits .i64) (wi0 .i64 ((wi0 .i64 (IntKind.u8.wrap (BitVec.ofInt (IntKind.bits .u8) t.1 &&& BitVec.ofInt (IntKind.bits .u8) 127).toNat)) * 2 ^ min (Int.toNat (wi0 .i64 (7 * u))) (IntKind.bits .i64)))).toNat))) rfl rfl rfl) (Wa ?_))))))))))
  let a0 := (wi0 .i64 (BitVec.ofInt (IntKind.bits .i64) G ||| BitVec.ofInt (IntKind.bits .i64) (wi0 .i64 ((wi0 .i64 (IntKind.u8.wrap (BitVec.ofInt (IntKind.bits .u8) t.1 &&& BitVec.ofInt (IntKind.bits .u8) 127).toNat)) * 2 ^ min (Int.toNat (wi0 .i64 (7 * u))) (IntKind.bits .i64)))).toNat)
  refine lr (Wm (Wi rfl (ln (CI i rfl (fun c1 i => ?_) (fun c1 i => ?_)))))
  ·refine ot (XV (by simp) (nT (nT (uj (kK (kV (GJ i (fun d6 E W => ∃ a5 b4, lb Z a5 ∧ Lo (keys b2) w Z a5 ∧ ST true (keys b2) w W a5 ((g, Ob #[U, (.bool ((t.2).mU))] 158) :: b4) ∧ E 5 = (.int .i64 a0)) (fun d6 B a2 => ?_) ?_)))))))
   ·refine sg (Wm (Wh b5 (Wi rfl (ln (CI B rfl (fun c2 B => ?_) (fun c2 B => ?_))))))
    ·refine kT (Wh a7 (bS B fun d7 b0 B => ?_))
     rcases d7 with d5 | e7
     ·have aa := d.size
      refine sn (.inl rfl) (nW (args := [b7, (.int .i64 12)]) (caps := #[]) _ _ d (Cb Pz Cn) rfl eY (by exact pM rfl rfl) (fun hH hN R ab => (lP.l (mq g t.2 U 12 _ _ ⟨hH, hN, R⟩ (J.mono (Pl.mono _) (lb.refl _)) b0))) (fun d1 e4 b6 c9 d M q L => ?_))
      obtain ⟨f1, f3, c4, rfl⟩ := L
      replace d := d.perm (Tb Tn)
      refine nw (pn ?_)
      obtain rfl := sj B
      replace a2 : some (Sum.inl d5) = some s := a2
      obtain rfl := sj a2
      exact nj.li ⟨_, _, _, rfl, (d.mQ (Kb Sn)), ((H.trans D).trans M), ((o.trans h).trans q), (ST.ma d (ny.mem (Kb Sn))), ⟨_, _, c4, rfl⟩⟩
     have aa := d.size
     refine VE (eD d (Cb Pz Cn) eY (fun hh => (lP.r (mq g t.2 U 12 _ _ hh (J.mono (Pl.mono _) (lb.refl _)) b0))) ?_)
     rintro d1 e9 b6 c9 d M q ⟨a4, rfl⟩
     obtain rfl := a4.symm
     replace d := d.perm (Tb Tn)
     refine ln ?_
     obtain rfl := sj B
     exact ⟨_, rfl, b6, _, M, q, (d.kD St), rfl⟩
    refine kn ?_
    obtain rfl := sj B
    exact ⟨_, rfl, Z, _, (lb.refl _), Lo.refl, (d.kD St), rfl⟩
   rintro ⟨⟩ E W ⟨a5, b4, a6, P, d, d3⟩ c6
   refine sg (Wh d3 (Wa (lt (wz ?_))))
   obtain rfl := sj c6
   exact lQ (v := (.int .i64 a0)) rfl rfl (nj.ri ⟨_, _, _, rfl, (d.mQ (Kb Sn)), ((H.trans D).trans a6), ((o.trans h).trans P), (ST.ma d (ny.mem (Kb Sn))), U, rfl, rfl, (J.mono (Pl.mono _) a6)⟩)
  exact lG (lA (kK (kT (Wh a8 (Wi rfl (Wa (ln ⟨d4, bT _, a0, (wi0 .i64 (u + 1)), U, ((t.2).b), ((t.2).mU), Z, _, (H.trans D), (o.trans h), (d.kD St), a7, b5, rfl, rfl, J, i⟩)))))))
theorem A6 (a : Nat) (J : lc) (k : Value) (a1 : Int) (s : (Int ⊕ ((List Int) × lc))) (w : World) {μ0 : lq} (h0 : pY μ0 ((a, Ob #[k, (.bool J.mU)] 158) :: []) w) (D : Sl (Pl (lM .u8)) 1 μ0 k J.b) (hm : vv J a1 = some s) :
  lP true pg0 207 [(.pointer (some ⟨a, 0, none⟩)), (.int .i64 a1)] w μ0 ((a, Ob #[k, (.bool J.mU)] 158) :: []) s (fun r v L1 μ1 => ∃ y1 y3, v = y1 ∧ L1 = ((a, Ob #[y3, (.bool ((r.2).mU))] 158) :: []) ∧ Sl (Pl (lM .u8)) 1 μ1 y1 (r.1) ∧ Sl (Pl (lM .u8)) 1 μ1 y3 ((r.2).b)) (fun x c L1 μ1 => ∃ y z, c = [{ v := xP 217 a x, recovered := false }] ∧ L1 = ((a, Ob #[y, z] 158) :: [])) := by
 let b6 := ((a, Ob #[k, (.bool J.mU)] 158) :: [])
 let b2 : Value := (.pointer (some ⟨a, 0, none⟩))
 have d := ST.xD (dd := true) h0
 refine rj (n := 44) func207 rfl rfl nb (sg (Wa (lS (Wm (bS hm fun r1 e6 hm => VE (Eg d call163 (CF a k J.b J.mU _ _ (D.mono (Pl.mono _) d.kN) (At.of (d.at_ Mh) _ rfl) e6) (fun W3 d => ln (CI hm rfl (fun e5 hm => ?_) (fun e5 hm => ?_)))))))))
 ·refine sg (Wa (lt (lm (wz ?_))))
  obtain rfl := sj hm
  exact lQ (v := (.slice none 0 0)) rfl rfl (nj.ri ⟨_, _, _, rfl, (d.mQ (Kb Sn)), (lb.refl _), Lo.refl, (ST.ma d (ny.mem (Kb Sn))), (.slice none 0 0), k, rfl, rfl, (Sl.nil _ _ _), D⟩)
 refine kg (Wm (bS hm fun d9 c0 hm => ?_))
 rcases d9 with g7 | t
 ·have A := d.size
  refine sn (.inl rfl) (nW (args := [b2, (.int .i64 9223372036854775807)]) (caps := #[]) _ _ d (Cb Pz Cn) rfl js (by exact pM rfl rfl) (fun hH hN q af => (lP.l (mX a J k 9223372036854775807 _ _ ⟨hH, hN, q⟩ (D.mono (Pl.mono _) (lb.refl _)) c0))) (fun W7 g4 L e2 d I h aa => ?_))
  obtain ⟨h4, h5, d1, rfl⟩ := aa
  replace d := d.perm (Tb Tn)
  refine nw (pn ?_)
  obtain rfl := sj hm
  exact nj.li ⟨_, _, _, rfl, (d.mQ (Kb Sn)), I, h, (ST.ma d (ny.mem (Kb Sn))), ⟨_, _, d1, rfl⟩⟩
 have A := d.size
 refine VE (eD d (Cb Pz Cn) js (fun hh => (lP.r (mX a J k 9223372036854775807 _ _ hh (D.mono (Pl.mono _) (lb.refl _)) c0))) ?_)
 rintro W7 h1 L e2 d I h ⟨T, U, rfl, B⟩
 obtain rfl := U.symm
 replace d := d.perm (Tb Tn)
 refine Wa (ln (kV (GJ hm (fun e7 E W => ∃ a3 b7, lb L a3 ∧ Lo (keys b6) w L a3 ∧ ST true (keys b6) w W a3 ((a, Ob #[T, (.bool ((t.2).mU))] 158) :: b7) ∧ E 0 = b2 ∧ E 5 = (.int .i64 t.1)) (fun e7 g G => ?_) ?_)))
 ·refine bg (Wm (Wm (Wi rfl (Wa (ln (CI g rfl (fun d0 g => ?_) (fun d0 g => ?_)))))))
  ·refine kT (Wm (bS g fun d7 a9 g => ?_))
   rcases d7 with d5 | g9
   ·have A := d.size
    refine sn (.inl rfl) (nW (args := [b2, (.int .i64 12)]) (caps := #[]) _ _ d (Cb Pz Cn) rfl eY (by exact pM rfl rfl) (fun hH hN q af => (lP.l (mq a t.2 T 12 _ _ ⟨hH, hN, q⟩ (B.mono (Pl.mono _) (lb.refl _)) a9))) (fun e3 f2 c2 c4 d M o P => ?_))
    obtain ⟨f7, f9, b4, rfl⟩ := P
    replace d := d.perm (Tb Tn)
    refine xr (nw (pn ?_))
    obtain rfl := sj g
    replace G : some (Sum.inl d5) = some s := G
    obtain rfl := sj G
    exact nj.li ⟨_, _, _, rfl, (d.mQ (Kb Sn)), (I.trans M), (h.trans o), (ST.ma d (ny.mem (Kb Sn))), ⟨_, _, b4, rfl⟩⟩
   have A := d.size
   refine VE (eD d (Cb Pz Cn) eY (fun hh => (lP.r (mq a t.2 T 12 _ _ hh (B.mono (Pl.mono _) (lb.refl _)) a9))) ?_)
   rintro e3 h3 c2 c4 d M o ⟨N, rfl⟩
   obtain rfl := N.symm
   replace d := d.perm (Tb Tn)
   refine lo (lA (kK ?_))
   obtain rfl := sj g
   exact ⟨_, rfl, c2, _, M, o, (d.kD St), rfl, rfl⟩
  refine sg (Wm (Wm (Wn (Wf zl (VB d Mh rfl rfl fR (V (lJ cw rfl B) (Wi rfl (Wa (ln (CI g rfl (fun b3 g => ?_) (fun b3 g => ?_)))))))))))
  ·refine kT (Wm (bS g fun d8 a2 g => ?_))
   rcases d8 with d6 | f5
   ·have A := d.size
    refine sn (.inl rfl) (nW (args := [b2, (.int .i64 10)]) (caps := #[]) _ _ d (Cb Pz Cn) rfl eY (by exact pM rfl rfl) (fun hH hN q af => (lP.l (mq a t.2 T 10 _ _ ⟨hH, hN, q⟩ (B.mono (Pl.mono _) (lb.refl _)) a2))) (fun c6 f3 b1 c5 d H m R => ?_))
    obtain ⟨f8, g0, b5, rfl⟩ := R
    replace d := d.perm (Tb Tn)
    refine xr (nw (pn ?_))
    obtain rfl := sj g
    replace G : some (Sum.inl d6) = some s := G
    obtain rfl := sj G
    exact nj.li ⟨_, _, _, rfl, (d.mQ (Kb Sn)), (I.trans H), (h.trans m), (ST.ma d (ny.mem (Kb Sn))), ⟨_, _, b5, rfl⟩⟩
   have A := d.size
   refine VE (eD d (Cb Pz Cn) eY (fun hh => (lP.r (mq a t.2 T 10 _ _ hh (B.mono (Pl.mono _) (lb.refl _)) a2))) ?_)
   rintro c6 f6 b1 c5 d H m ⟨Q, rfl⟩
   obtain rfl := Q.symm
   replace d := d.perm (Tb Tn)
   refine lo (lA (kK ?_))
   obtain rfl := sj g
   exact ⟨_, rfl, b1, _, H, m, (d.kD St), rfl, rfl⟩
  refine lG (lA (kK ?_))
  obtain rfl := sj g
  exact ⟨_, rfl, L, _, (lb.refl _), Lo.refl, (d.kD St), rfl, rfl⟩
 rintro ⟨⟩ E W ⟨a3, b7, K, ab, d, a6, b9⟩ u
 refine sg (Wh a6 (Wn (Wf zl (VB d Mh rfl rfl fR (Wh b9 (bS u fun _ a7 u => VQ (Rg (j := t.1) cw iZ rfl rfl (B.mono (Pl.mono _) K) (qW a7) (qR a7)) (fun e8 d3 => bS u fun g8 d2 u => VE (qu d call96 (Cv e8 (((t.2).b).take (Int.toNat t.1)) _ _ (d3.1.mono (Pl.mono _) d.kN) d2) (fun g2 c1 h6 g1 d Y ad c9 => Wa (ln (kV ?_)))))))))))
 refine kT (Wh a6 (Wh a6 (Wn (Wf zl (VB d (Ma Mh) rfl rfl fR (Wh b9 (bS u fun _ a8 u => VQ (BY (i := t.1) cw iZ rfl rfl (B.mono (Pl.mono _) (K.trans Y)) (qW a8) (qR a8)) (fun h2 b0 => Wn (Wf zl ?_)))))))))
 obtain ⟨a4, a5, rfl⟩ := b0.1.form
 let a0 : Value := (.slice a4 (((t.2).b).drop (Int.toNat t.1)).length a5)
 replace d := d.perm (Nb (Pr Pz) Nz)
 refine VO (lh a0 (#[a0, (.bool ((t.2).mU))]) d rfl rfl gV oc nb rfl (fun g3 d => lr (Wm (Wa (lt (wz ?_))))))
 obtain rfl := sj u
 refine lQ (v := c1) rfl rfl ?_
 replace d := d.perm (Nr (Qb Qz) Nz)
 obtain ⟨h7, d, Z, ae, d4⟩ := ST.Bf d c9 (fun _ => rfl)
 exact nj.ri ⟨_, _, _, rfl, (d.mQ (Kb Sn)), (((I.trans K).trans Y).trans Z), (((h.trans ab).trans ad).trans ae), (ST.ma d (ny.mem (Kb Sn))), c1, a0, rfl, rfl, d4, (b0.1.mono (Pl.mono _) Z)⟩
theorem rr (a : Nat) (G : lc) (g : Value) (s : (Int ⊕ (ByteArray × lc))) (w : World) {Z : lq} (h0 : pY Z ((a, Ob #[g, (.bool G.mU)] 158) :: []) w) (t : Sl (Pl (lM .u8)) 1 Z g G.b) (hm : uq G = some s) :
  lP true pg0 166 [(.pointer (some ⟨a, 0, none⟩))] w Z ((a, Ob #[g, (.bool G.mU)] 158) :: []) s (fun r v K μ1 => ∃ W, v = (.string (r.1)) ∧ K = ((a, Ob #[W, (.bool ((r.2).mU))] 158) :: []) ∧ Sl (Pl (lM .u8)) 1 μ1 W ((r.2).b)) (fun x c K μ1 => ∃ y z, c = [{ v := xP 217 a x, recovered := false }] ∧ K = ((a, Ob #[y, z] 158) :: [])) := by
 have d := ST.xD (dd := true) h0
 refine rj (n := 15) func166 rfl rfl nb (sg (Wa (lS (Wm (V (uc kl rfl rfl) (ln (qx rfl (lG ?_))))))))
 refine kK (sg (Wm (bS hm fun a5 J hm => ?_)))
 rcases a5 with b6 | I
 ·have q := d.size
  refine sn (.inl rfl) (nW (args := [(.pointer (some ⟨a, 0, none⟩)), (.int .i64 16)]) (caps := #[]) _ _ d (Cb Pz Cn) rfl call207 (by exact pM rfl rfl) (fun hH L o P => (lP.l (A6 a G g 16 _ _ ⟨hH, L, o⟩ (t.mono (Pl.mono _) (lb.refl _)) J))) (fun W3 b4 R L9 d j m A => ?_))
  obtain ⟨c3, c5, Q, rfl⟩ := A
  replace d := d.perm (Tb Tn)
  refine nw (pn ?_)
  obtain rfl := sj hm
  exact nj.li ⟨_, _, _, rfl, (d.mQ (Kb Sn)), j, m, (ST.ma d (ny.mem (Kb Sn))), ⟨_, _, Q, rfl⟩⟩
 have q := d.size
 refine VE (eD d (Cb Pz Cn) call207 (fun M => (lP.r (A6 a G g 16 _ _ M (t.mono (Pl.mono _) (lb.refl _)) J))) ?_)
 rintro W3 v7 R L9 d j m ⟨c2, D, u, rfl, Y, k⟩
 obtain rfl := u.symm
 replace d := d.perm (Tb Tn)
 refine V (KH cw eW bL rfl (Y.mono (Pl.mono _) d.kN)) (Wa (lS (Wm (bS hm fun b9 U hm => VE (Eg d kh (uf (Cl I.1) _ _  U) (fun b3 d => V (nr rfl) (ln (CI hm rfl (fun N hm => ?_) (fun N hm => ?_)))))))))
 ·refine sg (Wm (bS hm fun a4 H hm => ?_))
  rcases a4 with b7 | c0
  ·have q := d.size
   refine sn (.inl rfl) (nW (args := [(.pointer (some ⟨a, 0, none⟩)), (.int .i64 30)]) (caps := #[]) _ _ d (Cb Pz Cn) rfl eY (by exact pM rfl rfl) (fun hH L o P => (lP.l (mq a I.2 D 30 _ _ ⟨hH, L, o⟩ (k.mono (Pl.mono _) (lb.refl _)) H))) (fun a2 b5 a8 a1 d i h E => ?_))
   obtain ⟨c4, c6, T, rfl⟩ := E
   replace d := d.perm (Tb Tn)
   refine nw (nw (pn ?_))
   obtain rfl := sj hm
   exact nj.li ⟨_, _, _, rfl, (d.mQ (Kb Sn)), (j.trans i), (m.trans h), (ST.ma d (ny.mem (Kb Sn))), ⟨_, _, T, rfl⟩⟩
  have q := d.size
  refine VE (eD d (Cb Pz Cn) eY (fun M => (lP.r (mq a I.2 D 30 _ _ M (k.mono (Pl.mono _) (lb.refl _)) H))) ?_)
  rintro a2 c1 a8 a1 d i h ⟨B, rfl⟩
  obtain rfl := B.symm
  replace d := d.perm (Tb Tn)
  refine lr (Wa (lt (lm (wz ?_))))
  obtain rfl := sj hm
  exact lQ (v := (.string zS)) rfl rfl (nj.ri ⟨_, _, _, rfl, (d.mQ (Kb Sn)), (j.trans i), (m.trans h), (ST.ma d (ny.mem (Kb Sn))), D, rfl, rfl, (k.mono (Pl.mono _) i)⟩)
 refine kg (Wm (Wa (lt (wz ?_))))
 obtain rfl := sj hm
 exact lQ (v := (.string (Cl I.1))) rfl rfl (nj.ri ⟨_, _, _, rfl, (d.mQ (Kb Sn)), j, m, (ST.ma d (ny.mem (Kb Sn))), D, rfl, rfl, k⟩)
theorem pD (a : Nat) (G : lc) (g : Value) (s : (Int ⊕ (kA × lc))) (w : World) {Z : lq} (h0 : pY Z ((a, Ob #[g, (.bool G.mU)] 158) :: []) w) (u : Sl (Pl (lM .u8)) 1 Z g G.b) (hm : sF G = some s) :
  lP true pg0 100 [(.pointer (some ⟨a, 0, none⟩))] w Z ((a, Ob #[g, (.bool G.mU)] 158) :: []) s (fun r v M μ1 => ∃ y1, v = (.agg (kC (r.1)).toArray) ∧ M = ((a, Ob #[y1, (.bool ((r.2).mU))] 158) :: []) ∧ Sl (Pl (lM .u8)) 1 μ1 y1 ((r.2).b)) (fun x c M μ1 => ∃ y z, c = [{ v := xP 217 a x, recovered := false }] ∧ M = ((a, Ob #[y, z] 158) :: [])) := by
 have d := ST.xD (dd := true) h0
 refine rj (n := 10) func100 rfl rfl nb (sg (VE (lD d bQ (fun W2 b1 d => lr (Wm (bS hm fun a5 J hm => ?_))))))
 rcases a5 with b7 | t
 ·have q := d.size
  refine sn (.inl rfl) (nW (args := [(.pointer (some ⟨a, 0, none⟩))]) (caps := #[]) _ _ d (Cb (Pb Pz) Cn) rfl ja (by exact pz rfl) (fun hH L o R => (lP.l (rr a G g _ _ ⟨hH, L, o⟩ (u.mono (Pl.mono _) (lb.refl _)) J))) (fun W5 b5 W a1 d k m A => ?_))
  obtain ⟨c1, c3, T, rfl⟩ := A
  replace d := d.perm (Tb Tn)
  refine nw (pn ?_)
  obtain rfl := sj hm
  exact nj.li ⟨_, _, _, rfl, (d.mQ (Kb Sn)), k, m, (ST.ma d (ny.mem (Kb Sn))), ⟨_, _, T, rfl⟩⟩
 have q := d.size
 refine VE (eD d (Cb (Pb Pz) Cn) ja (fun P => (lP.r (rr a G g _ _ P (u.mono (Pl.mono _) (lb.refl _)) J))) ?_)
 rintro W5 v9 W a1 d k m ⟨K, B, rfl, I⟩
 obtain rfl := B.symm
 replace d := d.perm (Tb Tn)
 refine Wa (lr (Wm (Wm (bS hm fun a4 H hm => ?_))))
 rcases a4 with b9 | i
 ·have q := d.size
  refine sn (.inl rfl) (nW (args := [(.pointer (some ⟨a, 0, none⟩))]) (caps := #[]) _ _ d (Cb Pz Cn) rfl ja (by exact pz rfl) (fun hH L o R => (lP.l (rr a t.2 K _ _ ⟨hH, L, o⟩ (I.mono (Pl.mono _) (lb.refl _)) H))) (fun a3 b6 a9 a2 d j h E => ?_))
  obtain ⟨c2, c4, U, rfl⟩ := E
  replace d := d.perm (Tb Tn)
  refine nw (pn ?_)
  obtain rfl := sj hm
  exact nj.li ⟨_, _, _, rfl, (d.mQ (Kb Sn)), (k.trans j), (m.trans h), (ST.ma d (ny.mem (Kb Sn))), ⟨_, _, U, rfl⟩⟩
 have q := d.size
 refine VE (eD d (Cb Pz Cn) ja (fun P => (lP.r (rr a t.2 K _ _ P (I.mono (Pl.mono _) (lb.refl _)) H))) ?_)
 rintro a3 c0 a9 a2 d j h ⟨a7, D, rfl, Y⟩
 obtain rfl := D.symm
 replace d := d.perm (Tb Tn)
 let N := (⟨t.1, i.1⟩ : kA)
 let Q : Value := (.agg (kC N).toArray)
 refine V (nm (v := Q) (pH rfl rfl) (mE bQ cI (Hn _ cI) kr)) ?_
 replace d := d.perm (Nb (Pb Pz) Nz)
 refine VO (lh Q ((kC N).toArray) d rfl rfl aC (mH N) nb rfl (fun b4 d => lt (wz ?_)))
 obtain rfl := sj hm
 exact wR (v := Q) rfl rfl (kL d.has Mh (kC N) rfl aO aC) (nj.ri ⟨_, _, _, rfl, (d.mQ (Db (Kb Sn))), (k.trans j), (m.trans h), (ST.ma d (ny.mem (Db (Kb Sn)))), a7, rfl, rfl, Y⟩)
set_option maxHeartbeats 4000000 in
theorem HT (a : Nat) (a0 : lc) (j : Value) (s : (Int ⊕ (kB × lc))) (w : World) {μ0 : lq} (h0 : pY μ0 ((a, Ob #[j, (.bool a0.mU)] 158) :: []) w) (d1 : Sl (Pl (lM .u8)) 1 μ0 j a0.b) (hm : Bo a0 = some s) :
  lP true pg0 167 [(.pointer (some ⟨a, 0, none⟩))] w μ0 ((a, Ob #[j, (.bool a0.mU)] 158) :: []) s (fun r v L1 μ1 => ∃ y1, v = (.agg (kG (r.1)).toArray) ∧ L1 = ((a, Ob #[y1, (.bool ((r.2).mU))] 158) :: []) ∧ Sl (Pl (lM .u8)) 1 μ1 y1 ((r.2).b)) (fun x c L1 μ1 => ∃ y z, c = [{ v := xP 217 a x, recovered := false }] ∧ L1 = ((a, Ob #[y, z] 158) :: [])) := by
 let h2 : Value := (.agg (kG K7).toArray)
 let g5 := ((kG K7).toArray : Array Value)
 let b8 := ((a, Ob #[j, (.bool a0.mU)] 158) :: [])
 let a5 : Value := (.pointer (some ⟨a, 0, none⟩))
 have d := ST.xD (dd := true) h0
 refine rj (n := 55) func167 rfl rfl nb (sg (VE (lD d cg (fun W2 b1 d => lr (Wm (bS hm fun o5 k4 hm => ?_))))))
 let g6 : Value := (.pointer (some ⟨b1, 0, none⟩))
 rcases o5 with v3 | J
 ·have m := d.size
  refine sn (.inl rfl) (nW (args := [a5, (.int .i64 9223372036854775807)]) (caps := #[]) _ _ d (Cb (Pb Pz) Cn) rfl js (by exact pM rfl rfl) (fun hH L h ab => (lP.l (mX a a0 j 9223372036854775807 _ _ ⟨hH, L, h⟩ (d1.mono (Pl.mono _) (lb.refl _)) k4))) (fun W5 v1 ak p4 d u A ay => ?_))
  obtain ⟨v6, v8, m6, rfl⟩ := ay
  replace d := d.perm (Tb Tn)
  refine nw (pn ?_)
  obtain rfl := sj hm
  exact nj.li ⟨_, _, _, rfl, (d.mQ (Kb Sn)), u, A, (ST.ma d (ny.mem (Kb Sn))), ⟨_, _, m6, rfl⟩⟩
 have m := d.size
 refine VE (eD d (Cb (Pb Pz) Cn) js (fun P => (lP.r (mX a a0 j 9223372036854775807 _ _ P (d1.mono (Pl.mono _) (lb.refl _)) k4))) ?_)
 rintro W5 v9 ak p4 d u A ⟨b5, d4, rfl, c8⟩
 let h3 := (#[b5, (.bool ((J.2).mU))] : Array Value)
 obtain rfl := d4.symm
 replace d := d.perm (Tb Tn)
 let f2 := (⟨J.1, K0, zS, K0, K0, zS⟩ : kB)
 refine V (nm (v := (.agg (kG f2).toArray)) (mN rfl) (mE cg cW (MP _ cW) kr)) (VE (lD d cg (fun u8 b4 d => VO (lh (.agg (kG f2).toArray) ((kG f2).toArray) d rfl rfl aM (nQ f2) nb rfl (fun u9 d => ln (kV (GJ hm (fun o3 E W => ∃ f0 k3, lb ak f0 ∧ Lo (keys b8) w ak f0 ∧ ST true (keys b8) w W f0 ((b4, Ol (kG f2) 108) :: ((a, Obj.cells h3 158 (0, 0)) :: ((b1, Obj.cells g5 108 (0, 0)) :: k3))) ∧ E 0 = a5 ∧ E 2 = g6 ∧ E 3 = (.pointer (some ⟨b4, 0, none⟩))) (fun o3 j7 b7 => ?_) ?_)))))))
 ·refine sg (Wf om (VB d Mh rfl rfl cH (Wi rfl (Wm (LJ j7 (fun g0 E W => ∃ f4, ST true (keys b8) w W ak ((b4, Ol (kG f2) 108) :: ((a, Obj.cells h3 158 (0, 0)) :: ((b1, Obj.cells g5 108 (0, 0)) :: f4))) ∧ E 0 = a5 ∧ E 2 = g6 ∧ E 3 = (.pointer (some ⟨b4, 0, none⟩)) ∧ E 14 = (.bool g0)) 4 ?_ (fun g0 Z d2 => ?_))))))
  ·rintro t1 E W ⟨f4, d, d3, f6, f7, m3⟩ H
   refine ln (CI H m3 (fun i6 H => ?_) (fun i6 H => ?_))
   ·refine kT (Wh d3 (bS H fun o4 e7 H => ?_))
    rcases o4 with n4 | s2
    ·have m := d.size
     refine sn (.inl rfl) (nW (args := [a5, (.int .i64 11)]) (caps := #[]) _ _ d (Cb (Pb Pz) Cn) rfl eY (by exact pM rfl rfl) (fun hH L h ab => (lP.l (mq a J.2 b5 11 _ _ ⟨hH, L, h⟩ (c8.mono (Pl.mono _) (lb.refl _)) e7))) (fun m1 r7 h1 l3 d b2 aj aw => ?_))
     obtain ⟨t9, u7, j6, rfl⟩ := aw
     replace d := d.perm (Tb Tn)
     refine nw (pn ?_)
     obtain rfl := sj H
     replace b7 : some (Sum.inl n4) = some s := b7
     obtain rfl := sj b7
     exact nj.li ⟨_, _, _, rfl, (d.mQ (Kb Sn)), (u.trans b2), (A.trans aj), (ST.ma d (ny.mem (Kb Sn))), ⟨_, _, j6, rfl⟩⟩
    have m := d.size
    refine VE (eD d (Cb (Pb Pz) Cn) eY (fun P => (lP.r (mq a J.2 b5 11 _ _ P (c8.mono (Pl.mono _) (lb.refl _)) e7))) ?_)
    rintro m1 t0 h1 l3 d b2 aj ⟨c7, rfl⟩
    obtain rfl := c7.symm
    replace d := d.perm (Tb Tn)
    refine ln ?_
    obtain rfl := sj H
    exact ⟨_, rfl, h1, _, b2, aj, (d.kD (Sb (Pb Pz) St)), d3, f6, f7⟩
   refine kn ?_
   obtain rfl := sj H
   exact ⟨_, rfl, ak, _, (lb.refl _), Lo.refl, (d.kD St), d3, f6, f7⟩
  refine bC Z (fun G Z => ?_) (fun G Z => ?_)
  ·refine un G (un G (un G (V (kX (cB G) rfl) ?_)))
   obtain rfl := sj Z
   exact d2 _ _ ⟨_, (d.kD St), rfl, rfl, rfl, rfl⟩
  refine ug G (kH om rfl) (ug G (kE rfl (kR d.has Mh rfl cH)) (ug G (lK rfl rfl rfl) (V (kW (cB G) rfl) ?_)))
  obtain rfl := sj Z
  exact d2 _ _ ⟨_, (d.kD St), rfl, rfl, rfl, rfl⟩
 rintro ⟨⟩ E W ⟨f0, k3, k, q, d, M, d0, I⟩ b9
 refine sg (Wh M (bS b9 fun o2 f8 b9 => ?_))
 rcases o2 with v4 | D
 ·have m := d.size
  refine sn (.inl rfl) (nW (args := [a5]) (caps := #[]) _ _ d (Cb (Pb Pz) Cn) rfl hZ (by exact pz rfl) (fun hH L h ab => (lP.l (pD a J.2 b5 _ _ ⟨hH, L, h⟩ (c8.mono (Pl.mono _) k) f8))) (fun p6 v2 f1 p5 d t o az => ?_))
  obtain ⟨v7, w0, m7, rfl⟩ := az
  replace d := d.perm (Tb Tn)
  refine nw (pn ?_)
  obtain rfl := sj b9
  exact nj.li ⟨_, _, _, rfl, (d.mQ (Kb Sn)), ((u.trans k).trans t), ((A.trans q).trans o), (ST.ma d (ny.mem (Kb Sn))), ⟨_, _, m7, rfl⟩⟩
 have m := d.size
 refine VE (eD d (Cb (Pb Pz) Cn) hZ (fun P => (lP.r (pD a J.2 b5 _ _ P (c8.mono (Pl.mono _) k) f8))) ?_)
 rintro p6 v5 f1 p5 d t o ⟨a1, d5, rfl, K⟩
 obtain rfl := d5.symm
 replace d := d.perm (Tb Tn)
 refine V (kH oD I) ?_
 replace d := d.perm (Nb (Pb Pz) Nz)
 refine VO (lh (.agg (kC D.1).toArray) ((kG (⟨J.1, D.1, zS, K0, K0, zS⟩ : kB)).toArray) d rfl rfl aC (mH D.1) nb rfl (fun v0 d => ln (kV (GJ b9 (fun c9 E W => ∃ Q b3 f3, lb f1 b3 ∧ Lo (keys b8) w f1 b3 ∧ ST true (keys b8) w W b3 ((b4, Ol (kG c9.1) 108) :: ((a, Ob #[Q, (.bool c9.2.2)] 158) :: ((b1, Obj.cells g5 108 (0, 0)) :: f3))) ∧ E 0 = a5 ∧ E 2 = g6 ∧ E 3 = (.pointer (some ⟨b4, 0, none⟩)) ∧ Sl (Pl (lM .u8)) 1 b3 Q c9.2.1) (fun c9 g i => ?_) ?_))))
 ·refine sg (V (kH om I) (VB d Mh rfl rfl cH (ln (bg (Wi rfl (Wa (ln (CI g rfl (fun i2 g => ?_) (fun i2 g => ?_)))))))))
  ·refine kT (Wh M (bS g fun n6 e1 g => ?_))
   rcases n6 with m8 | d6
   ·have m := d.size
    refine sn (.inl rfl) (nW (args := [a5]) (caps := #[]) _ _ d (Cb (Pb Pz) Cn) rfl ja (by exact pz rfl) (fun hH L h ab => (lP.l (rr a D.2 a1 _ _ ⟨hH, L, h⟩ (K.mono (Pl.mono _) (lb.refl _)) e1))) (fun l5 r0 g4 k7 d a7 af ao => ?_))
    obtain ⟨t3, u1, i8, rfl⟩ := ao
    replace d := d.perm (Tb Tn)
    refine xr (nw (pn ?_))
    obtain rfl := sj g
    replace i : some (Sum.inl m8) = some s := i
    obtain rfl := sj i
    exact nj.li ⟨_, _, _, rfl, (d.mQ (Kb Sn)), (((u.trans k).trans t).trans a7), (((A.trans q).trans o).trans af), (ST.ma d (ny.mem (Kb Sn))), ⟨_, _, i8, rfl⟩⟩
   have m := d.size
   refine VE (eD d (Cb (Pb Pz) Cn) ja (fun P => (lP.r (rr a D.2 a1 _ _ P (K.mono (Pl.mono _) (lb.refl _)) e1))) ?_)
   rintro l5 s4 g4 k7 d a7 af ⟨o6, c1, rfl, j9⟩
   obtain rfl := c1.symm
   replace d := d.perm (Tb Tn)
   refine V (kH sW I) ?_
   replace d := d.perm (Nb (Pb Pz) Nz)
   refine VO (lh (.string d6.1) ((kG (⟨J.1, D.1, d6.1, K0, K0, zS⟩ : kB)).toArray) d rfl rfl dl (E2 d6.1) nb rfl (fun q2 d => lo (lA (kK ?_))))
   obtain rfl := sj g
   exact ⟨_, rfl, o6, g4, _, a7, af, (d.kD St), M, d0, I, j9⟩
  refine sg (Wi rfl (Wa (ln (CI g rfl (fun i3 g => ?_) (fun i3 g => ?_)))))
  ·refine kT (Wh M (bS g fun n7 e2 g => ?_))
   rcases n7 with m9 | d7
   ·have m := d.size
    refine sn (.inl rfl) (nW (args := [a5]) (caps := #[]) _ _ d (Cb (Pb Pz) Cn) rfl hZ (by exact pz rfl) (fun hH L h ab => (lP.l (pD a D.2 a1 _ _ ⟨hH, L, h⟩ (K.mono (Pl.mono _) (lb.refl _)) e2))) (fun l6 r1 g7 k8 d a8 ag ap => ?_))
    obtain ⟨t4, u2, i9, rfl⟩ := ap
    replace d := d.perm (Tb Tn)
    refine xr (nw (pn ?_))
    obtain rfl := sj g
    replace i : some (Sum.inl m9) = some s := i
    obtain rfl := sj i
    exact nj.li ⟨_, _, _, rfl, (d.mQ (Kb Sn)), (((u.trans k).trans t).trans a8), (((A.trans q).trans o).trans ag), (ST.ma d (ny.mem (Kb Sn))), ⟨_, _, i9, rfl⟩⟩
   have m := d.size
   refine VE (eD d (Cb (Pb Pz) Cn) hZ (fun P => (lP.r (pD a D.2 a1 _ _ P (K.mono (Pl.mono _) (lb.refl _)) e2))) ?_)
   rintro l6 s5 g7 k8 d a8 ag ⟨o7, c2, rfl, k0⟩
   obtain rfl := c2.symm
   replace d := d.perm (Tb Tn)
   refine V (kH mW I) ?_
   replace d := d.perm (Nb (Pb Pz) Nz)
   refine VO (lh (.agg (kC d7.1).toArray) ((kG (⟨J.1, D.1, zS, d7.1, K0, zS⟩ : kB)).toArray) d rfl rfl aC (mH d7.1) nb rfl (fun q3 d => lo (lA (kK ?_))))
   obtain rfl := sj g
   exact ⟨_, rfl, o7, g7, _, a8, ag, (d.kD St), M, d0, I, k0⟩
  refine sg (Wi rfl (Wa (ln (CI g rfl (fun i4 g => ?_) (fun i4 g => ?_)))))
  ·refine sg (Wh M (bS g fun n9 e3 g => ?_))
   rcases n9 with n0 | a2
   ·have m := d.size
    refine sn (.inl rfl) (nW (args := [a5]) (caps := #[]) _ _ d (Cb (Pb Pz) Cn) rfl hZ (by exact pz rfl) (fun hH L h ab => (lP.l (pD a D.2 a1 _ _ ⟨hH, L, h⟩ (K.mono (Pl.mono _) (lb.refl _)) e3))) (fun l7 r2 p2 k9 d U R aq => ?_))
    obtain ⟨t5, u3, j0, rfl⟩ := aq
    replace d := d.perm (Tb Tn)
    refine nw (xr (nw (pn ?_)))
    obtain rfl := sj g
    replace i : some (Sum.inl n0) = some s := i
    obtain rfl := sj i
    exact nj.li ⟨_, _, _, rfl, (d.mQ (Kb Sn)), (((u.trans k).trans t).trans U), (((A.trans q).trans o).trans R), (ST.ma d (ny.mem (Kb Sn))), ⟨_, _, j0, rfl⟩⟩
   have m := d.size
   refine VE (eD d (Cb (Pb Pz) Cn) hZ (fun P => (lP.r (pD a D.2 a1 _ _ P (K.mono (Pl.mono _) (lb.refl _)) e3))) ?_)
   rintro l7 s6 p2 k9 d U R ⟨g2, c3, rfl, e8⟩
   obtain rfl := c3.symm
   replace d := d.perm (Tb Tn)
   refine V (kH mW I) ?_
   replace d := d.perm (Nb (Pb Pz) Nz)
   refine VO (lh (.agg (kC a2.1).toArray) ((kG (⟨J.1, D.1, zS, a2.1, K0, zS⟩ : kB)).toArray) d rfl rfl aC (mH a2.1) nb rfl (fun q4 d => ln (kT (Wh M (bS g fun n8 e4 g => ?_)))))
   rcases n8 with n1 | d8
   ·have m := d.size
    refine sn (.inl rfl) (nW (args := [a5]) (caps := #[]) _ _ d (Cb (Pb Pz) Cn) rfl ja (by exact pz rfl) (fun hH L h ab => (lP.l (rr a a2.2 g2 _ _ ⟨hH, L, h⟩ (e8.mono (Pl.mono _) (lb.refl _)) e4))) (fun l8 r4 g8 l0 d a9 ah ar => ?_))
    obtain ⟨t6, u4, j3, rfl⟩ := ar
    replace d := d.perm (Tb Tn)
    refine xr (nw (pn ?_))
    obtain rfl := sj g
    replace i : some (Sum.inl n1) = some s := i
    obtain rfl := sj i
    exact nj.li ⟨_, _, _, rfl, (d.mQ (Kb Sn)), ((((u.trans k).trans t).trans U).trans a9), ((((A.trans q).trans o).trans R).trans ah), (ST.ma d (ny.mem (Kb Sn))), ⟨_, _, j3, rfl⟩⟩
   have m := d.size
   refine VE (eD d (Cb (Pb Pz) Cn) ja (fun P => (lP.r (rr a a2.2 g2 _ _ P (e8.mono (Pl.mono _) (lb.refl _)) e4))) ?_)
   rintro l8 s7 g8 l0 d a9 ah ⟨o8, c4, rfl, k1⟩
   obtain rfl := c4.symm
   replace d := d.perm (Tb Tn)
   refine V (kH rX I) ?_
   replace d := d.perm (Nb (Pb Pz) Nz)
   refine VO (lh (.string d8.1) ((kG (⟨J.1, D.1, zS, a2.1, K0, d8.1⟩ : kB)).toArray) d rfl rfl dl (E2 d8.1) nb rfl (fun q5 d => lo (lA (kK ?_))))
   obtain rfl := sj g
   exact ⟨_, rfl, o8, g8, _, (U.trans a9), (R.trans ah), (d.kD St), M, d0, I, k1⟩
  refine sg (Wi rfl (Wa (ln (CI g rfl (fun i5 g => ?_) (fun i5 g => ?_)))))
  ·refine sg (Wh M (bS g fun o1 e5 g => ?_))
   rcases o1 with n2 | a3
   ·have m := d.size
    refine sn (.inl rfl) (nW (args := [a5]) (caps := #[]) _ _ d (Cb (Pb Pz) Cn) rfl hZ (by exact pz rfl) (fun hH L h ab => (lP.l (pD a D.2 a1 _ _ ⟨hH, L, h⟩ (K.mono (Pl.mono _) (lb.refl _)) e5))) (fun l9 r5 p3 l1 d Y aa au => ?_))
    obtain ⟨t7, u5, j4, rfl⟩ := au
    replace d := d.perm (Tb Tn)
    refine nw (xr (nw (pn ?_)))
    obtain rfl := sj g
    replace i : some (Sum.inl n2) = some s := i
    obtain rfl := sj i
    exact nj.li ⟨_, _, _, rfl, (d.mQ (Kb Sn)), (((u.trans k).trans t).trans Y), (((A.trans q).trans o).trans aa), (ST.ma d (ny.mem (Kb Sn))), ⟨_, _, j4, rfl⟩⟩
   have m := d.size
   refine VE (eD d (Cb (Pb Pz) Cn) hZ (fun P => (lP.r (pD a D.2 a1 _ _ P (K.mono (Pl.mono _) (lb.refl _)) e5))) ?_)
   rintro l9 s8 p3 l1 d Y aa ⟨g3, c5, rfl, e9⟩
   obtain rfl := c5.symm
   replace d := d.perm (Tb Tn)
   refine V (kH mW I) ?_
   replace d := d.perm (Nb (Pb Pz) Nz)
   refine VO (lh (.agg (kC a3.1).toArray) ((kG (⟨J.1, D.1, zS, a3.1, K0, zS⟩ : kB)).toArray) d rfl rfl aC (mH a3.1) nb rfl (fun q6 d => ln (kT (Wh M (bS g fun o0 e6 g => ?_)))))
   rcases o0 with n3 | d9
   ·have m := d.size
    refine sn (.inl rfl) (nW (args := [a5]) (caps := #[]) _ _ d (Cb (Pb Pz) Cn) rfl hZ (by exact pz rfl) (fun hH L h ab => (lP.l (pD a a3.2 g3 _ _ ⟨hH, L, h⟩ (e9.mono (Pl.mono _) (lb.refl _)) e6))) (fun m0 r6 g9 l2 d b0 ai av => ?_))
    obtain ⟨t8, u6, j5, rfl⟩ := av
    replace d := d.perm (Tb Tn)
    refine xr (nw (pn ?_))
    obtain rfl := sj g
    replace i : some (Sum.inl n3) = some s := i
    obtain rfl := sj i
    exact nj.li ⟨_, _, _, rfl, (d.mQ (Kb Sn)), ((((u.trans k).trans t).trans Y).trans b0), ((((A.trans q).trans o).trans aa).trans ai), (ST.ma d (ny.mem (Kb Sn))), ⟨_, _, j5, rfl⟩⟩
   have m := d.size
   refine VE (eD d (Cb (Pb Pz) Cn) hZ (fun P => (lP.r (pD a a3.2 g3 _ _ P (e9.mono (Pl.mono _) (lb.refl _)) e6))) ?_)
   rintro m0 s9 g9 l2 d b0 ai ⟨o9, c6, rfl, k2⟩
   obtain rfl := c6.symm
   replace d := d.perm (Tb Tn)
   refine V (kH pO I) ?_
   replace d := d.perm (Nb (Pb Pz) Nz)
   refine VO (lh (.agg (kC d9.1).toArray) ((kG (⟨J.1, D.1, zS, a3.1, d9.1, zS⟩ : kB)).toArray) d rfl rfl aC (mH d9.1) nb rfl (fun q7 d => lo (lA (kK ?_))))
   obtain rfl := sj g
   exact ⟨_, rfl, o9, g9, _, (Y.trans b0), (aa.trans ai), (d.kD St), M, d0, I, k2⟩
  refine lG (lA (kK ?_))
  obtain rfl := sj g
  exact ⟨_, rfl, a1, f1, _, (lb.refl _), Lo.refl, (d.kD St), M, d0, I, K⟩
 rintro ⟨N, f9, g1⟩ E W ⟨Q, b3, f3, a6, ad, d, m2, b6, f5, a4⟩ B
 refine kV (sg (V (kE f5 (kL d.has Mh (kG N) rfl bM aM)) (bS B fun s0 j8 B => VE (Eg d ki (uv N _ _  j8) (fun p9 d => V (nr rfl) (ln (CI B rfl (fun i1 B => ?_) (fun i1 B => ?_))))))))
 ·refine sg (Wh m2 (bS B fun n5 e0 B => ?_))
  rcases n5 with r9 | s1
  ·have m := d.size
   refine sn (.inl rfl) (nW (args := [a5, (.int .i64 11)]) (caps := #[]) _ _ d (Cb (Pb Pz) Cn) rfl eY (by exact pM rfl rfl) (fun hH L h ab => (lP.l (mq a (⟨f9, g1⟩ : lc) Q 11 _ _ ⟨hH, L, h⟩ (a4.mono (Pl.mono _) (lb.refl _)) e0))) (fun l4 q9 p1 k6 d T ae an => ?_))
   obtain ⟨t2, u0, i7, rfl⟩ := an
   replace d := d.perm (Tb Tn)
   refine nw (nw (pn ?_))
   obtain rfl := sj B
   exact nj.li ⟨_, _, _, rfl, (d.mQ (Kb Sn)), ((((u.trans k).trans t).trans a6).trans T), ((((A.trans q).trans o).trans ad).trans ae), (ST.ma d (ny.mem (Kb Sn))), ⟨_, _, i7, rfl⟩⟩
  have m := d.size
  refine VE (eD d (Cb (Pb Pz) Cn) eY (fun P => (lP.r (mq a (⟨f9, g1⟩ : lc) Q 11 _ _ P (a4.mono (Pl.mono _) (lb.refl _)) e0))) ?_)
  rintro l4 s3 p1 k6 d T ae ⟨c0, rfl⟩
  obtain rfl := c0.symm
  replace d := d.perm (Tb Tn)
  refine ln ?_
  replace d := d.kD (Kb (Db St))
  refine sg (V (nm (v := h2) vj (mE cg cW (MP _ cW) kr)) ?_)
  replace d := d.perm (Nb (Pb Pz) Nz)
  refine VO (lh h2 ((kG K7).toArray) d b6 rfl aM (nQ K7) nb rfl (fun q0 d => lt (lm (wz ?_))))
  obtain rfl := sj B
  exact wR (v := h2) rfl b6 (kL d.has Mh (kG K7) rfl bM aM) (nj.ri ⟨_, _, _, rfl, (d.mQ (Db (Kb Sn))), ((((u.trans k).trans t).trans a6).trans T), ((((A.trans q).trans o).trans ad).trans ae), (ST.ma d (ny.mem (Db (Kb Sn)))), Q, rfl, rfl, (a4.mono (Pl.mono _) T)⟩)
 refine kg (V (kE f5 (kL d.has Mh (kG N) rfl bM aM)) ?_)
 replace d := d.perm (Nb (Pb (Pb Pz)) Nz)
 refine VO (lh (.agg (kG N).toArray) ((kG N).toArray) d b6 rfl aM (nQ N) nb rfl (fun q1 d => ln ?_))
 replace d := d.kD (Kb (Db St))
 refine lx (wz ?_)
 obtain rfl := sj B
 exact wR (v := (.agg (kG N).toArray)) rfl b6 (kL d.has Mh (kG N) rfl bM aM) (nj.ri ⟨_, _, _, rfl, (d.mQ (Db (Kb Sn))), (((u.trans k).trans t).trans a6), (((A.trans q).trans o).trans ad), (ST.ma d (ny.mem (Db (Kb Sn)))), Q, rfl, rfl, a4⟩)
theorem Gy (i : Nat) (Y : lc) (j : Value) (a1 : Int) (s : (Int ⊕ ((List kY) × lc))) (w : World) {μ0 : lq} (h0 : pY μ0 ((i, Ob #[j, (.bool Y.mU)] 158) :: []) w) (Z : Sl (Pl (lM .u8)) 1 μ0 j Y.b) (hm : AD Y a1 = some s) :
  lP true pg0 101 [(.pointer (some ⟨i, 0, none⟩)), (.int .i64 a1)] w μ0 ((i, Ob #[j, (.bool Y.mU)] 158) :: []) s (fun r v L1 μ1 => ∃ y1 y3, v = y1 ∧ L1 = ((i, Ob #[y3, (.bool ((r.2).mU))] 158) :: []) ∧ Sl (Pl lf) 12 μ1 y1 (r.1) ∧ Sl (Pl (lM .u8)) 1 μ1 y3 ((r.2).b)) (fun x c L1 μ1 => ∃ y z, c = [{ v := xP 217 i x, recovered := false }] ∧ L1 = ((i, Ob #[y, z] 158) :: [])) := by
 let b7 := ((i, Ob #[j, (.bool Y.mU)] 158) :: [])
 let a0 : Value := (.pointer (some ⟨i, 0, none⟩))
 have d := ST.xD (dd := true) h0
 refine rj (n := 26) func101 rfl rfl nb (sg (Wa (lr (Wa (lS (Wm ?_))))))
 refine Wm (bS hm fun e3 c9 hm => ?_)
 rcases e3 with h6 | r1
 ·have aa := d.size
  refine sn (.inl rfl) (nW (args := [a0, (.int .i64 a1)]) (caps := #[]) _ _ d (Cb Pz Cn) rfl js (by exact pM rfl rfl) (fun hH hN P ah => (lP.l (mX i Y j a1 _ _ ⟨hH, hN, P⟩ (Z.mono (Pl.mono _) (lb.refl _)) c9))) (fun W3 h5 ab L9 d H L ag => ?_))
  obtain ⟨h7, h8, d7, rfl⟩ := ag
  replace d := d.perm (Tb Tn)
  refine nw (nw (pn ?_))
  obtain rfl := sj hm
  exact nj.li ⟨_, _, _, rfl, (d.mQ (Kb Sn)), H, L, (ST.ma d (ny.mem (Kb Sn))), ⟨_, _, d7, rfl⟩⟩
 have aa := d.size
 refine VE (eD d (Cb Pz Cn) js (fun hh => (lP.r (mX i Y j a1 _ _ hh (Z.mono (Pl.mono _) (lb.refl _)) c9))) ?_)
 rintro W3 v7 ab L9 d H L ⟨f1, a4, rfl, d8⟩
 obtain rfl := a4.symm
 replace d := d.perm (Tb Tn)
 refine Wm (ln (mP (ou (fun m E W => ∃ D a5 M U G I J K b0, lb ab K ∧ Lo (keys b7) w ab K ∧ ST true (keys b7) w W K ((i, Ob #[G, (.bool J)] 158) :: (M ++ b0)) ∧ E 0 = a0 ∧ E 5 = D ∧ E 9 = (.int .i64 r1.1) ∧ E 10 = (.int .i64 U) ∧ kZ 140 lf 12 D a5 M ∧ Sl (Pl (lM .u8)) 1 K G I ∧ rO r1 m a5 U I J = some s) lE ⟨(.slice none 0 0), ([]), [], 0, f1, ((r1.2).b), ((r1.2).mU), ab, _, (lb.refl _), Lo.refl, (d.kD St), rfl, rfl, rfl, rfl, (kZ.nil _ _ _), d8, hm⟩ ?_)))
 rintro m E W ⟨D, a5, M, U, G, I, J, K, b0, u, o, d, a3, b2, b3, b4, a8, N, g⟩
 cases m with
 | zero => rw [rO] at g; cases g
 | succ e0 =>
  refine sg (V (lK b4 b3 rfl) (ln (kV (CI g rfl (fun c1 g => ?_) (fun c1 g => ?_)))))
  ·refine kn (kV (bg (Wh a3 (bS g fun e2 a6 g => ?_))))
   rcases e2 with g3 | a
   ·have aa := d.size
    refine sn (.inl rfl) (nW (args := [a0]) (caps := #[]) _ _ d (Cb Pz Cn) rfl call167 (by exact pz rfl) (fun hH hN P ah => (lP.l (HT i (⟨I, J⟩ : lc) G _ _ ⟨hH, hN, P⟩ (N.mono (Pl.mono _) (lb.refl _)) a6))) (fun d4 g0 e8 d1 d B q ad => ?_))
    obtain ⟨g9, h2, c3, rfl⟩ := ad
    replace d := d.perm (Tb Tn)
    refine nw (xr (nw (nw (xr (nw (pn ?_))))))
    obtain rfl := sj g
    exact nj.li ⟨_, _, _, rfl, (d.mQ (Kb Sn)), ((H.trans u).trans B), ((L.trans o).trans q), (ST.ma d (ny.mem (Kb Sn))), ⟨_, _, c3, rfl⟩⟩
   have aa := d.size
   refine VE (eD d (Cb Pz Cn) call167 (fun hh => (lP.r (HT i (⟨I, J⟩ : lc) G _ _ hh (N.mono (Pl.mono _) (lb.refl _)) a6))) ?_)
   rintro d4 g7 e8 d1 d B q ⟨b5, Q, rfl, a9⟩
   obtain rfl := Q.symm
   replace d := d.perm (Tb Tn)
   refine VE (lD d cg (fun f5 f9 d => VO (lh (.agg (kG a.1).toArray) ((kG a.1).toArray) d rfl rfl aM (nQ a.1) nb rfl (fun f6 d => ln ?_))))
   replace d := d.drew
   have h := d.has.kD (Kb Sn)
   refine lN h lB (X 0 rfl h (kM b2) (XH 1 rfl h (fun _ hS => kE rfl (kL hS Mh (kG a.1) rfl bM aM)) (X 2 rfl h (kH oD rfl) (XH 3 rfl h (fun _ hS => kE rfl (kL hS Mh (kC a.1.Head) rfl aO aC)) (X 4 rfl h (kM a3) (bS g fun e1 a7 g => ?_))))))
   rcases e1 with g4 | k
   ·have aa := d.size
    refine WN 5 rfl kr (.inl rfl) (nW (args := [a0]) (caps := #[]) _ _ d (Cb (Pb Pz) Cn) rfl ja (by exact pz rfl) (fun hH hN P ah => (lP.l (rr i a.2 b5 _ _ ⟨hH, hN, P⟩ (a9.mono (Pl.mono _) (lb.refl _)) a7))) (fun d5 g1 b6 d2 d t A ae => ?_))
    obtain ⟨h1, h3, c4, rfl⟩ := ae
    replace d := d.perm (Tb Tn)
    refine xr (nw (nw (xr (nw (pn ?_)))))
    obtain rfl := sj g
    exact nj.li ⟨_, _, _, rfl, (d.mQ (Kb Sn)), (((H.trans u).trans B).trans t), (((L.trans o).trans q).trans A), (ST.ma d (ny.mem (Kb Sn))), ⟨_, _, c4, rfl⟩⟩
   have aa := d.size
   refine XE 5 rfl (eD d (Cb (Pb Pz) Cn) ja (fun hh => (lP.r (rr i a.2 b5 _ _ hh (a9.mono (Pl.mono _) (lb.refl _)) a7))) ?_)
   rintro d5 g8 b6 d2 d t A ⟨e5, T, rfl, c6⟩
   obtain rfl := T.symm
   replace d := d.perm (Tb Tn)
   have h := d.has.sL t (Db (Kb Sn))
   let b1 := (⟨a.1, (⟨a.1.Head, k.1⟩ : kF)⟩ : kY)
   refine ⟨h, (X 6 rfl h (nm (v := (.agg (kO (⟨a.1.Head, k.1⟩ : kF)).toArray)) (pH rfl rfl) (mE cX cA (EH _ cA) kr)) (X 7 rfl h (nm (v := (.agg (lf (b1)).toArray)) (pH rfl rfl) (mE dK dZ (UC _ dZ) kr)) (XE 8 rfl (lj (cs := (lf (b1)).toArray) d (mN rfl) (mJ aX cu dK) (fun f7 d6 d => ?_)))))⟩
   have h := d.has.sL t (Db (Db (Kb Sn)))
   refine ⟨h, ?_⟩
   replace d := d.perm (Nr (Qb (Qb (Qb Qz))) Nz)
   refine bS g fun d9 c2 g => XE 9 rfl (mD (enc := lf) (v := D) (vs := (.slice (some ⟨d6, 0, none⟩) 1 1)) (R := M) d oV dc uH aX oq.1 oq.2.1 rfl oq.2.2.1 oq.2.2.2 rfl rfl a8 (Sl.lit (enc := lf) (l := [b1]) oV rfl nb rfl (d.at_ (Ma Mh))) c2 (fun f8 e4 d3 d c0 => ?_))
   have h := d.has.sL t (Dr (Db (Db (Kb Sn))))
   refine ⟨h, (X 10 rfl h (nH rfl) (me kr (lA (kK ?_))))⟩
   replace d := d.kD (Kr (Db (Kb (Db St))))
   exact kT (V (lK b4 rfl rfl) (Wm (ln ⟨e0, bT _, e4, d9, d3, (wi0 .i64 (U + 1)), e5, ((k.2).b), ((k.2).mU), b6, _, ((u.trans B).trans t), ((o.trans q).trans A), (d.kD (Sb (Pr Pz) St)), a3, rfl, b3, rfl, c0, c6, g⟩)))
  refine ot (nT (nT (uj (kK (sg (Wh b2 (Wa (lt (wz ?_)))))))))
  obtain rfl := sj g
  refine lQ (v := D) rfl rfl ?_
  replace d := d.perm (Nr (Qb Qz) Nz)
  obtain ⟨h4, d, a2, af, c5⟩ := ST.Bf d a8 oV
  exact nj.ri ⟨_, _, _, rfl, (d.mQ (Kb Sn)), ((H.trans u).trans a2), ((L.trans o).trans af), (ST.ma d (ny.mem (Kb Sn))), D, G, rfl, rfl, c5, (N.mono (Pl.mono _) a2)⟩
theorem EC (a : Nat) (a0 : lc) (k : Value) (s : (Int ⊕ (lX × lc))) (w : World) {μ0 : lq} (h0 : pY μ0 ((a, Ob #[k, (.bool a0.mU)] 158) :: []) w) (b4 : Sl (Pl (lM .u8)) 1 μ0 k a0.b) (hm : wU a0 = some s) :
  lP true pg0 41 [(.pointer (some ⟨a, 0, none⟩))] w μ0 ((a, Ob #[k, (.bool a0.mU)] 158) :: []) s (fun r v L1 μ1 => ∃ y1 y3 y5, v = (.agg #[(.int .i64 ((r.1).State)), (.int .i64 ((r.1).ox)), y1, y3]) ∧ L1 = ((a, Ob #[y5, (.bool ((r.2).mU))] 158) :: []) ∧ Sl (Pl kC) 2 μ1 y1 ((r.1).lV) ∧ Sl (Pl lf) 12 μ1 y3 ((r.1).lW) ∧ Sl (Pl (lM .u8)) 1 μ1 y5 ((r.2).b)) (fun x c L1 μ1 => ∃ y z, c = [{ v := xP 217 a x, recovered := false }] ∧ L1 = ((a, Ob #[y, z] 158) :: [])) := by
 let d8 := ((a, Ob #[k, (.bool a0.mU)] 158) :: [])
 let b3 : Value := (.pointer (some ⟨a, 0, none⟩))
 have d := ST.xD (dd := true) h0
 refine rj (n := 25) func41 rfl rfl nb (sg (VE (lD d dQ (fun W2 b1 d => lr (Wm (bS hm fun h3 e8 hm => ?_))))))
 rcases h3 with l7 | J
 ·have aa := d.size
  refine sn (.inl rfl) (nW (args := [b3, (.int .i64 3)]) (caps := #[]) _ _ d (Cb (Pb Pz) Cn) rfl js (by exact pM rfl rfl) (fun hH hN P ag => (lP.l (mX a a0 k 3 _ _ ⟨hH, hN, P⟩ (b4.mono (Pl.mono _) (lb.refl _)) e8))) (fun W5 l4 aq h8 d H af ak => ?_))
  obtain ⟨m2, m5, g1, rfl⟩ := ak
  replace d := d.perm (Tb Tn)
  refine nw (pn ?_)
  obtain rfl := sj hm
  exact nj.li ⟨_, _, _, rfl, (d.mQ (Kb Sn)), H, af, (ST.ma d (ny.mem (Kb Sn))), ⟨_, _, g1, rfl⟩⟩
 have aa := d.size
 refine VE (eD d (Cb (Pb Pz) Cn) js (fun hh => (lP.r (mX a a0 k 3 _ _ hh (b4.mono (Pl.mono _) (lb.refl _)) e8))) ?_)
 rintro W5 v9 aq h8 d H af ⟨e9, c0, rfl, d4⟩
 obtain rfl := c0.symm
 replace d := d.perm (Tb Tn)
 refine Wm (bS hm fun h2 d2 hm => ?_)
 rcases h2 with l8 | j
 ·have aa := d.size
  refine sn (.inl rfl) (nW (args := [b3, (.int .i64 99)]) (caps := #[]) _ _ d (Cb Pz Cn) rfl js (by exact pM rfl rfl) (fun hH hN P ag => (lP.l (mX a J.2 e9 99 _ _ ⟨hH, hN, P⟩ (d4.mono (Pl.mono _) (lb.refl _)) d2))) (fun i1 l5 i8 h9 d G A an => ?_))
  obtain ⟨m3, m6, g2, rfl⟩ := an
  replace d := d.perm (Tb Tn)
  refine nw (pn ?_)
  obtain rfl := sj hm
  exact nj.li ⟨_, _, _, rfl, (d.mQ (Kb Sn)), (H.trans G), (af.trans A), (ST.ma d (ny.mem (Kb Sn))), ⟨_, _, g2, rfl⟩⟩
 have aa := d.size
 refine VE (eD d (Cb Pz Cn) js (fun hh => (lP.r (mX a J.2 e9 99 _ _ hh (d4.mono (Pl.mono _) (lb.refl _)) d2))) ?_)
 rintro i1 m0 i8 h9 d G A ⟨f0, c1, rfl, d5⟩
 obtain rfl := c1.symm
 replace d := d.perm (Tb Tn)
 refine V (nm (v := (.agg (C7 J.1 j.1).toArray)) (pH rfl rfl) (mE dQ ec (Tz _ ec) kr)) (VE (lD d dQ (fun l2 e7 d => VO (lh (.agg (C7 J.1 j.1).toArray) ((C7 J.1 j.1).toArray) d rfl rfl di oc nb rfl (fun l3 d => lS (Wm (bS hm fun h1 d3 hm => ?_)))))))
 rcases h1 with l9 | c7
 ·have aa := d.size
  refine sn (.inl rfl) (nW (args := [b3, (.int .i64 64)]) (caps := #[]) _ _ d (Cb (Pb Pz) Cn) rfl js (by exact pM rfl rfl) (fun hH hN P ag => (lP.l (mX a j.2 f0 64 _ _ ⟨hH, hN, P⟩ (d5.mono (Pl.mono _) (lb.refl _)) d3))) (fun i2 l6 c8 i0 d N ab ao => ?_))
  obtain ⟨m4, m7, g3, rfl⟩ := ao
  replace d := d.perm (Tb Tn)
  refine nw (nw (pn ?_))
  obtain rfl := sj hm
  exact nj.li ⟨_, _, _, rfl, (d.mQ (Kb Sn)), ((H.trans G).trans N), ((af.trans A).trans ab), (ST.ma d (ny.mem (Kb Sn))), ⟨_, _, g3, rfl⟩⟩
 have aa := d.size
 refine VE (eD d (Cb (Pb Pz) Cn) js (fun hh => (lP.r (mX a j.2 f0 64 _ _ hh (d5.mono (Pl.mono _) (lb.refl _)) d3))) ?_)
 rintro i2 m1 c8 i0 d N ab ⟨i7, c2, rfl, g4⟩
 obtain rfl := c2.symm
 replace d := d.perm (Tb Tn)
 refine Wm (ln (mP (ou (fun m E W => ∃ b2 U B a6 K I M a5 c9, lb c8 a5 ∧ Lo (keys d8) w c8 a5 ∧ ST true (keys d8) w W a5 ((e7, Ob #[(.int .i64 J.1), (.int .i64 j.1), U, (.slice none 0 0)] 64) :: ((a, Ob #[K, (.bool M)] 158) :: ((b1, Ol C8 64) :: (a6 ++ c9)))) ∧ E 0 = b3 ∧ E 2 = (.pointer (some ⟨b1, 0, none⟩)) ∧ E 3 = (.pointer (some ⟨e7, 0, none⟩)) ∧ E 10 = (.int .i64 c7.1) ∧ E 11 = (.int .i64 b2) ∧ kZ 28 kC 2 U B a6 ∧ Sl (Pl (lM .u8)) 1 a5 K I ∧ qh c7 J j m b2 B I M = some s) lE ⟨0, (.slice none 0 0), ([]), [], i7, ((c7.2).b), ((c7.2).mU), c8, _, (lb.refl _), Lo.refl, (d.kD (Sb (Pb Pz) St)), rfl, rfl, rfl, rfl, rfl, (kZ.nil _ _ _), g4, hm⟩ ?_)))
 rintro m E W ⟨b2, U, B, a6, K, I, M, a5, c9, Q, L, d, b7, b9, a2, d0, d1, a7, Y, g⟩
 let d7 := (⟨I, M⟩ : lc)
 cases m with
 | zero => rw [qh] at g; cases g
 | succ g7 =>
  refine sg (V (lK d1 d0 rfl) (ln (kV (CI g rfl (fun d9 g => ?_) (fun d9 g => ?_)))))
  ·refine kn (kV (mP ?_))
   replace d := d.drew
   have o := d.has.kD Sn
   have q := d.has.kD (Kb Sn)
   refine B9 7 o q lB (nX 0 rfl kr (.inl rfl) rfl dc (fun _ _ h => ⟨h.1, rp br h.2⟩) ⟨o, fun _ => q⟩ (fun _ _ _ _ => kH wL a2) (nX 1 rfl kr (.inl rfl) rfl dc (fun _ _ h => ⟨h.1, rp br h.2⟩) ⟨o, fun _ => q⟩ (fun l W ap hs => have hS := (hs.2 (ap.SJ 7 [1] kr rfl)); kE rfl (kR hS Mh rfl ew)) (nX 2 rfl kr (.inl rfl) rfl dc (fun _ _ h => ⟨h.1, rp br h.2⟩) ⟨o, fun _ => q⟩ (fun _ _ _ _ => kM b7) (bS g fun g8 c4 g => ?_))))
   rcases g8 with k0 | T
   ·have aa := d.size
    refine WN 3 rfl kr (.inl rfl) (nW (args := [b3]) (caps := #[]) _ _ d (Cb (Pb Pz) Cn) rfl hZ (by exact pz rfl) (fun hH hN P ag => (lP.l (pD a d7 K _ _ ⟨hH, hN, P⟩ (Y.mono (Pl.mono _) (lb.refl _)) c4))) (fun f5 j7 d6 f2 d i ad ah => ?_))
    obtain ⟨k5, k8, e1, rfl⟩ := ah
    replace d := d.perm (Tb Tn)
    refine xr (nw (nw (xr (nw (pn ?_)))))
    obtain rfl := sj g
    exact nj.li ⟨_, _, _, rfl, (d.mQ (Kb Sn)), ((((H.trans G).trans N).trans Q).trans i), ((((af.trans A).trans ab).trans L).trans ad), (ST.ma d (ny.mem (Kb Sn))), ⟨_, _, e1, rfl⟩⟩
   have aa := d.size
   refine XE 3 rfl (eD d (Cb (Pb Pz) Cn) hZ (fun hh => (lP.r (pD a d7 K _ _ hh (Y.mono (Pl.mono _) (lb.refl _)) c4))) ?_)
   rintro f5 k2 d6 f2 d i ad ⟨h4, a8, rfl, e4⟩
   obtain rfl := a8.symm
   replace d := d.perm (Tb Tn)
   have o := d.has.sL i Sn
   have q := d.has.sL i (Db (Kb Sn))
   refine ⟨⟨o, fun _ => q⟩, (XE 4 rfl (lj (cs := (kC T.1).toArray) d (mN rfl) (mJ aF aC bQ) (fun j0 f7 d => ?_)))⟩
   have o := d.has.sL i Sn
   have q := d.has.sL i (Db (Db (Kb Sn)))
   refine ⟨⟨o, fun _ => q⟩, ?_⟩
   replace d := d.perm (Nr (Qb (Qb (Qb (Qb Qz)))) Nz)
   refine bS g fun b0 e0 g => XE 5 rfl (mD (enc := kC) (v := U) (vs := (.slice (some ⟨f7, 0, none⟩) 1 1)) (R := a6) d my dc mH aF mw.1 mw.2.1 rfl mw.2.2.1 mw.2.2.2 rfl rfl a7 (Sl.lit (enc := kC) (l := [T.1]) my rfl nb rfl (d.at_ (Ma Mh))) e0 (fun j3 k3 f4 d c3 => ?_))
   have o := d.has.sL i Sn
   have q := d.has.sL i (Dr (Db (Db (Kb Sn))))
   refine ⟨⟨o, fun _ => q⟩, (nX 6 rfl kr (.inl rfl) rfl dc (fun _ _ h => ⟨h.1, rp br h.2⟩) ⟨o, fun _ => q⟩ (fun _ _ _ _ => kH wL a2) ?_)⟩
   obtain ⟨b5, b6, rfl⟩ := c3.form
   let f1 : Value := (.slice b5 b0.length b6)
   replace d := d.perm (Nb (Pr (Pb (Pb Pz))) Nz)
   refine XO 7 rfl (lh f1 (#[(.int .i64 J.1), (.int .i64 j.1), f1, (.slice none 0 0)]) d rfl rfl ek oc nb rfl (fun j4 d => ?_))
   have o := d.has.sL i Sn
   refine ⟨⟨o, fun h => PQ kr h⟩, (me kr (lA (kK ?_)))⟩
   replace d := d.kD (Kb (Kr (Db St)))
   exact kT (V (lK d1 rfl rfl) (Wm (ln ⟨g7, bT _, (wi0 .i64 (b2 + 1)), f1, b0, f4, h4, ((T.2).b), ((T.2).mU), d6, _, (Q.trans i), (L.trans ad), (d.kD (Kb (Sb (Pr Pz) (Sb (Pr Pz) St)))), b7, b9, a2, d0, rfl, c3, e4, g⟩)))
  refine ot (nT (nT (uj (kK (sg (Wh b7 (bS g fun g9 c5 g => ?_)))))))
  rcases g9 with k1 | D
  ·have aa := d.size
   refine sn (.inl rfl) (nW (args := [b3, (.int .i64 256)]) (caps := #[]) _ _ d (Cb (Pb Pz) Cn) rfl call101 (by exact pM rfl rfl) (fun hH hN P ag => (lP.l (Gy a d7 K 256 _ _ ⟨hH, hN, P⟩ (Y.mono (Pl.mono _) (lb.refl _)) c5))) (fun f6 j8 h7 f3 d a3 ae ai => ?_))
   obtain ⟨k7, k9, e2, rfl⟩ := ai
   replace d := d.perm (Tb Tn)
   refine nw (pn ?_)
   obtain rfl := sj g
   exact nj.li ⟨_, _, _, rfl, (d.mQ (Kb Sn)), ((((H.trans G).trans N).trans Q).trans a3), ((((af.trans A).trans ab).trans L).trans ae), (ST.ma d (ny.mem (Kb Sn))), ⟨_, _, e2, rfl⟩⟩
  have aa := d.size
  refine VE (eD d (Cb (Pb Pz) Cn) call101 (fun hh => (lP.r (Gy a d7 K 256 _ _ hh (Y.mono (Pl.mono _) (lb.refl _)) c5))) ?_)
  rintro f6 k4 h7 f3 d a3 ae ⟨k6, h5, a9, rfl, c6, e5⟩
  obtain rfl := a9.symm
  replace d := d.perm (Tb Tn)
  refine V (kH yU a2) ?_
  obtain ⟨t, u, rfl⟩ := c6.form
  let e6 : Value := (.slice t D.1.length u)
  replace d := d.perm (Nb (Pb Pz) Nz)
  refine VO (lh e6 (#[(.int .i64 J.1), (.int .i64 j.1), U, e6]) d rfl rfl kw oc nb rfl (fun j5 d => lr (V (kE a2 (kL d.has Mh [(.int .i64 J.1), (.int .i64 j.1), U, e6] rfl eP di)) ?_)))
  obtain ⟨Z, a1, rfl⟩ := a7.form
  let b8 := (C3 J.1 j.1 Z B.length a1 t D.1.length u)
  replace d := d.perm (Nb (Pb (Pb Pz)) Nz)
  refine VO (lh (.agg b8.toArray) (b8.toArray) d b9 rfl di oc nb rfl (fun j6 d => ln ?_))
  replace d := d.kD (Kb (Db St))
  refine lx (wz ?_)
  obtain rfl := sj g
  refine wR (v := (.agg b8.toArray)) rfl b9 (kL d.has Mh b8 rfl eP di) ?_
  replace d := d.perm (Nr (Qb (Qb Qz)) Nz)
  obtain ⟨l1, d, a4, aj, e3⟩ := ST.Bf d a7 my
  exact nj.ri ⟨_, _, _, rfl, (d.mQ (Db (Kb Sn))), (((((H.trans G).trans N).trans Q).trans a3).trans a4), (((((af.trans A).trans ab).trans L).trans ae).trans aj), (ST.ma d (ny.mem (Db (Kb Sn)))), (.slice Z B.length a1), e6, h5, rfl, rfl, e3, (c6.mono (Pl.mono _) a4), (e5.mono (Pl.mono _) a4)⟩
theorem Hk (i : Nat) (H : lc) (j : Value) (k : Nat) (u : lX) (g a : Value) (s : (Int ⊕ (lc × lX))) (w : World) {T : lq} (h0 : pY T ((i, Ob #[j, (.bool H.mU)] 158) :: ((k, Ob #[(.int .i64 u.State), (.int .i64 u.ox), g, a] 64) :: [])) w) (B : Sl (Pl (lM .u8)) 1 T j H.b) (Y : Sl (Pl kC) 2 T g u.lV) (U : Sl (Pl lf) 12 T a u.lW) (hm : Ch H u = some s) :
  lP true pg0 70 [(.pointer (some ⟨i, 0, none⟩)), (.pointer (some ⟨k, 0, none⟩))] w T ((i, Ob #[j, (.bool H.mU)] 158) :: ((k, Ob #[(.int .i64 u.State), (.int .i64 u.ox), g, a] 64) :: [])) s (fun r v L1 Z => ∃ R W y5, v = (.tuple #[]) ∧ L1 = ((i, Ob #[R, (.bool ((r.1).mU))] 158) :: ((k, Ob #[(.int .i64 ((r.2).State)), (.int .i64 ((r.2).ox)), W, y5] 64) :: [])) ∧ Sl (Pl (lM .u8)) 1 Z R ((r.1).b) ∧ Sl (Pl kC) 2 Z W ((r.2).lV) ∧ Sl (Pl lf) 12 Z y5 ((r.2).lW)) (fun x c L1 Z => ∃ y z, c = [{ v := xP 217 i x, recovered := false }] ∧ L1 = ((i, Ob #[y, z] 158) :: ((k, Ob #[(.int .i64 u.State), (.int .i64 u.ox), g, a] 64) :: []))) := by
 have d := ST.xD (dd := true) h0
 refine rj (n := 5) func70 rfl rfl nb (kT (Wm (bS hm fun a6 P hm => ?_)))
 rcases a6 with b7 | t
 ·have E := d.size
  refine sn (.inl rfl) (nW (args := [(.pointer (some ⟨i, 0, none⟩))]) (caps := #[]) _ _ d (Cb Pz Cn) rfl call41 (by exact pz rfl) (fun hH q m A => (lP.l (EC i H j _ _ ⟨hH, q, m⟩ (B.mono (Pl.mono _) (lb.refl _)) P))) (fun W3 b6 L L9 d D h o => ?_))
  obtain ⟨c2, c3, a3, rfl⟩ := o
  replace d := d.perm (Tb Tn)
  refine pn ?_
  obtain rfl := sj hm
  exact nj.li ⟨_, _, _, rfl, (d.mQ (Kb (Kb Sn))), D, h, (ST.ma d (ny.mem (Kb (Kb Sn)))), ⟨_, _, a3, rfl⟩⟩
 have E := d.size
 refine VE (SD d (Cb Pz Cn) call41 (fun hH q m A => (lP.r (EC i H j _ _ ⟨hH, q, m⟩ (B.mono (Pl.mono _) (lb.refl _)) P))) (fun W3 v7 L L9 d D h a5 => ?_))
 obtain ⟨b9, c1, a8, G, rfl, N, Q, a4⟩ := a5
 replace G := G.symm; subst G
 replace d := d.perm (Tb Tn)
 obtain ⟨I, K, rfl⟩ := N.form
 let a0 : Value := (.slice I ((t.1).lV).length K)
 obtain ⟨J, M, rfl⟩ := Q.form
 let a2 : Value := (.slice J ((t.1).lW).length M)
 replace d := d.perm (Nb (Pb Pz) Nz)
 refine VO (lh (.agg #[(.int .i64 ((t.1).State)), (.int .i64 ((t.1).ox)), a0, a2]) (#[(.int .i64 ((t.1).State)), (.int .i64 ((t.1).ox)), a0, a2]) d rfl rfl di oc nb rfl (fun b5 d => lo (Qm (wZ ?_))))
 obtain rfl := sj hm
 exact wc rfl (nj.ri ⟨_, _, _, rfl, (d.mQ (Sb (Pb Pz) (Kb Sn))), D, h, (ST.ma d (ny.mem (Sb (Pb Pz) (Kb Sn)))), a8, a0, a2, rfl, rfl, a4, N, Q⟩)
theorem D6 (H : Value) (M : List Int) (i : Nat) (t : lX) (g a : Value) (r : (Int × lX)) (w : World) {K : lq} (I : pY K ((i, Ob #[(.int .i64 t.State), (.int .i64 t.ox), g, a] 64) :: []) w) (N : Sl (Pl (lM .u8)) 1 K H M) (k : Sl (Pl kC) 2 K g t.lV) (j : Sl (Pl lf) 12 K a t.lW) (hm : wx M t = some r) :
  pK true pg0 39 [H, (.func (.func 70) #[] #[(.pointer (some ⟨i, 0, none⟩))])] w K ((i, Ob #[(.int .i64 t.State), (.int .i64 t.ox), g, a] 64) :: []) (fun v G D => ∃ u B, v = (.int .i64 (r.1)) ∧ G = ((i, Ob #[(.int .i64 ((r.2).State)), (.int .i64 ((r.2).ox)), u, B] 64) :: []) ∧ Sl (Pl kC) 2 D u ((r.2).lV) ∧ Sl (Pl lf) 12 D B ((r.2).lW)) := by
 refine bS hm fun l h hm => bS hm fun s m hm => ?_
 obtain rfl := sj hm
 refine pK.mono (OM 70 #[(.pointer (some ⟨i, 0, none⟩))] H M l s (fun r => (r.1).b) w I N h (fun r G D => ∃ u B, G = ((i, Ob #[(.int .i64 ((r.2).State)), (.int .i64 ((r.2).ox)), u, B] 64) :: []) ∧ Sl (Pl kC) 2 D u ((r.2).lV) ∧ Sl (Pl lf) 12 D B ((r.2).lW)) (fun x G D => G = ((i, Ob #[(.int .i64 t.State), (.int .i64 t.ox), g, a] 64) :: [])) call70 (fun P μ' L n J hle A => lP.mono (Hk L (⟨l, false⟩ : lc) n i t g a s P J A (k.mono (Pl.mono _) hle) (j.mono (Pl.mono _) hle) m) ?_ ?_)) ?_
 ·rintro r v G D ⟨T, u, B, R, d, Q, I, J⟩; exact ⟨_, _, _, d, Q, u, B, rfl, I, J⟩
 ·rintro x c G D ⟨y, z, E, d⟩; exact ⟨y, z, _, E, d, rfl⟩
 rintro v G D q ⟨rfl, o⟩
 cases s with
 | inl x => exact ⟨g, a, rfl, o, (k.mono (Pl.mono _) q), (j.mono (Pl.mono _) q)⟩
 | inr r => obtain ⟨u, B, d, I, J⟩ := o; exact ⟨u, B, rfl, d, I, J⟩
theorem GI (k : Value) (G : List kY) (D : Value) (s : List kB) (K : kF) (r : (Int × Int)) (w : World) (x : Sl (Pl lf) 12 (hp w) k G) (c9 : Sl (Pl kG) 9 (hp w) D s) (hm : yc G s K = some r) :
  lg false pg0 86 [k, D, (.agg (kO K).toArray)] w (.tuple #[(.int .i64 r.1), (.int .i64 r.2)]) := by
 let a0 : Value := (.int .i64 (G.length : Int))
 refine cG 43 func86 rfl (fun d => sg (VE (lF d rfl (fun W2 A d => Wa (Wa (lr (Wm (bS hm fun r3 d3 hm => VE (qu d call150 (lT.mz (Cq k G _ _ (x.mono (Pl.mono _) d.kN) d3)) (fun W5 v9 q b7 d Y aa U => Wa (lo ?_)))))))))))
 refine kK (kV (sg (Wm (V (lJ aX rfl x) (Wm (ln (lz (fun i E W => ∃ N, (E 15 = .int .i64 (i : Nat) ∧ E 14 = .int .i64 (G.length : Nat)) ∧ ST false lu w W q ((A, Ol (kO K) 38) :: (b7 ++ N)) ∧ E 0 = k ∧ E 1 = D ∧ E 5 = (.pointer (some ⟨A, 0, none⟩)) ∧ E 8 = v9 ∧ E 13 = k ∧ tQ s r3 K G (G.drop i) i = some r) G.length x.len ⟨_, ⟨rfl, rfl⟩, (d.kD (Sb (Pr Pz) St)), rfl, rfl, rfl, rfl, rfl, hm⟩ dc dc dc (fun _ _ _ h => by obtain ⟨_, L, _⟩ := h; exact L) ?_ ?_)))))))
 ·rintro y E W a7 ⟨N, ⟨n, P⟩, d, z, H, I, B, J, c⟩
  let a2 : Value := (.int .i64 (y : Int))
  obtain ⟨j, d5, b5, b4, b6⟩ := ll a7
  rw [b5] at c
  refine bg (Wh n (VQ (lY (enc := lf) (i := (y : Int)) (x0 := j) aX cu J n (x.mono (Pl.mono _) Y) (aD _) b4) (fun e1 a8 => V (kE rfl (lO d.has a8 eX cu)) (VE (lD d dK (fun d6 b9 d => Wa (VO (lh (.agg (lf j).toArray) ((lf j).toArray) d rfl rfl cu (uH j) nb rfl (fun d7 d => ln (kV ?_))))))))))
  replace d := d.drew
  have m := d.has.kD (Kb Sn)
  refine lN m lB (X 0 rfl m (kM H) (X 1 rfl m (kH Dh rfl) (XH 2 rfl m (fun _ R => kE rfl (kL R Mh (kG j.kB) rfl bM aM)) (bS c fun e2 a9 c => XE 3 rfl (Eg d call151 (lg.mz (JH D s j.kB _ _ (c9.mono (Pl.mono _) (Y.trans d.kN)) a9)) (fun d8 d => ?_))))))
  have m := d.has.kD (Kb Sn)
  refine ⟨m, (X 4 rfl m (nr rfl) (X 5 rfl m (kM rfl) (PJ c (fun Z E W => ∃ T, ST false lu w W q ((b9, Ol (lf j) 140) :: ((A, Ol (kO K) 38) :: (b7 ++ T))) ∧ E 0 = k ∧ E 1 = D ∧ E 5 = (.pointer (some ⟨A, 0, none⟩)) ∧ E 8 = v9 ∧ E 9 = a2 ∧ E 13 = k ∧ E 14 = a0 ∧ E 15 = a2 ∧ E 32 = (.bool Z)) (bm 13 8191) 0 ?_ (fun Z g M => ?_))))⟩
  ·rintro e5 E W ⟨T, d, c0, c1, c2, c3, c4, c5, c6, c7, c8⟩ t
   refine me kr (kK ?_)
   replace d := d.kD (Db St)
   refine CI t c8 (fun a5 t => ?_) (fun a5 t => ?_)
   ·refine sg (Wh c4 (Wa (Wa (ln ?_))))
    replace d := d.kD (Db (Dr St))
    refine lx (mu (lm (mu (lm ?_))))
    obtain rfl := sj t
    exact uk (v := a2) (u := (.int .i64 50)) rfl rfl rfl ⟨rfl, d.ex⟩
   exact lG (lA (kK ⟨c7, _, ⟨rfl, c6⟩, (d.kD St), c0, c1, c2, c3, c5, (by rw [b6]; exact t)⟩))
  refine bC g (fun a g => ?_) (fun a g => ?_)
  ·refine Xn 6 rfl rfl (cB a) m (Xn 7 rfl rfl (cB a) m (Xn 8 rfl rfl (cB a) m (Xn 9 rfl rfl (cB a) m (Xn 10 rfl rfl (cB a) m (Xn 11 rfl rfl (cB a) m (X 12 rfl m (kX (cB a) rfl) ?_))))))
   obtain rfl := sj g
   refine np kr (M _ _ ⟨_, (d.kD St), z, H, I, B, rfl, J, P, n, rfl⟩)
  refine vA 6 rfl rfl (cB a) m (fun _ R => kE rfl (kL R Mh (lf j) rfl eX cu)) (Xg 7 rfl rfl (cB a) m (kM B) (Xg 8 rfl rfl (cB a) m (kM rfl) (bS g fun _ Q g => G8 9 rfl kr (.inr ⟨5, false, 25, rfl, rfl, by decide, (cB a)⟩) rfl dc (fun _ _ h => h) m (um (i := (y : Int)) bR bU rfl rfl U nA (qW Q) (qR Q)) (fun d1 b3 => bS g fun e3 b0 g => DK 10 rfl rfl (cB a) (Eg d call152 (Bt j d1 (r3.take (Int.toNat (y : Int))) _ _ (b3.sl nA (fun b o hq => d.at_ (Mt (Mt (Ml hq))))) b0) (fun d9 d => ?_))))))
  have m := d.has.kD (Kb Sn)
  refine ⟨m, (Xg 11 rfl rfl (cB a) m (nr rfl) (X 12 rfl m (kW (cB a) rfl) ?_))⟩
  obtain rfl := sj g
  refine np kr (M _ _ ⟨_, (d.kD St), z, H, I, B, rfl, J, P, n, rfl⟩)
 rintro E W ⟨N, ⟨n, P⟩, d, z, H, I, B, J, c⟩
 rw [aG] at c
 refine kK (kV (sg (Wh B (V (kE I (kL d.has Mh (kO K) rfl dx bU)) (bS c fun e4 b2 c => VE (Eg d call153 (lg.mz (Af v9 r3 K _ _ (U.sl nA (fun b o hq => d.at_ (Mt (Ml hq)))) b2)) (fun e0 d => V (nr rfl) (ln ?_))))))))
 replace d := d.kD (Db (Dr St))
 refine CI c rfl (fun a6 c => ?_) (fun a6 c => ?_)
 ·refine sg (Wh z (V (lJ aX rfl x) (Wa (Wa (lt (lm ?_))))))
  obtain rfl := sj c
  exact uk (v := a0) (u := (.int .i64 42)) rfl rfl rfl ⟨rfl, d.ex⟩
 refine kg (Wh z (V (lJ aX rfl x) (Wa (Wa (lt ?_)))))
 obtain rfl := sj c
 exact uk (v := a0) (u := (.int .i64 0)) rfl rfl rfl ⟨rfl, d.ex⟩
theorem uD (g : lX) (u t B : Value) (M : List kB) (k : Formula) (y : Value) (D : ByteArray) (r : Int) (w : World) (a : Sl (Pl kC) 2 (hp w) u g.lV) (j : Sl (Pl lf) 12 (hp w) t g.lW) (N : Sl (Pl kG) 9 (hp w) B M) (x : Sl la 5 (hp w) y k.Kids) (hm : nv g M k D = some r) :
  lg false pg0 34 [(.agg #[(.int .i64 g.State), (.int .i64 g.ox), u, t]), B, (.agg #[(.int .i64 k.Op), (.int .i64 k.K), (.string k.kA.kI), (.string k.kA.kU), y]), (.string D)] w (.int .i64 r) := by
 refine cG 57 func34 rfl (fun d => sg ?_)
 obtain ⟨Q, U, rfl⟩ := a.form
 obtain ⟨T, Y, rfl⟩ := j.form
 refine VE (lF d rfl (fun W6 o d => ?_))
 obtain ⟨A7, q, rfl⟩ := x.form
 refine VE (lF d rfl (fun d2 b9 d => Wa (ln (kV (bg (Wf Fe (VB d (Mt Mh) rfl rfl cH (Wi rfl (Wa (ln (CI hm rfl (fun A hm => ?_) (fun A hm => ?_))))))))))))
 ·refine sg (Wa (ln ?_))
  replace d := d.kD (Db (Db St))
  refine lx (mu (lm ?_))
  obtain rfl := sj hm
  exact rP d
 refine sg (VA d Mh (C1 k.Op k.K k.kA.kI k.kA.kU A7 k.Kids.length q) cx aZ (Wf wL (VB d (Mt Mh) rfl rfl ew (bS hm fun d5 R hm => VE (Eg d call85 (Ey k (.slice A7 k.Kids.length q) (.slice Q g.lV.length U) g.lV _ _ (x.mono lZ.mono d.kN) (a.mono (Pl.mono _) d.kN) R) (fun d3 d => V (nr rfl) (Wa (ln ?_))))))))
 replace d := d.kD (Db St)
 refine CI hm rfl (fun a9 hm => ?_) (fun a9 hm => ?_)
 ·refine sg (Wa (ln ?_))
  replace d := d.kD (Db St)
  refine lx (mu (lm ?_))
  obtain rfl := sj hm
  exact rP d
 refine lG (lA (kK (kV (sg (Wf yU (VB d Mh rfl rfl iE (Wm (V (nm (v := (.agg (kO K9).toArray)) vj (mE cX cA (EH _ cA) kr)) (bS hm fun d6 b3 hm => VE (Eg d call86 (GI (.slice T g.lW.length Y) g.lW B M K9 _ _ (j.mono (Pl.mono _) d.kN) (N.mono (Pl.mono _) d.kN) b3) (fun d4 d => Wm (Wx rfl (Wx rfl ?_)))))))))))))
 refine Wa (Wa (lr (Wm (Wi rfl (ln (CI hm rfl (fun L hm => ?_) (fun L hm => ?_)))))))
 ·refine sg (Wm (Wa (ln ?_)))
  replace d := d.kD (Db St)
  refine lx (lm ?_)
  obtain rfl := sj hm
  exact rP d
 refine kS (Wf wL (VB d Mh rfl rfl ew (V (lJ aF rfl a) (Wm (ln (lz (fun i E W => ∃ K, (E 39 = .int .i64 (i : Nat) ∧ E 38 = .int .i64 (g.lV.length : Nat)) ∧ ST false lu w W (hp w) ((o, Ol (C3 g.State g.ox Q g.lV.length U T g.lW.length Y) 64) :: K) ∧ E 1 = B ∧ E 3 = (.string D) ∧ E 4 = (.pointer (some ⟨o, 0, none⟩)) ∧ E 37 = (.slice Q g.lV.length U) ∧ ul g M D (g.lV.drop i) = some r) g.lV.length a.len ⟨_, ⟨rfl, rfl⟩, (d.kD St), rfl, rfl, rfl, rfl, hm⟩ dc dc dc (fun _ _ _ h => by obtain ⟨_, n, _⟩ := h; exact n) ?_ ?_))))))
 ·rintro c1 E W P ⟨K, ⟨m, s⟩, d, G, H, I, J, c⟩
  obtain ⟨z, d1, b6, b4, b7⟩ := ll P
  rw [b6] at c
  refine bg (VQ (lY (enc := kC) (i := (c1 : Int)) (x0 := z) aF aC J m a (aD _) b4) (fun c9 a4 => V (kE rfl (lO d.has a4 aO aC)) (VE (lD d bQ (fun c3 c7 d => VO (lh (.agg (kC z).toArray) ((kC z).toArray) d rfl rfl aC (mH z) nb rfl (fun c5 d => lr (V (kH yU I) (VB d (Mt Mh) rfl rfl iE (Wh G (VA d Mh (kC z) aO aC ?_)))))))))))
  refine Wh H (V (nm (v := (.agg (kO (⟨z, D⟩ : kF)).toArray)) (pH rfl rfl) (mE cX cA (EH _ cA) kr)) (bS c fun d0 a5 c => VE (Eg d call86 (GI (.slice T g.lW.length Y) g.lW B M (⟨z, D⟩ : kF) _ _ (j.mono (Pl.mono _) d.kN) (N.mono (Pl.mono _) d.kN) a5) (fun c6 d => Wm (Wx rfl (Wx rfl (Wa (Wa (ln ?_)))))))))
  replace d := d.kD (Db St)
  refine sg (Wm (Wi rfl (ln (CI c rfl (fun Z c => ?_) (fun Z c => ?_)))))
  ·refine sg (Wm (Wa (ln ?_)))
   replace d := d.kD (Db St)
   refine lx (mu (lm (mu (lm ?_))))
   obtain rfl := sj c
   exact rP d
  exact lG (lA (kK ⟨m, _, ⟨rfl, s⟩, (d.kD St), G, H, I, J, (by rw [b7]; exact c)⟩))
 rintro E W ⟨K, ⟨m, s⟩, d, G, H, I, J, c⟩
 rw [aG] at c
 refine kK ?_
 replace d := d.kD (Db St)
 exact sg (Wa (lt (rQ c d)))
theorem GV (t : Value) (y : List kA) (u : Value) (K : List kA) (r : Bool) (w : World) (c : Sl (Pl kC) 2 (hp w) t y) (z : Sl (Pl kC) 2 (hp w) u K) (hm : wh y K = some r) :
  lg true pg0 75 [t, u] w (.bool r) := by
 refine cG 26 func75 rfl (fun m => sg (Wa (lS (Wm (V (lJ aF rfl c) (Wm (V (lJ aF rfl z) (Wi rfl (lo ?_)))))))))
 refine kK (CI hm rfl (fun U hm => ?_) (fun U hm => ?_))
 ·refine sg (Wa (lt (lm ?_)))
  obtain rfl := sj hm
  exact rP m
 refine kS (Wm (V (lJ aF rfl c) (Wm (ln (lz (fun i E W => ∃ g, (E 13 = .int .i64 (i : Nat) ∧ E 12 = .int .i64 (y.length : Nat)) ∧ ST true lu w W (hp w) g ∧ E 0 = t ∧ E 1 = u ∧ ry K (y.drop i) i = some r) y.length c.len ⟨_, ⟨rfl, rfl⟩, (m.kD St), rfl, rfl, hm⟩ dc dc dc (fun _ _ _ h => by obtain ⟨_, o, _⟩ := h; exact o) ?_ ?_)))))
 ·rintro I E W M ⟨g, ⟨n, s⟩, m, j, k, a⟩
  obtain ⟨J, a3, Q, N, T⟩ := ll M
  rw [Q] at a
  refine bg (Wh n (Wa (ln (kV ?_))))
  replace m := m.drew
  have d := m.has.kD Sn
  refine lN d lB (X 0 rfl d (kM j) (X 1 rfl d (kM rfl) (XQ 2 rfl d (lY (enc := kC) (i := (I : Int)) (x0 := J) aF aC rfl rfl c (aD _) N) (fun Y G => XH 3 rfl d (fun _ q => kE rfl (lO q G aO aC)) (X 4 rfl d (kM k) (X 5 rfl d (kM rfl) (bS a fun B x a => XQ 6 rfl d (lY (enc := kC) (i := (I : Int)) (x0 := B) aF aC rfl rfl z (mi x) (lR x)) (fun Z H => XH 7 rfl d (fun _ q => kE rfl (lO q H aO aC)) (X 8 rfl d (Gp rfl rfl (ns cY) (BD (ob _ J B))) (me kr (kK (CI a rfl (fun D a => ?_) (fun D a => ?_)))))))))))))
  ·refine sg (Wa (lt (mu (lm (mu (lm ?_))))))
   obtain rfl := sj a
   exact rP m
  exact lG (lA (kK ⟨n, _, ⟨rfl, s⟩, (m.kD St), j, k, (by rw [T]; exact a)⟩))
 rintro E W ⟨g, ⟨n, s⟩, m, j, k, a⟩
 rw [aG] at a
 exact kK (sg (Wa (lt (rQ a m))))
theorem GQ (t : Value) (y : List kY) (u : Value) (K : List kY) (r : Bool) (w : World) (c : Sl (Pl lf) 12 (hp w) t y) (z : Sl (Pl lf) 12 (hp w) u K) (hm : wg y K = some r) :
  lg true pg0 76 [t, u] w (.bool r) := by
 refine cG 26 func76 rfl (fun m => sg (Wa (lS (Wm (V (lJ aX rfl c) (Wm (V (lJ aX rfl z) (Wi rfl (lo ?_)))))))))
 refine kK (CI hm rfl (fun U hm => ?_) (fun U hm => ?_))
 ·refine sg (Wa (lt (lm ?_)))
  obtain rfl := sj hm
  exact rP m
 refine kS (Wm (V (lJ aX rfl c) (Wm (ln (lz (fun i E W => ∃ g, (E 13 = .int .i64 (i : Nat) ∧ E 12 = .int .i64 (y.length : Nat)) ∧ ST true lu w W (hp w) g ∧ E 0 = t ∧ E 1 = u ∧ rD K (y.drop i) i = some r) y.length c.len ⟨_, ⟨rfl, rfl⟩, (m.kD St), rfl, rfl, hm⟩ dc dc dc (fun _ _ _ h => by obtain ⟨_, o, _⟩ := h; exact o) ?_ ?_)))))
 ·rintro I E W M ⟨g, ⟨n, s⟩, m, j, k, a⟩
  obtain ⟨J, a3, Q, N, T⟩ := ll M
  rw [Q] at a
  refine bg (Wh n (Wa (ln (kV ?_))))
  replace m := m.drew
  have d := m.has.kD Sn
  refine lN d lB (X 0 rfl d (kM j) (X 1 rfl d (kM rfl) (XQ 2 rfl d (lY (enc := lf) (i := (I : Int)) (x0 := J) aX cu rfl rfl c (aD _) N) (fun Y G => XH 3 rfl d (fun _ q => kE rfl (lO q G eX cu)) (X 4 rfl d (kM k) (X 5 rfl d (kM rfl) (bS a fun B x a => XQ 6 rfl d (lY (enc := lf) (i := (I : Int)) (x0 := B) aX cu rfl rfl z (mi x) (lR x)) (fun Z H => XH 7 rfl d (fun _ q => kE rfl (lO q H eX cu)) (X 8 rfl d (Gp rfl rfl (ns eqGuardType140) (BD (Ua _ J B))) (me kr (kK (CI a rfl (fun D a => ?_) (fun D a => ?_)))))))))))))
  ·refine sg (Wa (lt (mu (lm (mu (lm ?_))))))
   obtain rfl := sj a
   exact rP m
  exact lG (lA (kK ⟨n, _, ⟨rfl, s⟩, (m.kD St), j, k, (by rw [T]; exact a)⟩))
 rintro E W ⟨g, ⟨n, s⟩, m, j, k, a⟩
 rw [aG] at a
 exact kK (sg (Wa (lt (rQ a m))))
theorem Ks (i : lX) (D B : Value) (j : lX) (H G : Value) (r : Bool) (w : World) (x : Sl (Pl kC) 2 (hp w) D i.lV) (u : Sl (Pl lf) 12 (hp w) B i.lW) (z : Sl (Pl kC) 2 (hp w) H j.lV) (y : Sl (Pl lf) 12 (hp w) G j.lW) (hm : zH i j = some r) :
  lg true pg0 28 [(.agg #[(.int .i64 i.State), (.int .i64 i.ox), D, B]), (.agg #[(.int .i64 j.State), (.int .i64 j.ox), H, G])] w (.bool r) := by
 refine cG 31 func28 rfl (fun d => sg ?_)
 obtain ⟨Y, c2, rfl⟩ := x.form
 obtain ⟨Z, P, rfl⟩ := u.form
 let m := (C3 i.State i.ox Y i.lV.length c2 Z i.lW.length P)
 refine VE (lF d rfl (fun W6 h d => ?_))
 obtain ⟨A7, R, rfl⟩ := z.form
 obtain ⟨A9, K, rfl⟩ := y.form
 let a0 := (C3 j.State j.ox A7 j.lV.length R A9 j.lW.length K)
 refine VE (lF d rfl (fun d1 J d => Wa (lr (Wf Fe (VB d (Mt Mh) rfl rfl cH (Wf Fe (VB d Mh rfl rfl cH (Wi rfl (Wm (LJ hm (fun L E W => ∃ n, ST true lu w W (hp w) ((J, Ol a0 64) :: ((h, Ol m 64) :: n)) ∧ E 2 = (.pointer (some ⟨h, 0, none⟩)) ∧ E 3 = (.pointer (some ⟨J, 0, none⟩)) ∧ E 4 = (.bool false) ∧ E 16 = (.bool L)) 6 ?_ (fun L I Q => ?_)))))))))))
 ·rintro d7 E W ⟨n, d, T, U, q, c5⟩ b7
  refine Wh c5 (LJ b7 (fun A E W => ∃ a9, ST true lu w W (hp w) ((J, Ol a0 64) :: ((h, Ol m 64) :: a9)) ∧ E 2 = (.pointer (some ⟨h, 0, none⟩)) ∧ E 3 = (.pointer (some ⟨J, 0, none⟩)) ∧ E 4 = (.bool false) ∧ E 23 = (.bool A)) 6 ?_ (fun A t N => ?_))
  ·rintro d8 E W ⟨a9, d, c6, c7, s, c9⟩ b9
   refine Wh c9 (LJ b9 (fun v E W => ∃ o, ST true lu w W (hp w) o ∧ E 4 = (.bool false) ∧ E 30 = (.bool v)) 6 ?_ (fun v k M => ?_))
   ·rintro d9 E W ⟨o, d, d4, d0⟩ c0
    exact Wg d0 (lt (rQ c0 d))
   refine bC k (fun g k => ?_) (fun g k => ?_)
   ·refine ug g (kH yU c6) (ug g (kE rfl (kR d.has (Mt Mh) rfl iE)) (ug g (kH yU c7) (ug g (kE rfl (kR d.has Mh rfl iE)) (bS k fun d5 c1 k => qy g (Eg d call76 (GQ (.slice Z i.lW.length P) i.lW (.slice A9 j.lW.length K) j.lW _ _ (u.mono (Pl.mono _) d.kN) (y.mono (Pl.mono _) d.kN) c1) (fun d2 d => V (kX (cB g) rfl) ?_))))))
    obtain rfl := sj k
    exact M _ _ ⟨_, (d.kD (Db (Db St))), s, rfl⟩
   refine un g (un g (un g (un g (un g (V (kW (cB g) rfl) ?_)))))
   obtain rfl := sj k
   exact M _ _ ⟨_, (d.kD (Db (Db St))), s, rfl⟩
  refine bC t (fun c t => ?_) (fun c t => ?_)
  ·refine ug c (kH wL T) (ug c (kE rfl (kR d.has (Mt Mh) rfl ew)) (ug c (kH wL U) (ug c (kE rfl (kR d.has Mh rfl ew)) (bS t fun d6 c3 t => qy c (Eg d call75 (GV (.slice Y i.lV.length c2) i.lV (.slice A7 j.lV.length R) j.lV _ _ (x.mono (Pl.mono _) d.kN) (z.mono (Pl.mono _) d.kN) c3) (fun d3 d => V (kX (cB c) rfl) ?_))))))
   obtain rfl := sj t
   exact N _ _ ⟨_, (d.kD St), T, U, q, rfl⟩
  refine un c (un c (un c (un c (un c (V (kW (cB c) rfl) ?_)))))
  obtain rfl := sj t
  exact N _ _ ⟨_, (d.kD St), T, U, q, rfl⟩
 refine bC I (fun a I => ?_) (fun a I => ?_)
 ·refine ug a (kH G4 rfl) (ug a (kE rfl (kR d.has (Mt Mh) rfl kk)) (ug a (kH G4 rfl) (ug a (kE rfl (kR d.has Mh rfl kk)) (ug a (lK rfl rfl rfl) (V (kX (cB a) rfl) ?_)))))
  obtain rfl := sj I
  exact Q _ _ ⟨_, (d.kD St), rfl, rfl, rfl, rfl⟩
 refine un a (un a (un a (un a (un a (V (kW (cB a) rfl) ?_)))))
 obtain rfl := sj I
 exact Q _ _ ⟨_, (d.kD St), rfl, rfl, rfl, rfl⟩
set_option maxHeartbeats 4000000 in
theorem Mf (r : Bool) (w : World) (hm : Al  = some r) :
  lg false pg0 24 [] w (.bool r) := by
 let w0 := (⟨(⟨K4, [], []⟩ : mg), K3, 3, [Hg], [], [], []⟩ : ur)
 refine cG 94 func24 rfl (fun d => sg (Wa (lr (V (nm (v := (.agg (kC K6).toArray)) (pH rfl rfl) (mE bQ cI (Hn _ cI) kr)) (V (nm (v := (.agg (kG Hg).toArray)) (Td rfl rfl rfl) (mE cg cW (MP _ cW) kr)) (VE (lD d cg (fun W2 b1 d => VO (lh (.agg (kG Hg).toArray) ((kG Hg).toArray) d rfl rfl aM (nQ Hg) nb rfl (fun W3 d => ln (kV ?_)))))))))))
 refine kT (Wf oD (VA d Mh (kC K6) aO aC (V (nm (v := (.agg C6.toArray)) (pH rfl rfl) (mE dp fQ (Zd _ fQ) kr)) (VE (lD d dp (fun W5 s d => VO (lh (.agg C6.toArray) (C6.toArray) d rfl rfl aZ oc nb rfl (fun W6 d => lr (V (nm (v := (.agg #[(.string K4), (.slice none 0 0), (.slice none 0 0)])) (mN rfl) (mE zeroValue52 gW (Zw _ gW) kr)) (VA d (Mt Mh) (kG Hg) bM aM (VE (lj (cs := (kG Hg).toArray) d (mN rfl) (mJ aW aM cg) (fun W8 A d => V (nm (v := (.agg (C5 A).toArray)) (NZ rfl rfl rfl rfl) (mE jF eV (Zn _ eV) kr)) (VE (lD d jF (fun s5 b9 d => ?_))))))))))))))))
 let v7 : Value := (.pointer (some ⟨b9, 0, none⟩))
 let p6 : Value := (.slice (some ⟨A, 0, none⟩) 1 1)
 let g6 : Value := (.pointer (some ⟨s, 0, none⟩))
 refine VO (lh (.agg (C5 A).toArray) ((C5 A).toArray) d rfl rfl gX oc nb rfl (fun s6 d => ln ?_))
 replace d := d.kD (Kb (Kb (Kb (Db St))))
 refine sg (VA d Mh (C5 A) kz gX (VA d (Mt (Mt Mh)) C6 cx aZ ?_))
 replace d := d.perm (Nb (Pb Pz) Nz)
 have q3 : Fr w.heap.size p6 := Fr.box d Mh
 obtain ⟨u6, d, p5, ad, c7⟩ := ST.Bf (R := [(A, Ol (kG Hg) 108)]) d (kZ.lit (l := [Hg]) (enc := kG) (b := A) (m := 1) rfl dc rfl rfl) mT
 let v9 := ((C5 A).toArray : Array Value)
 refine bS hm fun a o5 hm => ?_
 let v6 : Value := (.int .i64 ((a).ox))
 let v5 := (⟨(a).State, (a).ox, (a).lV, (a).lW⟩ : lX)
 let v2 : Value := (.int .i64 ((a).State))
 refine VE (SD d (du _) call27 (fun hH P h aa => (DT w0 (.slice none 0 0) (.slice none 0 0) p6 (.slice none 0 0) (.slice none 0 0) (.slice none 0 0) PM (.slice none 0 0) 1 0 true _ _ ⟨hH, P, h⟩ (Sl.nil _ _ _) (Sl.nil _ _ _) (c7.mono (Pl.mono _) (lb.refl _)) (Sl.nil _ _ _) (Sl.nil _ _ _) (Sl.nil _ _ _) (Sl.nil _ _ _) o5)) (fun s7 t8 u7 r9 d c6 ae o1 => ?_) (L0 := []))
 obtain ⟨u2, u3, e5, rfl, b3, b5⟩ := o1
 replace e5 := e5.symm; subst e5
 replace d := d.perm Tn
 refine VE (lD d dQ (fun s8 Q d => ?_))
 let j1 : Value := (.pointer (some ⟨Q, 0, none⟩))
 obtain ⟨H, J, rfl⟩ := b3.form
 let n : Value := (.slice H ((a).lV).length J)
 obtain ⟨I, K, rfl⟩ := b5.form
 let g5 : Value := (.slice I ((a).lW).length K)
 let a3 := (#[v2, v6, n, g5] : Array Value)
 refine VO (lh (.agg #[v2, v6, n, g5]) (#[v2, v6, n, g5]) d rfl rfl di oc nb rfl (fun s9 d => lr (VA d (Mt Mh) (C5 A) kz gX (VA d (Mt (Mt Mh)) C6 cx aZ (bS hm fun c o6 hm => ?_)))))
 let w2 : Value := (.int .i64 ((c).ox))
 let w1 : Value := (.int .i64 ((c).State))
 refine VE (SD d (du _) call27 (fun hH P h aa => (DT w0 (.slice none 0 0) (.slice none 0 0) p6 (.slice none 0 0) (.slice none 0 0) (.slice none 0 0) PM (.slice none 0 0) 1 0 false _ _ ⟨hH, P, h⟩ (Sl.nil _ _ _) (Sl.nil _ _ _) (c7.mono (Pl.mono _) c6) (Sl.nil _ _ _) (Sl.nil _ _ _) (Sl.nil _ _ _) (Sl.nil _ _ _) o6)) (fun t0 t9 u8 s0 d y af o2 => ?_) (L0 := []))
 obtain ⟨u4, u5, e6, rfl, e8, e9⟩ := o2
 replace e6 := e6.symm; subst e6
 replace d := d.perm Tn
 refine VE (lD d dQ (fun t1 c1 d => ?_))
 let v8 : Value := (.pointer (some ⟨c1, 0, none⟩))
 obtain ⟨b6, c2, rfl⟩ := e8.form
 let v3 : Value := (.slice b6 ((c).lV).length c2)
 obtain ⟨c0, c3, rfl⟩ := e9.form
 let v4 : Value := (.slice c0 ((c).lW).length c3)
 let b8 := (#[w1, w2, v3, v4] : Array Value)
 refine VO (lh (.agg #[w1, w2, v3, v4]) (#[w1, w2, v3, v4]) d rfl rfl di oc nb rfl (fun t2 d => lr (V (nm (v := (.agg #[(.slice none 0 0)])) vj (mE zeroValue81 fq (TG _ fq) kr)) (VE (lF d rfl (fun t3 m4 d => Wa (lr (Wm (VA d (Mt (Mt Mh)) [v2, v6, n, g5] eP di (bS hm fun c4 o7 hm => ?_))))))))))
 refine VE (IG d (Cb Pz (C0 Cn)) call36 (fun hH P h aa => (JR m4 (.slice none 0 0) ([]) [] a n g5 _ _ ⟨hH, P, lb.refl _⟩ (kZ.nil _ _ _) (b3.mono (Pl.mono _) (y.trans h)) (b5.mono (Pl.mono _) (y.trans h)) o7)) (fun t4 u0 u9 s1 d z ag ab o3 => ?_))
 obtain ⟨p4, s4, e7, rfl, p1⟩ := o3
 replace e7 := e7.symm; subst e7
 replace d := d.perm (Tb (Tr Tn))
 refine Wa (lr (VE (lD d dQ (fun t5 N d => lr (Wm (bS hm fun p2 o8 hm => VE (qu d call37 (lT.mz (AI m4 p4 c4.2 _ _ (p1.sl (fun _ => rfl) (fun b o hq => d.at_ (Mt (Mt (Ml hq))))) (At.of (d.at_ (Mt Mh)) _ rfl) o8)) (fun t6 p3 v0 s3 d B ah j8 => V (tX (by exact pz rfl) rfl) ?_))))))))
 let j2 : Value := (.pointer (some ⟨N, 0, none⟩))
 have q4 := j8.RQ d (fun p hq => (Ml hq))
 obtain ⟨v1, d, D, ai, p0⟩ := ST.Bf d j8 (fun _ => rfl)
 refine bS hm fun k o9 hm => ?_
 refine VE (SD d (Cb Pz Cn) call39 (fun hH P h aa => pK.mz (D6 p3 p2 N (⟨0, 0, [], []⟩ : lX) (.slice none 0 0) (.slice none 0 0) _ _ ⟨hH, P, h⟩ (p0.mono (Pl.mono _) (lb.refl _)) (Sl.nil _ _ _) (Sl.nil _ _ _) o9)) (fun t7 u1 q s2 d G aj o4 => ?_))
 obtain ⟨b0, a2, c8, rfl, m2, m3⟩ := o4
 let a4 := (#[(.int .i64 ((k.2).State)), (.int .i64 ((k.2).ox)), b0, a2] : Array Value)
 replace c8 := c8.symm; subst c8
 replace d := d.perm (Tb Tn)
 refine Wa (ln ?_)
 replace d := d.kD (Kb (Db (Dr St)))
 refine sg (Wf wL (VB d (Mt (Mt Mh)) rfl rfl ew (V (lJ aF rfl b3) (Wi rfl (Wm (LJ hm (fun k7 E W => ∃ f0, ST false lu w W q ((N, Obj.cells a4 64 (0, 0)) :: ((c1, Obj.cells b8 64 (0, 0)) :: ((Q, Obj.cells a3 64 (0, 0)) :: ((b9, Obj.cells v9 54 (0, 0)) :: ((s, Ol C6 57) :: f0))))) ∧ E 0 = (.bool false) ∧ E 2 = g6 ∧ E 3 = v7 ∧ E 4 = j1 ∧ E 5 = v8 ∧ E 7 = (.bool c4.1) ∧ E 8 = j2 ∧ E 9 = (.int .i64 k.1) ∧ E 43 = (.bool k7)) 5 ?_ (fun k7 a9 d8 => ?_)))))))
 ·rintro r0 E W ⟨f0, d, f9, d9, e0, e1, g0, g1, g2, g3, m5⟩ k8
  refine Wh m5 (LJ k8 (fun k6 E W => ∃ f1, ST false lu w W q ((N, Obj.cells a4 64 (0, 0)) :: ((c1, Obj.cells b8 64 (0, 0)) :: ((Q, Obj.cells a3 64 (0, 0)) :: ((b9, Obj.cells v9 54 (0, 0)) :: ((s, Ol C6 57) :: f1))))) ∧ E 0 = (.bool false) ∧ E 2 = g6 ∧ E 3 = v7 ∧ E 4 = j1 ∧ E 5 = v8 ∧ E 7 = (.bool c4.1) ∧ E 8 = j2 ∧ E 9 = (.int .i64 k.1) ∧ E 51 = (.bool k6)) 7 ?_ (fun k6 L d7 => ?_))
  ·rintro r1 E W ⟨f1, d, g4, e2, g7, e3, g8, g9, h0, h1, m6⟩ k9
   refine Wh m6 (LJ k9 (fun k5 E W => ∃ f2, ST false lu w W q ((N, Obj.cells a4 64 (0, 0)) :: ((c1, Obj.cells b8 64 (0, 0)) :: ((Q, Obj.cells a3 64 (0, 0)) :: ((b9, Obj.cells v9 54 (0, 0)) :: ((s, Ol C6 57) :: f2))))) ∧ E 0 = (.bool false) ∧ E 2 = g6 ∧ E 3 = v7 ∧ E 4 = j1 ∧ E 5 = v8 ∧ E 7 = (.bool c4.1) ∧ E 8 = j2 ∧ E 9 = (.int .i64 k.1) ∧ E 57 = (.bool k5)) 5 ?_ (fun k5 a0 d6 => ?_))
   ·rintro r2 E W ⟨f2, d, h2, h3, h4, h5, c5, h6, h7, h8, m7⟩ l0
    refine Wh m7 (LJ l0 (fun k4 E W => ∃ f3, ST false lu w W q ((N, Obj.cells a4 64 (0, 0)) :: ((c1, Obj.cells b8 64 (0, 0)) :: ((Q, Obj.cells a3 64 (0, 0)) :: ((b9, Obj.cells v9 54 (0, 0)) :: ((s, Ol C6 57) :: f3))))) ∧ E 0 = (.bool false) ∧ E 2 = g6 ∧ E 3 = v7 ∧ E 4 = j1 ∧ E 5 = v8 ∧ E 7 = (.bool c4.1) ∧ E 8 = j2 ∧ E 9 = (.int .i64 k.1) ∧ E 67 = (.bool k4)) 9 ?_ (fun k4 a8 d5 => ?_))
    ·rintro r3 E W ⟨f3, d, h9, e4, m8, i0, m9, i1, i2, i3, n0⟩ l1
     refine Wh n0 (LJ l1 (fun k3 E W => ∃ f4, ST false lu w W q ((N, Obj.cells a4 64 (0, 0)) :: ((Q, Obj.cells a3 64 (0, 0)) :: ((s, Ol C6 57) :: f4))) ∧ E 0 = (.bool false) ∧ E 2 = g6 ∧ E 4 = j1 ∧ E 7 = (.bool c4.1) ∧ E 8 = j2 ∧ E 9 = (.int .i64 k.1) ∧ E 75 = (.bool k3)) 7 ?_ (fun k3 Z d4 => ?_))
     ·rintro r4 E W ⟨f4, d, i4, i5, i6, n1, i7, i8, n2⟩ l2
      refine Wh n2 (LJ l2 (fun k2 E W => ∃ f5, ST false lu w W q ((N, Obj.cells a4 64 (0, 0)) :: ((Q, Obj.cells a3 64 (0, 0)) :: ((s, Ol C6 57) :: f5))) ∧ E 0 = (.bool false) ∧ E 2 = g6 ∧ E 4 = j1 ∧ E 8 = j2 ∧ E 9 = (.int .i64 k.1) ∧ E 78 = (.bool k2)) 2 ?_ (fun k2 a7 d3 => ?_))
      ·rintro r5 E W ⟨f5, d, i9, j0, j3, j4, n3, n4⟩ l3
       refine Wh n4 (LJ l3 (fun k1 E W => ∃ f6, ST false lu w W q ((N, Obj.cells a4 64 (0, 0)) :: ((Q, Obj.cells a3 64 (0, 0)) :: ((s, Ol C6 57) :: f6))) ∧ E 0 = (.bool false) ∧ E 2 = g6 ∧ E 4 = j1 ∧ E 8 = j2 ∧ E 82 = (.bool k1)) 3 ?_ (fun k1 a6 d2 => ?_))
       ·rintro r6 E W ⟨f6, d, j5, j6, n5, n6, n7⟩ l4
        refine Wh n7 (LJ l4 (fun k0 E W => ∃ f7, ST false lu w W q ((s, Ol C6 57) :: f7) ∧ E 0 = (.bool false) ∧ E 2 = g6 ∧ E 87 = (.bool k0)) 4 ?_ (fun k0 Y d1 => ?_))
        ·rintro r7 E W ⟨f7, d, j7, n8, n9⟩ l5
         refine Wh n9 (LJ l5 (fun j9 E W => ∃ f8, ST false lu w W q f8 ∧ E 0 = (.bool false) ∧ E 93 = (.bool j9)) 5 ?_ (fun j9 U d0 => ?_))
         ·rintro r8 E W ⟨f8, d, q2, o0⟩ l6
          exact Wg o0 (lt (rQ l6 d))
         refine bC U (fun x U => ?_) (fun x U => ?_)
         ·refine ug x (nm (v := (.agg C8.toArray)) vj (mE dQ ec (Tz _ ec) kr)) (ug x (kE n8 (kL d.has Mh C6 rfl cx aZ)) (bS U fun q5 l7 U => qy x (Eg d call34 (uD (⟨0, 0, [], []⟩ : lX) (.slice none 0 0) (.slice none 0 0) (.slice none 0 0) ([]) PM (.slice none 0 0) K3 _ _ (Sl.nil _ _ _) (Sl.nil _ _ _) (Sl.nil _ _ _) (Sl.nil _ _ _) l7) (fun p7 d => ug x (lK rfl rfl rfl) (V (kX (cB x) rfl) ?_)))))
          obtain rfl := sj U
          exact d0 _ _ ⟨_, (d.kD (Db St)), j7, rfl⟩
         refine un x (un x (un x (un x (V (kW (cB x) rfl) ?_))))
         obtain rfl := sj U
         exact d0 _ _ ⟨_, (d.kD (Db St)), j7, rfl⟩
        refine bC Y (fun M Y => ?_) (fun M Y => ?_)
        ·refine ug M (kE n6 (kL d.has Mh [(.int .i64 ((k.2).State)), (.int .i64 ((k.2).ox)), b0, a2] rfl eP di)) (ug M (kE n5 (kL d.has (Mt Mh) [v2, v6, n, g5] rfl eP di)) (bS Y fun q6 l8 Y => qy M (Eg d call28 (lg.mz (Ks k.2 b0 a2 v5 n g5 _ _ (m2.mono (Pl.mono _) d.kN) (m3.mono (Pl.mono _) d.kN) (b3.mono (Pl.mono _) (((((y.trans z).trans B).trans D).trans G).trans d.kN)) (b5.mono (Pl.mono _) (((((y.trans z).trans B).trans D).trans G).trans d.kN)) l8)) (fun p8 d => V (kX (cB M) rfl) ?_))))
         obtain rfl := sj Y
         exact d1 _ _ ⟨_, (d.kD (Db (Db St))), j5, j6, rfl⟩
        refine un M (un M (un M (V (kW (cB M) rfl) ?_)))
        obtain rfl := sj Y
        exact d1 _ _ ⟨_, (d.kD (Db (Db St))), j5, j6, rfl⟩
       refine bC a6 (fun T a6 => ?_) (fun T a6 => ?_)
       ·refine ug T (kM n3) (ug T (lK rfl rfl rfl) (V (kX (cB T) rfl) ?_))
        obtain rfl := sj a6
        exact d2 _ _ ⟨_, (d.kD St), i9, j0, j3, j4, rfl⟩
       refine un T (un T (V (kW (cB T) rfl) ?_))
       obtain rfl := sj a6
       exact d2 _ _ ⟨_, (d.kD St), i9, j0, j3, j4, rfl⟩
      refine bC a7 (fun a5 a7 => ?_) (fun a5 a7 => ?_)
      ·refine ug a5 (kM n1) (V (kX (cB a5) rfl) ?_)
       obtain rfl := sj a7
       exact d3 _ _ ⟨_, (d.kD St), i4, i5, i6, i7, i8, rfl⟩
      refine un a5 (V (kW (cB a5) rfl) ?_)
      obtain rfl := sj a7
      exact d3 _ _ ⟨_, (d.kD St), i4, i5, i6, i7, i8, rfl⟩
     refine bC Z (fun j Z => ?_) (fun j Z => ?_)
     ·refine ug j (kE m9 (kL d.has (Mt Mh) [w1, w2, v3, v4] rfl eP di)) (ug j (kH Dw m8) (ug j (kE rfl (kR d.has (Mt (Mt (Mt Mh))) rfl gZ)) (ug j (kE e4 (kL d.has (Mt (Mt (Mt (Mt Mh)))) C6 rfl cx aZ)) (bS Z fun q7 l9 Z => qy j (Eg d call34 (uD (⟨(c).State, (c).ox, (c).lV, (c).lW⟩ : lX) v3 v4 p6 ([Hg]) PM (.slice none 0 0) K3 _ _ (e8.mono (Pl.mono _) ((((z.trans B).trans D).trans G).trans d.kN)) (e9.mono (Pl.mono _) ((((z.trans B).trans D).trans G).trans d.kN)) (c7.mono (Pl.mono _) ((((((c6.trans y).trans z).trans B).trans D).trans G).trans d.kN)) (Sl.nil _ _ _) l9) (fun p9 d => ug j (lK rfl rfl rfl) (V (kX (cB j) rfl) ?_)))))))
      obtain rfl := sj Z
      exact d4 _ _ ⟨_, (d.kD (Kb (Db (Kb (Db St))))), h9, e4, i0, i1, i2, i3, rfl⟩
     refine un j (un j (un j (un j (un j (un j (V (kW (cB j) rfl) ?_))))))
     obtain rfl := sj Z
     exact d4 _ _ ⟨_, (d.kD (Kb (Db (Kb (Db St))))), h9, e4, i0, i1, i2, i3, rfl⟩
    refine bC a8 (fun g a8 => ?_) (fun g a8 => ?_)
    ·refine ug g (kH wL c5) (ug g (kE rfl (kR d.has (Mt Mh) rfl ew)) (ug g (lJ aF rfl e8) (ug g (kH yU c5) (ug g (kE rfl (kR d.has (Mt Mh) rfl iE)) (ug g (lJ aX rfl e9) (ug g (lK rfl rfl rfl) (ug g (lK rfl rfl rfl) (V (kX (cB g) rfl) ?_))))))))
     obtain rfl := sj a8
     exact d5 _ _ ⟨_, (d.kD St), h2, h3, h4, h5, c5, h6, h7, h8, rfl⟩
    refine un g (un g (un g (un g (un g (un g (un g (un g (V (kW (cB g) rfl) ?_))))))))
    obtain rfl := sj a8
    exact d5 _ _ ⟨_, (d.kD St), h2, h3, h4, h5, c5, h6, h7, h8, rfl⟩
   refine bC a0 (fun u a0 => ?_) (fun u a0 => ?_)
   ·refine ug u (kE e3 (kL d.has (Mt (Mt Mh)) [v2, v6, n, g5] rfl eP di)) (ug u (kE e2 (kL d.has (Mt (Mt (Mt (Mt Mh)))) C6 rfl cx aZ)) (bS a0 fun q8 m0 a0 => qy u (Eg d call34 (uD v5 n g5 (.slice none 0 0) ([]) PM (.slice none 0 0) K3 _ _ (b3.mono (Pl.mono _) (((((y.trans z).trans B).trans D).trans G).trans d.kN)) (b5.mono (Pl.mono _) (((((y.trans z).trans B).trans D).trans G).trans d.kN)) (Sl.nil _ _ _) (Sl.nil _ _ _) m0) (fun q0 d => ug u (lK rfl rfl rfl) (V (kX (cB u) rfl) ?_)))))
    obtain rfl := sj a0
    exact d6 _ _ ⟨_, (d.kD St), g4, e2, g7, e3, g8, g9, h0, h1, rfl⟩
   refine un u (un u (un u (un u (V (kW (cB u) rfl) ?_))))
   obtain rfl := sj a0
   exact d6 _ _ ⟨_, (d.kD St), g4, e2, g7, e3, g8, g9, h0, h1, rfl⟩
  refine bC L (fun i L => ?_) (fun i L => ?_)
  ·refine ug i (kE e1 (kL d.has (Mt (Mt Mh)) [v2, v6, n, g5] rfl eP di)) (ug i (kH Dw e0) (ug i (kE rfl (kR d.has (Mt (Mt (Mt Mh))) rfl gZ)) (ug i (kE d9 (kL d.has (Mt (Mt (Mt (Mt Mh)))) C6 rfl cx aZ)) (bS L fun q9 m1 L => qy i (Eg d call34 (uD v5 n g5 p6 ([Hg]) PM (.slice none 0 0) K3 _ _ (b3.mono (Pl.mono _) (((((y.trans z).trans B).trans D).trans G).trans d.kN)) (b5.mono (Pl.mono _) (((((y.trans z).trans B).trans D).trans G).trans d.kN)) (c7.mono (Pl.mono _) ((((((c6.trans y).trans z).trans B).trans D).trans G).trans d.kN)) (Sl.nil _ _ _) m1) (fun q1 d => ug i (lK rfl rfl rfl) (V (kX (cB i) rfl) ?_)))))))
   obtain rfl := sj L
   exact d7 _ _ ⟨_, (d.kD St), f9, d9, e0, e1, g0, g1, g2, g3, rfl⟩
  refine un i (un i (un i (un i (un i (un i (V (kW (cB i) rfl) ?_))))))
  obtain rfl := sj L
  exact d7 _ _ ⟨_, (d.kD St), f9, d9, e0, e1, g0, g1, g2, g3, rfl⟩
 refine bC a9 (fun t a9 => ?_) (fun t a9 => ?_)
 ·refine ug t (kH yU rfl) (ug t (kE rfl (kR d.has (Mt (Mt Mh)) rfl iE)) (ug t (lJ aX rfl b5) (ug t (lK rfl rfl rfl) (V (kX (cB t) rfl) ?_))))
  obtain rfl := sj a9
  exact d8 _ _ ⟨_, (d.kD St), rfl, rfl, rfl, rfl, rfl, rfl, rfl, rfl, rfl⟩
 refine un t (un t (un t (un t (V (kW (cB t) rfl) ?_))))
 obtain rfl := sj a9
 exact d8 _ _ ⟨_, (d.kD St), rfl, rfl, rfl, rfl, rfl, rfl, rfl, rfl, rfl⟩
theorem wC (k : Value) (u : List kB) (r : Int) (w : World) (j : Sl (Pl kG) 9 (hp w) k u) (hm : oz u = some r) :
  lg true pg0 11 [k] w (.int .i64 r) := by
 refine cG 54 func11 rfl (fun d => sg (Wa (lr (Wa (lS (Wm ?_))))))
 refine V (lJ aW rfl j) (Wm (ln (lz (fun i E W => ∃ g t, (E 8 = .int .i64 (i : Nat) ∧ E 7 = .int .i64 (u.length : Nat)) ∧ ST true lu w W (hp w) t ∧ E 3 = (.int .i64 g) ∧ E 6 = k ∧ oM (u.drop i) g = some r) u.length j.len ⟨0, _, ⟨rfl, rfl⟩, (d.kD St), rfl, rfl, hm⟩ dc dc dc (fun _ _ _ h => by obtain ⟨_, _, n, _⟩ := h; exact n) ?_ ?_)))
 ·rintro I E W z ⟨g, t, ⟨m, o⟩, d, x, y, c⟩
  obtain ⟨a, J, G, D, H⟩ := ll z
  rw [G] at c
  refine bg (VQ (lY (enc := kG) (i := (I : Int)) (x0 := a) aW aM y m j (aD _) D) (fun Q B => V (kE rfl (lO d.has B bM aM)) (VE (lD d cg (fun K N d => VO (lh (.agg (kG a).toArray) ((kG a).toArray) d rfl rfl aM (nQ a) nb rfl (fun M d => ln (kT (Wh x (Wf oD (Wf oF (VB d Mh rfl rfl aY (V (nF bL rfl) ?_)))))))))))))
  refine Wi rfl (Wf oD (Wf uo (VB d Mh rfl rfl aY (V (nF bL rfl) (Wi rfl (Wf sW (VB d Mh rfl rfl aY (V (nF bL rfl) (Wi rfl (Wf mW (Wf oF (VB d Mh rfl rfl aY (V (nF bL rfl) (Wi rfl ?_))))))))))))))
  refine Wf mW (Wf uo (VB d Mh rfl rfl aY (V (nF bL rfl) (Wi rfl (Wf pO (Wf oF (VB d Mh rfl rfl aY (V (nF bL rfl) (Wi rfl (Wf pO (Wf uo (VB d Mh rfl rfl aY (V (nF bL rfl) (Wi rfl ?_))))))))))))))
  refine Wf rX (VB d Mh rfl rfl aY (V (nF bL rfl) (Wi rfl (Wi rfl (Wa (lo (lA (kK ?_))))))))
  replace d := d.kD (Db St)
  exact ⟨m, (wi0 .i64 (g + (wi0 .i64 ((wi0 .i64 ((wi0 .i64 ((wi0 .i64 ((wi0 .i64 ((wi0 .i64 ((wi0 .i64 ((wi0 .i64 (20 + (a.Head.kI.size : Int))) + (a.Head.kU.size : Int))) + (a.ly.size : Int))) + (a.B.kI.size : Int))) + (a.B.kU.size : Int))) + (a.C.kI.size : Int))) + (a.C.kU.size : Int))) + (a.lU.size : Int))))), _, ⟨rfl, o⟩, (d.kD St), rfl, y, (by rw [H]; exact c)⟩
 rintro E W ⟨g, t, ⟨m, o⟩, d, x, y, c⟩
 rw [aG] at c
 exact kK (sg (Wh x (Wa (lt (rQ c d)))))
theorem Cp (H : Value) (Q : List Key) (u : Value) (J : List Signed) (r : Int) (w : World) (B : Sl Fz 2 (hp w) H Q) (D : Sl vy 10 (hp w) u J) (hm : AA Q J = some r) :
  lg true pg0 140 [H, u] w (.int .i64 r) := by
 refine cG 45 func140 rfl (fun d => sg (Wa (lr (Wa (lS (Wm ?_))))))
 refine V (lJ underlying239 rfl B) (Wm (ln (lz (fun i E W => ∃ t N, (E 12 = .int .i64 (i : Nat) ∧ E 11 = .int .i64 (Q.length : Nat)) ∧ ST true lu w W (hp w) N ∧ E 1 = u ∧ E 5 = (.int .i64 t) ∧ E 10 = H ∧ xT J (Q.drop i) t = some r) Q.length B.len ⟨0, _, ⟨rfl, rfl⟩, (d.kD St), rfl, rfl, rfl, hm⟩ dc dc dc (fun _ _ _ h => by obtain ⟨_, _, o, _⟩ := h; exact o) ?_ ?_)))
 ·rintro c3 E W b5 ⟨t, N, ⟨n, q⟩, d, U, Y, Z, g⟩
  obtain ⟨k, d4, b9, b7, c0⟩ := ll b5
  rw [b9] at g
  refine bg (VQ (sE (i := (c3 : Int)) (x0 := k) Fz.out underlying239 sizeOf242 Z n B (aD _) b7) (fun d8 ⟨_, ⟨d9, rfl, a2⟩, b6⟩ => V (kE rfl (lO d.has b6 isAgg242 sizeOf242)) (VE (lD d zeroValue242 (fun d5 d7 d => ?_)))))
  obtain ⟨v, A, rfl⟩ := a2.form
  refine VO (lh (.agg #[(.string k.ly), (.slice v k.Key.length A)]) (#[(.string k.ly), (.slice v k.Key.length A)]) d rfl rfl sizeOf242 oc nb rfl (fun d6 d => ln (kT (Wh Y (Wf VF (VB d Mh rfl rfl aY (V (nF bL rfl) (Wi rfl (Wf Vw (VB d Mh rfl rfl fR (V (lJ cw rfl a2) (Wi rfl (Wi rfl (Wa ?_))))))))))))))
  refine lo (lA (kK ?_))
  replace d := d.kD (Db St)
  exact ⟨n, (wi0 .i64 (t + (wi0 .i64 ((wi0 .i64 (10 + (k.ly.size : Int))) + (k.Key.length : Int))))), _, ⟨rfl, q⟩, (d.kD St), U, rfl, Z, (by rw [c0]; exact g)⟩
 rintro E W ⟨t, N, ⟨n, q⟩, d, U, Y, Z, g⟩
 rw [aG] at g
 refine kK (kV (sg (Wh U (V (lJ jW rfl D) (Wm (ln (CJ g (fun G E W => ∃ M, ST true lu w W (hp w) M ∧ E 5 = (.int .i64 G)) (fun G a5 => ?_) ?_)))))))
 ·refine lz (fun i E W => ∃ j x, (E 29 = .int .i64 (i : Nat) ∧ E 28 = .int .i64 (J.length : Nat)) ∧ ST true lu w W (hp w) x ∧ E 5 = (.int .i64 j) ∧ E 27 = u ∧ vR (J.drop i) j = some G) J.length D.len ⟨t, _, ⟨rfl, rfl⟩, (d.kD St), Y, rfl, a5⟩ dc dc dc (fun _ _ _ h => by obtain ⟨_, _, o, _⟩ := h; exact o) ?_ ?_
  ·rintro c1 E W a3 ⟨j, x, ⟨n, q⟩, d, y, z, c⟩
   obtain ⟨a, c4, a9, R, b0⟩ := ll a3
   rw [a9] at c
   refine bg (VQ (sE (i := (c1 : Int)) (x0 := a) vy.out jW jb z n D (aD _) R) (fun d0 ⟨_, ⟨d1, rfl, I⟩, L⟩ => V (kE rfl (lO d.has L isAgg197 jb)) (VE (lD d zeroValue197 (fun c5 c9 d => ?_)))))
   obtain ⟨K, T, rfl⟩ := I.form
   let a0 := (C4 a.kB.Kind a.kB.Head.kI a.kB.Head.kU a.kB.ly a.kB.B.kI a.kB.B.kU a.kB.C.kI a.kB.C.kU a.kB.lU K a.Tag.length T)
   refine VO (lh (.agg a0.toArray) (a0.toArray) d rfl rfl jb oc nb rfl (fun c6 d => ln ?_))
   replace d := d.drew
   have m := d.has.kD (Kb Sn)
   refine lN m lB (X 0 rfl m (kM y) (X 1 rfl m (kH Ve rfl) (XH 2 rfl m (fun _ s => kE rfl (kL s Mh (kG a.kB) rfl bM aM)) (X 5 rfl m (kH VN rfl) (XH 6 rfl m (fun _ s => kE rfl (kR s Mh rfl fR)) (X 7 rfl m (lJ cw rfl I) (XE 3 rfl (lj (cs := (kG a.kB).toArray) d (mN rfl) (mJ aW aM cg) (fun c7 b3 d => ?_)))))))))
   have m := d.has.kD (Db (Kb Sn))
   refine ⟨m, (bS c fun c2 P c => XE 4 rfl (Eg d call11 (wC (.slice (some ⟨b3, 0, none⟩) 1 1) ([a.kB]) _ _ (Sl.lit (enc := kG) (l := [a.kB]) mT rfl nb rfl (d.at_ Mh)) P) (fun c8 d => ?_)))⟩
   have m := d.has.kD (Db (Kb Sn))
   refine ⟨m, (X 8 rfl m (lK rfl rfl rfl) (X 9 rfl m (lK rfl rfl rfl) (X 10 rfl m (nH rfl) (me kr (lA (kK ?_))))))⟩
   replace d := d.kD (Db (Db St))
   exact ⟨n, (wi0 .i64 (j + (wi0 .i64 (c2 + (a.Tag.length : Int))))), _, ⟨rfl, q⟩, (d.kD St), rfl, z, (by rw [b0]; exact c)⟩
  rintro E W ⟨j, x, ⟨n, q⟩, d, y, z, c⟩
  rw [aG] at c
  refine kK ?_
  obtain rfl := sj c
  exact ⟨_, (d.kD St), y⟩
 rintro d3 E W ⟨M, d, b4⟩ a4
 exact sg (Wh b4 (Wa (lt (rQ a4 d))))
theorem HZ (I : (List Formula) → Option Int) (N : ∀ (j : Value) (u : List Formula) (r : Int) (w : World) (t : Sl la 5 (hp w) j u), I u = some r → lg false pg0 26 [j] w (.int .i64 r)) (j : Value) (u : List Formula) (r : Int) (w : World) (t : Sl la 5 (hp w) j u) (hm : wK I u = some r) :
  lg false pg0 26 [j] w (.int .i64 r) := by
 refine cG 31 func26 rfl (fun m => sg (Wa (lr (Wa (lS (Wm ?_))))))
 refine V (lJ bZ rfl t) (Wm (ln (lz (fun i E W => ∃ x z, (E 8 = .int .i64 (i : Nat) ∧ E 7 = .int .i64 (u.length : Nat)) ∧ ST false lu w W (hp w) z ∧ E 3 = (.int .i64 x) ∧ E 6 = j ∧ qi I (u.drop i) x = some r) u.length t.len ⟨0, _, ⟨rfl, rfl⟩, (m.kD St), rfl, rfl, hm⟩ dc dc dc (fun _ _ _ h => by obtain ⟨_, _, q, _⟩ := h; exact q) ?_ ?_)))
 ·rintro Z E W M ⟨x, z, ⟨o, A⟩, m, D, G, g⟩
  obtain ⟨c, R, T, Q, U⟩ := ll M
  let a0 := ((c.kA.kI.size : Int) + (c.kA.kU.size : Int))
  rw [T] at g
  refine bg (VQ (sE (i := (Z : Int)) (x0 := c) la.out bZ aZ G o t (aD _) Q) (fun a5 ⟨_, ⟨P, rfl, H⟩, J⟩ => V (kE rfl (lO m.has J cx aZ)) (VE (lD m dp (fun L a4 m => ?_)))))
  obtain ⟨y, B, rfl⟩ := H.form
  let s := (C1 c.Op c.K c.kA.kI c.kA.kU y c.Kids.length B)
  refine VO (lh (.agg s.toArray) (s.toArray) m rfl rfl aZ oc nb rfl (fun a2 m => ln ?_))
  replace m := m.drew
  have d := m.has.kD (Kb Sn)
  refine lN d lB (X 0 rfl d (kM D) (X 1 rfl d (kH yM rfl) (X 2 rfl d (kH oF rfl) (XH 3 rfl d (fun _ n => kE rfl (kR n Mh rfl aY)) (X 4 rfl d (nF bL rfl) (X 5 rfl d (kH yM rfl) (X 6 rfl d (kH uo rfl) (XH 7 rfl d (fun _ n => kE rfl (kR n Mh rfl aY)) (X 8 rfl d (nF bL rfl) (X 9 rfl d (lK rfl rfl rfl) (X 10 rfl d (F3 (k := .i64) (a := (wi0 .i64 a0)) (b := 16) (v := (.int .i64 (wi0 .i64 (Int.tdiv (wi0 .i64 a0) 16)))) rfl rfl dc rfl) (X 11 rfl d (lK rfl rfl rfl) (X 12 rfl d (kH ux rfl) (XH 13 rfl d (fun _ n => kE rfl (kR n Mh rfl fe)) ?_))))))))))))))
  refine bS g fun Y K g => XE 14 rfl (Eg m call26 (N (.slice y c.Kids.length B) c.Kids _ _ (H.mono lZ.mono m.kN) K) (fun a3 m => ?_))
  have d := m.has.kD (Kb Sn)
  refine ⟨d, (X 15 rfl d (lK rfl rfl rfl) (X 16 rfl d (lK rfl rfl rfl) (X 17 rfl d (nH rfl) (me kr (lA (kK ?_))))))⟩
  replace m := m.kD (Db St)
  exact ⟨o, (wi0 .i64 (x + (wi0 .i64 ((wi0 .i64 (1 + (wi0 .i64 (Int.tdiv (wi0 .i64 a0) 16)))) + Y)))), _, ⟨rfl, A⟩, (m.kD St), rfl, G, (by rw [U]; exact g)⟩
 rintro E W ⟨x, z, ⟨o, A⟩, m, D, G, g⟩
 rw [aG] at g
 exact kK (sg (Wh D (Wa (lt (rQ g m)))))
theorem AE : ∀ (n : Nat) (a : Value) (c : List Formula) (r : Int) (w : World) (g : Sl la 5 (hp w) a c) (_ : oa n c = some r),
  lg false pg0 26 [a] w (.int .i64 r)
 | 0 => by intros; rename_i h; simp only [oa] at h; cases h
 | n + 1 => HZ (oa n) (AE n)
set_option maxHeartbeats 4000000 in
theorem Mq (x : mg) (J N : Value) (r : Int) (w : World) (y : Sl oR 15 (hp w) J x.mY) (G : Sl ve 8 (hp w) N x.oX) (hm : Az x = some r) :
  lg false pg0 71 [(.agg #[(.string x.Name), J, N])] w (.int .i64 r) := by
 refine cG 61 func71 rfl (fun d => sg ?_)
 obtain ⟨A1, c2, rfl⟩ := y.form
 let d8 : Value := (.slice A1 x.mY.length c2)
 obtain ⟨A3, c4, rfl⟩ := G.form
 let k6 : Value := (.slice A3 x.oX.length c4)
 refine VE (lF d rfl (fun W6 R d => Wa (lr (Wf WH (VB d Mh rfl rfl aY (V (nF bL rfl) (Wa (lS ?_))))))))
 refine Wf Xe (VB d Mh rfl rfl isAgg49 (V (lJ underlying49 rfl y) (Wm (ln (lz (fun i E W => ∃ I b1, (E 14 = .int .i64 (i : Nat) ∧ E 13 = .int .i64 (x.mY.length : Nat)) ∧ ST false lu w W (hp w) ((R, Ob #[(.string x.Name), d8, k6] 52) :: b1) ∧ E 1 = (.pointer (some ⟨R, 0, none⟩)) ∧ E 3 = (.int .i64 I) ∧ E 12 = d8 ∧ tA x (x.mY.drop i) I = some r) x.mY.length y.len ⟨(x.Name.size : Int), _, ⟨rfl, rfl⟩, (d.kD St), rfl, rfl, rfl, hm⟩ dc dc dc (fun _ _ _ h => by obtain ⟨_, _, v, _⟩ := h; exact v) ?_ ?_)))))
 ·rintro d5 E W e1 ⟨I, b1, ⟨s, A⟩, d, U, M, Y, H⟩
  obtain ⟨a, h9, e9, e8, f0⟩ := ll e1
  let l1 : Value := (.int .i64 a.lp.K)
  let l0 : Value := (.int .i64 a.lp.Op)
  let k9 : Value := (.string a.Signed.kB.ly)
  let k8 : Value := (.string a.lp.kA.kU)
  let k7 : Value := (.string a.Signed.kB.lU)
  let k4 : Value := (.string a.lp.kA.kI)
  let k3 : Value := (.string a.Signed.kB.C.kU)
  let k2 : Value := (.string a.Signed.kB.B.kU)
  let k1 : Value := (.int .i64 a.Signed.kB.Kind)
  let k0 : Value := (.string a.Signed.kB.C.kI)
  let j2 : Value := (.string a.Signed.kB.B.kI)
  let g6 : Value := (.string a.Signed.kB.Head.kU)
  let g5 : Value := (.string a.Signed.kB.Head.kI)
  rw [e9] at H
  refine bg (VQ (sE (i := (d5 : Int)) (x0 := a) oR.out underlying49 sizeOf199 Y s y (aD _) e8) (fun j4 ⟨_, ⟨j8, j9, rfl, Q, T⟩, e2⟩ => V (kE rfl (lO d.has e2 isAgg199 sizeOf199)) (VE (lD d zeroValue199 (fun i0 f4 d => ?_)))))
  obtain ⟨t, u, rfl⟩ := Q.form
  let L : Value := (.slice t a.Signed.Tag.length u)
  let b7 := (C4 a.Signed.kB.Kind a.Signed.kB.Head.kI a.Signed.kB.Head.kU a.Signed.kB.ly a.Signed.kB.B.kI a.Signed.kB.B.kU a.Signed.kB.C.kI a.Signed.kB.C.kU a.Signed.kB.lU t a.Signed.Tag.length u)
  obtain ⟨g, j, rfl⟩ := T.form
  let b8 : Value := (.slice g a.lp.Kids.length j)
  let a0 := (C1 a.lp.Op a.lp.K a.lp.kA.kI a.lp.kA.kU g a.lp.Kids.length j)
  refine VO (lh (.agg #[k1, g5, g6, k9, j2, k2, k0, k3, k7, L, l0, l1, k4, k8, b8]) (#[k1, g5, g6, k9, j2, k2, k0, k3, k7, L, l0, l1, k4, k8, b8]) d rfl rfl sizeOf199 oc nb rfl (fun i1 d => ln ?_))
  replace d := d.drew
  have m := d.has.kD (Kb Sn)
  refine lN m lB (X 0 rfl m (kM M) (X 1 rfl m (kH V7 rfl) (XH 2 rfl m (fun _ q => kE rfl (kL q Mh b7 rfl isAgg197 jb)) (X 5 rfl m (kH Vt rfl) (XH 6 rfl m (fun _ q => kE rfl (kL q Mh a0 rfl cx aZ)) (PJ H (fun b4 E W => ∃ P b2 b9, ST false lu w W (hp w) ((f4, Ob #[k1, g5, g6, k9, j2, k2, k0, k3, k7, L, l0, l1, k4, k8, b8] 199) :: ((R, Ob #[(.string x.Name), d8, k6] 52) :: (b2 ++ b9))) ∧ E 1 = (.pointer (some ⟨R, 0, none⟩)) ∧ E 3 = (.int .i64 I) ∧ E 12 = d8 ∧ E 13 = (.int .i64 (x.mY.length : Int)) ∧ E 14 = (.int .i64 (d5 : Int)) ∧ E 18 = (.int .i64 I) ∧ E 22 = (.int .i64 b4.1) ∧ E 25 = P ∧ nn 57 la 5 (hp w) P b4.2 b2) (bm 13 255) 5 ?_ (fun b4 z Z => ?_)))))))
  ·rintro ⟨g7, g3⟩ E W ⟨P, b2, b9, d, f6, j3, f7, f8, f9, g0, g1, g2, e7⟩ a6
   refine bS a6 fun g4 e3 a6 => XE 8 rfl (Eg d call26 ((AE lE) P g3 _ _ (e7.sl lZ d.kN (fun b o n => d.at_ (Mt (Mt (Ml n))))) e3) (fun i2 d => ?_) (ha := ZP g2))
   have m := d.has.kD (Kb Sn)
   refine ⟨m, (X 9 rfl m (lK rfl rfl rfl) (X 10 rfl m (lK g1 rfl rfl) (X 11 rfl m (lK g0 rfl rfl) (X 12 rfl m (nH rfl) (me kr (lA (kK ?_)))))))⟩
   replace d := d.kD (Db (Kb (Dr St)))
   exact ⟨f9, (wi0 .i64 (I + (wi0 .i64 (g7 + (wi0 .i64 (20 * g4)))))), _, ⟨rfl, f8⟩, (d.kD St), f6, rfl, f7, (by rw [f0]; exact a6)⟩
  refine Hs 3 7 rfl rfl kr (.inl rfl) (.inl rfl) rfl rfl dc dc ?_ ?_
  ·refine lj (cs := b7.toArray) d (mN rfl) (mJ jW jb zeroValue197) (fun i3 b3 d => ?_)
   let d9 : Value := (.slice (some ⟨b3, 0, none⟩) 1 1)
   have m := d.has.kD (Db (Kb Sn))
   refine ⟨m, (Hs 4 7 rfl rfl kr (.inl rfl) (.inl rfl) rfl rfl dc dc ?_ ?_)⟩
   ·refine bS z fun j5 e4 z => PR (args := [(.slice none 0 0), d9]) d rfl call140 (by exact pM rfl rfl) (lg.mz (Cp (.slice none 0 0) ([]) d9 ([a.Signed]) _ _ (Sl.nil _ _ _) ((nn.lit Dc (l := [a.Signed]) (.cons (ys := C4 a.Signed.kB.Kind a.Signed.kB.Head.kI a.Signed.kB.Head.kU a.Signed.kB.ly a.Signed.kB.B.kI a.Signed.kB.B.kU a.Signed.kB.C.kI a.Signed.kB.C.kU a.Signed.kB.lU t a.Signed.Tag.length u) (vy.mk ⟨L, rfl, Q⟩) .nil) rfl nb rfl).sl Dc d.kN (fun b o n => (by rw [aN] at n; cases n; exact d.at_ Mh))) e4)) (fun i4 d => ?_)
    have m := d.has.kD (Db (Kb Sn))
    refine ⟨m, (XE 7 rfl (lj (cs := a0.toArray) d (mN rfl) (mJ bZ aZ dp) (fun i5 c0 d => ?_)))⟩
    have m := d.has.kD (Db (Db (Kb Sn)))
    refine ⟨m, ?_⟩
    obtain rfl := sj z
    replace d := d.HM
    refine np kr (Z _ _ ⟨(.slice (some ⟨c0, 0, none⟩) 1 1), [(c0, Ol a0 57)], _, (d.kD (Sb (Pr (Pb Pz)) (Sb (Pr (Pb Pz)) (Kr (Db St))))), U, M, Y, A, s, rfl, rfl, rfl, (nn.lit lZ (l := [a.lp]) (.cons (ys := C1 a.lp.Op a.lp.K a.lp.kA.kI a.lp.kA.kU g a.lp.Kids.length j) (la.mk ⟨b8, rfl, T⟩) .nil) rfl nb rfl)⟩)
   ·refine lj (cs := a0.toArray) d (mN rfl) (mJ bZ aZ dp) (fun i6 c1 d => ?_)
    have m := d.has.kD (Db (Db (Kb Sn)))
    refine ⟨m, (bS z fun j6 e5 z => XE 4 rfl (Eg d call140 (lg.mz (Cp (.slice none 0 0) ([]) d9 ([a.Signed]) _ _ (Sl.nil _ _ _) ((nn.lit Dc (l := [a.Signed]) (.cons (ys := C4 a.Signed.kB.Kind a.Signed.kB.Head.kI a.Signed.kB.Head.kU a.Signed.kB.ly a.Signed.kB.B.kI a.Signed.kB.B.kU a.Signed.kB.C.kI a.Signed.kB.C.kU a.Signed.kB.lU t a.Signed.Tag.length u) (vy.mk ⟨L, rfl, Q⟩) .nil) rfl nb rfl).sl Dc d.kN (fun b o n => (by rw [aN] at n; cases n; exact d.at_ (Mt Mh)))) e5)) (fun i7 d => ?_)))⟩
    have m := d.has.kD (Db (Db (Kb Sn)))
    refine ⟨m, ?_⟩
    obtain rfl := sj z
    replace d := d.HM
    refine np kr (Z _ _ ⟨(.slice (some ⟨c1, 0, none⟩) 1 1), [(c1, Ol a0 57)], _, (d.kD (Sb (Pr (Pb Pz)) (Sb (Pr (Pb Pz)) (Kr (Db St))))), U, M, Y, A, s, rfl, rfl, rfl, (nn.lit lZ (l := [a.lp]) (.cons (ys := C1 a.lp.Op a.lp.K a.lp.kA.kI a.lp.kA.kU g a.lp.Kids.length j) (la.mk ⟨b8, rfl, T⟩) .nil) rfl nb rfl)⟩)
  ·refine lj (cs := a0.toArray) d (mN rfl) (mJ bZ aZ dp) (fun i8 c3 d => ?_)
   have m := d.has.kD (Db (Kb Sn))
   refine ⟨m, (XE 3 rfl (lj (cs := b7.toArray) d (mN rfl) (mJ jW jb zeroValue197) (fun i9 f5 d => ?_)))⟩
   have m := d.has.kD (Db (Db (Kb Sn)))
   refine ⟨m, (bS z fun j7 e6 z => XE 4 rfl (Eg d call140 (lg.mz (Cp (.slice none 0 0) ([]) (.slice (some ⟨f5, 0, none⟩) 1 1) ([a.Signed]) _ _ (Sl.nil _ _ _) ((nn.lit Dc (l := [a.Signed]) (.cons (ys := C4 a.Signed.kB.Kind a.Signed.kB.Head.kI a.Signed.kB.Head.kU a.Signed.kB.ly a.Signed.kB.B.kI a.Signed.kB.B.kU a.Signed.kB.C.kI a.Signed.kB.C.kU a.Signed.kB.lU t a.Signed.Tag.length u) (vy.mk ⟨L, rfl, Q⟩) .nil) rfl nb rfl).sl Dc d.kN (fun b o n => (by rw [aN] at n; cases n; exact d.at_ Mh))) e6)) (fun j0 d => ?_)))⟩
   have m := d.has.kD (Db (Db (Kb Sn)))
   refine ⟨m, ?_⟩
   obtain rfl := sj z
   replace d := d.perm (Nb (Pb Pz) Nz)
   replace d := d.HM
   refine np kr (Z _ _ ⟨(.slice (some ⟨c3, 0, none⟩) 1 1), [(c3, Ol a0 57)], _, (d.kD (Sb (Pr (Pb Pz)) (Sb (Pr (Pb Pz)) (Kr (Db St))))), U, M, Y, A, s, rfl, rfl, rfl, (nn.lit lZ (l := [a.lp]) (.cons (ys := C1 a.lp.Op a.lp.K a.lp.kA.kI a.lp.kA.kU g a.lp.Kids.length j) (la.mk ⟨b8, rfl, T⟩) .nil) rfl nb rfl)⟩)
 rintro E W ⟨I, b1, ⟨s, A⟩, d, U, M, Y, H⟩
 rw [aG] at H
 refine kK (kV (sg (V (kH Xi U) (VB d Mh rfl rfl isAgg50 (V (lJ underlying50 rfl G) (Wm (ln ?_)))))))
 replace d := d.kD (Db St)
 refine CJ H (fun a7 E W => ∃ b6, ST false lu w W (hp w) b6 ∧ E 3 = (.int .i64 a7)) (fun a7 c8 => ?_) ?_
 ·refine lz (fun i E W => ∃ K a2, (E 34 = .int .i64 (i : Nat) ∧ E 33 = .int .i64 (x.oX.length : Nat)) ∧ ST false lu w W (hp w) a2 ∧ E 3 = (.int .i64 K) ∧ E 32 = k6 ∧ tJ (x.oX.drop i) K = some a7) x.oX.length G.len ⟨I, _, ⟨rfl, rfl⟩, (d.kD St), M, rfl, c8⟩ dc dc dc (fun _ _ _ h => by obtain ⟨_, _, v, _⟩ := h; exact v) ?_ ?_
  ·rintro f1 E W c6 ⟨K, a2, ⟨s, A⟩, d, a4, a5, k⟩
   obtain ⟨c, g8, d3, d2, d4⟩ := ll c6
   rw [d3] at k
   refine bg (VQ (sE (i := (f1 : Int)) (x0 := c) ve.out underlying50 sizeOf202 a5 s G (aD _) d2) (fun h5 ⟨_, ⟨h6, h7, rfl, a9, b0⟩, c9⟩ => V (kE rfl (lO d.has c9 isAgg202 sizeOf202)) (VE (lD d zeroValue202 (fun g9 h4 d => ?_)))))
   obtain ⟨B, D, rfl⟩ := a9.form
   let j1 : Value := (.slice B c.lp.Kids.length D)
   let d6 := (C1 c.lp.Op c.lp.K c.lp.kA.kI c.lp.kA.kU B c.lp.Kids.length D)
   obtain ⟨a1, a3, rfl⟩ := b0.form
   let k5 : Value := (.slice a1 c.qE.length a3)
   refine VO (lh (.agg #[(.string c.kA.kI), (.string c.kA.kU), (.int .i64 c.lp.Op), (.int .i64 c.lp.K), (.string c.lp.kA.kI), (.string c.lp.kA.kU), j1, k5]) (#[(.string c.kA.kI), (.string c.kA.kU), (.int .i64 c.lp.Op), (.int .i64 c.lp.K), (.string c.lp.kA.kI), (.string c.lp.kA.kU), j1, k5]) d rfl rfl sizeOf202 oc nb rfl (fun h0 d => ln ?_))
   replace d := d.drew
   have m := d.has.kD (Kb Sn)
   refine lN m lB (X 0 rfl m (kM a4) (X 1 rfl m (kH Px rfl) (X 2 rfl m (kH oF rfl) (XH 3 rfl m (fun _ q => kE rfl (kR q Mh rfl aY)) (X 4 rfl m (nF bL rfl) (X 5 rfl m (kH Px rfl) (X 6 rfl m (kH uo rfl) (XH 7 rfl m (fun _ q => kE rfl (kR q Mh rfl aY)) (X 8 rfl m (nF bL rfl) (X 9 rfl m (lK rfl rfl rfl) (X 10 rfl m (kH Vi rfl) (XH 11 rfl m (fun _ q => kE rfl (kL q Mh d6 rfl cx aZ)) (X 16 rfl m (kH VD rfl) (XH 17 rfl m (fun _ q => kE rfl (kR q Mh rfl gZ)) ?_))))))))))))))
   refine XE 12 rfl (lj (cs := d6.toArray) d (mN rfl) (mJ bZ aZ dp) (fun h1 d7 d => ?_))
   have m := d.has.kD (Db (Kb Sn))
   refine ⟨m, (bS k fun f2 d0 k => XE 13 rfl (Eg d call26 ((AE lE) (.slice (some ⟨d7, 0, none⟩) 1 1) ([c.lp]) _ _ ((nn.lit lZ (l := [c.lp]) (.cons (ys := C1 c.lp.Op c.lp.K c.lp.kA.kI c.lp.kA.kU B c.lp.Kids.length D) (la.mk ⟨j1, rfl, a9⟩) .nil) rfl nb rfl).sl lZ d.kN (fun b o n => (by rw [aN] at n; cases n; exact d.at_ Mh))) d0) (fun h2 d => ?_)))⟩
   have m := d.has.kD (Db (Kb Sn))
   refine ⟨m, (X 14 rfl m (lK rfl rfl rfl) (X 15 rfl m (lK rfl rfl rfl) (bS k fun f3 d1 k => XE 18 rfl (Eg d call11 (lg.mz (wC k5 c.qE _ _ (b0.mono (Pl.mono _) d.kN) d1)) (fun h3 d => ?_)))))⟩
   have m := d.has.kD (Db (Kb Sn))
   refine ⟨m, (X 19 rfl m (lK rfl rfl rfl) (X 20 rfl m (lK rfl rfl rfl) (X 21 rfl m (nH rfl) (me kr (lA (kK ?_))))))⟩
   replace d := d.kD (Db (Db St))
   exact ⟨s, (wi0 .i64 (K + (wi0 .i64 ((wi0 .i64 ((wi0 .i64 ((c.kA.kI.size : Int) + (c.kA.kU.size : Int))) + (wi0 .i64 (20 * f2)))) + f3)))), _, ⟨rfl, A⟩, (d.kD St), rfl, a5, (by rw [d4]; exact k)⟩
  rintro E W ⟨K, a2, ⟨s, A⟩, d, a4, a5, k⟩
  rw [aG] at k
  refine kK ?_
  obtain rfl := sj k
  exact ⟨_, (d.kD St), a4⟩
 rintro h8 E W ⟨b6, d, e0⟩ c7
 exact sg (Wh e0 (Wa (lt (rQ c7 d))))
theorem ME (a : ur) (g k x H z G : Value) (r : Int) (w : World) (c : Sl oR 15 (hp w) g a.mg.mY) (j : Sl ve 8 (hp w) k a.mg.oX) (u : Sl (Pl kG) 9 (hp w) x a.lL) (D : Sl (Pl kG) 9 (hp w) H a.Shown) (y : Sl (Pl kC) 2 (hp w) z a.mG) (B : Sl (Pl kC) 2 (hp w) G a.sI) (hm : Au a = some r) :
  lg false pg0 25 [(.agg #[(.string a.mg.Name), g, k, (.string a.od), (.int .i64 a.Room), x, H, z, G])] w (.int .i64 r) := by
 refine cG 45 func25 rfl (fun d => sg ?_)
 obtain ⟨A1, c2, rfl⟩ := c.form
 obtain ⟨A3, s, rfl⟩ := j.form
 obtain ⟨A5, c6, rfl⟩ := u.form
 obtain ⟨A7, c8, rfl⟩ := D.form
 obtain ⟨A9, a5, rfl⟩ := y.form
 obtain ⟨a3, P, rfl⟩ := B.form
 refine VE (lF d rfl (fun e0 e7 d => Wa (ln (kV ?_))))
 replace d := d.drew
 have m := d.has.kD (Kb Sn)
 refine lN m lB (X 0 rfl m (kH WU rfl) (XH 1 rfl m (fun _ n => kE rfl (kL n Mh [(.string a.mg.Name), (.slice A1 a.mg.mY.length c2), (.slice A3 a.mg.oX.length s)] rfl isAgg52 sizeOf52)) (X 3 rfl m (kH G9 rfl) (XH 4 rfl m (fun _ n => kE rfl (kR n Mh rfl aY)) (X 5 rfl m (nF bL rfl) (X 7 rfl m (kH Dw rfl) (XH 8 rfl m (fun _ n => kE rfl (kR n Mh rfl gZ)) (X 11 rfl m (kH WE rfl) (XH 12 rfl m (fun _ n => kE rfl (kR n Mh rfl gZ)) (bS hm fun d0 b4 hm => XE 2 rfl (Eg d call71 (Mq a.mg (.slice A1 a.mg.mY.length c2) (.slice A3 a.mg.oX.length s) _ _ (c.mono BQ.mono d.kN) (j.mono KX.mono d.kN) b4) (fun e1 d => ?_))))))))))))
 have m := d.has.kD (Kb Sn)
 refine ⟨m, (X 6 rfl m (lK rfl rfl rfl) (bS hm fun d1 b5 hm => XE 9 rfl (Eg d call11 (lg.mz (wC (.slice A5 a.lL.length c6) a.lL _ _ (u.mono (Pl.mono _) d.kN) b5)) (fun e2 d => ?_))))⟩
 have m := d.has.kD (Kb Sn)
 refine ⟨m, (X 10 rfl m (lK rfl rfl rfl) (bS hm fun d2 b6 hm => XE 13 rfl (Eg d call11 (lg.mz (wC (.slice A7 a.Shown.length c8) a.Shown _ _ (D.mono (Pl.mono _) d.kN) b6)) (fun e3 d => ?_))))⟩
 have m := d.has.kD (Kb Sn)
 refine ⟨m, (X 14 rfl m (lK rfl rfl rfl) (X 15 rfl m (nH rfl) (me kr (kK (kV (kV ?_))))))⟩
 replace d := d.drew
 have m := d.has.kD (Kb Sn)
 refine lN m lB (X 1 rfl m (kH XL rfl) (XH 2 rfl m (fun _ n => kE rfl (kR n Mh rfl ew)) (X 4 rfl m (kH Xd rfl) (XH 5 rfl m (fun _ n => kE rfl (kR n Mh rfl ew)) (X 8 rfl m (kM rfl) (XE 0 rfl (lj (cs := #[]) d vj (zK [] aF aC bQ dc rfl (by simp) rfl rfl) (fun e4 a4 d => ?_))))))))
 have m := d.has.kD (Db (Kb Sn))
 refine ⟨m, (bS hm fun e8 b2 hm => XE 3 rfl (mD (enc := kC) (v := (.slice (some ⟨a4, 0, none⟩) 0 0)) (vs := (.slice A9 a.mG.length a5)) (R := [(a4, Ob #[] 28)]) d my dc mH aF mw.1 mw.2.1 rfl mw.2.2.1 mw.2.2.2 rfl rfl (kZ.lit (l := []) (enc := kC) rfl dc rfl rfl) (y.mono (Pl.mono _) d.kN) b2 (fun e5 d3 c3 d b1 => ?_)))⟩
 have m := d.has.kD (Dr (Kb Sn))
 refine ⟨m, (bS hm fun U b3 hm => XE 6 rfl (mD (enc := kC) (v := d3) (vs := (.slice a3 a.sI.length P)) (R := c3) d my dc mH aF mw.1 mw.2.1 rfl mw.2.2.1 mw.2.2.2 rfl rfl b1 (B.mono (Pl.mono _) d.kN) b3 (fun e6 d4 c5 d K => ?_)))⟩
 have m := d.has.kD (Dr (Kb Sn))
 refine ⟨m, (X 7 rfl m (mR aF rfl K) (me kr (kK ?_)))⟩
 replace d := d.kD (Kr (Db St))
 refine lz (fun i E W => ∃ J M, (E 29 = .int .i64 (i : Nat) ∧ E 28 = .int .i64 (U.length : Nat)) ∧ ST false lu w W (hp w) (c5 ++ M) ∧ E 3 = (.int .i64 J) ∧ E 27 = d4 ∧ tM (U.drop i) J = some r) U.length K.len ⟨(wi0 .i64 ((wi0 .i64 ((wi0 .i64 (d0 + (a.od.size : Int))) + d1)) + d2)), _, ⟨rfl, rfl⟩, (d.kD St), rfl, rfl, hm⟩ dc dc dc (fun _ _ _ h => by obtain ⟨_, _, q, _⟩ := h; exact q) ?_ ?_
 ·rintro b7 E W Y ⟨J, M, ⟨o, A⟩, d, N, Q, t⟩
  obtain ⟨I, d5, L, T, a2⟩ := ll Y
  rw [L] at t
  refine bg (VQ (mF (i := (b7 : Int)) (x0 := I) aF aC Q o K (aD _) T) (fun d9 Z => V (kE rfl (oy d.has (fun p hq => (Ml hq)) K my Z T aO aC)) (VE (lD d bQ (fun d6 d8 d => VO (lh (.agg (kC I).toArray) ((kC I).toArray) d rfl rfl aC (mH I) nb rfl (fun d7 d => ln (kT (Wh N (Wf oF (VB d Mh rfl rfl aY (V (nF bL rfl) (Wi rfl ?_)))))))))))))
  refine Wf uo (VB d Mh rfl rfl aY (V (nF bL rfl) (Wi rfl (Wi rfl (Wa (lo (lA (kK ?_))))))))
  replace d := d.kD (Db St)
  exact ⟨o, (wi0 .i64 (J + (wi0 .i64 ((wi0 .i64 (5 + (I.kI.size : Int))) + (I.kU.size : Int))))), _, ⟨rfl, A⟩, (d.kD St), rfl, Q, (by rw [a2]; exact t)⟩
 rintro E W ⟨J, M, ⟨o, A⟩, d, N, Q, t⟩
 rw [aG] at t
 refine kK ?_
 replace d := d.kD (Dr St)
 exact sg (Wh N (Wa (lt (rQ t d))))
theorem Mb (x : Value) (y : List kY) (r : Int) (w : World) (u : Sl (Pl lf) 12 (hp w) x y) (hm : Cy y = some r) :
  lg true pg0 84 [x] w (.int .i64 r) := by
 refine cG 37 func84 rfl (fun m => sg (Wa (lr (Wa (lS (Wm ?_))))))
 refine V (lJ aX rfl u) (Wm (ln (lz (fun i E W => ∃ g j, (E 8 = .int .i64 (i : Nat) ∧ E 7 = .int .i64 (y.length : Nat)) ∧ ST true lu w W (hp w) j ∧ E 3 = (.int .i64 g) ∧ E 6 = x ∧ vT (y.drop i) g = some r) y.length u.len ⟨0, _, ⟨rfl, rfl⟩, (m.kD St), rfl, rfl, hm⟩ dc dc dc (fun _ _ _ h => by obtain ⟨_, _, q, _⟩ := h; exact q) ?_ ?_)))
 ·rintro M E W G ⟨g, j, ⟨o, s⟩, m, k, t, a⟩
  obtain ⟨c, v, I, H, J⟩ := ll G
  rw [I] at a
  refine bg (VQ (lY (enc := lf) (i := (M : Int)) (x0 := c) aX cu t o u (aD _) H) (fun Z z => V (kE rfl (lO m.has z eX cu)) (VE (lD m dK (fun N Y m => VO (lh (.agg (lf c).toArray) ((lf c).toArray) m rfl rfl cu (uH c) nb rfl (fun Q m => ln ?_)))))))
  replace m := m.drew
  have d := m.has.kD (Kb Sn)
  refine lN d lB (X 0 rfl d (kM k) (X 1 rfl d (kH Dh rfl) (XH 2 rfl d (fun _ n => kE rfl (kL n Mh (kG c.kB) rfl bM aM)) (X 5 rfl d (kH sX rfl) (X 6 rfl d (kH sP rfl) (XH 7 rfl d (fun _ n => kE rfl (kR n Mh rfl aY)) (X 8 rfl d (nF bL rfl) (X 10 rfl d (kH sX rfl) (X 11 rfl d (kH wS rfl) (X 12 rfl d (kH oF rfl) (XH 13 rfl d (fun _ n => kE rfl (kR n Mh rfl aY)) (X 14 rfl d (nF bL rfl) (X 16 rfl d (kH sX rfl) (X 17 rfl d (kH wS rfl) ?_))))))))))))))
  refine X 18 rfl d (kH uo rfl) (XH 19 rfl d (fun _ n => kE rfl (kR n Mh rfl aY)) (X 20 rfl d (nF bL rfl) (XE 3 rfl (lj (cs := (kG c.kB).toArray) m (mN rfl) (mJ aW aM cg) (fun T D m => ?_)))))
  have d := m.has.kD (Db (Kb Sn))
  refine ⟨d, (bS a fun K B a => XE 4 rfl (Eg m call11 (wC (.slice (some ⟨D, 0, none⟩) 1 1) ([c.kB]) _ _ (Sl.lit (enc := kG) (l := [c.kB]) mT rfl nb rfl (m.at_ Mh)) B) (fun U m => ?_)))⟩
  have d := m.has.kD (Db (Kb Sn))
  refine ⟨d, (X 9 rfl d (lK rfl rfl rfl) (X 15 rfl d (lK rfl rfl rfl) (X 21 rfl d (lK rfl rfl rfl) (X 22 rfl d (lK rfl rfl rfl) (X 23 rfl d (nH rfl) (me kr (lA (kK ?_))))))))⟩
  replace m := m.kD (Db (Db St))
  exact ⟨o, (wi0 .i64 (g + (wi0 .i64 ((wi0 .i64 ((wi0 .i64 (K + (c.kF.ly.size : Int))) + (c.kF.kA.kI.size : Int))) + (c.kF.kA.kU.size : Int))))), _, ⟨rfl, s⟩, (m.kD St), rfl, t, (by rw [J]; exact a)⟩
 rintro E W ⟨g, j, ⟨o, s⟩, m, k, t, a⟩
 rw [aG] at a
 exact kK (sg (Wh k (Wa (lt (rQ a m)))))
theorem Mw (c : lX) (t k : Value) (r : Int) (w : World) (a : Sl (Pl kC) 2 (hp w) t c.lV) (j : Sl (Pl lf) 12 (hp w) k c.lW) (hm : Ao c = some r) :
  lg true pg0 33 [(.agg #[(.int .i64 c.State), (.int .i64 c.ox), t, k])] w (.int .i64 r) := by
 refine cG 28 func33 rfl (fun d => sg ?_)
 obtain ⟨K, N, rfl⟩ := a.form
 obtain ⟨M, Q, rfl⟩ := j.form
 refine VE (lF d rfl (fun W6 s d => Wa (lr (Wf yU (VB d Mh rfl rfl iE (bS hm fun Y T hm => VE (Eg d call84 (Mb (.slice M c.lW.length Q) c.lW _ _ (j.mono (Pl.mono _) d.kN) T) (fun W9 d => Wa (ln (kV (kV ?_)))))))))))
 refine kT (Wf wL (VB d Mh rfl rfl ew (V (lJ aF rfl a) (Wm (ln ?_)))))
 replace d := d.kD (Db St)
 refine lz (fun i E W => ∃ x y, (E 12 = .int .i64 (i : Nat) ∧ E 11 = .int .i64 (c.lV.length : Nat)) ∧ ST true lu w W (hp w) y ∧ E 3 = (.int .i64 x) ∧ E 10 = (.slice K c.lV.length N) ∧ vN (c.lV.drop i) x = some r) c.lV.length a.len ⟨Y, _, ⟨rfl, rfl⟩, (d.kD St), rfl, rfl, hm⟩ dc dc dc (fun _ _ _ h => by obtain ⟨_, _, n, _⟩ := h; exact n) ?_ ?_
 ·rintro U E W D ⟨x, y, ⟨m, o⟩, d, z, B, g⟩
  obtain ⟨u, Z, I, H, J⟩ := ll D
  rw [I] at g
  refine bg (VQ (lY (enc := kC) (i := (U : Int)) (x0 := u) aF aC B m a (aD _) H) (fun a4 G => V (kE rfl (lO d.has G aO aC)) (VE (lD d bQ (fun q a3 d => VO (lh (.agg (kC u).toArray) ((kC u).toArray) d rfl rfl aC (mH u) nb rfl (fun a2 d => ln (kT (Wh z (Wf oF (VB d Mh rfl rfl aY (V (nF bL rfl) (Wi rfl ?_)))))))))))))
  refine Wf uo (VB d Mh rfl rfl aY (V (nF bL rfl) (Wi rfl (Wi rfl (Wa (lo (lA (kK ?_))))))))
  replace d := d.kD (Db St)
  exact ⟨m, (wi0 .i64 (x + (wi0 .i64 ((wi0 .i64 (5 + (u.kI.size : Int))) + (u.kU.size : Int))))), _, ⟨rfl, o⟩, (d.kD St), rfl, B, (by rw [J]; exact g)⟩
 rintro E W ⟨x, y, ⟨m, o⟩, d, z, B, g⟩
 rw [aG] at g
 exact kK (sg (Wh z (Wa (lt (rQ g d)))))
theorem HI (G : Formula → Option Int) (K : ∀ (j : Formula) (g : Value) (r : Int) (w : World) (c : Sl la 5 (hp w) g j.Kids), G j = some r → lg false pg0 77 [(.agg #[(.int .i64 j.Op), (.int .i64 j.K), (.string j.kA.kI), (.string j.kA.kU), g])] w (.int .i64 r)) (j : Formula) (g : Value) (r : Int) (w : World) (c : Sl la 5 (hp w) g j.Kids) (hm : yX G j = some r) :
  lg false pg0 77 [(.agg #[(.int .i64 j.Op), (.int .i64 j.K), (.string j.kA.kI), (.string j.kA.kU), g])] w (.int .i64 r) := by
 refine cG 19 func77 rfl (fun d => sg ?_)
 obtain ⟨U, Y, rfl⟩ := c.form
 refine VE (lF d rfl (fun W4 A d => Wa (lr (Wa (lS (Wf ux (VB d Mh rfl rfl fe (V (lJ bZ rfl c) ?_))))))))
 refine Wm (ln ?_)
 replace d := d.kD (Db St)
 refine lz (fun i E W => ∃ x z, (E 9 = .int .i64 (i : Nat) ∧ E 8 = .int .i64 (j.Kids.length : Nat)) ∧ ST false lu w W (hp w) z ∧ E 3 = (.int .i64 x) ∧ E 7 = (.slice U j.Kids.length Y) ∧ tH G (j.Kids.drop i) x = some r) j.Kids.length c.len ⟨1, _, ⟨rfl, rfl⟩, (d.kD St), rfl, rfl, hm⟩ dc dc dc (fun _ _ _ h => by obtain ⟨_, _, n, _⟩ := h; exact n) ?_ ?_
 ·rintro Z E W J ⟨x, z, ⟨m, o⟩, d, B, D, k⟩
  obtain ⟨a, v, N, M, Q⟩ := ll J
  rw [N] at k
  refine bg (VQ (sE (i := (Z : Int)) (x0 := a) la.out bZ aZ D m c (aD _) M) (fun a5 ⟨_, ⟨s, rfl, y⟩, H⟩ => V (kE rfl (lO d.has H cx aZ)) (VE (lD d dp (fun q a4 d => ?_)))))
  obtain ⟨t, u, rfl⟩ := y.form
  let a0 := (C1 a.Op a.K a.kA.kI a.kA.kU t a.Kids.length u)
  refine VO (lh (.agg a0.toArray) (a0.toArray) d rfl rfl aZ oc nb rfl (fun a2 d => ln (kT (Wh B (VA d Mh a0 cx aZ (bS k fun T I k => VE (Eg d call77 (K a (.slice t a.Kids.length u) _ _ (y.mono lZ.mono d.kN) I) (fun a3 d => Wi rfl (Wa (lo (lA (kK ?_))))))))))))
  replace d := d.kD (Db St)
  exact ⟨m, (wi0 .i64 (x + T)), _, ⟨rfl, o⟩, (d.kD St), rfl, D, (by rw [Q]; exact k)⟩
 rintro E W ⟨x, z, ⟨m, o⟩, d, B, D, k⟩
 rw [aG] at k
 exact kK (sg (Wh B (Wa (lt (rQ k d)))))
theorem GB : ∀ (n : Nat) (c : Formula) (a : Value) (r : Int) (w : World) (g : Sl la 5 (hp w) a c.Kids) (_ : ta n c = some r),
  lg false pg0 77 [(.agg #[(.int .i64 c.Op), (.int .i64 c.K), (.string c.kA.kI), (.string c.kA.kU), a])] w (.int .i64 r)
 | 0 => by intros; rename_i h; simp only [ta] at h; cases h
 | n + 1 => HI (ta n) (GB n)
theorem Iv (I : Formula → Option Int) (N : ∀ (j : Formula) (g : Value) (r : Int) (w : World) (c : Sl la 5 (hp w) g j.Kids), I j = some r → lg false pg0 78 [(.agg #[(.int .i64 j.Op), (.int .i64 j.K), (.string j.kA.kI), (.string j.kA.kU), g])] w (.int .i64 r)) (j : Formula) (g : Value) (r : Int) (w : World) (c : Sl la 5 (hp w) g j.Kids) (hm : zW I j = some r) :
  lg false pg0 78 [(.agg #[(.int .i64 j.Op), (.int .i64 j.K), (.string j.kA.kI), (.string j.kA.kU), g])] w (.int .i64 r) := by
 refine cG 20 func78 rfl (fun d => sg ?_)
 obtain ⟨Y, Z, rfl⟩ := c.form
 refine VE (lF d rfl (fun W4 L d => Wa (lr (Wa (lS (Wf ux (VB d Mh rfl rfl fe (V (lJ bZ rfl c) ?_))))))))
 refine Wm (ln ?_)
 replace d := d.kD (Db St)
 refine lz (fun i E W => ∃ u B, (E 9 = .int .i64 (i : Nat) ∧ E 8 = .int .i64 (j.Kids.length : Nat)) ∧ ST false lu w W (hp w) B ∧ E 3 = (.int .i64 u) ∧ E 7 = (.slice Y j.Kids.length Z) ∧ uB I (j.Kids.drop i) u = some r) j.Kids.length c.len ⟨0, _, ⟨rfl, rfl⟩, (d.kD St), rfl, rfl, hm⟩ dc dc dc (fun _ _ _ h => by obtain ⟨_, _, n, _⟩ := h; exact n) ?_ ?_
 ·rintro q E W M ⟨u, B, ⟨m, o⟩, d, D, G, t⟩
  obtain ⟨a, A, T, Q, U⟩ := ll M
  rw [T] at t
  refine bg (VQ (sE (i := (q : Int)) (x0 := a) la.out bZ aZ G m c (aD _) Q) (fun s ⟨_, ⟨v, rfl, z⟩, J⟩ => V (kE rfl (lO d.has J cx aZ)) (VE (lD d dp (fun a2 a5 d => ?_)))))
  obtain ⟨x, y, rfl⟩ := z.form
  let a0 := (C1 a.Op a.K a.kA.kI a.kA.kU x a.Kids.length y)
  refine VO (lh (.agg a0.toArray) (a0.toArray) d rfl rfl aZ oc nb rfl (fun a3 d => ln (kT (Wh D (VA d Mh a0 cx aZ (bS t fun H K t => VE (Eg d call78 (N a (.slice x a.Kids.length y) _ _ (z.mono lZ.mono d.kN) K) (fun a4 d => V (Ot (k := .i64) rfl rfl) (Wa (lo (lA (kK ?_))))))))))))
  replace d := d.kD (Db St)
  exact ⟨m, (if H > u then H else u), _, ⟨rfl, o⟩, (d.kD St), rfl, G, (by rw [U]; exact t)⟩
 rintro E W ⟨u, B, ⟨m, o⟩, d, D, G, t⟩
 rw [aG] at t
 exact kK (sg (Wh D (Wi rfl (Wa (lt (rQ t d))))))
theorem Hi : ∀ (n : Nat) (c : Formula) (a : Value) (r : Int) (w : World) (g : Sl la 5 (hp w) a c.Kids) (_ : uh n c = some r),
  lg false pg0 78 [(.agg #[(.int .i64 c.Op), (.int .i64 c.K), (.string c.kA.kI), (.string c.kA.kU), a])] w (.int .i64 r)
 | 0 => by intros; rename_i h; simp only [uh] at h; cases h
 | n + 1 => Iv (uh n) (Hi n)
theorem yf (M : ByteArray) (r : Bool) (w : World) (hm : tb M = some r) :
  lg true pg0 138 [(.string M)] w (.bool r) := by
 refine cG 49 func138 rfl (fun d => sg (Wa (lS (Wm (V (se rfl rfl rfl) (Wm (LJ hm (fun c7 E W => ∃ L3, ST true lu w W (hp w) L3 ∧ E 0 = (.string M) ∧ E 11 = (.bool c7)) 4 ?_ (fun c7 K a5 => ?_))))))))
 ·rintro x2 E W ⟨L3, d, s, e6⟩ f7
  refine Wh e6 (LJ f7 (fun c6 E W => ∃ d3, ST true lu w W (hp w) d3 ∧ E 0 = (.string M) ∧ E 16 = (.bool c6)) 4 ?_ (fun c6 x a4 => ?_))
  ·rintro g4 E W ⟨d3, d, q, f4⟩ f0
   refine Wh f4 (LJ f0 (fun c5 E W => ∃ d4, ST true lu w W (hp w) d4 ∧ E 0 = (.string M) ∧ E 21 = (.bool c5)) 4 ?_ (fun c5 u a3 => ?_))
   ·rintro g7 E W ⟨d4, d, f5, f6⟩ Q
    refine ln (CI Q f6 (fun e9 Q => ?_) (fun e9 Q => ?_))
    ·refine sg (Wa (lt (lm ?_)))
     obtain rfl := sj Q
     exact rP d
    refine kS (Wa (ln (mP (ou (fun m E W => ∃ y P, ST true lu w W (hp w) P ∧ E 0 = (.string M) ∧ E 3 = (.int .i64 y) ∧ rJ M m y = some r) lE ⟨0, _, (d.kD St), f5, rfl, Q⟩ ?_))))
    rintro m E W ⟨y, P, d, T, U, c⟩
    cases m with
    | zero => rw [rJ] at c; cases c
    | succ f1 =>
     refine kV (sg (Wh U (Wh T (V (nF bL rfl) (Wi rfl (ln (CI c rfl (fun c8 c => ?_) (fun c8 c => ?_))))))))
     ·refine kn (kV (bg (Wh T (Wh U (bS c fun h a9 c => V (CX (i := y) bL rfl rfl (BZ a9) (F7 a9)) (Wa (lr ?_)))))))
      refine Wm (Wi rfl (Wm (LJ c (fun c4 E W => ∃ R, ST true lu w W (hp w) R ∧ E 0 = (.string M) ∧ E 3 = (.int .i64 y) ∧ E 4 = (.int .u8 (h.toNat : Int)) ∧ E 36 = (.bool c4)) 3 ?_ (fun c4 J a2 => ?_))))
      ·rintro f2 E W ⟨R, d, n, o, N, d5⟩ d0
       refine Wh d5 (LJ d0 (fun c2 E W => ∃ b4, ST true lu w W (hp w) b4 ∧ E 0 = (.string M) ∧ E 3 = (.int .i64 y) ∧ E 4 = (.int .u8 (h.toNat : Int)) ∧ E 44 = (.bool c2)) 7 ?_ (fun c2 H Z => ?_))
       ·rintro g1 E W ⟨b4, d, b9, c0, d6, d7⟩ d1
        refine Wh d7 (LJ d1 (fun c1 E W => ∃ b5, ST true lu w W (hp w) b5 ∧ E 0 = (.string M) ∧ E 3 = (.int .i64 y) ∧ E 48 = (.bool c1)) 3 ?_ (fun c1 G Y => ?_))
        ·rintro g2 E W ⟨b5, d, d8, d9, e0⟩ D
         refine ln (CI D e0 (fun c9 D => ?_) (fun c9 D => ?_))
         ·refine sg (Wa (lt (mu (lm (lm (mu (lm ?_)))))))
          obtain rfl := sj D
          exact rP d
         exact lG (lA (kK (kT (Wh d9 (Wi rfl (Wa (ln ⟨f1, bT _, (wi0 .i64 (y + 1)), _, (d.kD St), d8, rfl, D⟩)))))))
        refine bC G (fun k G => ?_) (fun k G => ?_)
        ·refine ug k (kM d6) (ug k (lK rfl rfl rfl) (V (kX (cB k) rfl) ?_))
         obtain rfl := sj G
         exact Y _ _ ⟨_, (d.kD St), b9, c0, rfl⟩
        refine un k (un k (V (kW (cB k) rfl) ?_))
        obtain rfl := sj G
        exact Y _ _ ⟨_, (d.kD St), b9, c0, rfl⟩
       refine bC H (fun a H => ?_) (fun a H => ?_)
       ·refine ug a (kM N) (ug a (lK rfl rfl rfl) (ug a (kM rfl) (LJ H (fun c3 E W => ∃ b6, ST true lu w W (hp w) b6 ∧ E 0 = (.string M) ∧ E 3 = (.int .i64 y) ∧ E 4 = (.int .u8 (h.toNat : Int)) ∧ E 37 = (.bool f2) ∧ E 43 = (.bool c3)) 3 ?_ (fun c3 I v => ?_))))
        ·rintro g3 E W ⟨b6, d, e1, e2, e3, e4, e7⟩ d2
         refine V (kX (e4.trans (cB a)) e7) ?_
         obtain rfl := sj d2
         exact Z _ _ ⟨_, (d.kD St), e1, e2, e3, rfl⟩
        refine bC I (fun t I => ?_) (fun t I => ?_)
        ·refine un t (un t (ug a (kX (cB t) rfl) ?_))
         obtain rfl := sj I
         exact v _ _ ⟨_, (d.kD St), n, o, N, rfl, rfl⟩
        refine ug t (kM N) (ug t (lK rfl rfl rfl) (ug a (kW (cB t) rfl) ?_))
        obtain rfl := sj I
        exact v _ _ ⟨_, (d.kD St), n, o, N, rfl, rfl⟩
       refine un a (un a (un a (Vu rfl rfl (Vu rfl rfl (un a (V (kW (cB a) rfl) ?_))))))
       obtain rfl := sj H
       exact Z _ _ ⟨_, (d.kD St), n, o, N, rfl⟩
      refine bC J (fun j J => ?_) (fun j J => ?_)
      ·refine un j (un j (V (kX (cB j) rfl) ?_))
       obtain rfl := sj J
       exact a2 _ _ ⟨_, (d.kD St), T, U, rfl, rfl⟩
      refine ug j (kM rfl) (ug j (lK rfl rfl rfl) (V (kW (cB j) rfl) ?_))
      obtain rfl := sj J
      exact a2 _ _ ⟨_, (d.kD St), T, U, rfl, rfl⟩
     exact ot (nT (nT (uj (kK (sg (Wa (lt (rQ c d))))))))
   refine bC u (fun g u => ?_) (fun g u => ?_)
   ·refine un g (un g (un g (V (kX (cB g) rfl) ?_)))
    obtain rfl := sj u
    exact a3 _ _ ⟨_, (d.kD St), q, rfl⟩
   refine ug g (kM q) (bS u fun f8 A u => ug g (CX (i := 0) bL rfl rfl (BZ A) (F7 A)) (ug g (lK rfl rfl rfl) (V (kW (cB g) rfl) ?_)))
   obtain rfl := sj u
   exact a3 _ _ ⟨_, (d.kD St), q, rfl⟩
  refine bC x (fun B x => ?_) (fun B x => ?_)
  ·refine un B (un B (un B (V (kX (cB B) rfl) ?_)))
   obtain rfl := sj x
   exact a4 _ _ ⟨_, (d.kD St), s, rfl⟩
  refine ug B (kM s) (bS x fun f9 L x => ug B (CX (i := 0) bL rfl rfl (BZ L) (F7 L)) (ug B (lK rfl rfl rfl) (V (kW (cB B) rfl) ?_)))
  obtain rfl := sj x
  exact a4 _ _ ⟨_, (d.kD St), s, rfl⟩
 refine bC K (fun z K => ?_) (fun z K => ?_)
 ·refine un z (un z (un z (V (kX (cB z) rfl) ?_)))
  obtain rfl := sj K
  exact a5 _ _ ⟨_, (d.kD St), rfl, rfl⟩
 refine ug z (kM rfl) (ug z (nF bL rfl) (ug z (lK rfl rfl rfl) (V (kW (cB z) rfl) ?_)))
 obtain rfl := sj K
 exact a5 _ _ ⟨_, (d.kD St), rfl, rfl⟩
theorem yd (i : kA) (r : Bool) (w : World) (hm : tf i = some r) :
  lg true pg0 88 [(.agg (kC i).toArray)] w (.bool r) := by
 refine cG 11 func88 rfl (fun d => sg (VE (lF d rfl (fun H J d => Wa (lr (Wf oF (VB d Mh rfl rfl aY (bS hm fun K y hm => VE (Eg d call138 (yf i.kI _ _  y) (fun I d => Wm (LJ hm (fun k E W => ∃ j, ST true lu w W (hp w) j ∧ E 2 = (.bool false) ∧ E 10 = (.bool k)) 4 ?_ (fun k a g => ?_))))))))))))
 ·rintro G E W ⟨j, d, B, x⟩ t
  exact Wg x (lt (rQ t d))
 refine bC a (fun c a => ?_) (fun c a => ?_)
 ·refine ug c (kH uo rfl) (ug c (kE rfl (kR d.has Mh rfl aY)) (bS a fun D u a => qy c (Eg d call138 (yf i.kU _ _  u) (fun z d => V (kX (cB c) rfl) ?_))))
  obtain rfl := sj a
  exact g _ _ ⟨_, (d.kD (Db St)), rfl, rfl⟩
 refine un c (un c (un c (V (kW (cB c) rfl) ?_)))
 obtain rfl := sj a
 exact g _ _ ⟨_, (d.kD (Db St)), rfl, rfl⟩
set_option maxHeartbeats 4000000 in
theorem It (d8 : Formula → Option Bool) (i9 : ∀ (a : Formula) (x : Value) (r : Bool) (w : World) (k : Sl la 5 (hp w) x a.Kids), d8 a = some r → lg false pg0 79 [(.agg #[(.int .i64 a.Op), (.int .i64 a.K), (.string a.kA.kI), (.string a.kA.kU), x])] w (.bool r)) (a : Formula) (x : Value) (r : Bool) (w : World) (k : Sl la 5 (hp w) x a.Kids) (hm : zQ d8 a = some r) :
  lg false pg0 79 [(.agg #[(.int .i64 a.Op), (.int .i64 a.K), (.string a.kA.kI), (.string a.kA.kU), x])] w (.bool r) := by
 refine cG 81 func79 rfl (fun d => sg ?_)
 obtain ⟨A1, c2, rfl⟩ := k.form
 let b8 := (C1 a.Op a.K a.kA.kI a.kA.kU A1 a.Kids.length c2)
 refine VE (lF d rfl (fun W4 H d => Wa (lr (Wf ux (VB d Mh rfl rfl fe (V (lJ bZ rfl k) (Wa (lS ?_))))))))
 refine Wf wY (VB d Mh rfl rfl cH (Wi rfl (ln (CI hm rfl (fun k0 hm => ?_) (fun k0 hm => ?_)))))
 ·refine sg (Wf yM (VA d Mh (kC a.kA) aO aC (bS hm fun r6 k1 hm => VE (Eg d call88 (lg.mz (yd a.kA _ _  k1)) (fun W8 d => Wm (LJ hm (fun h2 E W => ∃ f9, ST false lu w W (hp w) ((H, Ol b8 57) :: f9) ∧ E 1 = (.pointer (some ⟨H, 0, none⟩)) ∧ E 2 = (.bool false) ∧ E 18 = (.bool h2)) 3 ?_ (fun h2 o c8 => ?_)))))))
  ·rintro l5 E W ⟨f9, d, j3, g7, j4⟩ i4
   refine Wh j4 (LJ i4 (fun h1 E W => ∃ g0, ST false lu w W (hp w) g0 ∧ E 2 = (.bool false) ∧ E 23 = (.bool h1)) 4 ?_ (fun h1 a5 c7 => ?_))
   ·rintro l6 E W ⟨g0, d, l4, j5⟩ i5
    refine Wg j5 (lt (lm ?_))
    obtain rfl := sj i5
    exact rP d
   refine bC a5 (fun B a5 => ?_) (fun B a5 => ?_)
   ·refine ug B (kH Ad j3) (ug B (kE rfl (kR d.has Mh rfl cH)) (ug B (lK rfl rfl rfl) (V (kX (cB B) rfl) ?_)))
    obtain rfl := sj a5
    exact c7 _ _ ⟨_, (d.kD (Db St)), g7, rfl⟩
   refine un B (un B (un B (V (kW (cB B) rfl) ?_)))
   obtain rfl := sj a5
   exact c7 _ _ ⟨_, (d.kD (Db St)), g7, rfl⟩
  refine bC o (fun a4 o => ?_) (fun a4 o => ?_)
  ·refine ug a4 (kM rfl) (ug a4 (lK rfl rfl rfl) (V (kX (cB a4) rfl) ?_))
   obtain rfl := sj o
   exact c8 _ _ ⟨_, (d.kD St), rfl, rfl, rfl⟩
  refine un a4 (un a4 (V (kW (cB a4) rfl) ?_))
  obtain rfl := sj o
  exact c8 _ _ ⟨_, (d.kD St), rfl, rfl, rfl⟩
 let a0 := (b8.toArray : Array Value)
 let m : Value := (.pointer (some ⟨H, 0, none⟩))
 refine kS (Wf wY (VB d Mh rfl rfl cH (Wi rfl (Wm (LJ hm (fun e6 E W => ∃ g1, ST false lu w W (hp w) ((H, Obj.cells a0 57 (0, 0)) :: g1) ∧ E 1 = m ∧ E 3 = (.int .i64 (a.Kids.length : Int)) ∧ E 31 = (.bool e6)) 4 ?_ (fun e6 Z c0 => ?_))))))
 ·let s : Value := (.int .i64 (a.Kids.length : Int))
  rintro l7 E W ⟨g1, d, d5, g8, j6⟩ i6
  refine Wh j6 (LJ i6 (fun e5 E W => ∃ g2, ST false lu w W (hp w) ((H, Obj.cells a0 57 (0, 0)) :: g2) ∧ E 1 = m ∧ E 3 = s ∧ E 37 = (.bool e5)) 5 ?_ (fun e5 Y b9 => ?_))
  ·rintro l8 E W ⟨g2, d, g9, d6, j7⟩ i7
   refine Wh j7 (LJ i7 (fun e4 E W => ∃ g3, ST false lu w W (hp w) ((H, Obj.cells a0 57 (0, 0)) :: g3) ∧ E 1 = m ∧ E 3 = s ∧ E 41 = (.bool e4)) 3 ?_ (fun e4 U b7 => ?_))
   ·rintro l9 E W ⟨g3, d, A, h0, j8⟩ q
    refine ln (CI q j8 (fun i3 q => ?_) (fun i3 q => ?_))
    ·refine sg (Wa (ln ?_))
     replace d := d.kD (Db St)
     refine lx (lm ?_)
     obtain rfl := sj q
     exact rP d
    refine kS (V (kH wY A) (VB d Mh rfl rfl cH (Wi rfl (Wm (LJ q (fun e3 E W => ∃ g4, ST false lu w W (hp w) ((H, Obj.cells a0 57 (0, 0)) :: g4) ∧ E 1 = m ∧ E 3 = s ∧ E 49 = (.bool e3)) 4 ?_ (fun e3 T b6 => ?_))))))
    ·rintro R E W ⟨g4, d, n, d7, j9⟩ i8
     refine Wh j9 (LJ i8 (fun d9 E W => ∃ c9, ST false lu w W (hp w) ((H, Obj.cells a0 57 (0, 0)) :: c9) ∧ E 1 = m ∧ E 69 = (.bool d9)) 19 ?_ (fun d9 K b1 => ?_))
     ·rintro l0 E W ⟨c9, d, h3, h4⟩ J
      refine ln (CI J h4 (fun e8 J => ?_) (fun e8 J => ?_))
      ·refine sg (Wa (ln ?_))
       replace d := d.kD (Db St)
       refine lx (lm ?_)
       obtain rfl := sj J
       exact rP d
      refine kS (V (kH ux h3) (VB d Mh rfl rfl fe (V (lJ bZ rfl k) (Wm (ln ?_)))))
      replace d := d.kD (Db St)
      refine lz (fun i E W => ∃ c1, (E 73 = .int .i64 (i : Nat) ∧ E 72 = .int .i64 (a.Kids.length : Nat)) ∧ ST false lu w W (hp w) c1 ∧ E 71 = (.slice A1 a.Kids.length c2) ∧ uQ d8 (a.Kids.drop i) = some r) a.Kids.length k.len ⟨_, ⟨rfl, rfl⟩, (d.kD St), rfl, J⟩ dc dc dc (fun _ _ _ h => by obtain ⟨_, aa, _⟩ := h; exact aa) ?_ ?_
      ·rintro j0 E W f0 ⟨c1, ⟨eI, eN⟩, d, L, j⟩
       obtain ⟨g, k2, f7, f6, f8⟩ := ll f0
       rw [f7] at j
       refine bg (VQ (sE (i := (j0 : Int)) (x0 := g) la.out bZ aZ L eI k (aD _) f6) (fun k7 ⟨_, ⟨k9, rfl, c6⟩, f4⟩ => V (kE rfl (lO d.has f4 cx aZ)) (VE (lD d dp (fun k3 k6 d => ?_)))))
       obtain ⟨a9, b0, rfl⟩ := c6.form
       let a2 := (C1 g.Op g.K g.kA.kI g.kA.kU a9 g.Kids.length b0)
       refine VO (lh (.agg a2.toArray) (a2.toArray) d rfl rfl aZ oc nb rfl (fun k4 d => lr (VA d Mh a2 cx aZ (bS j fun k8 f5 j => VE (Eg d call79 (i9 g (.slice a9 g.Kids.length b0) _ _ (c6.mono lZ.mono d.kN) f5) (fun k5 d => V (nr rfl) (ln ?_)))))))
       replace d := d.kD (Db St)
       refine CI j rfl (fun e9 j => ?_) (fun e9 j => ?_)
       ·refine sg (Wa (lt (mu (lm (mu (lm ?_))))))
        obtain rfl := sj j
        exact rP d
       exact lG (lA (kK ⟨eI, _, ⟨rfl, eN⟩, (d.kD St), L, (by rw [f8]; exact j)⟩))
      rintro E W ⟨c1, ⟨eI, eN⟩, d, L, j⟩
      rw [aG] at j
      exact kK (sg (Wa (lt (rQ j d))))
     refine bC K (fun u K => ?_) (fun u K => ?_)
     ·refine un u (un u (un u (un u (Vu rfl rfl (Vu rfl rfl (Vu rfl rfl (Vu rfl rfl (Vu rfl rfl (Vu rfl rfl (Vu rfl rfl (Vu rfl rfl (Vu rfl rfl (Vu rfl rfl (Vu rfl rfl ?_))))))))))))))
      refine Vu rfl rfl (Vu rfl rfl (un u (V (kX (cB u) rfl) ?_)))
      obtain rfl := sj K
      exact b1 _ _ ⟨_, (d.kD St), n, rfl⟩
     refine ug u (kH wY n) (ug u (kE rfl (kR d.has Mh rfl cH)) (ug u (lK rfl rfl rfl) (ug u (kM rfl) (LJ K (fun e0 E W => ∃ d0, ST false lu w W (hp w) ((H, Obj.cells a0 57 (0, 0)) :: d0) ∧ E 1 = m ∧ E 50 = (.bool R) ∧ E 68 = (.bool e0)) 14 ?_ (fun e0 M b2 => ?_)))))
     ·rintro l1 E W ⟨d0, d, h5, h6, h7⟩ f1
      refine V (kW (h6.trans (cB u)) h7) ?_
      obtain rfl := sj f1
      exact b1 _ _ ⟨_, (d.kD St), h5, rfl⟩
     refine bC M (fun c M => ?_) (fun c M => ?_)
     ·refine ug c (kM d7) (ug c (lK rfl rfl rfl) (ug c (kM rfl) (LJ M (fun e2 E W => ∃ d1, ST false lu w W (hp w) ((H, Obj.cells a0 57 (0, 0)) :: d1) ∧ E 1 = m ∧ E 3 = s ∧ E 50 = (.bool R) ∧ E 54 = (.bool (a.Op == 4)) ∧ E 61 = (.bool e2)) 4 ?_ (fun e2 Q b5 => ?_))))
      ·rintro l2 E W ⟨d1, d, P, h8, d3, a3, h9⟩ f2
       refine Vg rfl (a3.trans (cB c)) (kM h9) (LJ f2 (fun e1 E W => ∃ d2, ST false lu w W (hp w) ((H, Obj.cells a0 57 (0, 0)) :: d2) ∧ E 1 = m ∧ E 50 = (.bool R) ∧ E 54 = (.bool (a.Op == 4)) ∧ E 67 = (.bool e1)) 5 ?_ (fun e1 N b4 => ?_))
       ·rintro l3 E W ⟨d2, d, i0, d4, i1, i2⟩ f3
        refine Vg rfl (d4.trans (cB u)) (kX (i1.trans (cB c)) i2) ?_
        obtain rfl := sj f3
        exact b2 _ _ ⟨_, (d.kD St), i0, d4, rfl⟩
       refine bC N (fun t N => ?_) (fun t N => ?_)
       ·refine un t (un t (un t (un t (Vg rfl (a3.trans (cB c)) (kX (cB t) rfl) ?_))))
        obtain rfl := sj N
        exact b4 _ _ ⟨_, (d.kD St), P, d3, a3, rfl⟩
       refine ug t (kH Ad P) (ug t (kE rfl (kR d.has Mh rfl cH)) (ug t (kM h8) (ug t (lK rfl rfl rfl) (Vg rfl (a3.trans (cB c)) (kW (cB t) rfl) ?_))))
       obtain rfl := sj N
       exact b4 _ _ ⟨_, (d.kD St), P, d3, a3, rfl⟩
      refine bC Q (fun y Q => ?_) (fun y Q => ?_)
      ·refine un y (un y (un y (ug c (kX (cB y) rfl) ?_)))
       obtain rfl := sj Q
       exact b5 _ _ ⟨_, (d.kD St), n, d7, rfl, rfl, rfl⟩
      refine ug y (kH Ad n) (ug y (kE rfl (kR d.has Mh rfl cH)) (ug y (lK rfl rfl rfl) (ug c (kW (cB y) rfl) ?_)))
      obtain rfl := sj Q
      exact b5 _ _ ⟨_, (d.kD St), n, d7, rfl, rfl, rfl⟩
     refine un c (un c (un c (Vu rfl rfl (Vu rfl rfl (Vu rfl rfl (un c (un c (Vu rfl rfl (Vu rfl rfl (Vu rfl rfl (Vu rfl rfl (un c (ug u (kW (cB c) rfl) ?_)))))))))))))
     obtain rfl := sj M
     exact b2 _ _ ⟨_, (d.kD St), n, rfl, rfl⟩
    refine bC T (fun G T => ?_) (fun G T => ?_)
    ·refine ug G (kH Ad A) (ug G (kE rfl (kR d.has Mh rfl cH)) (ug G (lK rfl rfl rfl) (V (kX (cB G) rfl) ?_)))
     obtain rfl := sj T
     exact b6 _ _ ⟨_, (d.kD St), A, h0, rfl⟩
    refine un G (un G (un G (V (kW (cB G) rfl) ?_)))
    obtain rfl := sj T
    exact b6 _ _ ⟨_, (d.kD St), A, h0, rfl⟩
   refine bC U (fun I U => ?_) (fun I U => ?_)
   ·refine un I (un I (V (kX (cB I) rfl) ?_))
    obtain rfl := sj U
    exact b7 _ _ ⟨_, (d.kD St), g9, d6, rfl⟩
   refine ug I (kM d6) (ug I (lK rfl rfl rfl) (V (kW (cB I) rfl) ?_))
   obtain rfl := sj U
   exact b7 _ _ ⟨_, (d.kD St), g9, d6, rfl⟩
  refine bC Y (fun z Y => ?_) (fun z Y => ?_)
  ·refine un z (un z (un z (un z (V (kX (cB z) rfl) ?_))))
   obtain rfl := sj Y
   exact b9 _ _ ⟨_, (d.kD St), d5, g8, rfl⟩
  refine ug z (kH yM d5) (ug z (kE rfl (kL d.has Mh (kC a.kA) rfl aO aC)) (ug z (nm (v := (.agg (kC K0).toArray)) vj (mE bQ cI (Hn _ cI) kr)) (ug z (Gp rfl rfl (ns cY) (BD (ob _ a.kA K0))) (V (kW (cB z) rfl) ?_))))
  obtain rfl := sj Y
  exact b9 _ _ ⟨_, (d.kD St), d5, g8, rfl⟩
 refine bC Z (fun D Z => ?_) (fun D Z => ?_)
 ·refine un D (un D (un D (V (kX (cB D) rfl) ?_)))
  obtain rfl := sj Z
  exact c0 _ _ ⟨_, (d.kD St), rfl, rfl, rfl⟩
 refine ug D (kH wY rfl) (ug D (kE rfl (kR d.has Mh rfl cH)) (ug D (lK rfl rfl rfl) (V (kW (cB D) rfl) ?_)))
 obtain rfl := sj Z
 exact c0 _ _ ⟨_, (d.kD St), rfl, rfl, rfl⟩
theorem HO : ∀ (n : Nat) (c : Formula) (a : Value) (r : Bool) (w : World) (g : Sl la 5 (hp w) a c.Kids) (_ : uw n c = some r),
  lg false pg0 79 [(.agg #[(.int .i64 c.Op), (.int .i64 c.K), (.string c.kA.kI), (.string c.kA.kU), a])] w (.bool r)
 | 0 => by intros; rename_i h; simp only [uw] at h; cases h
 | n + 1 => It (uw n) (HO n)
end Go.Proofs.YtbnbdigcbldfhaaGreat
