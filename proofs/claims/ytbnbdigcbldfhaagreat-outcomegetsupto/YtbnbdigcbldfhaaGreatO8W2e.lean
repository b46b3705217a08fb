/- a part of a proof of OutcomeGets -/
import Derived.Test.YtbnbdigcbldfhaaGreatO8W1e
set_option linter.all false
namespace Go.Proofs.YtbnbdigcbldfhaaGreat
open Go.IntKind renaming wrap → wi0
open Go.Proofs.Tryz renaming prog → pg0
open Go.RowKit
set_option maxRecDepth 10000
open Tryz
theorem I4 (f7 : Value) (a0 : List jb) (q : jd) (r : ((List jv) × Bool)) (w : World) (i1 : Sl (Pl jg) 9 (hp w) f7 a0) (hm : vO a0 q = some r) :
  ki false pg0 66 [f7, (.agg (jw q).toArray)] w [] (fun v L1 W' => ∃ y1 S2, v = (.tuple #[y1, (.bool (r.2))]) ∧ L1 = (S2 ++ []) ∧ jy 140 js 12 y1 r.1 S2) := by
 refine vi 60 func66 rfl (fun d => sg (VE (jU d rfl (fun W2 A d => Wa (Wa (lr (Wm (bS hm fun r3 o5 hm => VE (rC d call51 (M2 f7 a0 _ _ (i1.mono (Pl.mono _) d.ju) o5) (fun W5 v9 ao g0 d o1 af f2 => Wm (bS hm fun k5 o2 hm => ?_)))))))))))
 refine VE (rC d call132 (kw.kI (IY f7 a0 _ _ (i1.mono (Pl.mono _) (o1.trans d.ju)) o2)) (fun q3 L n9 g1 d p8 ad o0 => Wa (Wa (lr (VE (BD (P := pg0) (fun (x : jd) => (.agg (jw x).toArray)) (fun (x : Bool) => (Value.bool x)) d (fun q4 q7 o3 d h9 => VE (kl d zeroValue191 (fun q5 t d => ?_)))))))))
 obtain ⟨D, rfl⟩ := h9.form
 refine VO (jD (.map (some D)) (#[(.map (some D))]) d rfl rfl sizeOf191 oc nb rfl (fun q6 d => lr (V (rF (by exact ny rfl) rfl) (Wa (lr (Wa (ln (jo ?_))))))))
 refine sg (Wa (ln (kV (ns (fun m E W => ∃ d3 B b2 f8 d1 b3 Y g9, jC n9 Y ∧ ST false jT w W Y ((t, Ob #[(.map (some D))] 191) :: ((A, Ol (jw q) 38) :: (b2 ++ (b3 ++ (g1 ++ (g0 ++ g9)))))) ∧ E 3 = (.pointer (some ⟨A, 0, none⟩)) ∧ E 6 = v9 ∧ E 7 = L ∧ E 8 = (.pointer (some ⟨t, 0, none⟩)) ∧ E 9 = (.func (.func 133) #[] #[(.pointer (some ⟨t, 0, none⟩))]) ∧ E 10 = d3 ∧ E 11 = (.int .i64 f8) ∧ jy 140 js 12 d3 B b2 ∧ kE (fun (x : jd) => (.agg (jw x).toArray)) (fun (x : Bool) => (Value.bool x)) (.map (some D)) d1 b3 ∧ pN k5 q r3 m B f8 d1 = some r) jX ⟨(.slice none 0 0), ([]), [], (-1), ([]), o3, n9, _, (jC.refl _), (d.je (Kb (Sb (Pr (Pr (Pr Pz))) St))), rfl, rfl, rfl, rfl, rfl, rfl, rfl, (jy.nil _ _ _), h9, hm⟩ ?_))))
 let g6 := (#[(.map (some D))] : Array Value)
 let g5 : Value := (.pointer (some ⟨A, 0, none⟩))
 let e1 := ((jw q).toArray : Array Value)
 let a9 : Value := (.pointer (some ⟨t, 0, none⟩))
 let b8 : Value := (.func (.func 133) #[] #[a9])
 rintro m E W ⟨d3, B, b2, f8, d1, b3, Y, g9, h5, d, l0, h4, l1, l2, l3, e5, l4, d9, j7, y⟩
 cases m with
 | zero => rw [pN] at y; cases y
 | succ n7 =>
  refine jo (sg (Wh l4 (Wh e5 (V (mw aw rfl d9) (Wi rfl (ln (CI y rfl (fun i2 y => ?_) (fun i2 y => ?_))))))))
  ·refine kn (bg (Wh e5 (V (mw aw rfl d9) (Wa (lr (Wh h4 (V (mw aJ rfl f2) (Wm ?_))))))))
   refine ln (zn (EX y (fun a7 E W => ∃ d4 b4 b5 d6 h0, jC Y d6 ∧ ST false jT w W d6 ((t, Obj.cells g6 191 (0, 0)) :: ((A, Obj.cells e1 38 (0, 0)) :: (b4 ++ (b5 ++ (g1 ++ (g0 ++ h0)))))) ∧ E 3 = g5 ∧ E 6 = v9 ∧ E 7 = L ∧ E 8 = a9 ∧ E 9 = b8 ∧ E 10 = d4 ∧ E 11 = (.int .i64 (B.length : Int)) ∧ jy 140 js 12 d4 a7.1 b4 ∧ kE (fun (x : jd) => (.agg (jw x).toArray)) (fun (x : Bool) => (Value.bool x)) (.map (some D)) a7.2 b5) (fun a7 i9 d7 => ?_) ?_))
   ·let g8 : Value := (.int .i64 (B.length : Int))
    refine km (fun i E W => ∃ U a5 K H M a8 e3, (E 30 = .int .i64 (i : Nat) ∧ E 29 = .int .i64 (r3.length : Nat)) ∧ jC Y a8 ∧ ST false jT w W a8 ((t, Obj.cells g6 191 (0, 0)) :: ((A, Obj.cells e1 38 (0, 0)) :: (K ++ (M ++ (g1 ++ (g0 ++ e3)))))) ∧ E 3 = g5 ∧ E 6 = v9 ∧ E 7 = L ∧ E 8 = a9 ∧ E 9 = b8 ∧ E 10 = U ∧ E 11 = g8 ∧ E 28 = v9 ∧ jy 140 js 12 U a5 K ∧ kE (fun (x : jd) => (.agg (jw x).toArray)) (fun (x : Bool) => (Value.bool x)) (.map (some D)) H M ∧ pM k5 q (r3.drop i) a5 H = some a7) r3.length f2.len ⟨d3, B, b2, d1, b3, Y, _, ⟨rfl, rfl⟩, (jC.refl _), (d.je St), l0, h4, l1, l2, l3, e5, rfl, rfl, d9, j7, i9⟩ dc dc dc (fun _ _ _ h => by obtain ⟨_, _, _, _, _, _, _, F, _⟩ := h; exact F) ?_ ?_
    ·rintro f3 E W i6 ⟨U, a5, K, H, M, a8, e3, ⟨s, O⟩, b0, d, e6, e7, b9, e8, c0, e9, f0, f1, e0, a3, j⟩
     obtain ⟨g, o6, k2, g3, k3⟩ := jY i6
     rw [k2] at j
     refine bg (VQ (lE (i := (f3 : Int)) (x0 := g) aJ an f1 s f2 (ak _) g3) (fun p9 j4 => V (jf rfl (pg d.has (fun p n => (Mt (Mt (Ma (Ma (Ma (Ml n))))))) f2 lz j4 g3 aT an)) (VE (kl d bh (fun o9 h3 d => VO (jD (.agg (jg g).toArray) ((jg g).toArray) d rfl rfl an (mo g) nb rfl (fun p0 d => lr (VA d Mh (jg g) aT an (Wh c0 (Wh b9 (bS j fun f5 j6 j => ?_)))))))))))
     refine VE (rC d call130 (ID g b8 (fun (x : (ja × ByteArray)) => tp x.1 x.2 H) L k5 _ _ ⟨133, #[], #[a9], rfl, call133, fun W x r hs hm => (Gp x.1 x.2 t (.map (some D)) H r W (a3.at (fun b o n => hs _ _ ((fun b o n => d.at_ (Mt (Mt (Mt (Ma (Ml n)))))) b o n))) (At.of (hs _ _ (d.at_ (Mt Mh))) _ rfl) hm).kI⟩ (o0.sl (fun _ => rfl) (fun b o n => d.at_ (Mt (Mt (Mt (Ma (Ma (Ml n)))))))) j6) (fun p1 n8 f9 k6 d h7 ab a2 => V (mw bJ rfl a2) (Wm (ln (zn (EX j (fun d2 E W => ∃ d5 b6 b7 h1, ST false jT w W f9 ((t, Obj.cells g6 191 (0, 0)) :: ((A, Obj.cells e1 38 (0, 0)) :: (b6 ++ (b7 ++ (g1 ++ (g0 ++ h1)))))) ∧ E 3 = g5 ∧ E 6 = v9 ∧ E 7 = L ∧ E 8 = a9 ∧ E 9 = b8 ∧ E 10 = d5 ∧ E 11 = g8 ∧ E 28 = v9 ∧ E 29 = (.int .i64 (r3.length : Int)) ∧ E 30 = (.int .i64 (f3 : Int)) ∧ jy 140 js 12 d5 d2.1 b6 ∧ kE (fun (x : jd) => (.agg (jw x).toArray)) (fun (x : Bool) => (Value.bool x)) (.map (some D)) d2.2 b7) (fun d2 j3 d8 => ?_) ?_))))))
     ·refine km (fun i E W => ∃ I a6 G T N e4, (E 39 = .int .i64 (i : Nat) ∧ E 38 = .int .i64 (f5.length : Nat)) ∧ ST false jT w W f9 ((h3, Ol (jg g) 108) :: ((t, Obj.cells g6 191 (0, 0)) :: ((A, Obj.cells e1 38 (0, 0)) :: (G ++ (N ++ (k6 ++ (g1 ++ (g0 ++ e4)))))))) ∧ E 3 = g5 ∧ E 6 = v9 ∧ E 7 = L ∧ E 8 = a9 ∧ E 9 = b8 ∧ E 10 = I ∧ E 11 = g8 ∧ E 13 = (.pointer (some ⟨h3, 0, none⟩)) ∧ E 28 = v9 ∧ E 29 = (.int .i64 (r3.length : Int)) ∧ E 30 = (.int .i64 (f3 : Int)) ∧ E 37 = n8 ∧ jy 140 js 12 I a6 G ∧ kE (fun (x : jd) => (.agg (jw x).toArray)) (fun (x : Bool) => (Value.bool x)) (.map (some D)) T N ∧ oI g q (f5.drop i) a6 T = some d2) f5.length a2.len ⟨U, a5, K, H, M, _, ⟨rfl, rfl⟩, (d.je (Sb (Pr Pz) (Sb (Pr Pz) (Sb (Pr Pz) (Sr (Qr Qz) (Sr (Qr Qz) St)))))), e6, e7, b9, e8, c0, e9, f0, rfl, f1, O, s, rfl, e0, a3, j3⟩ dc dc dc (fun _ _ _ h => by obtain ⟨_, _, _, _, _, _, F, _⟩ := h; exact F) ?_ ?_
      ·rintro n2 E W i7 ⟨I, a6, G, T, N, e4, ⟨s, O⟩, d, Z, c1, c2, Q, c3, c4, c5, c6, c7, c8, c9, d0, a4, J, a⟩
       obtain ⟨c, o7, k4, g4, g7⟩ := jY i7
       rw [k4] at a
       refine bg (VQ (lE (i := (n2 : Int)) (x0 := c) bJ bu d0 s a2 (ak _) g4) (fun q0 j5 => V (jf rfl (pg d.has (fun p n => (Mt (Mt (Mt (Ma (Ma (Ml n))))))) a2 nn j5 g4 cT bu)) (VE (kl d cx (fun p2 p7 d => VO (jD (.agg (jw c).toArray) ((jw c).toArray) d rfl rfl bu (zk c) nb rfl (fun p3 d => lS (V (jf Q (jq d.has (Mt (Mt Mh)) rfl isAgg191)) (VA d Mh (jw c) cT bu (V (ve (k := c) (z := false) (vf := (fun (x : Bool) => (Value.bool x))) JR fZ fe rfl rfl (J.at (fun b o n => d.has.2 b o (Mt (Mt (Mt (Mt (Ma (Ml n))))))))) ?_))))))))))
       refine ln (CI a rfl (fun i3 a => ?_) (fun i3 a => ?_))
       ·refine mI (lZ (sr (jj ?_)))
        replace d := d.je (Db St)
        exact ⟨s, I, a6, G, T, N, _, ⟨rfl, O⟩, (d.je St), Z, c1, c2, Q, c3, c4, c5, c6, c7, c8, c9, d0, a4, J, (by rw [g7]; exact a)⟩
       refine kg (V (jf Q (jq d.has (Mt (Mt Mh)) rfl isAgg191)) (VA d Mh (jw c) cT bu ?_))
       replace d := d.perm (Nr (Qb (Qb (Qb (Qb (Qr Qz))))) Nz)
       refine VO (FL (k := c) (v := true) (vf := (fun (x : Bool) => (Value.bool x)))  JR fZ d J rfl rfl rfl (fun p4 k7 d i0 => lr (Wh c4 (V (jf c6 (jm d.has (Ma (Mt Mh)) (jg g) rfl aT an)) (VA d (Ma Mh) (jw c) cT bu (V (kO (v := (.agg (js (⟨g, c⟩ : jv)).toArray)) (nB rfl rfl) (ku bX cN (MU _ cN) kr)) (VE (kh (cs := (js (⟨g, c⟩ : jv)).toArray) d (mf rfl) (mn aw aV bX) (fun p5 k9 d => ?_)))))))))
       replace d := d.perm (Nr (Qb (Qr (Qb (Qb (Qb (Qb Qz)))))) Nz)
       refine bS a fun f4 i4 a => VE (lC (enc := js) (v := I) (vs := (.slice (some ⟨k9, 0, none⟩) 1 1)) (R := G) d mz dc qJ aw lR.1 lR.2.1 rfl lR.2.2.1 lR.2.2.2 rfl rfl a4 (Sl.lit (enc := js) (l := [(⟨g, c⟩ : jv)]) mz rfl nb rfl (d.at_ (Ma Mh))) i4 (fun p6 f6 h2 d g2 => Wa (ln ?_)))
       replace d := d.je (Kr (Db St))
       refine sg (VA d (Ma (Ma Mh)) (jw c) cT bu (V (jf Z (jm d.has (Ma (Ma (Mt (Mt (Mt Mh))))) (jw q) rfl cT bu)) (V (uL rfl rfl (lN eqGuardType38) (qK (Bb _ c q))) (ln ?_))))
       replace d := d.je (Kr (Kr (Db St)))
       refine CI a rfl (fun i5 a => ?_) (fun i5 a => ?_)
       ·refine sg (Wm (Wa (Wa (ln ?_))))
        replace d := d.je (Kr (Dr (Db (Db (Db (Dr (Dr (Dr St))))))))
        refine jN (kH (jE (kH (jE (kH (jE (kH (jE (kH (jE (kH (jE ?_))))))))))))
        obtain rfl := sj a
        replace d8 : some (Sum.inl (f4, true)) = some a7 := d8
        obtain rfl := sj d8
        replace d7 : some (f4, true) = some r := d7
        obtain rfl := sj d7
        exact rL (v := f6) (u := (.bool true)) rfl rfl rfl ⟨_, _, rfl, (d.J3 (Kr Sn)), f6, h2, rfl, rfl, g2⟩
       exact jW (jV (jj ⟨s, f6, f4, h2, (mC lH T c true), k7, _, ⟨rfl, O⟩, (d.je (Sb (Pr (Pr Pz)) (Sb (Pr (Pr Pz)) (Sb (Pr (Pr Pz)) St)))), Z, c1, c2, Q, c3, rfl, c5, c6, c7, c8, c9, d0, g2, i0, (by rw [g7]; exact a)⟩))
      rintro E W ⟨I, a6, G, T, N, e4, ⟨s, O⟩, d, Z, c1, c2, Q, c3, c4, c5, c6, c7, c8, c9, d0, a4, J, a⟩
      rw [ap] at a
      refine jj ?_
      obtain rfl := sj a
      exact ⟨_, rfl, I, G, N, _, (d.je (Db (Kb (Kb (Kr (Kr (Dr St))))))), Z, c1, c2, Q, c3, c4, c5, c7, c8, c9, a4, J⟩
     rintro ⟨n5, n6⟩ E W ⟨d5, b6, b7, h1, d, m2, m3, m4, m5, m6, m7, m8, m9, n0, n1, k0, k1⟩ j0
     exact jV (jj ⟨n1, d5, n5, b6, n6, b7, f9, _, ⟨rfl, n0⟩, (b0.trans h7), (d.je St), m2, m3, m4, m5, m6, m7, m8, m9, k0, k1, (by rw [k3]; exact j0)⟩)
    rintro E W ⟨U, a5, K, H, M, a8, e3, ⟨s, O⟩, b0, d, e6, e7, b9, e8, c0, e9, f0, f1, e0, a3, j⟩
    rw [ap] at j
    refine jj ?_
    obtain rfl := sj j
    exact ⟨_, rfl, U, K, M, a8, _, b0, (d.je St), e6, e7, b9, e8, c0, e9, f0, e0, a3⟩
   rintro ⟨n3, n4⟩ E W ⟨d4, b4, b5, d6, h0, h6, d, l5, l6, l7, l8, l9, m0, m1, j8, j9⟩ i8
   exact jV (jj ⟨n7, aY _, d4, n3, b4, (B.length : Int), n4, b5, d6, _, (h5.trans h6), (d.je St), l5, l6, l7, l8, l9, m0, m1, j8, j9, i8⟩)
  refine mI (lZ (lZ (sr (jj ?_))))
  replace d := d.je (Db (Db (Dr (Dr (Dr (Dr St))))))
  refine sg (Wa (Wa (lt ?_)))
  obtain rfl := sj y
  refine rL (v := (.slice none 0 0)) (u := (.bool false)) rfl rfl rfl ?_
  replace d := d.PM
  exact ⟨_, _, rfl, (d.J3 (Kr Sn)), (.slice none 0 0), [], rfl, rfl, (jy.nil _ _ _)⟩
theorem Ad (z : Value) (D : List jv) (r : List jd) (w : World) (y : Sl (Pl js) 12 (hp w) z D) (hm : ud D = some r) :
  kw true pg0 150 [z] w 38 jw 3 r := by
 refine vi 19 func150 rfl (fun d => sg (Wa (lr (Wa (lS (Wm ?_))))))
 refine V (kj aw rfl y) (Wm (ln (km (fun i E W => ∃ j B g t, (E 8 = .int .i64 (i : Nat) ∧ E 7 = .int .i64 (D.length : Nat)) ∧ ST true jT w W (hp w) (g ++ t) ∧ E 3 = j ∧ E 6 = z ∧ jy 38 jw 3 j B g ∧ rp (D.drop i) B = some r) D.length y.len ⟨(.slice none 0 0), ([]), [], _, ⟨rfl, rfl⟩, (d.je St), rfl, rfl, (jy.nil _ _ _), hm⟩ dc dc dc (fun _ _ _ h => by obtain ⟨_, _, _, _, n, _⟩ := h; exact n) ?_ ?_)))
 ·rintro Z E W M ⟨j, B, g, t, ⟨m, o⟩, d, u, x, k, a⟩
  obtain ⟨c, F, Q, N, T⟩ := jY M
  rw [Q] at a
  refine bg (VQ (kC (enc := js) (i := (Z : Int)) (x0 := c) aw aV x m y (ak _) N) (fun A I => V (jf rfl (kG d.has I di aV)) (VE (kl d bX (fun s a5 d => VO (jD (.agg (js c).toArray) ((js c).toArray) d rfl rfl aV (qJ c) nb rfl (fun a2 d => ln (jk (Wh u (Wf oV (VA d Mh (jw c.jd) cT bu (VE (kh (cs := (jw c.jd).toArray) d (mf rfl) (mn bJ bu cx) (fun a3 K d => ?_))))))))))))))
  replace d := d.perm (Nr (Qb (Qb Qz)) Nz)
  refine bS a fun U H a => VE (lC (enc := jw) (v := j) (vs := (.slice (some ⟨K, 0, none⟩) 1 1)) (R := g) d nn dc zk bJ sD.1 sD.2.1 rfl sD.2.2.1 sD.2.2.2 rfl rfl k (Sl.lit (enc := jw) (l := [c.jd]) nn rfl nb rfl (d.at_ (Ma Mh))) H (fun a4 Y J d G => Wa (jH (jV (jj ?_)))))
  replace d := d.je (Kr (Db (Db St)))
  exact ⟨m, Y, U, J, _, ⟨rfl, o⟩, (d.je St), rfl, x, G, (by rw [T]; exact a)⟩
 rintro E W ⟨j, B, g, t, ⟨m, o⟩, d, u, x, k, a⟩
 rw [ap] at a
 refine jj (sg (Wh u (Wa (lt ?_))))
 obtain rfl := sj a
 exact jR (v := j) rfl rfl ⟨_, g, rfl, d.lU (fun p q => (Ml q)) k.nd, k⟩
theorem D9 (j : Value) (t : List jd) (c : jd) (r : Int) (w : World) (g : Sl (Pl jw) 3 (hp w) j t) (hm : we t c = some r) :
  jJ true pg0 204 [j, (.agg (jw c).toArray)] w (.int .i64 r) := by
 refine cG 19 func204 rfl (fun d => sg (VE (jU d rfl (fun Q J d => Wa (lS (Wm (V (kj bJ rfl g) (Wm (ln ?_)))))))))
 refine km (fun i E W => ∃ k, (E 8 = .int .i64 (i : Nat) ∧ E 7 = .int .i64 (t.length : Nat)) ∧ ST true jT w W (hp w) ((J, Ol (jw c) 38) :: k) ∧ E 0 = j ∧ E 3 = (.pointer (some ⟨J, 0, none⟩)) ∧ pF c (t.drop i) i = some r) t.length g.len ⟨_, ⟨rfl, rfl⟩, (d.je St), rfl, rfl, hm⟩ dc dc dc (fun _ _ _ h => by obtain ⟨_, o, _⟩ := h; exact o) ?_ ?_
 ·rintro K E W B ⟨k, ⟨n, q⟩, d, u, x, a⟩
  obtain ⟨y, M, H, G, I⟩ := jY B
  rw [H] at a
  refine bg (Wh n (Wa (ln (jo ?_))))
  replace d := d.drew
  have m := d.has.je (Kb Sn)
  refine ko m jP (XH 0 rfl m (fun _ p => jf x (jm p Mh (jw c) rfl cT bu)) (X 1 rfl m (jl u) (X 2 rfl m (jl rfl) (XQ 3 rfl m (kC (enc := jw) (i := (K : Int)) (x0 := y) bJ bu rfl rfl g (ak _) G) (fun N D => XH 4 rfl m (fun _ p => jf rfl (kG p D cT bu)) (X 5 rfl m (uL rfl rfl (lN eqGuardType38) (qK (Bb _ c y))) (kz kr (jj (CI a rfl (fun z a => ?_) (fun z a => ?_))))))))))
  ·refine sg (Wm (Wa (ln ?_)))
   replace d := d.je (Db St)
   refine jN (kH (jE (kH (jE ?_))))
   obtain rfl := sj a
   exact rP d
  exact jW (jV (jj ⟨n, _, ⟨rfl, q⟩, (d.je St), u, x, (by rw [I]; exact a)⟩))
 rintro E W ⟨k, ⟨n, q⟩, d, u, x, a⟩
 rw [ap] at a
 refine jj ?_
 replace d := d.je (Db St)
 exact sg (Wa (lt (rQ a d)))
theorem xr (a : Value) (g : List jd) (c : jd) (r : Bool) (w : World) (i : Sl (Pl jw) 3 (hp w) a g) (hm : pu g c = some r) :
  jJ true pg0 153 [a, (.agg (jw c).toArray)] w (.bool r) := by
 refine cG 9 func153 rfl (fun d => sg (VE (jU d rfl (fun k u d => Wa (lr (Wm (VA d Mh (jw c) cT bu (bS hm fun x j hm => VE (Eg d call204 (D9 a g c _ _ (i.mono (Pl.mono _) d.ju) j) (fun t d => Wi rfl (Wa ?_)))))))))))
 refine ln ?_
 exact jN (rQ hm d)
theorem Bt (j : Value) (t : List jd) (c : jd) (r : Int) (w : World) (g : Sl (Pl jw) 3 (hp w) j t) (hm : tU t c = some r) :
  jJ true pg0 287 [j, (.agg (jw c).toArray)] w (.int .i64 r) := by
 refine cG 19 func287 rfl (fun d => sg (VE (jU d rfl (fun Q J d => Wa (lS (Wm (V (kj iD rfl g) (Wm (ln ?_)))))))))
 refine km (fun i E W => ∃ k, (E 8 = .int .i64 (i : Nat) ∧ E 7 = .int .i64 (t.length : Nat)) ∧ ST true jT w W (hp w) ((J, Ol (jw c) 38) :: k) ∧ E 0 = j ∧ E 3 = (.pointer (some ⟨J, 0, none⟩)) ∧ nR c (t.drop i) i = some r) t.length g.len ⟨_, ⟨rfl, rfl⟩, (d.je St), rfl, rfl, hm⟩ dc dc dc (fun _ _ _ h => by obtain ⟨_, o, _⟩ := h; exact o) ?_ ?_
 ·rintro K E W B ⟨k, ⟨n, q⟩, d, u, x, a⟩
  obtain ⟨y, M, H, G, I⟩ := jY B
  rw [H] at a
  refine bg (Wh n (Wa (ln (jo ?_))))
  replace d := d.drew
  have m := d.has.je (Kb Sn)
  refine ko m jP (XH 0 rfl m (fun _ p => jf x (jm p Mh (jw c) rfl cT bu)) (X 1 rfl m (jl u) (X 2 rfl m (jl rfl) (XQ 3 rfl m (kC (enc := jw) (i := (K : Int)) (x0 := y) iD bu rfl rfl g (ak _) G) (fun N D => XH 4 rfl m (fun _ p => jf rfl (kG p D cT bu)) (X 5 rfl m (uL rfl rfl (lN eqGuardType38) (qK (Bb _ c y))) (kz kr (jj (CI a rfl (fun z a => ?_) (fun z a => ?_))))))))))
  ·refine sg (Wm (Wa (ln ?_)))
   replace d := d.je (Db St)
   refine jN (kH (jE (kH (jE ?_))))
   obtain rfl := sj a
   exact rP d
  exact jW (jV (jj ⟨n, _, ⟨rfl, q⟩, (d.je St), u, x, (by rw [I]; exact a)⟩))
 rintro E W ⟨k, ⟨n, q⟩, d, u, x, a⟩
 rw [ap] at a
 refine jj ?_
 replace d := d.je (Db St)
 exact sg (Wa (lt (rQ a d)))
theorem z8 (a : Value) (g : List jd) (c : jd) (r : Bool) (w : World) (i : Sl (Pl jw) 3 (hp w) a g) (hm : pJ g c = some r) :
  jJ true pg0 249 [a, (.agg (jw c).toArray)] w (.bool r) := by
 refine cG 9 func249 rfl (fun d => sg (VE (jU d rfl (fun k u d => Wa (lr (Wm (VA d Mh (jw c) cT bu (bS hm fun x j hm => VE (Eg d call287 (Bt a g c _ _ (i.mono (Pl.mono _) d.ju) j) (fun t d => Wi rfl (Wa ?_)))))))))))
 refine ln ?_
 exact jN (rQ hm d)
theorem wY (c : Value) (i : List jd) (a : ja) (g : ByteArray) (r : Bool) (w : World) (j : Sl (Pl jw) 3 (hp w) c i) (hm : rj i a g = some r) :
  jJ true pg0 202 [c, (.agg (jc a).toArray), (.string g)] w (.bool r) := by
 refine cG 12 func202 rfl (fun d => sg (VE (jU d rfl (fun t x d => Wa (lr (Wm (VA d Mh (jc a) au ag (Wm (V (kO (v := (.agg (jw (⟨a, g⟩ : jd)).toArray)) (nB rfl rfl) (ku cx bn (B4 _ bn) kr)) (bS hm fun y k hm => VE (Eg d call249 (z8 c i (⟨a, g⟩ : jd) _ _ (j.mono (Pl.mono _) d.ju) k) (fun u d => ?_))))))))))))
 refine Wa (ln ?_)
 exact jN (rQ hm d)
theorem zQ (g : Value) (t : List jd) (j : Value) (B : jd → Option Bool) (r : Int) (w : World) (c : Sl (Pl jw) 3 (hp w) g t) (D : qZ pg0 j (hp w) (fun (x : jd) => [(.agg (jw x).toArray)]) (fun (r : Bool) => (.bool r)) B) (hm : rK t B = some r) :
  jJ false pg0 288 [g, j] w (.int .i64 r) := by
 refine cG 19 func288 rfl (fun d => sg (Wa (lS (Wm (V (kj iD rfl c) (Wm (ln (km (fun i E W => ∃ k, (E 8 = .int .i64 (i : Nat) ∧ E 7 = .int .i64 (t.length : Nat)) ∧ ST false jT w W (hp w) k ∧ E 0 = g ∧ E 1 = j ∧ mK B (t.drop i) i = some r) t.length c.len ⟨_, ⟨rfl, rfl⟩, (d.je St), rfl, rfl, hm⟩ dc dc dc (fun _ _ _ h => by obtain ⟨_, n, _⟩ := h; exact n) ?_ ?_))))))))
 ·rintro Q E W H ⟨k, ⟨m, o⟩, d, u, y, a⟩
  obtain ⟨z, T, M, K, N⟩ := jY H
  rw [M] at a
  refine bg (Wh m (Wa (lr (Wh y (Wh u (Wm (VQ (kC (enc := jw) (i := (Q : Int)) (x0 := z) iD bu rfl rfl c (ak _) K) (fun Y I => V (jf rfl (kG d.has I cT bu)) (bS a fun Z J a => ?_)))))))))
  refine VE (yP z d D (jC.refl _) rfl (ny rfl) J (fun U d => ln (CI a rfl (fun G a => ?_) (fun G a => ?_))))
  ·refine sg (Wm (Wa (lt (kH (jE (kH (jE ?_)))))))
   obtain rfl := sj a
   exact rP d
  exact jW (jV (jj ⟨m, _, ⟨rfl, o⟩, (d.je St), u, y, (by rw [N]; exact a)⟩))
 rintro E W ⟨k, ⟨m, o⟩, d, u, y, a⟩
 rw [ap] at a
 exact jj (sg (Wa (lt (rQ a d))))
theorem yv (a : Value) (g : List jd) (c : Value) (i : jd → Option Bool) (r : Bool) (w : World) (j : Sl (Pl jw) 3 (hp w) a g) (k : qZ pg0 c (hp w) (fun (x : jd) => [(.agg (jw x).toArray)]) (fun (r : Bool) => (.bool r)) i) (hm : nZ g i = some r) :
  jJ false pg0 250 [a, c] w (.bool r) := by
 refine cG 9 func250 rfl (fun d => sg (Wa (lr (Wm (Wm (bS hm fun y t hm => VE (Eg d call288 (zQ a g c i _ _ (j.mono (Pl.mono _) d.ju) (k.mono d.ju) t) (fun u d => Wi rfl (Wa (jH ?_))))))))))
 exact jj (jN (rQ hm d))
theorem Cx (i : jd) (t : Nat) (K : ja) (u : Nat) (g : Value) (M : List jd) (x : Nat) (k : ByteArray) (z : Nat) (B : ByteArray) (r : Bool) (w : World) (D : At (hp w) (.pointer (some ⟨t, 0, none⟩)) (jc K)) (N : Sl (Pl jw) 3 (hp w) g M) (G : At (hp w) (.pointer (some ⟨u, 0, none⟩)) [g]) (H : At (hp w) (.pointer (some ⟨x, 0, none⟩)) [(.string k)]) (I : At (hp w) (.pointer (some ⟨z, 0, none⟩)) [(.string B)]) (hm : sf i K M k B = some r) :
  jJ true pg0 251 [(.agg (jw i).toArray), (.pointer (some ⟨t, 0, none⟩)), (.pointer (some ⟨u, 0, none⟩)), (.pointer (some ⟨x, 0, none⟩)), (.pointer (some ⟨z, 0, none⟩))] w (.bool r) := by
 refine cG 20 func251 rfl (fun d => sg (VE (jU d rfl (fun W2 m d => Wa (lr (Wf yz (VA d Mh (jc i.ja) au ag (V (jf rfl (kG d.has D au ag)) (V (uL rfl rfl (lN ck) (qK (ni _ i.ja K))) (Wm (LJ hm (fun J E W => ∃ T, ST true jT w W (hp w) T ∧ E 6 = (.bool false) ∧ E 19 = (.bool J)) 8 ?_ (fun J c j => ?_))))))))))))
 ·rintro x7 E W ⟨T, d, h, U⟩ Y
  exact Wg U (lt (rQ Y d))
 refine bC c (fun a c => ?_) (fun a c => ?_)
 ·refine ug a (jf rfl (lL d.has (y := g) G isAgg250)) (ug a (jh rV rfl) (ug a (jf rfl (jq d.has Mh rfl aG)) (ug a (jf rfl (lL d.has (y := (.string k)) H aG)) (ug a (kO (v := (.agg (jc (⟨i.jL, k⟩ : ja)).toArray)) (nB rfl rfl) (ku bj bA (EC _ bA) kr)) (ug a (jf rfl (lL d.has (y := (.string B)) I aG)) (bS c fun a2 Q c => pV a (Eg d call202 (wY g M (⟨i.jL, k⟩ : ja) B _ _ (N.mono (Pl.mono _) d.ju) Q) (fun Z d => V (jz (cB a) rfl) ?_))))))))
  obtain rfl := sj c
  exact j _ _ ⟨_, (d.je (Db St)), rfl, rfl⟩
 refine un a (un a (un a (un a (un a (un a (un a (V (jA (cB a) rfl) ?_)))))))
 obtain rfl := sj c
 exact j _ _ ⟨_, (d.je (Db St)), rfl, rfl⟩
theorem Ep (k : Value) (a : List jd) (g : ja) (i j : ByteArray) (r : Bool) (w : World) (c : Sl (Pl jw) 3 (hp w) k a) (hm : wL a g i j = some r) :
  jJ false pg0 203 [k, (.agg (jc g).toArray), (.string i), (.string j)] w (.bool r) := by
 refine cG 12 func203 rfl (fun d => sg ?_)
 obtain ⟨t, D, rfl⟩ := c.form
 refine VE (jU d rfl (fun K u d => VE (jU d rfl (fun M y d => VE (jU d rfl (fun N z d => VE (jU d rfl (fun H B d => Wa (lr (VB d (Mt (Mt (Mt Mh))) rfl rfl isAgg250 (V (rF (by exact TC rfl rfl rfl rfl) rfl) (bS hm fun J G hm => VE (Eg d call250 (yv (.slice t a.length D) a (.func (.func 251) #[] #[(.pointer (some ⟨y, 0, none⟩)), (.pointer (some ⟨u, 0, none⟩)), (.pointer (some ⟨z, 0, none⟩)), (.pointer (some ⟨B, 0, none⟩))]) (fun (x : jd) => sf x g a i j) _ _ (c.mono (Pl.mono _) d.ju) ⟨251, #[], #[(.pointer (some ⟨y, 0, none⟩)), (.pointer (some ⟨u, 0, none⟩)), (.pointer (some ⟨z, 0, none⟩)), (.pointer (some ⟨B, 0, none⟩))], rfl, call251, fun W x r h hm => (Cx x y g u (.slice t a.length D) a z i B j r W (At.of (h _ _ (d.at_ (Mt (Mt Mh)))) _ rfl) (c.mono (Pl.mono _) (d.ju.trans h)) (At.of (h _ _ (d.at_ (Mt (Mt (Mt Mh))))) _ rfl) (At.of (h _ _ (d.at_ (Mt Mh))) _ rfl) (At.of (h _ _ (d.at_ Mh)) _ rfl) hm).kI⟩ G) (fun I d => Wa (jH ?_)))))))))))))))
 refine jj ?_
 exact jN (rQ hm d)
theorem y7 (i : jv) (k : Value) (G : List jd) (r : Bool) (w : World) (x : Sl (Pl jw) 3 (hp w) k G) (hm : sh i G = some r) :
  jJ false pg0 152 [(.agg (js i).toArray), k] w (.bool r) := by
 refine cG 67 func152 rfl (fun d => sg (VE (jU d rfl (fun W2 m d => Wa (ln (jo ?_))))))
 replace d := d.drew
 have h := d.has.je (Kb Sn)
 refine ko h jP (X 0 rfl h (jl rfl) (X 1 rfl h (jh wU rfl) (XH 2 rfl h (fun _ q => jf rfl (jm q Mh (jg i.jb) rfl aT an)) (XE 3 rfl (kl d bh (fun a9 n d => ?_))))))
 have h := d.has.je (Db (Kb Sn))
 refine ⟨h, (X 4 rfl h (lO rfl) (XO 5 rfl (jD (.agg (jg i.jb).toArray) ((jg i.jb).toArray) d rfl rfl an (mo i.jb) nb rfl (fun s d => ?_))))⟩
 have h := d.has.je (Db (Kb Sn))
 refine ⟨h, (kz kr (jj (jo (sg (VA d Mh (jg i.jb) aT an (bS hm fun P Y hm => VE (Eg d iM (jJ.kI (rU i.jb _ _  Y)) (fun v d => V (lM rfl) (Wm (LJ hm (fun K E W => ∃ H, ST false jT w W (hp w) ((n, Ol (jg i.jb) 108) :: ((m, Ol (js i) 140) :: H)) ∧ E 2 = (.pointer (some ⟨m, 0, none⟩)) ∧ E 5 = k ∧ E 6 = (.pointer (some ⟨n, 0, none⟩)) ∧ E 20 = (.bool K)) 7 ?_ (fun K u D => ?_)))))))))))⟩
 ·rintro c4 E W ⟨H, d, y, z, t, o⟩ a
  refine ln (CI a o (fun M a => ?_) (fun M a => ?_))
  ·refine sg (Wa (ln ?_))
   replace d := d.je (Db (Db St))
   refine jN (jE ?_)
   obtain rfl := sj a
   exact rP d
  refine kS (V (jh mh t) (VB d Mh rfl rfl bl (ln (bg (Wi rfl (Wa (jH ?_)))))))
  refine jj (CI a rfl (fun N a => ?_) (fun N a => ?_))
  ·refine sg (V (jh rq t) (VB d Mh rfl rfl aG (V (jh oV y) (Wf rV (VB d (Mt Mh) rfl rfl aG (V (sQ rfl rfl rfl) (Wa (ln ?_))))))))
   replace d := d.je (Db (Db St))
   refine jN (kH (jE ?_))
   obtain rfl := sj a
   exact rP d
  refine sg (Wi rfl (Wa (ln (CI a rfl (fun Q a => ?_) (fun Q a => ?_)))))
  ·refine sg (Wh z (V (jh lm t) (VA d Mh (jc i.jb.B) au ag (V (jh oV y) (Wf rV (VB d (Mt Mh) rfl rfl aG (bS a fun R Z a => VE (Eg d call202 (jJ.kI (wY k G i.jb.B i.jd.jL _ _ (x.mono (Pl.mono _) d.ju) Z)) (fun A d => Wa (ln ?_))))))))))
   replace d := d.je (Db (Db St))
   refine jN (kH (jE ?_))
   obtain rfl := sj a
   exact rP d
  refine sg (Wi rfl (Wa (ln (CI a rfl (fun T a => ?_) (fun T a => ?_)))))
  ·refine sg (Wh z (V (jh lm t) (VA d Mh (jc i.jb.B) au ag (V (jh pX t) (VB d Mh rfl rfl aG (V (jh oV y) (Wf rV (VB d (Mt Mh) rfl rfl aG (bS a fun c1 a2 a => VE (Eg d call203 (Ep k G i.jb.B i.jb.kk i.jd.jL _ _ (x.mono (Pl.mono _) d.ju) a2) (fun F d => Wa (ln ?_))))))))))))
   replace d := d.je (Db (Db St))
   refine jN (kH (jE ?_))
   obtain rfl := sj a
   exact rP d
  refine jW (jV (jj (sg (Wh z (V (jh lm t) (VA d Mh (jc i.jb.B) au ag (V (jh oV y) (Wf rV (VB d (Mt Mh) rfl rfl aG (bS a fun c2 a3 a => VE (Eg d call202 (jJ.kI (wY k G i.jb.B i.jd.jL _ _ (x.mono (Pl.mono _) d.ju) a3)) (fun L d => Wm (LJ a (fun J E W => ∃ I, ST false jT w W (hp w) I ∧ E 66 = (.bool J)) 8 ?_ (fun J j B => ?_))))))))))))))
  ·rintro c5 E W ⟨I, d, p⟩ U
   exact Wg p (lt (rQ U d))
  refine bC j (fun c j => ?_) (fun c j => ?_)
  ·refine ug c (jl z) (ug c (jh ou t) (ug c (jf rfl (jm d.has Mh (jc i.jb.C) rfl au ag)) (ug c (jh oV y) (ug c (jh rV rfl) (ug c (jf rfl (jq d.has (Mt Mh) rfl aG)) (bS j fun c3 a4 j => pV c (Eg d call202 (jJ.kI (wY k G i.jb.C i.jd.jL _ _ (x.mono (Pl.mono _) d.ju) a4)) (fun O d => V (jz (cB c) rfl) ?_))))))))
   obtain rfl := sj j
   exact B _ _ ⟨_, (d.je (Db (Db St))), rfl⟩
  refine un c (un c (un c (un c (un c (un c (un c (V (jA (cB c) rfl) ?_)))))))
  obtain rfl := sj j
  exact B _ _ ⟨_, (d.je (Db (Db St))), rfl⟩
 refine bC u (fun g u => ?_) (fun g u => ?_)
 ·refine un g (un g (un g (un g (un g (un g (V (jz (cB g) rfl) ?_))))))
  obtain rfl := sj u
  exact D _ _ ⟨_, (d.je St), rfl, rfl, rfl, rfl⟩
 refine ug g (jh oV rfl) (ug g (jh yz rfl) (ug g (jf rfl (jm d.has (Mt Mh) (jc i.jd.ja) rfl au ag)) (ug g (jh mJ rfl) (ug g (jf rfl (jm d.has Mh (jc i.jb.Head) rfl au ag)) (ug g (B3 rfl rfl (lN ck) (xZ (ni _ i.jd.ja i.jb.Head))) (V (jA (cB g) rfl) ?_))))))
 obtain rfl := sj u
 exact D _ _ ⟨_, (d.je St), rfl, rfl, rfl, rfl⟩
theorem CG (j : Value) (y : List jv) (r : Bool) (w : World) (g : Sl (Pl js) 12 (hp w) j y) (hm : uX y = some r) :
  jJ false pg0 191 [j] w (.bool r) := by
 refine cG 22 func191 rfl (fun d => sg (Wa (lr (Wm (bS hm fun Y U hm => VE (rC d call150 (kw.kI (Ad j y _ _ (g.mono (Pl.mono _) d.ju) U)) (fun W3 v7 q R8 d N A T => Wa (ln (jo ?_)))))))))
 refine sg (Wm (V (kj aw rfl g) (Wm (ln (km (fun i E W => ∃ k, (E 10 = .int .i64 (i : Nat) ∧ E 9 = .int .i64 (y.length : Nat)) ∧ ST false jT w W q (R8 ++ k) ∧ E 3 = v7 ∧ E 8 = j ∧ qL Y (y.drop i) i = some r) y.length g.len ⟨_, ⟨rfl, rfl⟩, (d.je St), rfl, rfl, hm⟩ dc dc dc (fun _ _ _ h => by obtain ⟨_, p, _⟩ := h; exact p) ?_ ?_)))))
 ·rintro z E W D ⟨k, ⟨n, s⟩, d, t, u, a⟩
  obtain ⟨c, Z, K, J, M⟩ := jY D
  rw [K] at a
  refine bg (Wh n (VQ (kC (enc := js) (i := (z : Int)) (x0 := c) aw aV u n (g.mono (Pl.mono _) N) (ak _) J) (fun L G => V (jf rfl (kG d.has G di aV)) (VE (kl d bX (fun a2 a5 d => Wa (VO (jD (.agg (js c).toArray) ((js c).toArray) d rfl rfl aV (qJ c) nb rfl (fun a3 d => ln (jo ?_))))))))))
  replace d := d.drew
  have m := d.has.je (Kb Sn)
  refine ko m jP (XH 0 rfl m (fun _ v => jf rfl (jm v Mh (js c) rfl di aV)) (X 1 rfl m (jl t) (X 2 rfl m (jl rfl) (bS a fun _ x a => XQ 3 rfl m (sT (i := (z : Int)) bJ bu rfl rfl T nn (qc x) (qb x)) (fun Q I => bS a fun O H a => XE 4 rfl (Eg d call152 (y7 c Q (Y.take (Int.toNat (z : Int))) _ _ (I.sl nn (fun b o F => d.at_ (Mt (Ml F)))) H) (fun a4 d => ?_)))))))
  have m := d.has.je (Kb Sn)
  refine ⟨m, (X 5 rfl m (lM rfl) (kz kr (jj ?_)))⟩
  replace d := d.je (Db St)
  refine CI a rfl (fun B a => ?_) (fun B a => ?_)
  ·refine sg (Wa (ln ?_))
   replace d := d.je (Dr St)
   refine jN (kH (jE (kH (jE ?_))))
   obtain rfl := sj a
   exact rP d
  exact jW (jV (jj ⟨n, _, ⟨rfl, s⟩, (d.je St), t, u, (by rw [M]; exact a)⟩))
 rintro E W ⟨k, ⟨n, s⟩, d, t, u, a⟩
 rw [ap] at a
 refine jj ?_
 replace d := d.je (Dr St)
 exact sg (Wa (lt (rQ a d)))
theorem zd (g : Value) (i r : List jv) (w : World) (a : Sl (Pl js) 12 (hp w) g i) (hm : pq i = some r) :
  kw true pg0 136 [g] w 140 js 12 r := by
 unfold pq at hm
 refine vi 8 func136 rfl (fun d => sg (Wa (lS (Wm ?_))))
 obtain ⟨y, B, rfl⟩ := a.form
 refine V (BC aw rfl rfl) (ln ?_)
 rcases y with _ | z
 ·have u := a.isNil
  replace hm : some [] = some r := by rw [u] at hm; simpa [lj, maxLen] using hm
  refine vm (rfl) (sg (Wa (lt (jE ?_))))
  obtain rfl := sj hm
  exact jR (v := (.slice none 0 0)) rfl rfl ⟨_, [], rfl, d.lU (fun p h => by cases h) (by simp), jy.nil _ _ _⟩
 ·refine oO (rfl) (kg (VE (kh (cs := #[]) d sG (Dc [] aw aV bX dc rfl (by simp) rfl rfl) (fun G k d => Wm (bS hm fun H t hm => VE (lC (enc := js) (v := (.slice (some ⟨k, 0, none⟩) 0 0)) (vs := (.slice (some z) i.length B)) (R := [(k, Ob #[] 140)]) d mz dc qJ aw lR.1 lR.2.1 rfl lR.2.2.1 lR.2.2.2 rfl rfl (jy.lit (l := []) (enc := js) rfl dc rfl rfl) (a.mono (Pl.mono _) d.ju) t (fun D x j d c => Wa (lt ?_))))))))
  obtain rfl := sj hm
  exact jR (v := x) rfl rfl ⟨_, j, rfl, d.lU (fun p h => (Ml h)) c.nd, c⟩
theorem yf (t : Value) (B : List jv) (k : LO) (D G : Int) (r : List jv) (w : World) {μ0 : jF} (o : na μ0 (k ++ []) w) (c : jy 140 js 12 t B k) (hm : qk B D G = some r) :
  ki true pg0 135 [t, (.int .i64 D), (.int .i64 G)] w (k ++ []) (fun v L1 W' => ∃ n Y, v = n ∧ L1 = (Y ++ []) ∧ jy 140 js 12 n r Y) := by
 refine vg o 33 func135 rfl (fun h => sg (Wa (lr (Wm (Wm (Wm (Wm (V (mw aw rfl c) (bS hm fun _ y hm => VQ (O7 (a := D) (b := G) (m := (B.length : Int)) aw aV c rfl rfl rfl rfl (xj y).1 (xj y).2.1 (xj y).2.2.1 (xj y).2.2.2) (fun v1 s => ?_))))))))))
 refine lS (Wm (Wm (Wi rfl (ln (CI hm rfl (fun Z hm => ?_) (fun Z hm => ?_))))))
 ·refine sg (Wm (Wa (lt (jE ?_))))
  obtain rfl := sj hm
  exact jR (v := t) rfl rfl ⟨_, _, rfl, (h.kF (Kr Sn)), t, k, rfl, rfl, c⟩
 refine kg (Wm (V (mw aw rfl c) (Wa (ln (jo ?_)))))
 replace h := h.drew
 have d := h.has.je Sn
 refine ko d jP (X 0 rfl d (jl rfl) (X 1 rfl d (jl rfl) (bS hm fun _ I hm => XQ 2 rfl d (sT (i := D) aw aV rfl rfl c mz (qc I) (qb I)) (fun F N => X 3 rfl d (jl rfl) (X 4 rfl d (jl rfl) (bS hm fun _ J hm => XQ 5 rfl d (rE (i := G) aw aV rfl rfl c (qc J) (qb J)) (fun L Q => bS hm fun A H hm => XE 6 rfl (J1 (i := (Int.toNat D)) (j := (Int.toNat G))  h c N mz dc qJ aw lR.1 lR.2.2.1 (xj H).1 (xj H).2 Q rfl rfl (fun q K p h u x => ?_)))))))))
 have d := h.has.je Sn
 refine ⟨d, (X 7 rfl d (lO rfl) (kz kr (jj (sg (Wm (Wm (V (mw aw rfl x) (Wm (bS hm fun _ g hm => VQ (Oq (a := ((B.take (Int.toNat D) ++ B.drop (Int.toNat G)).length : Int)) (b := (B.length : Int)) aw aV dc u x rfl rfl rfl (xj g).1 (xj g).2.1 (xj g).2.2.1 (xj g).2.2.2) (fun O T => VO (vX (z := (⟨K7, K9⟩ : jv))  h u mz qJ aw bX T rfl rfl (fun a9 U h M => ln ?_))))))))))))⟩
 refine sg (Wm (Wa (lt ?_)))
 obtain rfl := sj hm
 exact jR (v := K) rfl rfl ⟨_, _, rfl, (h.kF (Kr Sn)), K, U, rfl, rfl, (jy.O9 dc mz u x M (by have := xj g; rw [uc _ _ _ (by omega)]; omega))⟩
theorem IX (g : Value) (y : List jv) (r : Bool) (w : World) (z : Sl (Pl js) 12 (hp w) g y) (hm : xw y = some r) :
  jJ false pg0 134 [g] w (.bool r) := by
 refine cG 40 func134 rfl (fun d => sg (Wa (lr (Wm (bS hm fun v d8 hm => VE (rC d call150 (kw.kI (Ad g y _ _ (z.mono (Pl.mono _) d.ju) d8)) (fun W3 v7 q R8 d a5 a6 H => Wa (ln (jo ?_)))))))))
 refine sg (Wm (V (mw bJ rfl H) (Wm (ln (km (fun i E W => ∃ I, (E 11 = .int .i64 (i : Nat) ∧ E 10 = .int .i64 (v.length : Nat)) ∧ ST false jT w W q (R8 ++ I) ∧ E 0 = g ∧ E 3 = v7 ∧ E 9 = v7 ∧ ru v y (v.drop i) i = some r) v.length H.len ⟨_, ⟨rfl, rfl⟩, (d.je St), rfl, rfl, rfl, hm⟩ dc dc dc (fun _ _ _ h => by obtain ⟨_, F, _⟩ := h; exact F) ?_ ?_)))))
 ·rintro N E W b4 ⟨I, ⟨A, eN⟩, d, u, J, K, a⟩
  obtain ⟨j, e0, c5, U, c6⟩ := jY b4
  rw [c5] at a
  refine bg (Wh A (VQ (lE (i := (N : Int)) (x0 := j) bJ bu K A H (ak _) U) (fun f2 b7 => V (jf rfl (pg d.has (fun p s => (Ml s)) H nn b7 U cT bu)) (VE (kl d cx (fun e4 f1 d => Wa (VO (jD (.agg (jw j).toArray) ((jw j).toArray) d rfl rfl bu (zk j) nb rfl (fun e5 d => ln (jo ?_))))))))))
  replace d := d.drew
  have n := d.has.je (Kb Sn)
  refine ko n jP (X 0 rfl n (jl J) (X 1 rfl n (jl rfl) (bS a fun _ T a => XQ 2 rfl n (sT (i := (N : Int)) bJ bu rfl rfl H nn (qc T) (qb T)) (fun d3 c4 => XH 3 rfl n (fun _ hS => jf rfl (jm hS Mh (jw j) rfl cT bu)) (bS a fun f3 b9 a => XE 4 rfl (Eg d call153 (jJ.kI (xr d3 (v.take (Int.toNat (N : Int))) j _ _ (c4.sl nn (fun b o s => d.at_ (Mt (Ml s)))) b9)) (fun e6 d => ?_)))))))
  have n := d.has.je (Kb Sn)
  refine ⟨n, (kz kr (jj ?_))⟩
  replace d := d.je (Db St)
  refine CI a rfl (fun b0 a => ?_) (fun b0 a => ?_)
  ·refine sg (Wa (ln ?_))
   replace d := d.je (Dr St)
   refine jN (kH (jE (kH (jE ?_))))
   obtain rfl := sj a
   exact rP d
  exact jW (jV (jj ⟨A, _, ⟨rfl, eN⟩, (d.je St), u, J, K, (by rw [c6]; exact a)⟩))
 rintro E W ⟨I, ⟨A, eN⟩, d, u, J, K, a⟩
 rw [ap] at a
 refine jj ?_
 replace d := d.je (Dr St)
 refine jo (sg (Wh u (bS a fun f4 c0 a => VE (Eg d call191 (CG g y _ _ (z.mono (Pl.mono _) (a5.trans d.ju)) c0) (fun e7 d => V (lM rfl) (ln (CI a rfl (fun b1 a => ?_) (fun b1 a => ?_))))))))
 ·refine sg (Wa (lt (jE ?_)))
  obtain rfl := sj a
  exact rP d
 refine kS (Wh u (V (kj aw rfl z) (Wi rfl (V (OM (k := .i64) rfl rfl) (Wm (ln (EX a (fun a7 E W => ∃ Q Y, jC q Q ∧ ST false jT w W Q Y) (fun a7 b6 B => ?_) ?_)))))))
 ·refine kV (ns (fun m E W => ∃ t G Z, jC q G ∧ ST false jT w W G Z ∧ E 0 = g ∧ E 28 = (.int .i64 (if 0 > (wi0 .i64 ((y.length : Int) - 1)) then 0 else (wi0 .i64 ((y.length : Int) - 1)))) ∧ E 29 = (.int .i64 t) ∧ rn y m t = some a7) jX ⟨0, q, _, (jC.refl _), (d.je St), u, rfl, rfl, b6⟩ ?_)
  rintro m E W ⟨t, G, Z, x, d, R, a2, M, c⟩
  cases m with
  | zero => rw [rn] at c; cases c
  | succ d0 =>
   refine sg (V (kv M a2 rfl) (ln (jo (CI c rfl (fun b2 c => ?_) (fun b2 c => ?_)))))
   ·refine kn (jo (bg (Wh M (Wa (lr (Wh R (bS c fun d1 c1 c => VE (rC d call136 (kw.kI (zd g y _ _ (z.mono (Pl.mono _) ((a5.trans x).trans d.ju)) c1)) (fun e8 d4 f7 c9 d a3 L a9 => ?_)))))))))
    refine Wm (Wm (Wi rfl (bS c fun d2 c2 c => ?_)))
    refine VE (eM d (Cr Qz Cn) call135 (fun hh _ => ki.kI (yf d4 d1 c9 t (wi0 .i64 (t + 1)) _ _ hh a9 c2)) ?_)
    rintro _ f6 d6 e1 d a4 O P ⟨d5, e3, D, rfl, c7⟩
    obtain rfl := D.symm
    replace d := d.perm (Tr Tn)
    refine bS c fun f5 c3 c => VE (Eg d call191 (CG d5 d2 _ _ (c7.sl mz (fun b o s => d.at_ (Ml s))) c3) (fun f0 d => ln ?_))
    replace d := d.je (Dr St)
    refine CI c rfl (fun b3 c => ?_) (fun b3 c => ?_)
    ·refine sg (Wa (lt (kH (jE (jE (kH (jE ?_)))))))
     obtain rfl := sj c
     replace B : some false = some r := B
     obtain rfl := sj B
     exact rP d
    exact jW (jV (jj (jk (V (kv M rfl rfl) (Wm (ln ⟨d0, aY _, (wi0 .i64 (t + 1)), d6, _, ((x.trans a3).trans a4), (d.je St), R, a2, rfl, c⟩))))))
   refine mI (lZ (lZ (sr (jj ?_))))
   obtain rfl := sj c
   exact ⟨_, rfl, G, _, x, (d.je St)⟩
 rintro ⟨⟩ E W ⟨Q, Y, d7, d⟩ b5
 exact sg (Wa (lt (rQ b5 d)))
theorem HU (B : Value) (D : List jv) (r : Bool) (w : World) (z : Sl (Pl js) 12 (hp w) B D) (hm : wZ D = some r) :
  jJ false pg0 137 [B] w (.bool r) := by
 refine cG 22 func137 rfl (fun d => sg (Wa (lr (Wa (lS (Wm ?_))))))
 refine V (kj aw rfl z) (Wm (ln (km (fun i E W => ∃ g k j u, (E 8 = .int .i64 (i : Nat) ∧ E 7 = .int .i64 (D.length : Nat)) ∧ ST false jT w W (hp w) (j ++ u) ∧ E 3 = g ∧ E 6 = B ∧ jy 38 jw 3 g k j ∧ qI (D.drop i) k = some r) D.length z.len ⟨(.slice none 0 0), ([]), [], _, ⟨rfl, rfl⟩, (d.je St), rfl, rfl, (jy.nil _ _ _), hm⟩ dc dc dc (fun _ _ _ h => by obtain ⟨_, _, _, _, n, _⟩ := h; exact n) ?_ ?_)))
 ·rintro a2 E W Q ⟨g, k, j, u, ⟨m, p⟩, d, x, y, t, a⟩
  obtain ⟨c, P, U, T, Y⟩ := jY Q
  rw [U] at a
  refine bg (VQ (kC (enc := js) (i := (a2 : Int)) (x0 := c) aw aV y m z (ak _) T) (fun a9 J => V (jf rfl (kG d.has J di aV)) (VE (kl d bX (fun a3 L d => VO (jD (.agg (js c).toArray) ((js c).toArray) d rfl rfl aV (qJ c) nb rfl (fun a4 d => lS (VA d Mh (js c) di aV (Wh x (bS a fun O K a => ?_))))))))))
  refine VE (Eg d call152 (y7 c g k _ _ (t.sl nn (fun b o s => d.at_ (Mt (Ml s)))) K) (fun a5 d => V (lM rfl) (ln (CI a rfl (fun H a => ?_) (fun H a => ?_)))))
  ·refine sg (Wa (ln ?_))
   replace d := d.je (Db (Dr St))
   refine jN (jE (kH (jE (kH (jE ?_)))))
   obtain rfl := sj a
   exact rP d
  refine kn (jk (Wh x (Wf oV (VA d Mh (jw c.jd) cT bu (VE (kh (cs := (jw c.jd).toArray) d (mf rfl) (mn bJ bu cx) (fun A N d => ?_)))))))
  replace d := d.perm (Nr (Qb (Qb Qz)) Nz)
  refine bS a fun Z I a => VE (lC (enc := jw) (v := g) (vs := (.slice (some ⟨N, 0, none⟩) 1 1)) (R := j) d nn dc zk bJ sD.1 sD.2.1 rfl sD.2.2.1 sD.2.2.2 rfl rfl t (Sl.lit (enc := jw) (l := [c.jd]) nn rfl nb rfl (d.at_ (Ma Mh))) I (fun F q M d G => Wa (jH (jV (jj ?_)))))
  replace d := d.je (Kr (Db (Db St)))
  exact ⟨m, q, Z, M, _, ⟨rfl, p⟩, (d.je St), rfl, y, G, (by rw [Y]; exact a)⟩
 rintro E W ⟨g, k, j, u, ⟨m, p⟩, d, x, y, t, a⟩
 rw [ap] at a
 refine jj ?_
 replace d := d.je (Dr St)
 exact sg (Wa (lt (rQ a d)))
theorem FD (q : Value) (a0 : List jv) (k : LO) (r : List jv) (w : World) {μ0 : jF} (h0 : na μ0 (k ++ []) w) (e5 : jy 140 js 12 q a0 k) (hm : uR a0 = some r) :
  ki false pg0 67 [q] w (k ++ []) (fun v L1 W' => ∃ y1 S2, v = y1 ∧ L1 = (S2 ++ []) ∧ jy 140 js 12 y1 r S2) := by
 refine vg h0 25 func67 rfl (fun d => sg (Wa (ln (jo (kV (ns (fun m E W => ∃ i t y x F, jC μ0 x ∧ ST false (keys (k ++ [])) w W x (y ++ F) ∧ E 0 = i ∧ jy 140 js 12 i t y ∧ oR m t = some r) jX ⟨q, a0, k, μ0, _, (jC.refl _), (d.je St), rfl, e5, hm⟩ ?_))))))
 rintro m E W ⟨i, t, y, x, F, b4, d, J, D, c⟩
 cases m with
 | zero => rw [oR] at c; cases c
 | succ d9 =>
  refine jo (sg (Wh J (bS c fun f4 c6 c => VE (Eg d call134 (IX i t _ _ (D.sl mz (fun b o h => d.at_ (Ml h))) c6) (fun f0 d => V (lM rfl) (ln (CI c rfl (fun c0 c => ?_) (fun c0 c => ?_))))))))
  ·refine kn (bg (Wh J (V (mw aw rfl D) (Wi rfl (Wa (ln (zn (CJ c (fun a4 E W => ∃ M H Q L, jC x Q ∧ ST false (keys (k ++ [])) w W Q (H ++ L) ∧ E 0 = M ∧ jy 140 js 12 M a4 H) (fun a4 c4 => ?_) ?_))))))))
   ·refine kV (ns (fun m E W => ∃ u K z j G a9, jC x G ∧ ST false (keys (k ++ [])) w W G (z ++ a9) ∧ E 0 = u ∧ E 3 = (.int .i64 j) ∧ jy 140 js 12 u K z ∧ nI m K j = some a4) jX ⟨i, t, y, (wi0 .i64 ((t.length : Int) - 2)), x, _, (jC.refl _), (d.je St), J, rfl, D, c4⟩ ?_)
    rintro m E W ⟨u, K, z, j, G, a9, Z, d, a3, B, U, g⟩
    cases m with
    | zero => rw [nI] at g; cases g
    | succ e0 =>
     refine jo (sg (Wh B (Wi rfl (ln (CI g rfl (fun c1 g => ?_) (fun c1 g => ?_))))))
     ·refine kn (jo (CJ g (fun P E W => ∃ N I T O, jC G T ∧ ST false (keys (k ++ [])) w W T (I ++ O) ∧ E 0 = N ∧ E 3 = (.int .i64 j) ∧ jy 140 js 12 N P I) (fun P a => ?_) ?_))
      ·refine bg (Wh a3 (bS a fun e1 c7 a => VE (rC d call136 (kw.kI (zd u K _ _ (U.sl mz (fun b o h => d.at_ (Ml h))) c7)) (fun f1 e3 f7 d2 d A n b9 => Wh B (Wh B (Wi rfl (bS a fun e2 c8 a => ?_)))))))
       refine VE (eM d (Cr Qz Cn) call135 (fun hh _ => ki.kI (yf e3 e1 d2 j (wi0 .i64 (j + 1)) _ _ hh b9 c8)) ?_)
       rintro _ f6 b3 e9 d a2 p s ⟨R, d3, Y, rfl, a5⟩
       obtain rfl := Y.symm
       replace d := d.perm (Tr Tn)
       refine Wa (lr (Wm (bS a fun f5 c9 a => VE (Eg d call137 (HU R e2 _ _ (a5.sl mz (fun b o h => d.at_ (Ml h))) c9) (fun f3 d => ln (CI a rfl (fun c2 a => ?_) (fun c2 a => ?_)))))))
       ·refine jk (Wm (Wa (jH (jV (jj ?_)))))
        obtain rfl := sj a
        exact ⟨R, d3, b3, _, (A.trans a2), (d.je (Kr (Dr St))), rfl, B, a5⟩
       refine jW (jV (jj ?_))
       obtain rfl := sj a
       exact ⟨u, z, b3, _, (A.trans a2), (d.je (Dr St)), a3, B, U⟩
      rintro d8 E W ⟨N, I, T, O, b6, d, d5, d6, d1⟩ c5
      exact jk (Wh d6 (Wi rfl (Wa (ln ⟨e0, aY _, N, d8, I, (wi0 .i64 (j - 1)), T, _, (Z.trans b6), (d.je St), d5, rfl, d1, c5⟩))))
     refine mI (lZ (lZ (sr (jj ?_))))
     obtain rfl := sj g
     exact ⟨u, z, G, _, Z, (d.je St), a3, U⟩
   rintro d7 E W ⟨M, H, Q, L, b5, d, d4, d0⟩ c3
   exact jV (jj ⟨d9, aY _, M, d7, H, Q, _, (b4.trans b5), (d.je St), d4, d0, c3⟩)
  refine mI (lZ (lZ (sr (jj (sg (Wh J (Wa (lt ?_))))))))
  obtain rfl := sj c
  exact jR (v := i) rfl rfl ⟨_, _, rfl, (d.kF (Kr Sn)), i, y, rfl, rfl, D⟩
theorem JW (g : Value) (k : List jb) (i : jd) (r : ((List jv) × Bool)) (w : World) (y : Sl (Pl jg) 9 (hp w) g k) (hm : uV k i = some r) :
  ki false pg0 22 [g, (.agg (jw i).toArray)] w [] (fun v T W' => ∃ M I, v = (.tuple #[M, (.bool (r.2))]) ∧ T = (I ++ []) ∧ jy 140 js 12 M r.1 I) := by
 refine vi 18 func22 rfl (fun d => sg (VE (jU d rfl (fun W2 s d => Wa (Wa (lr (Wm (VA d Mh (jw i) cT bu (bS hm fun Y K hm => ?_)))))))))
 refine VE (FO d (cX _) call66 (fun _ _ _ _ => (I4 g k i _ _ (y.mono (Pl.mono _) d.ju) K)) (fun W5 v9 p Z d U o h t => ?_) (L0 := []))
 obtain ⟨N, H, a, rfl, D⟩ := t
 replace a := a.symm; subst a
 replace d := d.perm (Tr Tn)
 refine Wm (Wx rfl (Wx rfl (Wa (Wa (ln ?_)))))
 replace d := d.je (Kr (Db St))
 refine jo (sg (Wm (V (lM rfl) (ln (CI hm rfl (fun z hm => ?_) (fun z hm => ?_))))))
 ·refine sg (Wa (Wa (ln ?_)))
  replace d := d.je (Dr St)
  refine jN (jE ?_)
  obtain rfl := sj hm
  refine rL (v := (.slice none 0 0)) (u := (.bool false)) rfl rfl rfl ?_
  replace d := d.PM
  exact ⟨_, _, rfl, (d.J3 (Kr Sn)), (.slice none 0 0), [], rfl, rfl, (jy.nil _ _ _)⟩
 refine kg (Wm (bS hm fun a4 B hm => ?_))
 refine VE (eM d (Cr Qz Cn) call67 (fun n _ => (FD N Y.1 H _ _ n D B)) ?_)
 rintro _ a5 q a2 d Q m h ⟨j, J, c, rfl, G⟩
 obtain rfl := c.symm
 replace d := d.perm (Tr Tn)
 refine Wa (Wa (lt ?_))
 obtain rfl := sj hm
 exact rL (v := j) (u := (.bool true)) rfl rfl rfl ⟨_, _, rfl, (d.J3 (Kr Sn)), j, J, rfl, rfl, G⟩
theorem Ck (I : Int) (r : List jv) (w : World) (hm : rG I = some r) :
  kw true pg0 198 [(.slice none 0 0), (.int .i64 I)] w 140 js 12 r := by
 refine vi 27 func198 rfl (fun d => sg (Wa (lS (Wm (Wi rfl (ln (CI hm rfl (fun K hm => ?_) (fun K hm => ?_))))))))
 ·cases hm
 refine kn (jo (CJ hm (fun u E W => ∃ g c t, ST true jT w W (hp w) (c ++ t) ∧ E 0 = g ∧ jy 140 js 12 g u c) (fun u a => ?_) ?_))
 ·refine sg (Wm (Wm (V (Kf aw rfl) (Wm (V (zw aw rfl) (Wi rfl (Wi rfl (Wa (lr (Wm ?_))))))))))
  refine Wi rfl (ln (CI a rfl (fun y a => ?_) (fun y a => ?_)))
  ·refine jk (Wm (Wm (V (Kf aw rfl) (V (NI aw aV rfl rfl) (Wm (bS a fun T B a => VE (JC (enc := js) (z := (⟨K7, K9⟩ : jv)) d mz dc aw et lR.1 lR.2.1 lR.2.2.1 lR.2.2.2 rfl rfl rfl B (fun N U H d x => Wm (V (zw aw rfl) (bS a fun _ j a => VQ (sT (i := 0) aw aV rfl rfl x mz (qc j) (qb j)) (fun M G => Wa (ln ?_))))))))))))
   obtain rfl := sj a
   exact ⟨M, H, _, (d.je St), rfl, G⟩
  refine kn ?_
  obtain rfl := sj a
  exact ⟨(.slice none 0 0), [], _, (d.je St), rfl, (jy.nil _ _ _)⟩
 rintro Q E W ⟨g, c, t, d, J, k⟩ D
 refine sg (Wh J (Wa (lt ?_)))
 obtain rfl := sj D
 exact jR (v := g) rfl rfl ⟨_, c, rfl, d.lU (fun p h => (Ml h)) k.nd, k⟩
theorem Dz (t : Value) (z : List (List jv)) (r : List jv) (w : World) (j : Sl (zT js 12) 1 (hp w) t z) (hm : vz z = some r) :
  kw true pg0 145 [t] w 140 js 12 r := by
 refine vi 36 func145 rfl (fun d => sg (Wa (lr (Wa (lS (Wm ?_))))))
 refine V (kj ga rfl j) (Wm (ln (km (fun i E W => ∃ u Q, (E 11 = .int .i64 (i : Nat) ∧ E 10 = .int .i64 (z.length : Nat)) ∧ ST true jT w W (hp w) Q ∧ E 0 = t ∧ E 3 = (.int .i64 u) ∧ E 9 = t ∧ nE z (z.drop i) u = some r) z.length j.len ⟨0, _, ⟨rfl, rfl⟩, (d.je St), rfl, rfl, rfl, hm⟩ dc dc dc (fun _ _ _ h => by obtain ⟨_, _, n, _⟩ := h; exact n) ?_ ?_)))
 ·rintro d1 E W b9 ⟨u, Q, ⟨m, o⟩, d, T, U, Y, a⟩
  obtain ⟨q, e0, c4, c3, c5⟩ := jY b9
  rw [c4] at a
  refine bg (VQ (Gc (enc := js) (k2 := 12) (i := (d1 : Int)) (x0 := q) ga iF Y m j (ak _) c3) (fun e2 ⟨d3, c0, c2⟩ => V (jf rfl (lL d.has (y := d3) c0 eB)) (Wa (lr (Wh U (Wm (V (kj aw rfl c2) (Wi rfl (Wa ?_)))))))))
  refine lr (Wm (Wi rfl (ln (CI a rfl (fun b7 a => ?_) (fun b7 a => ?_)))))
  ·cases a
  exact jW (jV (jj ⟨m, (wi0 .i64 (u + (q.length : Int))), _, ⟨rfl, o⟩, (d.je St), T, rfl, Y, (by rw [c5]; exact a)⟩))
 rintro E W ⟨u, Q, ⟨m, o⟩, d, T, U, Y, a⟩
 rw [ap] at a
 refine jj (sg (Wh U (bS a fun d2 c1 a => VE (rC d call198 (Ck u _ _  c1) (fun e1 d4 s d0 d a4 A b6 => Wa (lS (Wh T (V (kj ga rfl j) (Wm ?_)))))))))
 refine ln (CJ a (fun K E W => ∃ G x N, ST true jT w W s (x ++ N) ∧ E 6 = G ∧ jy 140 js 12 G K x) (fun K L => ?_) ?_)
 ·refine km (fun i E W => ∃ k D g H, (E 27 = .int .i64 (i : Nat) ∧ E 26 = .int .i64 (z.length : Nat)) ∧ ST true jT w W s (g ++ H) ∧ E 6 = k ∧ E 25 = t ∧ jy 140 js 12 k D g ∧ nH (z.drop i) D = some K) z.length j.len ⟨d4, d2, d0, _, ⟨rfl, rfl⟩, (d.je St), rfl, rfl, b6, L⟩ dc dc dc (fun _ _ _ h => by obtain ⟨_, _, _, _, n, _⟩ := h; exact n) ?_ ?_
  ·rintro c6 E W a3 ⟨k, D, g, H, ⟨m, o⟩, d, I, J, B, c⟩
   obtain ⟨c9, d5, b0, a9, b1⟩ := jY a3
   rw [b0] at c
   refine bg (VQ (Gc (enc := js) (k2 := 12) (i := (c6 : Int)) (x0 := c9) ga iF J m (j.mono (zT.mono _ _) a4) (ak _) a9) (fun d8 ⟨Z, O, P⟩ => V (jf rfl (lL d.has (y := Z) O eB)) (Wa (ln (jk (Wh I (Wm (bS c fun c7 a2 c => VE (lC (enc := js) (v := k) (vs := Z) (R := g) d mz dc qJ aw lR.1 lR.2.1 rfl lR.2.2.1 lR.2.2.2 rfl rfl B (P.mono (Pl.mono _) d.ju) a2 (fun d6 c8 b4 d F => Wa (jH ?_)))))))))))
   exact jV (jj ⟨m, c8, c7, b4, _, ⟨rfl, o⟩, (d.je St), rfl, J, F, (by rw [b1]; exact c)⟩)
  rintro E W ⟨k, D, g, H, ⟨m, o⟩, d, I, J, B, c⟩
  rw [ap] at c
  refine jj ?_
  obtain rfl := sj c
  exact ⟨k, g, _, (d.je St), I, B⟩
 rintro d7 E W ⟨G, x, N, d, b5, M⟩ a5
 refine sg (Wh b5 (Wa (lt ?_)))
 obtain rfl := sj a5
 exact jR (v := G) rfl rfl ⟨_, x, rfl, d.lU (fun p hq => (Ml hq)) M.nd, M⟩
theorem I3 (M : Value) (a0 : List (List jv)) (r : List jv) (w : World) (a8 : Sl (zT js 12) 1 (hp w) M a0) (hm : xK a0 = some r) :
  kw true pg0 74 [M] w 140 js 12 r := by
 refine vi 29 func74 rfl (fun d => sg (Wa (lr (VE (BD (P := pg0) (fun (x : jd) => (.agg (jw x).toArray)) (fun (x : Bool) => (Value.bool x)) d (fun W1 v4 R2 d b3 => Wa (lr (Wa ?_))))))))
 refine lS (Wm (bS hm fun A b4 hm => VE (rC d call145 (Dz M a0 _ _ (a8.mono (zT.mono _ _) d.ju) b4) (fun W7 b6 F b2 d c6 L J => V (mw aw rfl J) (Wm (ln (km (fun i E W => ∃ u B j G g K, (E 11 = .int .i64 (i : Nat) ∧ E 10 = .int .i64 (A.length : Nat)) ∧ ST true jT w W F (g ++ (b2 ++ (B ++ K))) ∧ E 3 = v4 ∧ E 4 = j ∧ E 9 = b6 ∧ kE (fun (x : jd) => (.agg (jw x).toArray)) (fun (x : Bool) => (Value.bool x)) v4 u B ∧ jy 140 js 12 j G g ∧ pU (A.drop i) u G = some r) A.length J.len ⟨([]), R2, (.slice none 0 0), ([]), [], _, ⟨rfl, rfl⟩, (d.je St), rfl, rfl, rfl, b3, (jy.nil _ _ _), hm⟩ dc dc dc (fun _ _ _ h => by obtain ⟨_, _, _, _, _, _, q, _⟩ := h; exact q) ?_ ?_)))))))
 ·rintro b5 E W O ⟨u, B, j, G, g, K, ⟨n, s⟩, d, D, H, I, y, t, a⟩
  obtain ⟨c, c8, a3, N, Q⟩ := jY O
  rw [a3] at a
  refine bg (VQ (lE (i := (b5 : Int)) (x0 := c) aw aV I n J (ak _) N) (fun c7 a2 => V (jf rfl (pg d.has (fun p m => (Ma (Ml m))) J mz a2 N di aV)) (VE (kl d bX (fun c0 c5 d => VO (jD (.agg (js c).toArray) ((js c).toArray) d rfl rfl aV (qJ c) nb rfl (fun c1 d => lr (Wh D (Wf oV (VA d Mh (jw c.jd) cT bu (V (ve (k := c.jd) (z := false) (vf := (fun (x : Bool) => (Value.bool x))) JR fZ fe rfl rfl (y.at (fun b o m => d.has.2 b o (Mt (Ma (Ma (Ml m))))))) ?_)))))))))))
  refine V (lM rfl) (ln (CI a rfl (fun Y a => ?_) (fun Y a => ?_)))
  ·refine sg (Wh D (Wf oV (VA d Mh (jw c.jd) cT bu ?_)))
   replace d := d.perm (Nr (Qb (Qr (Qr Qz))) Nz)
   refine VO (FL (k := c.jd) (v := true) (vf := (fun (x : Bool) => (Value.bool x)))  JR fZ d y rfl rfl rfl (fun c2 a4 d T => ln (jk (Wh H (VA d (Ma Mh) (js c) di aV (VE (kh (cs := (js c).toArray) d (mf rfl) (mn aw aV bX) (fun c3 a7 d => ?_))))))))
   replace d := d.perm (Nr (Qb (Qr (Qb Qz))) Nz)
   refine bS a fun a9 Z a => VE (lC (enc := js) (v := j) (vs := (.slice (some ⟨a7, 0, none⟩) 1 1)) (R := g) d mz dc qJ aw lR.1 lR.2.1 rfl lR.2.2.1 lR.2.2.2 rfl rfl t (Sl.lit (enc := js) (l := [c]) mz rfl nb rfl (d.at_ (Ma Mh))) Z (fun c4 b1 a5 d U => Wa (jH (jV (jj ?_)))))
   replace d := d.je (Kr (Db (Kr (Db St))))
   exact ⟨n, (mC lH u c.jd true), a4, b1, a9, a5, _, ⟨rfl, s⟩, (d.je (Kr (Sr (Qr Qz) St))), D, rfl, I, T, U, (by rw [Q]; exact a)⟩
  refine jW (jV (jj ?_))
  replace d := d.je (Db St)
  exact ⟨n, u, B, j, G, g, _, ⟨rfl, s⟩, (d.je St), D, H, I, y, t, (by rw [Q]; exact a)⟩
 rintro E W ⟨u, B, j, G, g, K, ⟨n, s⟩, d, D, H, I, y, t, a⟩
 rw [ap] at a
 refine jj ?_
 replace d := d.je (Kr (Dr (Dr St)))
 refine sg (Wh H (Wa (lt ?_)))
 obtain rfl := sj a
 exact jR (v := j) rfl rfl ⟨_, g, rfl, d.lU (fun p m => (Ml m)) t.nd, t⟩
set_option maxHeartbeats 4000000 in
theorem E7 (a : Al) (a5 a6 b1 c1 b3 c0 : Value) (Y : Formula) (c7 : Value) (Q T : Int) (a4 : Bool) (r : jI) (w : World) {μ0 : jF} (h0 : na μ0 [] w) (H : Sl uf 15 μ0 a5 a.mD.w6) (K : Sl zP 8 μ0 a6 a.mD.A8) (G : Sl (Pl jg) 9 μ0 b1 a.ph) (b0 : Sl (Pl jg) 9 μ0 c1 a.Shown) (a7 : Sl (Pl jc) 2 μ0 b3 a.lV) (a9 : Sl (Pl jc) 2 μ0 c0 a.Dy) (c5 : Sl jZ 5 μ0 c7 Y.Kids) (hm : qz a Y Q T a4 = some r) :
  nr false pg0 27 [(.agg #[(.string a.mD.Name), a5, a6, (.string a.Ae), (.int .i64 a.Room), b1, c1, b3, c0]), (.agg #[(.int .i64 Y.Op), (.int .i64 Y.K), (.string Y.ja.jn), (.string Y.ja.jK), c7]), (.int .i64 Q), (.int .i64 T), (.bool a4)] w μ0 [] (fun v L1 μ1 => ∃ y1 y3, v = (.agg #[(.int .i64 ((r).State)), (.int .i64 ((r).lc)), y1, y3]) ∧ L1 = [] ∧ Sl (Pl jc) 2 μ1 y1 ((r).jM) ∧ Sl (Pl js) 12 μ1 y3 ((r).jO)) := by
 let f9 : Value := (.string a.mD.Name)
 let f2 : Value := (.agg (C5 Q T).toArray)
 refine Qs h0 64 func27 rfl (fun d => sg ?_)
 obtain ⟨A1, c2, rfl⟩ := H.form
 let a1 : Value := (.slice A1 a.mD.w6.length c2)
 obtain ⟨A3, c4, rfl⟩ := K.form
 let a2 : Value := (.slice A3 a.mD.A8.length c4)
 obtain ⟨A5, c6, rfl⟩ := G.form
 let a0 : Value := (.slice A5 a.ph.length c6)
 obtain ⟨A7, c8, rfl⟩ := b0.form
 let b8 : Value := (.slice A7 a.Shown.length c8)
 obtain ⟨A9, d1, rfl⟩ := a7.form
 let a3 : Value := (.slice A9 a.lV.length d1)
 obtain ⟨c9, d2, rfl⟩ := a9.form
 let d7 : Value := (.slice c9 a.Dy.length d2)
 refine VE (jU d rfl (fun r7 h3 d => ?_))
 obtain ⟨h2, h6, rfl⟩ := c5.form
 let f7 := (C1 Y.Op Y.K Y.ja.jn Y.ja.jK h2 Y.Kids.length h6)
 refine VE (jU d rfl (fun r8 m1 d => VE (kl d cJ (fun r9 h4 d => lr (Wm (Wm (V (kO (v := f2) (nB rfl rfl) (ku cJ cQ (MZ _ cQ) kr)) (VE (kl d cJ (fun s0 h5 d => VO (jD f2 ((C5 Q T).toArray) d rfl rfl bz oc nb rfl (fun s1 d => ln (jo (jo ?_))))))))))))))
 refine jk (Wm (V (lM rfl) (Wm (LJ hm (fun i2 E W => ∃ m0, ST false (keys []) w W μ0 ((h5, Ol (C5 Q T) 64) :: ((h4, Ol C6 64) :: ((m1, Ol f7 57) :: ((h3, Ob #[f9, a1, a2, (.string a.Ae), (.int .i64 a.Room), a0, b8, a3, d7] 54) :: m0)))) ∧ E 5 = (.pointer (some ⟨h3, 0, none⟩)) ∧ E 6 = (.pointer (some ⟨m1, 0, none⟩)) ∧ E 10 = (.pointer (some ⟨h4, 0, none⟩)) ∧ E 11 = (.pointer (some ⟨h5, 0, none⟩)) ∧ E 26 = (.bool i2)) 3 ?_ (fun i2 b6 f5 => ?_)))))
 ·rintro s3 E W ⟨m0, d, m2, n0, f3, h7, n1⟩ N
  refine ln (CI N n1 (fun m5 N => ?_) (fun m5 N => ?_))
  ·refine sg (V (jf h7 (jm d.has Mh (C5 Q T) rfl cD bz)) ?_)
   replace d := d.perm (Nb (Pb Pz) Nz)
   refine VO (jD f2 ((C5 Q T).toArray) d f3 rfl bz oc nb rfl (fun s2 d => ln ?_))
   replace d := d.je (Kb (Db (Db (Db St))))
   refine jN (jE ?_)
   obtain rfl := sj N
   exact oE (v := f2) rfl f3 (jm d.has Mh (C5 Q T) rfl cD bz) ⟨_, _, _, rfl, (d.kF Sn), (jC.refl _), Lo.refl, (ST.kf d (ly.mem Sn)), (.slice none 0 0), (.slice none 0 0), rfl, rfl, (Sl.nil _ _ _), (Sl.nil _ _ _)⟩
  refine kn (jo ?_)
  replace d := d.drew
  have m := d.has.je (Db (Db (Kb (Kb Sn))))
  refine ko m jP (XH 0 rfl m (fun _ hS => jf n0 (jm hS Mh f7 rfl cC bI)) (XH 1 rfl m (fun _ hS => jf m2 (jm hS (Mt Mh) [f9, a1, a2, (.string a.Ae), (.int .i64 a.Room), a0, b8, a3, d7] rfl isAgg54 sizeOf54)) (bS N fun t k5 N => ?_)))
  refine XE 2 rfl (FO d (cX _) call73 (fun _ _ _ _ => (Ox a a1 a2 a0 b8 a3 d7 _ _ (H.mono KL.mono d.ju) (K.mono SN.mono d.ju) (G.mono (Pl.mono _) d.ju) (b0.mono (Pl.mono _) d.ju) (a7.mono (Pl.mono _) d.ju) (a9.mono (Pl.mono _) d.ju) k5)) (fun o6 q0 q6 n7 d z q ba i8 => ?_) (L0 := []))
  obtain ⟨e1, g2, i3, o0, i4, o1, i5, o2, i6, o3, i7, o4, e2, e7, rfl, l5, l6, l7, l8, l9⟩ := i8
  replace e7 := e7.symm; subst e7
  replace d := d.perm (Tb (Tb (Tb (Tr (Tr (Tr (Tr (Tr Tn))))))))
  have m := d.has.oW z (Db (Db (Db (Dr (Dr (Dr (Dr (Dr (Db (Db (Kb (Kb Sn))))))))))))
  refine ⟨m, ?_⟩
  replace d := d.perm (Nr (Qb (Qb (Qb Qz))) Nz)
  obtain ⟨q7, d, D, s, j8⟩ := ST.yk d
  replace d := d.perm (Nr (Qb (Qb (Qb Qz))) Nz)
  obtain ⟨q8, d, B, A, k9⟩ := ST.xP d l6 lz
  replace d := d.perm (Nr (Qb (Qb (Qb Qz))) Nz)
  obtain ⟨q9, d, y, F, j9⟩ := ST.yk d
  replace d := d.perm (Nr (Qb (Qb (Qb Qz))) Nz)
  obtain ⟨r0, d, u, L, k0⟩ := ST.yk d
  replace d := d.perm (Nr (Qb (Qb (Qb Qz))) Nz)
  obtain ⟨r1, d, k, O, l0⟩ := ST.Te d l9 nn
  replace d := d.perm (Nb (Pb Pz) Nz)
  obtain ⟨r2, d, j, P, k1⟩ := ST.yk (R := [(g2, Ob #[i3, i4, i5, i6, i7, (.int .i64 (t.2.2.2.2.2.1))] 174)]) d
  have j3 := At.of (k1 _ _ (.head _)) _ rfl
  obtain ⟨r3, d, g, ab, k2⟩ := ST.yk (R := [(e1, Ob #[(.pointer (some ⟨g2, 0, none⟩))] 101)]) d
  have j4 := At.of (k2 _ _ (.head _)) _ rfl
  obtain ⟨r4, d, c, ad, k3⟩ := ST.yk (R := [(e2, Ob #[(.string (t.2.2.2.2.2.2.1)), a1, a2, (.string (t.2.2.2.2.2.2.2.1)), (.int .i64 (t.2.2.2.2.2.2.2.2)), a0, b8, a3, d7] 54)]) d
  have j5 := At.of (k3 _ _ (.head _)) _ rfl
  refine bS N fun J k6 N => ?_
  refine XE 3 rfl (eD d (cX _) call72 (fun hh => (JV Y (.slice h2 Y.Kids.length h6) (.func (.func 144) #[] #[(.pointer (some ⟨e1, 0, none⟩)), (.pointer (some ⟨e2, 0, none⟩))]) (fun (x : ja) => wO x t.1 t.2.1 t.2.2.1 t.2.2.2.1 t.2.2.2.2.1 t.2.2.2.2.2.1 t.2.2.2.2.2.2.1 a.mD.w6 a.mD.A8 t.2.2.2.2.2.2.2.1 t.2.2.2.2.2.2.2.2 a.ph a.Shown a.lV a.Dy) _ _ hh (c5.mono lX.mono ((((((((z.trans D).trans B).trans y).trans u).trans k).trans j).trans g).trans c)) ⟨144, #[], #[(.pointer (some ⟨e1, 0, none⟩)), (.pointer (some ⟨e2, 0, none⟩))], rfl, call144, fun W x r p hm => (JD x e1 g2 i3 t.1 i4 t.2.1 i5 t.2.2.1 i6 t.2.2.2.1 i7 t.2.2.2.2.1 t.2.2.2.2.2.1 e2 t.2.2.2.2.2.2.1 a1 a.mD.w6 a2 a.mD.A8 t.2.2.2.2.2.2.2.1 t.2.2.2.2.2.2.2.2 a0 a.ph b8 a.Shown a3 a.lV d7 a.Dy r W ((l5.at j8).mono (((((((B.trans y).trans u).trans k).trans j).trans g).trans c).trans p)) (k9.mono (Pl.mono _) ((((((y.trans u).trans k).trans j).trans g).trans c).trans p)) ((l7.at j9).mono (((((u.trans k).trans j).trans g).trans c).trans p)) ((l8.at k0).mono ((((k.trans j).trans g).trans c).trans p)) (l0.mono (Pl.mono _) (((j.trans g).trans c).trans p)) (j3.mono ((g.trans c).trans p)) (j4.mono (c.trans p)) (H.mono KL.mono (((((((((z.trans D).trans B).trans y).trans u).trans k).trans j).trans g).trans c).trans p)) (K.mono SN.mono (((((((((z.trans D).trans B).trans y).trans u).trans k).trans j).trans g).trans c).trans p)) (G.mono (Pl.mono _) (((((((((z.trans D).trans B).trans y).trans u).trans k).trans j).trans g).trans c).trans p)) (b0.mono (Pl.mono _) (((((((((z.trans D).trans B).trans y).trans u).trans k).trans j).trans g).trans c).trans p)) (a7.mono (Pl.mono _) (((((((((z.trans D).trans B).trans y).trans u).trans k).trans j).trans g).trans c).trans p)) (a9.mono (Pl.mono _) (((((((((z.trans D).trans B).trans y).trans u).trans k).trans j).trans g).trans c).trans p)) (j5.mono ((jC.refl _).trans p)) hm).kI⟩ k6)) ?_ (L0 := []))
  rintro _ q1 h1 n8 d b5 af ⟨q4, e8, rfl, b9⟩
  obtain rfl := e8.symm
  have m := d.has.oW (((((((((z.trans D).trans B).trans y).trans u).trans k).trans j).trans g).trans c).trans b5) (Db (Db (Kb (Kb Sn))))
  refine ⟨m, (X 4 rfl m (jl rfl) (X 5 rfl m (zY rfl rfl) (X 6 rfl m (zY rfl rfl) (X 7 rfl m (lO rfl) (X 8 rfl m (lO rfl) (kz kr (jj ?_)))))))⟩
  replace d := d.je (Kb (Kb (Db St)))
  refine jo (sg (Wm (V (lM rfl) (ln (CI N rfl (fun j6 N => ?_) (fun j6 N => ?_))))))
  ·refine sg (V (jf h7 (jm d.has Mh (C5 Q T) rfl cD bz)) ?_)
   replace d := d.perm (Nb (Pb Pz) Nz)
   refine VO (jD f2 ((C5 Q T).toArray) d f3 rfl bz oc nb rfl (fun o8 d => ln ?_))
   replace d := d.je (Kb (Db (Db St)))
   refine jN (jE ?_)
   obtain rfl := sj N
   exact oE (v := f2) rfl f3 (jm d.has Mh (C5 Q T) rfl cD bz) ⟨_, _, _, rfl, (d.kF Sn), (((((((((z.trans D).trans B).trans y).trans u).trans k).trans j).trans g).trans c).trans b5), (((((((((q.trans s).trans A).trans F).trans L).trans O).trans P).trans ab).trans ad).trans af), (ST.kf d (ly.mem Sn)), (.slice none 0 0), (.slice none 0 0), rfl, rfl, (Sl.nil _ _ _), (Sl.nil _ _ _)⟩
  refine kg (Wm (V (jh pv h7) ?_))
  obtain ⟨U, Z, rfl⟩ := b9.form
  let f6 : Value := (.slice U J.1.length Z)
  refine VO (jD f6 (#[(.int .i64 Q), (.int .i64 T), f6, (.slice none 0 0)]) d rfl rfl iX oc nb rfl (fun o9 d => lS (Wm (V (kj al rfl b9) (Wm (ln (km (fun i E W => ∃ d5 I e0 d6 g1, (E 42 = .int .i64 (i : Nat) ∧ E 41 = .int .i64 (J.1.length : Nat)) ∧ jC h1 d6 ∧ Lo (keys []) w h1 d6 ∧ ST false (keys []) w W d6 ((h5, Ob #[(.int .i64 Q), (.int .i64 T), f6, d5] 64) :: ((h4, Ol C6 64) :: ((h3, Ob #[f9, a1, a2, (.string a.Ae), (.int .i64 a.Room), a0, b8, a3, d7] 54) :: (e0 ++ g1)))) ∧ E 5 = (.pointer (some ⟨h3, 0, none⟩)) ∧ E 10 = (.pointer (some ⟨h4, 0, none⟩)) ∧ E 11 = (.pointer (some ⟨h5, 0, none⟩)) ∧ E 40 = f6 ∧ jy 140 js 12 d5 I e0 ∧ ue a Q T J (J.1.drop i) I = some r) J.1.length b9.len ⟨(.slice none 0 0), ([]), [], h1, _, ⟨rfl, rfl⟩, (jC.refl _), Lo.refl, (d.je St), m2, f3, h7, rfl, (jy.nil _ _ _), N⟩ dc dc dc (fun _ _ _ h => by obtain ⟨_, _, _, _, _, bs, _⟩ := h; exact bs) ?_ ?_)))))))
  ·rintro m6 E W j7 ⟨d5, I, e0, d6, g1, ⟨eI, eN⟩, a8, n, d, e5, e6, d4, g9, b7, M⟩
   obtain ⟨b2, n5, l3, l2, l4⟩ := jY j7
   rw [l3] at M
   refine bg (VQ (kC (enc := jc) (i := (m6 : Int)) (x0 := b2) al ag g9 eI (b9.mono (Pl.mono _) a8) (ak _) l2) (fun p9 k4 => V (jf rfl (kG d.has k4 au ag)) (VE (kl d bj (fun p0 p7 d => VO (jD (.agg (jc b2).toArray) ((jc b2).toArray) d rfl rfl ag (lf b2) nb rfl (fun p1 d => lr (V (jh GQ e5) (VB d (Mt (Mt (Mt Mh))) rfl rfl isAgg22 (VA d Mh (jc b2) au ag (V (jh NU e5) ?_)))))))))))
   refine VB d (Mt (Mt (Mt Mh))) rfl rfl aG (V (kO (v := (.agg (jw (⟨b2, a.Ae⟩ : jd)).toArray)) (nB rfl rfl) (ku cx bn (B4 _ bn) kr)) (bS M fun c3 k7 M => ?_))
   refine VE (FO d (cX _) call22 (fun _ _ _ _ => (JW a0 a.ph (⟨b2, a.Ae⟩ : jd) _ _ (G.mono (Pl.mono _) (((((((((((z.trans D).trans B).trans y).trans u).trans k).trans j).trans g).trans c).trans b5).trans a8).trans d.ju)) k7)) (fun p2 q2 r5 n9 d i0 ao ba j0 => ?_) (L0 := []))
   obtain ⟨q5, o5, e9, rfl, h9⟩ := j0
   replace e9 := e9.symm; subst e9
   replace d := d.perm (Tr Tn)
   refine Wm (Wx rfl (Wx rfl (Wa (Wa (ln ?_)))))
   replace d := d.je (Kr (Db St))
   refine jk (V (jh tu d4) (VB d (Ma Mh) rfl rfl eB (Wm ?_)))
   obtain ⟨d8, e3, rfl⟩ := b7.form
   obtain ⟨d9, e4, rfl⟩ := h9.form
   refine VE (kh (cs := #[(.slice d8 I.length e3), (.slice d9 c3.1.length e4)]) d (nB rfl rfl) (mn ga iF zeroValue45) (fun p3 m4 d => bS M fun f0 k8 M => VE (rC d call74 (kw.kI (I3 (.slice (some ⟨m4, 0, none⟩) 2 2) ([I, c3.1]) _ _ (zT.lit (l := [I, c3.1]) (vs := [(.slice d8 I.length e3), (.slice d9 c3.1.length e4)]) rfl nb (d.at_ Mh) (.cons (b7.sl mz (fun b o hq => d.at_ (Mt (Ma (Mt (Mt (Mt (Ml hq)))))))) (.cons (h9.sl mz (fun b o hq => d.at_ (Mt (Ml hq)))) .nil))) k8)) (fun p4 q3 m7 m3 d i1 av h8 => V (jh tu d4) ?_))))
   obtain ⟨f8, g7, rfl⟩ := h8.form
   replace d := d.perm (Nb (Pr (Pb (Pr Pz))) Nz)
   refine VO (jD (.slice f8 f0.length g7) ((C2 Q T U J.1.length Z f8 f0.length g7).toArray) d rfl rfl iF oc nb rfl (fun p5 d => jH (jV (jj ?_))))
   replace d := d.je (Kb (Kr (Db (Dr (Kb (Kb (Dr St)))))))
   exact ⟨eI, (.slice f8 f0.length g7), f0, m3, m7, _, ⟨rfl, eN⟩, ((a8.trans i0).trans i1), ((n.trans ao).trans av), (d.je (Kb (Sb (Pr Pz) (Sb (Pr Pz) St)))), e5, e6, d4, g9, h8, (by rw [l4]; exact M)⟩
  rintro E W ⟨d5, I, e0, d6, g1, ⟨eI, eN⟩, a8, n, d, e5, e6, d4, g9, b7, M⟩
  rw [ap] at M
  refine jj ?_
  replace d := d.je (Kb (Kb (Db St)))
  refine sg (V (jf d4 (jm d.has Mh [(.int .i64 Q), (.int .i64 T), f6, d5] rfl cD bz)) ?_)
  obtain ⟨d0, d3, rfl⟩ := b7.form
  let f1 := (C2 Q T U J.1.length Z d0 I.length d3)
  replace d := d.perm (Nb (Pb Pz) Nz)
  refine VO (jD (.agg f1.toArray) (f1.toArray) d e6 rfl bz oc nb rfl (fun p6 d => ln ?_))
  replace d := d.je (Kb (Db St))
  refine jN ?_
  obtain rfl := sj M
  refine oE (v := (.agg f1.toArray)) rfl e6 (jm d.has Mh f1 rfl cD bz) ?_
  replace d := d.perm (Nr (Qb Qz) Nz)
  obtain ⟨r6, d, f4, aE, l1⟩ := ST.xP d b7 mz
  exact ⟨_, _, _, rfl, (d.kF Sn), (((((((((((z.trans D).trans B).trans y).trans u).trans k).trans j).trans g).trans c).trans b5).trans a8).trans f4), (((((((((((q.trans s).trans A).trans F).trans L).trans O).trans P).trans ab).trans ad).trans af).trans n).trans aE), (ST.kf d (ly.mem Sn)), f6, (.slice d0 I.length d3), rfl, rfl, (b9.mono (Pl.mono _) (a8.trans f4)), l1⟩
 refine bC b6 (fun b4 b6 => ?_) (fun b4 b6 => ?_)
 ·refine un b4 (un b4 (V (jz (cB b4) rfl) ?_))
  obtain rfl := sj b6
  exact f5 _ _ ⟨_, (d.je St), rfl, rfl, rfl, rfl, rfl⟩
 refine ug b4 (jl rfl) (ug b4 (kv rfl rfl rfl) (V (jA (cB b4) rfl) ?_))
 obtain rfl := sj b6
 exact f5 _ _ ⟨_, (d.je St), rfl, rfl, rfl, rfl, rfl⟩
theorem EM (a : ja) (r : Bool) (w : World) (hm : ur a = some r) :
  jJ true pg0 156 [(.agg (jc a).toArray)] w (.bool r) := by
 refine cG 6 func156 rfl (fun d => sg (VE (jU d rfl (fun g j d => Wa (lr (VA d Mh (jc a) au ag (bS hm fun k c hm => VE (Eg d ia (qx a _ _  c) (fun i d => V (lM rfl) (Wa (jH ?_)))))))))))
 refine jj ?_
 exact jN (rQ hm d)
theorem G2 (a : jI) (z y : Value) (r : Bool) (w : World) (i : Sl (Pl jc) 2 (hp w) z a.jM) (I : Sl (Pl js) 12 (hp w) y a.jO) (hm : wm a = some r) :
  jJ false pg0 91 [(.agg #[(.int .i64 a.State), (.int .i64 a.lc), z, y])] w (.bool r) := by
 refine cG 33 func91 rfl (fun d => sg ?_)
 obtain ⟨U, Y, rfl⟩ := i.form
 obtain ⟨Z, c4, rfl⟩ := I.form
 let a0 := (C2 a.State a.lc U a.jM.length Y Z a.jO.length c4)
 refine VE (jU d rfl (fun W6 J d => Wa (lr (Wf vB (VB d Mh rfl rfl bl (Wi rfl (Wm (LJ hm (fun O E W => ∃ L9, ST false jT w W (hp w) ((J, Ol a0 64) :: L9) ∧ E 1 = (.pointer (some ⟨J, 0, none⟩)) ∧ E 2 = (.bool false) ∧ E 10 = (.bool O)) 4 ?_ (fun O H T => ?_)))))))))
 ·let h : Value := (.pointer (some ⟨J, 0, none⟩))
  rintro x8 E W ⟨L9, d, a2, a9, c9⟩ P
  refine Wh c9 (LJ P (fun L E W => ∃ a5, ST false jT w W (hp w) ((J, Ol a0 64) :: a5) ∧ E 1 = h ∧ E 2 = (.bool false) ∧ E 15 = (.bool L)) 4 ?_ (fun L G Q => ?_))
  ·rintro d8 E W ⟨a5, d, a3, p, d0⟩ c1
   refine Wh d0 (LJ c1 (fun F E W => ∃ m, ST false jT w W (hp w) ((J, Ol a0 64) :: m) ∧ E 1 = h ∧ E 2 = (.bool false) ∧ E 20 = (.bool F)) 4 ?_ (fun F D N => ?_))
   ·rintro d9 E W ⟨m, d, a4, q, d1⟩ R
    refine Wh d1 (LJ R (fun A E W => ∃ n, ST false jT w W (hp w) ((J, Ol a0 64) :: n) ∧ E 1 = h ∧ E 2 = (.bool false) ∧ E 26 = (.bool A)) 5 ?_ (fun A B M => ?_))
    ·rintro e0 E W ⟨n, d, d2, s, d3⟩ c5
     refine Wh d3 (LJ c5 (fun v E W => ∃ o, ST false jT w W (hp w) o ∧ E 2 = (.bool false) ∧ E 32 = (.bool v)) 5 ?_ (fun v t K => ?_))
     ·rintro e1 E W ⟨o, d, d6, d4⟩ c6
      exact Wg d4 (lt (rQ c6 d))
     refine bC t (fun g t => ?_) (fun g t => ?_)
     ·refine ug g (jh pv d2) (ug g (jf rfl (jq d.has Mh rfl dn)) (bS t fun d7 c7 t => pV g (Eg d call142 (vR (.slice U a.jM.length Y) a.jM (.func (.func 156) #[] #[]) (fun (x : ja) => ur x) _ _ (i.mono (Pl.mono _) d.ju) ⟨156, #[], #[], rfl, call156, fun W x r hs hm => (EM x r W  hm).kI⟩ c7) (fun d5 d => ug g (lM rfl) (V (jz (cB g) rfl) ?_)))))
      obtain rfl := sj t
      exact K _ _ ⟨_, (d.je (Db St)), s, rfl⟩
     refine un g (un g (un g (un g (V (jA (cB g) rfl) ?_))))
     obtain rfl := sj t
     exact K _ _ ⟨_, (d.je (Db St)), s, rfl⟩
    refine bC B (fun c B => ?_) (fun c B => ?_)
    ·refine ug c (jh pv a4) (ug c (jf rfl (jq d.has Mh rfl dn)) (ug c (kj al rfl i) (ug c (kv rfl rfl rfl) (V (jz (cB c) rfl) ?_))))
     obtain rfl := sj B
     exact M _ _ ⟨_, (d.je St), a4, q, rfl⟩
    refine un c (un c (un c (un c (V (jA (cB c) rfl) ?_))))
    obtain rfl := sj B
    exact M _ _ ⟨_, (d.je St), a4, q, rfl⟩
   refine bC D (fun k D => ?_) (fun k D => ?_)
   ·refine ug k (jh wD a3) (ug k (jf rfl (jq d.has Mh rfl eL)) (ug k (kv rfl rfl rfl) (V (jz (cB k) rfl) ?_)))
    obtain rfl := sj D
    exact N _ _ ⟨_, (d.je St), a3, p, rfl⟩
   refine un k (un k (un k (V (jA (cB k) rfl) ?_)))
   obtain rfl := sj D
   exact N _ _ ⟨_, (d.je St), a3, p, rfl⟩
  refine bC G (fun j G => ?_) (fun j G => ?_)
  ·refine ug j (jh wD a2) (ug j (jf rfl (jq d.has Mh rfl eL)) (ug j (kv rfl rfl rfl) (V (jz (cB j) rfl) ?_)))
   obtain rfl := sj G
   exact Q _ _ ⟨_, (d.je St), a2, a9, rfl⟩
  refine un j (un j (un j (V (jA (cB j) rfl) ?_)))
  obtain rfl := sj G
  exact Q _ _ ⟨_, (d.je St), a2, a9, rfl⟩
 refine bC H (fun u H => ?_) (fun u H => ?_)
 ·refine ug u (jh vB rfl) (ug u (jf rfl (jq d.has Mh rfl bl)) (ug u (kv rfl rfl rfl) (V (jz (cB u) rfl) ?_)))
  obtain rfl := sj H
  exact T _ _ ⟨_, (d.je St), rfl, rfl, rfl⟩
 refine un u (un u (un u (V (jA (cB u) rfl) ?_)))
 obtain rfl := sj H
 exact T _ _ ⟨_, (d.je St), rfl, rfl, rfl⟩
theorem Bu (g : Value) (t : List jv) (j : Value) (B : jv → Option Bool) (r : Int) (w : World) (c : Sl (Pl js) 12 (hp w) g t) (D : qZ pg0 j (hp w) (fun (x : jv) => [(.agg (js x).toArray)]) (fun (r : Bool) => (.bool r)) B) (hm : tT t B = some r) :
  jJ false pg0 205 [g, j] w (.int .i64 r) := by
 refine cG 19 func205 rfl (fun d => sg (Wa (lS (Wm (V (kj aw rfl c) (Wm (ln (km (fun i E W => ∃ k, (E 8 = .int .i64 (i : Nat) ∧ E 7 = .int .i64 (t.length : Nat)) ∧ ST false jT w W (hp w) k ∧ E 0 = g ∧ E 1 = j ∧ nT B (t.drop i) i = some r) t.length c.len ⟨_, ⟨rfl, rfl⟩, (d.je St), rfl, rfl, hm⟩ dc dc dc (fun _ _ _ h => by obtain ⟨_, n, _⟩ := h; exact n) ?_ ?_))))))))
 ·rintro Q E W H ⟨k, ⟨m, o⟩, d, u, y, a⟩
  obtain ⟨z, T, M, K, N⟩ := jY H
  rw [M] at a
  refine bg (Wh m (Wa (lr (Wh y (Wh u (Wm (VQ (kC (enc := js) (i := (Q : Int)) (x0 := z) aw aV rfl rfl c (ak _) K) (fun Y I => V (jf rfl (kG d.has I di aV)) (bS a fun Z J a => ?_)))))))))
  refine VE (yP z d D (jC.refl _) rfl (ny rfl) J (fun U d => ln (CI a rfl (fun G a => ?_) (fun G a => ?_))))
  ·refine sg (Wm (Wa (lt (kH (jE (kH (jE ?_)))))))
   obtain rfl := sj a
   exact rP d
  exact jW (jV (jj ⟨m, _, ⟨rfl, o⟩, (d.je St), u, y, (by rw [N]; exact a)⟩))
 rintro E W ⟨k, ⟨m, o⟩, d, u, y, a⟩
 rw [ap] at a
 exact jj (sg (Wa (lt (rQ a d))))
theorem Ai (a : Value) (g : List jv) (c : Value) (i : jv → Option Bool) (r : Bool) (w : World) (j : Sl (Pl js) 12 (hp w) a g) (k : qZ pg0 c (hp w) (fun (x : jv) => [(.agg (js x).toArray)]) (fun (r : Bool) => (.bool r)) i) (hm : pI g i = some r) :
  jJ false pg0 158 [a, c] w (.bool r) := by
 refine cG 9 func158 rfl (fun d => sg (Wa (lr (Wm (Wm (bS hm fun y t hm => VE (Eg d call205 (Bu a g c i _ _ (j.mono (Pl.mono _) d.ju) (k.mono d.ju) t) (fun u d => Wi rfl (Wa (jH ?_))))))))))
 exact jj (jN (rQ hm d))
theorem IP (i : jv) (r : Bool) (w : World) (hm : xv i = some r) :
  jJ true pg0 160 [(.agg (js i).toArray)] w (.bool r) := by
 refine cG 21 func160 rfl (fun d => sg (VE (jU d rfl (fun Z H d => Wa (lr (Wf wU (VA d Mh (jg i.jb) aT an (bS hm fun h N hm => VE (Eg d iM (rU i.jb _ _  N) (fun W5 d => Wm (LJ hm (fun z E W => ∃ G, ST true jT w W (hp w) ((H, Ol (js i) 140) :: G) ∧ E 1 = (.pointer (some ⟨H, 0, none⟩)) ∧ E 2 = (.bool false) ∧ E 14 = (.bool z)) 8 ?_ (fun z j t => ?_))))))))))))
 ·rintro x7 E W ⟨G, d, I, x, J⟩ M
  refine Wh J (LJ M (fun y E W => ∃ u, ST true jT w W (hp w) u ∧ E 2 = (.bool false) ∧ E 20 = (.bool y)) 5 ?_ (fun y g k => ?_))
  ·rintro Y E W ⟨u, d, T, K⟩ B
   exact Wg K (lt (rQ B d))
  refine bC g (fun c g => ?_) (fun c g => ?_)
  ·refine ug c (jh oV I) (ug c (jh rV rfl) (ug c (jf rfl (jq d.has Mh rfl aG)) (bS g fun U D g => pV c (Eg d iL (rJ i.jd.jL _ _  D) (fun Q d => V (jz (cB c) rfl) ?_)))))
   obtain rfl := sj g
   exact k _ _ ⟨_, (d.je (Db St)), x, rfl⟩
  refine un c (un c (un c (un c (V (jA (cB c) rfl) ?_))))
  obtain rfl := sj g
  exact k _ _ ⟨_, (d.je (Db St)), x, rfl⟩
 refine bC j (fun a j => ?_) (fun a j => ?_)
 ·refine ug a (jh oV rfl) (ug a (jh yz rfl) (ug a (jf rfl (jm d.has Mh (jc i.jd.ja) rfl au ag)) (ug a (jh wU rfl) (ug a (jh mJ rfl) (ug a (jf rfl (jm d.has Mh (jc i.jb.Head) rfl au ag)) (ug a (uL rfl rfl (lN ck) (qK (ni _ i.jd.ja i.jb.Head))) (V (jz (cB a) rfl) ?_)))))))
  obtain rfl := sj j
  exact t _ _ ⟨_, (d.je St), rfl, rfl, rfl⟩
 refine un a (un a (un a (un a (un a (un a (un a (V (jA (cB a) rfl) ?_)))))))
 obtain rfl := sj j
 exact t _ _ ⟨_, (d.je St), rfl, rfl, rfl⟩
theorem HY (a : jv) (r : Bool) (w : World) (hm : xc a = some r) :
  jJ true pg0 159 [(.agg (js a).toArray)] w (.bool r) := by
 refine cG 6 func159 rfl (fun d => sg (VE (jU d rfl (fun g j d => Wa (lr (VA d Mh (js a) di aV (bS hm fun k c hm => VE (Eg d call160 (IP a _ _  c) (fun i d => V (lM rfl) (Wa (jH ?_)))))))))))
 refine jj ?_
 exact jN (rQ hm d)
theorem Bq (g : Nat) (c : Value) (j : List Int) (a : LO) (i : Value) (D : List Int) (r : (Bool × (List Int))) (w : World) {I : jF} (M : na I ((g, Ob #[c] 81) :: (a ++ [])) w) (k : jy 5 (jS .u8) 1 c j a) (y : Sl (Pl (jS .u8)) 1 I i D) (hm : tF j D = some r) :
  ki true pg0 95 [(.pointer (some ⟨g, 0, none⟩)), i] w ((g, Ob #[c] 81) :: (a ++ [])) (fun v J W' => ∃ H B, v = (.bool (r.1)) ∧ J = ((g, Ob #[H] 81) :: (B ++ [])) ∧ jy 5 (jS .u8) 1 H r.2 B) := by
 refine vg M 16 func95 rfl (fun d => sg (Wa (lS (Wm (V (qD dC rfl rfl) (ln (oO rfl (jW ?_))))))))
 refine jj (sg (Wm (Wm (Wn (Wf yw (VB d Mh rfl rfl fJ (Wm ?_)))))))
 replace d := d.perm (Nr (Qb Qz) Nz)
 refine bS hm fun z G hm => VE (lC (enc := (jS .u8)) (v := c) (vs := i) (R := a) d (fun _ => rfl) dc (wj _) bf sd.1 sd.2.1 rfl sd.2.2.1 sd.2.2.2 rfl rfl k (y.mono (Pl.mono _) d.ju) G (fun N T K d t => Wn (Wf yw ?_)))
 obtain ⟨u, x, rfl⟩ := t.form
 replace d := d.perm (Nb (Pr Pz) Nz)
 refine VO (jD (.slice u z.length x) (#[(.slice u z.length x)]) d rfl rfl gO oc nb rfl (fun Q d => lr (Wa (lt ?_))))
 obtain rfl := sj hm
 exact jR (v := (.bool true)) rfl rfl ⟨_, _, rfl, (d.kF (Kb (Kr Sn))), (.slice u z.length x), K, rfl, rfl, t⟩
theorem IL (c : Nat) (j : Value) (Z : List Int) (g : LO) (I : Value) (n : List jv) (r : (Bool × (List Int))) (w : World) {μ0 : jF} (h0 : na μ0 ((c, Ob #[j] 81) :: (g ++ [])) w) (T : jy 5 (jS .u8) 1 j Z g) (y : Sl (Pl js) 12 μ0 I n) (hm : xE Z n = some r) :
  ki false pg0 92 [(.pointer (some ⟨c, 0, none⟩)), I] w ((c, Ob #[j] 81) :: (g ++ [])) (fun v L1 W' => ∃ y1 S2, v = (.bool (r.1)) ∧ L1 = ((c, Ob #[y1] 81) :: (S2 ++ [])) ∧ jy 5 (jS .u8) 1 y1 r.2 S2) := by
 let a0 := ((c, Ob #[j] 81) :: (g ++ []))
 refine vg h0 39 func92 rfl (fun d => sg (Wa (lS (Wm (V (qD dC rfl rfl) (Wm (Vg rfl rfl (jl rfl) (Vg rfl rfl (kj aw rfl y) (Vg rfl rfl (kv rfl rfl rfl) ?_)))))))))
 refine V (jA rfl rfl) (Wm (LJ hm (fun P E W => ∃ L6, ST false (keys a0) w W μ0 ((c, Ob #[j] 81) :: (g ++ L6)) ∧ E 0 = (.pointer (some ⟨c, 0, none⟩)) ∧ E 1 = I ∧ E 17 = (.bool P)) 3 ?_ (fun P k U => ?_)))
 ·rintro x5 E W ⟨L6, d, e8, e9, e3⟩ G
  refine ln (CI G e3 (fun c8 G => ?_) (fun c8 G => ?_))
  ·refine sg (Wa (lt (jE ?_)))
   obtain rfl := sj G
   exact jR (v := (.bool false)) rfl rfl ⟨_, _, rfl, (d.kF (Kb (Kr Sn))), j, g, rfl, rfl, T⟩
  refine kg (Wh e8 (Wh e9 (V (kj aw rfl y) (bS G fun e6 c9 G => ?_))))
  refine VE (eM d (Cb Pz (Cr Qz Cn)) call93 (fun s _ => ki.kI (pr c j Z g (n.length : Int) _ _ s T c9)) ?_)
  rintro _ h5 R h3 d b2 ab m ⟨f0, e2, a3, rfl, d0⟩
  obtain rfl := a3.symm
  replace d := d.perm (Tb (Tr Tn))
  refine lS (Wh e9 (V (kj aw rfl y) (Wm (ln (km (fun i E W => ∃ z H u Q Y, (E 24 = .int .i64 (i : Nat) ∧ E 23 = .int .i64 (n.length : Nat)) ∧ jC R Q ∧ ST false (keys a0) w W Q ((c, Ob #[z] 81) :: (u ++ Y)) ∧ E 0 = (.pointer (some ⟨c, 0, none⟩)) ∧ E 22 = I ∧ jy 5 (jS .u8) 1 z H u ∧ rc (n.drop i) H = some r) n.length y.len ⟨f0, e6.2, e2, R, _, ⟨rfl, rfl⟩, (jC.refl _), (d.je St), e8, rfl, d0, G⟩ dc dc dc (fun _ _ _ h => by obtain ⟨_, _, _, _, _, q, _⟩ := h; exact q) ?_ ?_)))))
  ·rintro d1 E W b1 ⟨z, H, u, Q, Y, ⟨p, eN⟩, D, d, J, a2, K, a⟩
   obtain ⟨t, f1, c0, b9, c1⟩ := jY b1
   rw [c0] at a
   refine bg (VQ (kC (enc := js) (i := (d1 : Int)) (x0 := t) aw aV a2 p (y.mono (Pl.mono _) (b2.trans D)) (ak _) b9) (fun g4 b3 => V (jf rfl (kG d.has b3 di aV)) (VE (kl d bX (fun f6 g2 d => VO (jD (.agg (js t).toArray) ((js t).toArray) d rfl rfl aV (qJ t) nb rfl (fun f7 d => lr (Wh J (Wf wU (VA d Mh (jg t.jb) aT an (bS a fun d2 b4 a => ?_)))))))))))
   refine VE (rC d call161 (kw.kI (Bo t.jb _ _  b4)) (fun f8 d5 h1 f5 d a4 A b0 => bS a fun d3 b5 a => ?_))
   refine VE (FO d (Cb (Pr (Pb Pz)) (Cr (Qr (Qb Qz)) Cn)) call95 (fun hH hN ad O => ki.kI (Bq c z H u d5 d2 _ _ ⟨hH, hN, jC.refl _⟩ K (b0.sl (fun _ => rfl) (fun b o hq => O b o (Ml hq))) b5)) (fun f9 g8 h2 f3 d a5 F m a8 => ?_))
   obtain ⟨d6, c5, M, rfl, c2⟩ := a8
   replace M := M.symm; subst M
   replace d := d.perm (Tb (Tr Tn))
   refine ln ?_
   replace d := d.je (Kb (Kr (Dr St)))
   refine jk (Wh J (Wf oV (Wf rV (VB d (Mt (Ma Mh)) rfl rfl aG (bS a fun d4 b6 a => ?_)))))
   refine VE (eM d (Cb Pz (Cr Qz Cn)) call162 (fun s _ => ki.kI (wH c d6 d3.2 c5 t.jd.jL _ _ s c2 b6)) ?_)
   rintro _ g9 d9 f4 d a6 L m ⟨d7, c6, N, rfl, c3⟩
   obtain rfl := N.symm
   replace d := d.perm (Tb (Tr Tn))
   refine jH (jV (jj ?_))
   replace d := d.je (Kb (Kr (Db St)))
   exact ⟨p, d7, d4.2, c6, d9, _, ⟨rfl, eN⟩, (((D.trans a4).trans a5).trans a6), (d.je St), J, a2, c3, (by rw [c1]; exact a)⟩
  rintro E W ⟨z, H, u, Q, Y, ⟨p, eN⟩, D, d, J, a2, K, a⟩
  rw [ap] at a
  refine jj (sg (Wa (lt ?_)))
  obtain rfl := sj a
  exact jR (v := (.bool true)) rfl rfl ⟨_, _, rfl, (d.kF (Kb (Kr Sn))), z, u, rfl, rfl, K⟩
 refine bC k (fun B k => ?_) (fun B k => ?_)
 ·refine un B (un B (V (jz (cB B) rfl) ?_))
  obtain rfl := sj k
  exact U _ _ ⟨_, (d.je St), rfl, rfl, rfl⟩
 refine ug B (jl rfl) (bS k fun g7 b7 k => pV B (Eg d call158 (Ai I n (.func (.func 159) #[] #[]) (fun (x : jv) => xc x) _ _ (y.mono (Pl.mono _) d.ju) ⟨159, #[], #[], rfl, call159, fun W x r hs hm => (HY x r W  hm).kI⟩ b7) (fun g1 d => V (jA (cB B) rfl) ?_)))
 obtain rfl := sj k
 exact U _ _ ⟨_, (d.je St), rfl, rfl, rfl⟩
theorem BS (g : Nat) (u : Value) (a4 : List Int) (t : LO) (j : jI) (D B : Value) (r : (Bool × (List Int))) (w : World) {μ0 : jF} (h0 : na μ0 ((g, Ob #[u] 81) :: (t ++ [])) w) (Z : jy 5 (jS .u8) 1 u a4 t) (a : Sl (Pl jc) 2 μ0 D j.jM) (y : Sl (Pl js) 12 μ0 B j.jO) (hm : sa a4 j = some r) :
  ki false pg0 36 [(.pointer (some ⟨g, 0, none⟩)), (.agg #[(.int .i64 j.State), (.int .i64 j.lc), D, B])] w ((g, Ob #[u] 81) :: (t ++ [])) (fun v L1 W' => ∃ y1 S2, v = (.bool (r.1)) ∧ L1 = ((g, Ob #[y1] 81) :: (S2 ++ [])) ∧ jy 5 (jS .u8) 1 y1 r.2 S2) := by
 let b4 := ((g, Ob #[u] 81) :: (t ++ []))
 refine vg h0 52 func36 rfl (fun d => sg ?_)
 obtain ⟨A1, c2, rfl⟩ := a.form
 obtain ⟨A3, P, rfl⟩ := y.form
 let a1 := (C2 j.State j.lc A1 j.jM.length c2 A3 j.jO.length P)
 refine VE (jU d rfl (fun W6 b5 d => Wa (lr (V (kO (v := (.agg #[(.slice none 0 0)])) sG (ku ie cY (JU _ cY) kr)) (VE (jU d rfl (fun W8 p d => Wa (lS (Wm ?_)))))))))
 refine V (qD dC rfl rfl) (Wm (Vg rfl rfl (jf rfl (jm d.has (Mt Mh) a1 rfl cD bz)) (bS hm fun r9 f8 hm => OR rfl rfl (Eg d call91 (G2 j (.slice A1 j.jM.length c2) (.slice A3 j.jO.length P) _ _ (a.mono (Pl.mono _) d.ju) (y.mono (Pl.mono _) d.ju) f8) (fun m1 d => Vg rfl rfl (lM rfl) (V (jA rfl rfl) (Wm (LJ hm (fun O E W => ∃ a2 s R e8, jC μ0 R ∧ ST false (keys b4) w W R ((p, Ob #[a2] 81) :: ((b5, Ol a1 64) :: ((g, Ob #[u] 81) :: (s ++ (t ++ e8))))) ∧ E 0 = (.pointer (some ⟨g, 0, none⟩)) ∧ E 3 = (.pointer (some ⟨b5, 0, none⟩)) ∧ E 5 = (.pointer (some ⟨p, 0, none⟩)) ∧ E 23 = (.bool O.1) ∧ jy 5 (jS .u8) 1 a2 O.2 s) 6 ?_ (fun O z a0 => ?_)))))))))
 ·rintro ⟨m8, e9⟩ E W ⟨a2, s, R, e8, d3, d, A, F, i4, i5, g2⟩ x
  refine ln (CI x i5 (fun f7 x => ?_) (fun f7 x => ?_))
  ·refine sg (Wa (ln ?_))
   replace d := d.je (Db (Db (Kb (Dr St))))
   refine jN (jE ?_)
   obtain rfl := sj x
   exact jR (v := (.bool false)) rfl rfl ⟨_, _, rfl, (d.kF (Kb (Kr Sn))), u, t, rfl, rfl, Z⟩
  refine kg (Wh A (V (jh vB F) (VB d (Mt Mh) rfl rfl bl (bS x fun i8 f9 x => ?_))))
  refine VE (eM d (Cb (Pb (Pb Pz)) (Cr (Qb (Qb (Qr Qz))) Cn)) call93 (fun n _ => ki.kI (pr g u a4 t j.State _ _ n Z f9)) ?_)
  rintro _ m5 m9 l8 d d4 b6 m ⟨j4, i0, a7, rfl, g3⟩
  obtain rfl := a7.symm
  replace d := d.perm (Tb (Tr Tn))
  refine lr (Wh A (V (jh wD F) (VB d (Mt (Ma (Mt Mh))) rfl rfl eL (bS x fun i9 g0 x => ?_))))
  refine VE (eM d (Cb Pz (Cr Qz Cn)) call93 (fun n _ => ki.kI (pr g j4 i8.2 i0 j.lc _ _ n g3 g0)) ?_)
  rintro _ m6 n0 l9 d d5 b9 m ⟨j5, i1, a8, rfl, g4⟩
  obtain rfl := a8.symm
  replace d := d.perm (Tb (Tr Tn))
  refine lr (Wh A (V (jh pv F) (VB d (Mt (Ma (Mt Mh))) rfl rfl dn (V (kj al rfl a) (bS x fun j0 g1 x => ?_)))))
  refine VE (eM d (Cb Pz (Cr Qz Cn)) call93 (fun n _ => ki.kI (pr g j5 i9.2 i1 (j.jM.length : Int) _ _ n g4 g1)) ?_)
  rintro _ m7 f0 m0 d d6 ba m ⟨j6, i2, a9, rfl, g7⟩
  obtain rfl := a9.symm
  replace d := d.perm (Tb (Tr Tn))
  refine lS (V (jh pv F) (VB d (Mt (Ma (Mt Mh))) rfl rfl dn (V (kj al rfl a) (Wm (ln ?_)))))
  replace d := d.je (Kb (Kr (Kb (Db St))))
  refine km (fun i E W => ∃ I H G Y a3, (E 40 = .int .i64 (i : Nat) ∧ E 39 = .int .i64 (j.jM.length : Nat)) ∧ jC f0 Y ∧ ST false (keys b4) w W Y ((g, Ob #[I] 81) :: ((p, Ob #[a2] 81) :: (G ++ (s ++ a3)))) ∧ E 0 = (.pointer (some ⟨g, 0, none⟩)) ∧ E 5 = (.pointer (some ⟨p, 0, none⟩)) ∧ E 38 = (.slice A1 j.jM.length c2) ∧ jy 5 (jS .u8) 1 I H G ∧ pY e9 (j.jM.drop i) H = some r) j.jM.length a.len ⟨j6, j0.2, i2, f0, _, ⟨rfl, rfl⟩, (jC.refl _), (d.je (Kb (Sb (Pr Pz) St))), A, i4, rfl, g7, x⟩ dc dc dc (fun _ _ _ h => by obtain ⟨_, _, _, _, _, ab, _⟩ := h; exact ab) ?_ ?_
  ·rintro g8 E W d2 ⟨I, H, G, Y, a3, ⟨eI, eN⟩, K, d, M, a5, L, N, c⟩
   obtain ⟨J, j7, e3, e2, e4⟩ := jY d2
   rw [e3] at c
   refine bg (VQ (kC (enc := jc) (i := (g8 : Int)) (x0 := J) al ag L eI (a.mono (Pl.mono _) ((((d3.trans d4).trans d5).trans d6).trans K)) (ak _) e2) (fun l1 d7 => V (jf rfl (kG d.has d7 au ag)) (VE (kl d bj (fun k3 k9 d => VO (jD (.agg (jc J).toArray) ((jc J).toArray) d rfl rfl ag (lf J) nb rfl (fun k4 d => ln (jk (Wh M (VA d Mh (jc J) au ag (bS c fun g9 d8 c => ?_)))))))))))
   refine VE (eM d (Cb (Pb Pz) (Cr (Qb (Qb Qz)) Cn)) call94 (fun n _ => ki.kI (vc g I H G J _ _ n N d8)) ?_)
   rintro _ l3 h7 j9 d c3 ad m ⟨h4, f1, Q, rfl, e5⟩
   obtain rfl := Q.symm
   replace d := d.perm (Tb (Tr Tn))
   refine jH (jV (jj ?_))
   replace d := d.je (Kb (Kr (Db St)))
   exact ⟨eI, h4, g9.2, f1, h7, _, ⟨rfl, eN⟩, (K.trans c3), (d.je (Kb (Sb (Pr Pz) St))), M, a5, L, e5, (by rw [e4]; exact c)⟩
  rintro E W ⟨I, H, G, Y, a3, ⟨eI, eN⟩, K, d, M, a5, L, N, c⟩
  rw [ap] at c
  refine jj (sg (Wh M (Wh a5 (bS c fun h1 d9 c => VE (rC d call37 (kw.kI (vw p a2 e9 _ _ (g2.sl (fun _ => rfl) (fun b o hq => d.at_ (Mt (Mt (Ma (Ml hq)))))) (At.of (d.at_ (Mt Mh)) _ rfl) d9)) (fun k6 h3 l6 k2 d i6 af d1 => bS c fun h2 e0 c => ?_))))))
  refine VE (FO d (Cb (Pr Pz) (Cr (Qr (Qb Qz)) Cn)) call95 (fun hH hN q aE => ki.kI (Bq g I H G h3 h1 _ _ ⟨hH, hN, jC.refl _⟩ N (d1.sl (fun _ => rfl) (fun b o hq => aE b o (Ml hq))) e0)) (fun k7 l4 l7 k0 d i7 ao m c9 => ?_))
  obtain ⟨h5, f2, T, rfl, e6⟩ := c9
  replace T := T.symm; subst T
  replace d := d.perm (Tb (Tr Tn))
  refine Wa (ln ?_)
  replace d := d.je (Kb (Kr (Dr (Db (Dr St)))))
  refine jN ?_
  obtain rfl := sj c
  exact jR (v := (.bool h2.1)) rfl rfl ⟨_, _, rfl, (d.kF (Kb (Kr Sn))), h5, f2, rfl, rfl, e6⟩
 refine bC z (fun k z => ?_) (fun k z => ?_)
 ·refine un k (un k (un k (un k (un k (V (jz (cB k) rfl) ?_)))))
  obtain rfl := sj z
  exact a0 _ _ ⟨(.slice none 0 0), [], μ0, _, (jC.refl _), (d.je St), rfl, rfl, rfl, rfl, (jy.nil _ _ _)⟩
 refine ug k (jl rfl) (ug k (jh tu rfl) (ug k (jf rfl (jq d.has (Mt Mh) rfl eB)) (bS z fun l2 e1 z => ?_)))
 refine pV k (eM d (Cb Pz (C0 Cn)) call92 (fun n q => (IL p (.slice none 0 0) ([]) [] (.slice A3 j.jO.length P) j.jO _ _ n (jy.nil _ _ _) (y.mono (Pl.mono _) q) e1)) ?_)
 rintro _ l5 h8 k1 d c5 av m ⟨h6, f3, U, rfl, e7⟩
 obtain rfl := U.symm
 replace d := d.perm (Tb (Tr Tn))
 refine ug k (lM rfl) (V (jA (cB k) rfl) ?_)
 obtain rfl := sj z
 exact a0 _ _ ⟨h6, f3, h8, _, c5, (d.je (Kb (Sb (Pr Pz) (Sb (Pr Pz) St)))), rfl, rfl, rfl, rfl, e7⟩
theorem DN {dd : Bool} {F : Nat → Prop} {w W : World} {μ : jF} {L : LO} (o t : Nat) (z I : Value) (c y : Int) (u : FrameMode) (m : ST dd F w W μ ((o, .cells #[z, I] 158 (0, 0)) :: (t, .cells #[.int .i64 c] 62 (0, 0)) :: L)) (hu : (u = .returning ∧ y = c) ∨ u = .panicking [{ v := uJ 217 o y, recovered := false }]) :
  CallsD pg0 98 #[.pointer (some ⟨o, 0, none⟩), .pointer (some ⟨t, 0, none⟩)] u W fun e G W' => e = .returned (.tuple #[]) ∧ settle G = .returning ∧ ST dd F w W' μ ((o, .cells #[z, .bool true] 158 (0, 0)) :: (t, .cells #[.int .i64 y] 62 (0, 0)) :: L) := by
 refine callsD_of_wpS func98 rfl fun p D x => SP (n := 31) (jk (Wm (Wn (Wf HN (VO (AT [] (.bool true) #[z, .bool true] m rfl rfl sizeOf4 oc (aM 2) rfl (fun g m => jH ⟨rfl, fun a s => wpS_seq ?_⟩))))))) (J8 (args := [.pointer (some ⟨o, 0, none⟩), .pointer (some ⟨t, 0, none⟩)]) Tryz.ntmps98 nb)
 rcases hu with ⟨rfl, rfl⟩ | rfl
 ·refine FT (n := 31) (d := 10) (d2 := 4) (v := .nilIface) (cs' := { p with mode := .returning } :: D) dc dc rfl rfl rfl rfl (fun _ => rfl) (fun E h => lO h) (.inr ⟨?_, rfl, ?_⟩) s (fun a s => ?_)
  ·simp only [recoverD, x]
  ·rw [← x]
  exact LU (u := .returning) Tryz.results98 (jo (sg (Wm (V (Q9 underlying20 rfl rfl) (ln (vm rfl (jN (jE ⟨.inr rfl, rfl, rfl, m⟩)))))))) s
 refine FT (n := 31) (d := 10) (d2 := 4) (v := uJ 217 o y) (cs' := { p with mode := .panicking [{ v := uJ 217 o y, recovered := true }] } :: D) dc dc rfl rfl rfl rfl (fun _ => rfl) (fun E h => lO h) (.inl ?_) s (fun a s => ?_)
 ·simp only [recoverD, x]
 refine LU (u := .panicking [{ v := uJ 217 o y, recovered := true }]) Tryz.results98 (jo (sg (Wm (V (Ry underlying20 rfl rfl) (ln (oO rfl (kg (Wm (V (M5 dR (by intro q h; cases h) rfl) ?_))))))))) s
 refine Wm (Wx rfl (Wx rfl (VE (kl m zeroValue217 (fun i J m => VO (AT [] (.agg #[.pointer (some ⟨o, 0, none⟩), .int .i64 y]) #[.pointer (some ⟨o, 0, none⟩), .int .i64 y] m rfl rfl sizeOf217 oc (aM 2) rfl (fun j m => Wa (lS (Wm (V (lM rfl) (Wm (Vg rfl rfl (jh Rh rfl) ?_))))))))))))
 refine Vg rfl rfl (jf rfl (jq m.has Mh rfl isAgg89)) (Vg rfl rfl (jl rfl) (Vg rfl rfl (Ll iO sizeOf158 rfl rfl) (V (jA rfl rfl) (ln (oO rfl (kn (jk (Wm (Wf Ro (VB m Mh rfl rfl eL (Wn (VO (AT [_, _] (.int .i64 y) #[.int .i64 y] m rfl rfl iW oc (aM 1) rfl (fun k m => ?_))))))))))))))
 exact jH ⟨.inl rfl, rfl, rfl, ST.drop (A := []) m⟩
theorem FI {S : Type} (fk : Nat) (a : Array Value) (N : Value) (T b : List Int) (s : Int ⊕ S) (rd : S → List Int) (w : World) {Q : jF} {j : LO} (h0 : na Q j w) (hb : Sl (Pl (jS .u8)) 1 Q N T) (Y : nW T = some b) (K : S → LO → jF → Prop) (X : Int → LO → jF → Prop) (H : ∀ args w, (callFunc fk args).run pg0 w = .ok (.enter fk args) w) (hf : ∀ (w' : World) (μ' : jF) (o : Nat) (G : Value), na μ' ((o, Obj.cells #[G, .bool false] 158 (0, 0)) :: j) w' → jC Q μ' → Sl (Pl (jS .u8)) 1 μ' G b →
   jQ true pg0 fk (.pointer (some ⟨o, 0, none⟩) :: a.toList) w' μ' ((o, Obj.cells #[G, .bool false] 158 (0, 0)) :: j) s (fun r v B u => ∃ y z L', B = (o, Obj.cells #[y, z] 158 (0, 0)) :: L' ∧ Sl (Pl (jS .u8)) 1 u y (rd r) ∧ K r L' u)
    (fun x c B u => ∃ y z L', c = [{ v := uJ 217 o x, recovered := false }] ∧ B = (o, Obj.cells #[y, z] 158 (0, 0)) :: L' ∧ X x L' u)) :
  nr true pg0 39 [N, .func (.func fk) #[] a] w Q j (fun v B u => v = .int .i64 (GK rd s) ∧ QA K X s B u) := by
 refine Ov ?_
 have m := ST.tG (dd := true) h0
 refine KN (n := 22) func39 rfl rfl nb (LZ (jk (VE (kl m zeroValue62 (fun W1 L m => jH ⟨rfl, (LZ (jk (Wm (VE (rC m call96 (Ak N T _ _ (hb.mono (Pl.mono _) m.ju) Y) (fun W2 v2 a7 R2 m g R U => ?_))))))⟩)))))
 obtain ⟨a8, m, i, W, J⟩ := ST.xP m U (fun _ => rfl)
 obtain ⟨A, c, rfl⟩ := J.form
 refine V (kO (v := (.agg #[.slice A b.length c, .bool false])) (mf rfl) (ku zeroValue158 fX (TH _ fX) kr)) (VE (jU m rfl (fun W3 o m => Wa (jH ⟨rfl, (SJ (Na (TI (.inl rfl) rfl dc (jl rfl) (NR (d := ⟨.fn (.func 98) #[], #[.pointer (some ⟨o, 0, none⟩), .pointer (some ⟨L, 0, none⟩)]⟩) (.inl rfl) rfl (N8 (args := [.pointer (some ⟨o, 0, none⟩), .pointer (some ⟨L, 0, none⟩)]) rfl (by exact og rfl rfl)) (jj (AQ (AQ (za (zH (.inl rfl) rfl dc (jl rfl) (zH (.inl rfl) rfl dc (Lc underlying91 rfl rfl) (CE ?_)))))))))))⟩))))
 refine jj (KZ rfl (za (zH (.inl rfl) rfl dc (jl rfl) (zH (.inl rfl) rfl dc (jl rfl) ?_))))
 have hP : List.Perm ((o, Obj.cells (.agg #[.slice A b.length c, .bool false] : Value).cells 158 (0, 0)) :: (L, Obj.cells (Value.int IntKind.i64 0).cells 62 (0, 0)) :: j) (((o, Obj.cells #[.slice A b.length c, .bool false] 158 (0, 0)) :: j) ++ [(L, Obj.cells (Value.int IntKind.i64 0).cells 62 (0, 0))]) := List.Perm.cons _ (cM (l₁ := [_]))
 have hB : ∀ {M : LO} {p q : Nat × Obj}, ((p :: M) ++ [q]).Perm (p :: q :: M) := List.Perm.cons _ (cM (l₂ := [_]))
 rcases s with x | r
 ·refine TG (.inl rfl) (ma (args := [(.pointer (some ⟨o, 0, none⟩))]) (caps := a) _ _ m hP rfl H (by exact ny rfl) (fun hH hN P a6 => jQ.l (hf _ _ o _ ⟨hH, hN, P⟩ (g.trans i) J)) (fun W4 cc Z L4 m D O hX => ?_))
  obtain ⟨y, z, L', rfl, rfl, hX⟩ := hX
  replace m := m.perm hB
  intro E' a1
  refine lF (JB (by simp) call98 (DN _ _ _ _ 0 x _ m (.inr rfl)) (fun I m => oE (v := .int .i64 x) rfl (a1 4) (jq m.has (.tail _ (.head _)) rfl eL) ?_))
  have m := ST.drop (A := []) (ST.drop (A := []) m)
  exact ⟨_, _, _, rfl, m.R4, (g.trans i).trans D, (R.trans W).trans O, m.kf (fun _ h => h), rfl, hX⟩
 refine TN (.inl rfl) rfl dc (KS (args := [(.pointer (some ⟨o, 0, none⟩))]) (caps := a) _ _ m hP rfl H (by exact ny rfl) (fun hH hN P a6 => jQ.r (hf _ _ o _ ⟨hH, hN, P⟩ (g.trans i) J)) (fun W4 v4 Z L4 m D O hK => ?_))
 obtain ⟨y, z, L', rfl, hy, hK⟩ := hK
 replace m := m.perm hB
 refine CE (jj (AQ (AQ (za (zH (.inl rfl) rfl dc (jl rfl) (zH (.inl rfl) rfl dc (kJ rfl) (zH (.inl rfl) rfl dc (jh wT rfl) (zH (.inl rfl) rfl dc (jf rfl (jq m.has (.head _) rfl fJ)) (zH (.inl rfl) rfl dc (kj bf rfl hy) (zH (.inl rfl) rfl dc (kv rfl rfl rfl) (CE (jj ?_))))))))))))
 have F : ∀ (k : Int) (E : Nat → Value) (I : World), E 4 = .pointer (some ⟨L, 0, none⟩) → k = (if (rd r).length > 0 then 13 else 0) → ST true (keys j) w I Z ((o, Obj.cells #[y, z] 158 (0, 0)) :: (L, Obj.cells #[.int .i64 k] 62 (0, 0)) :: L') → ∀ tmps : Array Value, (∀ t, tmps.getD t undef = E t) → Leaves pg0 Tryz.f39 tmps (QG true w Q j (fun v B u => v = .int .i64 (GK rd (.inr r)) ∧ QA K X (.inr r) B u)) [⟨.fn (.func 98) #[], #[.pointer (some ⟨o, 0, none⟩), .pointer (some ⟨L, 0, none⟩)]⟩] .returning I := fun k E I h4 hk m => by
  refine JB (by simp) call98 (DN _ _ _ _ k k _ m (.inl ⟨rfl, rfl⟩)) (fun W6 m => oE (v := .int .i64 k) rfl h4 (jq m.has (.tail _ (.head _)) rfl eL) ?_)
  have m := ST.drop (A := []) (ST.drop (A := []) m)
  exact ⟨_, _, _, rfl, m.R4, (g.trans i).trans D, (R.trans W).trans O, m.kf (fun _ h => h), by rw [hk, GK], hK⟩
 refine O0 (b := decide (((rd r).length : Int) > 0)) rfl (fun hq => ?_) (fun hq => ?_)
 ·exact AQ (za (OO (.inl rfl) rfl (AT [_] (.int .i64 13) #[.int .i64 13] m rfl rfl iW oc (aM 1) rfl (fun I m => CE (jj (Mu (jE (F 13 _ _ rfl (by rw [aj (by simpa using hq)]) m))))))))
 exact PK (jj (AQ (za (OO (.inl rfl) rfl (AT [_] (.int .i64 0) #[.int .i64 0] m rfl rfl iW oc (aM 1) rfl (fun I m => CE (jj (Mu (F 0 _ _ rfl (by rw [ai (by simpa using hq)]) m)))))))))
theorem AA (i : Nat) (c : Value) (g : List Int) (a r : Bool) (w : World) (k : Sl (Pl (jS .u8)) 1 (hp w) c g) (j : At (hp w) (.pointer (some ⟨i, 0, none⟩)) [c, (.bool a)]) (hm : sH g a = some r) :
  jJ true pg0 163 [(.pointer (some ⟨i, 0, none⟩))] w (.bool r) := by
 refine cG 11 func163 rfl (fun d => sg (Wa (lr (Wm (V (qD iO rfl rfl) (Wm (Vg rfl rfl (jl rfl) (Vg rfl rfl (kJ rfl) (TS rfl rfl (sZ [(.bool a)] HN rfl j rfl) (fun u t => Vg rfl rfl (jf rfl (lL d.has (y := (.bool a)) t isAgg4)) ?_))))))))))
 exact V (jA rfl rfl) (Wa (lt (rQ hm d)))
theorem ky (a : Nat) (t : jx) (g : Value) (B : Int) (s : (Int ⊕ Unit)) (w : World) {D : jF} (T : na D ((a, Ob #[g, (.bool t.kQ)] 158) :: []) w) (I : Sl (Pl (jS .u8)) 1 D g t.b) (hm : kZ t B = some s) :
  jQ true pg0 165 [(.pointer (some ⟨a, 0, none⟩)), (.int .i64 B)] w D ((a, Ob #[g, (.bool t.kQ)] 158) :: []) s (fun r v G U => v = (.tuple #[]) ∧ G = ((a, Ob #[g, (.bool t.kQ)] 158) :: [])) (fun x c G U => ∃ y z, c = [{ v := uJ 217 a x, recovered := false }] ∧ G = ((a, Ob #[y, z] 158) :: [])) := by
 have d := ST.tG (dd := true) T
 refine oz (n := 21) func165 rfl rfl nb (sg (Wm (V (AL iO rfl rfl) (Wm (Vg rfl rfl (jl rfl) (Vg rfl rfl (kJ rfl) (Vg rfl rfl (jh HN rfl) (Vg rfl rfl (jf rfl (jq d.has Mh rfl isAgg4)) (Vg rfl rfl (lM rfl) (V (jz rfl rfl) (Wm (LJ hm (fun K E W => ∃ H, ST true (keys ((a, Ob #[g, (.bool t.kQ)] 158) :: [])) w W D ((a, Ob #[g, (.bool t.kQ)] 158) :: H) ∧ E 0 = (.pointer (some ⟨a, 0, none⟩)) ∧ E 1 = (.int .i64 B) ∧ E 16 = (.bool K)) 3 ?_ (fun K j u => ?_)))))))))))))
 ·rintro Y E W ⟨H, d, M, N, Q⟩ k
  refine ln (CI k Q (fun J k => ?_) (fun J k => ?_))
  ·refine jk (Wh M (Wh N (V (kO (v := (.agg #[(.pointer (some ⟨a, 0, none⟩)), (.int .i64 B)])) (nB rfl rfl) (ku zeroValue217 dR (Tt _ dR) kr)) (V (Q0 dR (by intro q h; cases h) rfl) (pR (.inl rfl) (QN rfl (nc ?_)))))))
   obtain rfl := sj k
   exact lg.li ⟨_, _, _, rfl, (d.kF (Kb Sn)), (jC.refl _), Lo.refl, (ST.kf d (ly.mem (Kb Sn))), ⟨_, _, rfl, rfl⟩⟩
  refine jW (HX (tI ?_))
  obtain rfl := sj k
  exact sI rfl (lg.ri ⟨_, _, _, rfl, (d.kF (Kb Sn)), (jC.refl _), Lo.refl, (ST.kf d (ly.mem (Kb Sn))), rfl, rfl⟩)
 refine bC j (fun i j => ?_) (fun i j => ?_)
 ·refine ug i (jl rfl) (ug i (kv rfl rfl rfl) (V (jz (cB i) rfl) ?_))
  obtain rfl := sj j
  exact u _ _ ⟨_, (d.je St), rfl, rfl, rfl⟩
 refine un i (un i (V (jA (cB i) rfl) ?_))
 obtain rfl := sj j
 exact u _ _ ⟨_, (d.je St), rfl, rfl, rfl⟩
theorem yg (a : Nat) (j : jx) (g : Value) (a1 : Int) (s : (Int ⊕ (Int × jx))) (w : World) {μ0 : jF} (h0 : na μ0 ((a, Ob #[g, (.bool j.kQ)] 158) :: []) w) (k : Sl (Pl (jS .u8)) 1 μ0 g j.b) (hm : sO j a1 = some s) :
  jQ true pg0 164 [(.pointer (some ⟨a, 0, none⟩)), (.int .i64 a1)] w μ0 ((a, Ob #[g, (.bool j.kQ)] 158) :: []) s (fun r v L1 μ1 => ∃ y1, v = (.int .u8 (r.1)) ∧ L1 = ((a, Ob #[y1, (.bool ((r.2).kQ))] 158) :: []) ∧ Sl (Pl (jS .u8)) 1 μ1 y1 ((r.2).b)) (fun x c L1 μ1 => ∃ y z, c = [{ v := uJ 217 a x, recovered := false }] ∧ L1 = ((a, Ob #[y, z] 158) :: [])) := by
 let c8 := (⟨(j.b.drop (Int.toNat 1)), j.kQ⟩ : jx)
 let c7 := (#[g, (.bool j.kQ)] : Array Value)
 let b8 : Value := (.pointer (some ⟨a, 0, none⟩))
 let a0 := ((a, Obj.cells c7 158 (0, 0)) :: [])
 have d := ST.tG (dd := true) h0
 refine oz (n := 41) func164 rfl rfl nb (sg (Wa (ln (jo (EX hm (fun g0 E W => ∃ Y d7, jC μ0 Y ∧ Lo (keys a0) w μ0 Y ∧ ST true (keys a0) w W Y ((a, Obj.cells c7 158 (0, 0)) :: d7) ∧ E 0 = b8 ∧ E 1 = (.int .i64 a1)) (fun g0 B a2 => ?_) ?_)))))
 ·refine sg (Wm (Wi rfl (ln (CI B rfl (fun d3 B => ?_) (fun d3 B => ?_)))))
  ·refine jk (Wm (bS B fun g1 b5 B => ?_))
   rcases g1 with f6 | h6
   ·have A := d.size
    refine pR (.inl rfl) (ma (args := [b8, (.int .i64 11)]) (caps := #[]) _ _ d (Cb Pz Cn) rfl dD (by exact og rfl rfl) (fun hH hN q ad => (jQ.l (ky a j g 11 _ _ ⟨hH, hN, q⟩ (k.mono (Pl.mono _) (jC.refl _)) b5))) (fun e7 h2 c6 e4 d T o R => ?_))
    obtain ⟨i3, i6, d6, rfl⟩ := R
    replace d := d.perm (Tb Tn)
    refine lF (nc ?_)
    obtain rfl := sj B
    replace a2 : some (Sum.inl f6) = some s := a2
    obtain rfl := sj a2
    exact lg.li ⟨_, _, _, rfl, (d.kF (Kb Sn)), T, o, (ST.kf d (ly.mem (Kb Sn))), ⟨_, _, d6, rfl⟩⟩
   have A := d.size
   refine VE (eD d (Cb Pz Cn) dD (fun hh => (jQ.r (ky a j g 11 _ _ hh (k.mono (Pl.mono _) (jC.refl _)) b5))) ?_)
   rintro e7 h9 c6 e4 d T o ⟨a6, rfl⟩
   obtain rfl := a6.symm
   replace d := d.perm (Tb Tn)
   refine ln ?_
   obtain rfl := sj B
   exact ⟨_, rfl, c6, _, T, o, (d.je St), rfl, rfl⟩
  refine kn ?_
  obtain rfl := sj B
  exact ⟨_, rfl, μ0, _, (jC.refl _), Lo.refl, (d.je St), rfl, rfl⟩
 rintro ⟨⟩ E W ⟨Y, d7, G, p, d, b1, e0⟩ f0
 refine jo (EX f0 (fun f8 E W => ∃ I d8, jC Y I ∧ Lo (keys a0) w Y I ∧ ST true (keys a0) w W I ((a, Obj.cells c7 158 (0, 0)) :: d8) ∧ E 0 = b8 ∧ E 1 = (.int .i64 a1)) (fun f8 u Z => ?_) ?_)
 ·refine sg (Wh b1 (Wn (Wf wT (VB d Mh rfl rfl fJ (V (kj bf rfl k) (Wi rfl (ln (CI u rfl (fun d2 u => ?_) (fun d2 u => ?_)))))))))
  ·refine jk (Wh b1 (bS u fun f9 b4 u => ?_))
   rcases f9 with f5 | h5
   ·have A := d.size
    refine pR (.inl rfl) (ma (args := [b8, (.int .i64 10)]) (caps := #[]) _ _ d (Cb Pz Cn) rfl dD (by exact og rfl rfl) (fun hH hN q ad => (jQ.l (ky a j g 10 _ _ ⟨hH, hN, q⟩ (k.mono (Pl.mono _) G) b4))) (fun e6 h1 c5 e3 d Q m P => ?_))
    obtain ⟨i2, i5, d5, rfl⟩ := P
    replace d := d.perm (Tb Tn)
    refine lF (nc ?_)
    obtain rfl := sj u
    replace Z : some (Sum.inl f5) = some s := Z
    obtain rfl := sj Z
    exact lg.li ⟨_, _, _, rfl, (d.kF (Kb Sn)), (G.trans Q), (p.trans m), (ST.kf d (ly.mem (Kb Sn))), ⟨_, _, d5, rfl⟩⟩
   have A := d.size
   refine VE (eD d (Cb Pz Cn) dD (fun hh => (jQ.r (ky a j g 10 _ _ hh (k.mono (Pl.mono _) G) b4))) ?_)
   rintro e6 h8 c5 e3 d Q m ⟨a5, rfl⟩
   obtain rfl := a5.symm
   replace d := d.perm (Tb Tn)
   refine ln ?_
   obtain rfl := sj u
   exact ⟨_, rfl, c5, _, Q, m, (d.je St), b1, e0⟩
  refine kn ?_
  obtain rfl := sj u
  exact ⟨_, rfl, Y, _, (jC.refl _), Lo.refl, (d.je St), b1, e0⟩
 rintro ⟨⟩ E W ⟨I, d8, J, F, d, a7, g2⟩ U
 refine sg (Wh a7 (Wn (Wf wT (VB d Mh rfl rfl fJ (bS U fun a9 c2 U => VQ (kC (enc := (jS .u8)) (i := 0) (x0 := a9) bf gy rfl rfl (k.mono (Pl.mono _) (G.trans J)) (kL c2) (kq c2)) (fun i8 f3 => V (jf rfl (lL d.has (y := (.int .u8 a9)) f3 isAgg5)) (Wa (lr (Wh a7 ?_)))))))))
 refine Wh a7 (Wn (Wf wT (VB d Mh rfl rfl fJ (bS U fun _ c1 U => VQ (Cj (i := 1) bf gy rfl rfl (k.mono (Pl.mono _) (G.trans J)) (qc c1) (qb c1)) (fun i9 a3 => Wn (Wf wT ?_))))))
 obtain ⟨K, M, rfl⟩ := a3.1.form
 let L : Value := (.slice K (j.b.drop (Int.toNat 1)).length M)
 refine VO (jD L (#[L, (.bool j.kQ)]) d rfl rfl gO oc nb rfl (fun i7 d => ln (jo (EX U (fun g4 E W => ∃ b6 d9, jC I b6 ∧ Lo (keys a0) w I b6 ∧ ST true (keys a0) w W b6 ((a, Ob #[L, (.bool j.kQ)] 158) :: d9) ∧ E 5 = (.int .u8 a9)) (fun g4 f2 b0 => ?_) ?_))))
 ·refine sg (Wm (Wi rfl (Wm (LJ f2 (fun c3 E W => ∃ b9, ST true (keys a0) w W I ((a, Ob #[L, (.bool j.kQ)] 158) :: b9) ∧ E 0 = b8 ∧ E 5 = (.int .u8 a9) ∧ E 37 = (.bool c3)) 3 ?_ (fun c3 H a8 => ?_)))))
  ·rintro i0 E W ⟨b9, d, e8, c0, e9⟩ t
   refine ln (CI t e9 (fun d1 t => ?_) (fun d1 t => ?_))
   ·refine jk (Wh e8 (bS t fun f7 b3 t => ?_))
    rcases f7 with f4 | h4
    ·have A := d.size
     refine pR (.inl rfl) (ma (args := [b8, (.int .i64 11)]) (caps := #[]) _ _ d (Cb Pz Cn) rfl dD (by exact og rfl rfl) (fun hH hN q ad => (jQ.l (ky a c8 L 11 _ _ ⟨hH, hN, q⟩ (a3.1.mono (Pl.mono _) (jC.refl _)) b3))) (fun e5 g9 c4 e2 d N h O => ?_))
     obtain ⟨i1, i4, d4, rfl⟩ := O
     replace d := d.perm (Tb Tn)
     refine lF (nc ?_)
     obtain rfl := sj t
     replace b0 : some (Sum.inl f4) = some s := b0
     obtain rfl := sj b0
     exact lg.li ⟨_, _, _, rfl, (d.kF (Kb Sn)), ((G.trans J).trans N), ((p.trans F).trans h), (ST.kf d (ly.mem (Kb Sn))), ⟨_, _, d4, rfl⟩⟩
    have A := d.size
    refine VE (eD d (Cb Pz Cn) dD (fun hh => (jQ.r (ky a c8 L 11 _ _ hh (a3.1.mono (Pl.mono _) (jC.refl _)) b3))) ?_)
    rintro e5 h7 c4 e2 d N h ⟨a4, rfl⟩
    obtain rfl := a4.symm
    replace d := d.perm (Tb Tn)
    refine ln ?_
    obtain rfl := sj t
    exact ⟨_, rfl, c4, _, N, h, (d.je St), c0⟩
   refine kn ?_
   obtain rfl := sj t
   exact ⟨_, rfl, I, _, (jC.refl _), Lo.refl, (d.je St), c0⟩
  refine bC H (fun D H => ?_) (fun D H => ?_)
  ·refine ug D (jl g2) (ug D (kv rfl rfl rfl) (V (jz (cB D) rfl) ?_))
   obtain rfl := sj H
   exact a8 _ _ ⟨_, (d.je St), a7, rfl, rfl⟩
  refine un D (un D (V (jA (cB D) rfl) ?_))
  obtain rfl := sj H
  exact a8 _ _ ⟨_, (d.je St), a7, rfl, rfl⟩
 rintro ⟨⟩ E W ⟨b6, d9, b2, ab, d, g3⟩ f1
 refine sg (Wh g3 (Wa (lt (tZ ?_))))
 obtain rfl := sj f1
 exact jR (v := (.int .u8 a9)) rfl rfl (lg.ri ⟨_, _, _, rfl, (d.kF (Kb Sn)), ((G.trans J).trans b2), ((p.trans F).trans ab), (ST.kf d (ly.mem (Kb Sn))), L, rfl, rfl, (a3.1.mono (Pl.mono _) b2)⟩)
theorem kW (g : Nat) (I : jx) (j : Value) (P : Int) (s : (Int ⊕ (Int × jx))) (w : World) {μ0 : jF} (h0 : na μ0 ((g, Ob #[j, (.bool I.kQ)] 158) :: []) w) (K : Sl (Pl (jS .u8)) 1 μ0 j I.b) (hm : lA I P = some s) :
  jQ true pg0 99 [(.pointer (some ⟨g, 0, none⟩)), (.int .i64 P)] w μ0 ((g, Ob #[j, (.bool I.kQ)] 158) :: []) s (fun r v L1 μ1 => ∃ y1, v = (.int .i64 (r.1)) ∧ L1 = ((g, Ob #[y1, (.bool ((r.2).kQ))] 158) :: []) ∧ Sl (Pl (jS .u8)) 1 μ1 y1 ((r.2).b)) (fun x c L1 μ1 => ∃ y z, c = [{ v := uJ 217 g x, recovered := false }] ∧ L1 = ((g, Ob #[y, z] 158) :: [])) := by
 let b7 : Value := (.pointer (some ⟨g, 0, none⟩))
 let R := ((g, Ob #[j, (.bool I.kQ)] 158) :: [])
 have d := ST.tG (dd := true) h0
 refine oz (n := 31) func99 rfl rfl nb (sg (Wa (lS (Wm (bS hm fun r1 e0 hm => VE (Eg d call163 (AA g j I.b I.kQ _ _ (K.mono (Pl.mono _) d.ju) (At.of (d.at_ Mh) _ rfl) e0) (fun W3 d => ln (CI hm rfl (fun d9 hm => ?_) (fun d9 hm => ?_)))))))))
 ·refine sg (Wa (lt (jE (tZ ?_))))
  obtain rfl := sj hm
  exact jR (v := (.int .i64 0)) rfl rfl (lg.ri ⟨_, _, _, rfl, (d.kF (Kb Sn)), (jC.refl _), Lo.refl, (ST.kf d (ly.mem (Kb Sn))), j, rfl, rfl, K⟩)
 refine kg (Wa (lS (Wa (ln (kV (ns (fun m E W => ∃ G u Q N T Y b3, jC μ0 Y ∧ Lo (keys R) w μ0 Y ∧ ST true (keys R) w W Y ((g, Ob #[Q, (.bool T)] 158) :: b3) ∧ E 0 = b7 ∧ E 1 = (.int .i64 P) ∧ E 5 = (.int .i64 G) ∧ E 6 = (.int .i64 u) ∧ Sl (Pl (jS .u8)) 1 Y Q N ∧ mj P m G u N T = some s) jX ⟨0, 0, j, I.b, I.kQ, μ0, _, (jC.refl _), Lo.refl, (d.je St), rfl, rfl, rfl, rfl, K, hm⟩ ?_))))))
 rintro m E W ⟨G, u, Q, N, T, Y, b3, H, o, d, a7, b5, d2, a8, b1, i⟩
 cases m with
 | zero => rw [mj] at i; cases i
 | succ d4 =>
  refine jo (bg (Wh a7 (Wh a8 (bS i fun d8 a9 i => ?_))))
  rcases d8 with e6 | t
  ·have O := d.size
   refine pR (.inl rfl) (ma (args := [b7, (.int .i64 u)]) (caps := #[]) _ _ d (Cb Pz Cn) rfl call164 (by exact og rfl rfl) (fun hH hN L ab => (jQ.l (yg g (⟨N, T⟩ : jx) Q u _ _ ⟨hH, hN, L⟩ (b1.mono (Pl.mono _) (jC.refl _)) a9))) (fun d0 e3 Z c8 d D h q => ?_))
   obtain ⟨f0, f2, c3, rfl⟩ := q
   replace d := d.perm (Tb Tn)
   refine lF (uP (lF (lF (uP (lF (nc ?_))))))
   obtain rfl := sj i
   exact lg.li ⟨_, _, _, rfl, (d.kF (Kb Sn)), (H.trans D), (o.trans h), (ST.kf d (ly.mem (Kb Sn))), ⟨_, _, c3, rfl⟩⟩
  have O := d.size
  refine VE (eD d (Cb Pz Cn) call164 (fun hh => (jQ.r (yg g (⟨N, T⟩ : jx) Q u _ _ hh (b1.mono (Pl.mono _) (jC.refl _)) a9))) ?_)
  rintro d0 e8 Z c8 d D h ⟨U, a3, rfl, J⟩
  obtain rfl := a3.symm
  replace d := d.perm (Tb Tn)
  refine Wa (lr (Wh d2 (Wm (V (Dt (k := .u8) (a := t.1) (b := 127) (v := (.int .u8 (IntKind.u8.wrap (BitVec.ofInt (IntKind.bits .u8) t.1 &&& BitVec.ofInt (IntKind.bits .u8) 127).toNat))) rfl rfl dc rfl) (V (yd (k' := .u8) (a := (IntKind.u8.wrap (BitVec.ofInt (IntKind.bits .u8) t.1 &&& BitVec.ofInt (IntKind.bits .u8) 127).toNat)) da et rfl) (Wh a8 (Wi rfl (bS i fun _ c5 i => V (MN (a := (wi0 .i64 (IntKind.u8.wrap (BitVec.ofInt (IntKind.bits .u8) t.1 &&& BitVec.ofInt (IntKind.bits .u8) 127).toNat))) (b := (wi0 .i64 (7 * u))) rfl rfl (xj c5)) (V (SO (k := .i64) (a := G) (b := (wi0 .i64 ((wi0 .i64 (IntKind.u8.wrap (BitVec.ofInt (IntKind.bits .u8) t.1 &&& BitVec.ofInt (IntKind.bits .u8) 127).toNat)) * 2 ^ min (Int.toNat (wi0 .i64 (7 * u))) (IntKind.bits .i64)))) (v := (.int .i64 (wi0 .i64 (BitVec.ofInt (IntKind.bits .i64) G ||| BitVec.ofInt (IntKind.bits .i64) (wi0 .i64 ((wi0 .i64 (IntKind.u8.wrap (BitVec.ofInt (IntKind.bits .u8) t.1 &&& BitVec.ofInt (IntKind.bits .u8) 127).toNat)) * 2 ^ min (Int.toNat (wi0 .i64 (7 * u))) (IntKind.bits .i64)))).toNat))) rfl rfl rfl) (Wa ?_))))))))))
  let a0 := (wi0 .i64 (BitVec.ofInt (IntKind.bits .i64) G ||| BitVec.ofInt (IntKind.bits .i64) (wi0 .i64 ((wi0 .i64 (IntKind.u8.wrap (BitVec.ofInt (IntKind.bits .u8) t.1 &&& BitVec.ofInt (IntKind.bits .u8) 127).toNat)) * 2 ^ min (Int.toNat (wi0 .i64 (7 * u))) (IntKind.bits .i64)))).toNat)
  refine lr (Wm (Wi rfl (ln (CI i rfl (fun c1 i => ?_) (fun c1 i => ?_)))))
  ·refine mI (P6 (by simp) (lZ (lZ (sr (jj (jo (EX i (fun d6 E W => ∃ a5 b4, jC Z a5 ∧ Lo (keys R) w Z a5 ∧ ST true (keys R) w W a5 ((g, Ob #[U, (.bool ((t.2).kQ))] 158) :: b4) ∧ E 5 = (.int .i64 a0)) (fun d6 B a2 => ?_) ?_)))))))
   ·refine sg (Wm (Wh b5 (Wi rfl (ln (CI B rfl (fun c2 B => ?_) (fun c2 B => ?_))))))
    ·refine jk (Wh a7 (bS B fun d7 b0 B => ?_))
     rcases d7 with d5 | e7
     ·have O := d.size
      refine pR (.inl rfl) (ma (args := [b7, (.int .i64 12)]) (caps := #[]) _ _ d (Cb Pz Cn) rfl dD (by exact og rfl rfl) (fun hH hN L ab => (jQ.l (ky g t.2 U 12 _ _ ⟨hH, hN, L⟩ (J.mono (Pl.mono _) (jC.refl _)) b0))) (fun d1 e4 b6 c9 d M p A => ?_))
      obtain ⟨f1, f3, c4, rfl⟩ := A
      replace d := d.perm (Tb Tn)
      refine lF (nc ?_)
      obtain rfl := sj B
      replace a2 : some (Sum.inl d5) = some s := a2
      obtain rfl := sj a2
      exact lg.li ⟨_, _, _, rfl, (d.kF (Kb Sn)), ((H.trans D).trans M), ((o.trans h).trans p), (ST.kf d (ly.mem (Kb Sn))), ⟨_, _, c4, rfl⟩⟩
     have O := d.size
     refine VE (eD d (Cb Pz Cn) dD (fun hh => (jQ.r (ky g t.2 U 12 _ _ hh (J.mono (Pl.mono _) (jC.refl _)) b0))) ?_)
     rintro d1 e9 b6 c9 d M p ⟨a4, rfl⟩
     obtain rfl := a4.symm
     replace d := d.perm (Tb Tn)
     refine ln ?_
     obtain rfl := sj B
     exact ⟨_, rfl, b6, _, M, p, (d.je St), rfl⟩
    refine kn ?_
    obtain rfl := sj B
    exact ⟨_, rfl, Z, _, (jC.refl _), Lo.refl, (d.je St), rfl⟩
   rintro ⟨⟩ E W ⟨a5, b4, a6, F, d, d3⟩ c6
   refine sg (Wh d3 (Wa (lt (tZ ?_))))
   obtain rfl := sj c6
   exact jR (v := (.int .i64 a0)) rfl rfl (lg.ri ⟨_, _, _, rfl, (d.kF (Kb Sn)), ((H.trans D).trans a6), ((o.trans h).trans F), (ST.kf d (ly.mem (Kb Sn))), U, rfl, rfl, (J.mono (Pl.mono _) a6)⟩)
  exact jW (jV (jj (jk (Wh a8 (Wi rfl (Wa (ln ⟨d4, aY _, a0, (wi0 .i64 (u + 1)), U, ((t.2).b), ((t.2).kQ), Z, _, (H.trans D), (o.trans h), (d.je St), a7, b5, rfl, rfl, J, i⟩)))))))
theorem yl (a : Nat) (J : jx) (k : Value) (a1 : Int) (s : (Int ⊕ ((List Int) × jx))) (w : World) {μ0 : jF} (h0 : na μ0 ((a, Ob #[k, (.bool J.kQ)] 158) :: []) w) (D : Sl (Pl (jS .u8)) 1 μ0 k J.b) (hm : sM J a1 = some s) :
  jQ true pg0 207 [(.pointer (some ⟨a, 0, none⟩)), (.int .i64 a1)] w μ0 ((a, Ob #[k, (.bool J.kQ)] 158) :: []) s (fun r v L1 μ1 => ∃ y1 y3, v = y1 ∧ L1 = ((a, Ob #[y3, (.bool ((r.2).kQ))] 158) :: []) ∧ Sl (Pl (jS .u8)) 1 μ1 y1 (r.1) ∧ Sl (Pl (jS .u8)) 1 μ1 y3 ((r.2).b)) (fun x c L1 μ1 => ∃ y z, c = [{ v := uJ 217 a x, recovered := false }] ∧ L1 = ((a, Ob #[y, z] 158) :: [])) := by
 let b6 := ((a, Ob #[k, (.bool J.kQ)] 158) :: [])
 let b2 : Value := (.pointer (some ⟨a, 0, none⟩))
 have d := ST.tG (dd := true) h0
 refine oz (n := 44) func207 rfl rfl nb (sg (Wa (lS (Wm (bS hm fun r1 e6 hm => VE (Eg d call163 (AA a k J.b J.kQ _ _ (D.mono (Pl.mono _) d.ju) (At.of (d.at_ Mh) _ rfl) e6) (fun W3 d => ln (CI hm rfl (fun e5 hm => ?_) (fun e5 hm => ?_)))))))))
 ·refine sg (Wa (lt (jE (tZ ?_))))
  obtain rfl := sj hm
  exact jR (v := (.slice none 0 0)) rfl rfl (lg.ri ⟨_, _, _, rfl, (d.kF (Kb Sn)), (jC.refl _), Lo.refl, (ST.kf d (ly.mem (Kb Sn))), (.slice none 0 0), k, rfl, rfl, (Sl.nil _ _ _), D⟩)
 refine kg (Wm (bS hm fun d9 c0 hm => ?_))
 rcases d9 with g7 | t
 ·have q := d.size
  refine pR (.inl rfl) (ma (args := [b2, (.int .i64 9223372036854775807)]) (caps := #[]) _ _ d (Cb Pz Cn) rfl gQ (by exact og rfl rfl) (fun hH O p ao => (jQ.l (kW a J k 9223372036854775807 _ _ ⟨hH, O, p⟩ (D.mono (Pl.mono _) (jC.refl _)) c0))) (fun W7 g4 A e2 d I h P => ?_))
  obtain ⟨h4, h5, d1, rfl⟩ := P
  replace d := d.perm (Tb Tn)
  refine lF (nc ?_)
  obtain rfl := sj hm
  exact lg.li ⟨_, _, _, rfl, (d.kF (Kb Sn)), I, h, (ST.kf d (ly.mem (Kb Sn))), ⟨_, _, d1, rfl⟩⟩
 have q := d.size
 refine VE (eD d (Cb Pz Cn) gQ (fun R => (jQ.r (kW a J k 9223372036854775807 _ _ R (D.mono (Pl.mono _) (jC.refl _)) c0))) ?_)
 rintro W7 h1 A e2 d I h ⟨T, U, rfl, B⟩
 obtain rfl := U.symm
 replace d := d.perm (Tb Tn)
 refine Wa (ln (jo (EX hm (fun e7 E W => ∃ a3 b7, jC A a3 ∧ Lo (keys b6) w A a3 ∧ ST true (keys b6) w W a3 ((a, Ob #[T, (.bool ((t.2).kQ))] 158) :: b7) ∧ E 0 = b2 ∧ E 5 = (.int .i64 t.1)) (fun e7 g G => ?_) ?_)))
 ·refine bg (Wm (Wm (Wi rfl (Wa (ln (CI g rfl (fun d0 g => ?_) (fun d0 g => ?_)))))))
  ·refine jk (Wm (bS g fun d7 a9 g => ?_))
   rcases d7 with d5 | g9
   ·have q := d.size
    refine pR (.inl rfl) (ma (args := [b2, (.int .i64 12)]) (caps := #[]) _ _ d (Cb Pz Cn) rfl dD (by exact og rfl rfl) (fun hH O p ao => (jQ.l (ky a t.2 T 12 _ _ ⟨hH, O, p⟩ (B.mono (Pl.mono _) (jC.refl _)) a9))) (fun e3 f2 c2 c4 d M o F => ?_))
    obtain ⟨f7, f9, b4, rfl⟩ := F
    replace d := d.perm (Tb Tn)
    refine uP (lF (nc ?_))
    obtain rfl := sj g
    replace G : some (Sum.inl d5) = some s := G
    obtain rfl := sj G
    exact lg.li ⟨_, _, _, rfl, (d.kF (Kb Sn)), (I.trans M), (h.trans o), (ST.kf d (ly.mem (Kb Sn))), ⟨_, _, b4, rfl⟩⟩
   have q := d.size
   refine VE (eD d (Cb Pz Cn) dD (fun R => (jQ.r (ky a t.2 T 12 _ _ R (B.mono (Pl.mono _) (jC.refl _)) a9))) ?_)
   rintro e3 h3 c2 c4 d M o ⟨N, rfl⟩
   obtain rfl := N.symm
   replace d := d.perm (Tb Tn)
   refine jH (jV (jj ?_))
   obtain rfl := sj g
   exact ⟨_, rfl, c2, _, M, o, (d.je St), rfl, rfl⟩
  refine sg (Wm (Wm (Wn (Wf wT (VB d Mh rfl rfl fJ (V (kj bf rfl B) (Wi rfl (Wa (ln (CI g rfl (fun b3 g => ?_) (fun b3 g => ?_)))))))))))
  ·refine jk (Wm (bS g fun d8 a2 g => ?_))
   rcases d8 with d6 | f5
   ·have q := d.size
    refine pR (.inl rfl) (ma (args := [b2, (.int .i64 10)]) (caps := #[]) _ _ d (Cb Pz Cn) rfl dD (by exact og rfl rfl) (fun hH O p ao => (jQ.l (ky a t.2 T 10 _ _ ⟨hH, O, p⟩ (B.mono (Pl.mono _) (jC.refl _)) a2))) (fun c6 f3 b1 c5 d H m L => ?_))
    obtain ⟨f8, g0, b5, rfl⟩ := L
    replace d := d.perm (Tb Tn)
    refine uP (lF (nc ?_))
    obtain rfl := sj g
    replace G : some (Sum.inl d6) = some s := G
    obtain rfl := sj G
    exact lg.li ⟨_, _, _, rfl, (d.kF (Kb Sn)), (I.trans H), (h.trans m), (ST.kf d (ly.mem (Kb Sn))), ⟨_, _, b5, rfl⟩⟩
   have q := d.size
   refine VE (eD d (Cb Pz Cn) dD (fun R => (jQ.r (ky a t.2 T 10 _ _ R (B.mono (Pl.mono _) (jC.refl _)) a2))) ?_)
   rintro c6 f6 b1 c5 d H m ⟨Q, rfl⟩
   obtain rfl := Q.symm
   replace d := d.perm (Tb Tn)
   refine jH (jV (jj ?_))
   obtain rfl := sj g
   exact ⟨_, rfl, b1, _, H, m, (d.je St), rfl, rfl⟩
  refine jW (jV (jj ?_))
  obtain rfl := sj g
  exact ⟨_, rfl, A, _, (jC.refl _), Lo.refl, (d.je St), rfl, rfl⟩
 rintro ⟨⟩ E W ⟨a3, b7, K, ab, d, a6, b9⟩ u
 refine sg (Wh a6 (Wn (Wf wT (VB d Mh rfl rfl fJ (Wh b9 (bS u fun _ a7 u => VQ (Nt (j := t.1) bf gy rfl rfl (B.mono (Pl.mono _) K) (qc a7) (qb a7)) (fun e8 d3 => bS u fun g8 d2 u => VE (rC d call96 (Ak e8 (((t.2).b).take (Int.toNat t.1)) _ _ (d3.1.mono (Pl.mono _) d.ju) d2) (fun g2 c1 h6 g1 d Y ad c9 => Wa (ln (jo ?_)))))))))))
 refine jk (Wh a6 (Wh a6 (Wn (Wf wT (VB d (Ma Mh) rfl rfl fJ (Wh b9 (bS u fun _ a8 u => VQ (Cj (i := t.1) bf gy rfl rfl (B.mono (Pl.mono _) (K.trans Y)) (qc a8) (qb a8)) (fun h2 b0 => Wn (Wf wT ?_)))))))))
 obtain ⟨a4, a5, rfl⟩ := b0.1.form
 let a0 : Value := (.slice a4 (((t.2).b).drop (Int.toNat t.1)).length a5)
 replace d := d.perm (Nb (Pr Pz) Nz)
 refine VO (jD a0 (#[a0, (.bool ((t.2).kQ))]) d rfl rfl gO oc nb rfl (fun g3 d => lr (Wm (Wa (lt (tZ ?_))))))
 obtain rfl := sj u
 refine jR (v := c1) rfl rfl ?_
 replace d := d.perm (Nr (Qb Qz) Nz)
 obtain ⟨h7, d, Z, af, d4⟩ := ST.xP d c9 (fun _ => rfl)
 exact lg.ri ⟨_, _, _, rfl, (d.kF (Kb Sn)), (((I.trans K).trans Y).trans Z), (((h.trans ab).trans ad).trans af), (ST.kf d (ly.mem (Kb Sn))), c1, a0, rfl, rfl, d4, (b0.1.mono (Pl.mono _) Z)⟩
theorem pz (a : Nat) (G : jx) (g : Value) (s : (Int ⊕ (ByteArray × jx))) (w : World) {Z : jF} (h0 : na Z ((a, Ob #[g, (.bool G.kQ)] 158) :: []) w) (t : Sl (Pl (jS .u8)) 1 Z g G.b) (hm : rR G = some s) :
  jQ true pg0 166 [(.pointer (some ⟨a, 0, none⟩))] w Z ((a, Ob #[g, (.bool G.kQ)] 158) :: []) s (fun r v K μ1 => ∃ P, v = (.string (r.1)) ∧ K = ((a, Ob #[P, (.bool ((r.2).kQ))] 158) :: []) ∧ Sl (Pl (jS .u8)) 1 μ1 P ((r.2).b)) (fun x c K μ1 => ∃ y z, c = [{ v := uJ 217 a x, recovered := false }] ∧ K = ((a, Ob #[y, z] 158) :: [])) := by
 have d := ST.tG (dd := true) h0
 refine oz (n := 15) func166 rfl rfl nb (sg (Wa (lS (Wm (V (qD iO rfl rfl) (ln (oO rfl (jW ?_))))))))
 refine jj (sg (Wm (bS hm fun a5 J hm => ?_)))
 rcases a5 with b6 | I
 ·have p := d.size
  refine pR (.inl rfl) (ma (args := [(.pointer (some ⟨a, 0, none⟩)), (.int .i64 16)]) (caps := #[]) _ _ d (Cb Pz Cn) rfl call207 (by exact og rfl rfl) (fun hH F o M => (jQ.l (yl a G g 16 _ _ ⟨hH, F, o⟩ (t.mono (Pl.mono _) (jC.refl _)) J))) (fun W3 b4 O L9 d j m q => ?_))
  obtain ⟨c3, c5, Q, rfl⟩ := q
  replace d := d.perm (Tb Tn)
  refine lF (nc ?_)
  obtain rfl := sj hm
  exact lg.li ⟨_, _, _, rfl, (d.kF (Kb Sn)), j, m, (ST.kf d (ly.mem (Kb Sn))), ⟨_, _, Q, rfl⟩⟩
 have p := d.size
 refine VE (eD d (Cb Pz Cn) call207 (fun L => (jQ.r (yl a G g 16 _ _ L (t.mono (Pl.mono _) (jC.refl _)) J))) ?_)
 rintro W3 v7 O L9 d j m ⟨c2, D, u, rfl, Y, k⟩
 obtain rfl := u.symm
 replace d := d.perm (Tb Tn)
 refine V (CP bf da aP rfl (Y.mono (Pl.mono _) d.ju)) (Wa (lS (Wm (bS hm fun b9 U hm => VE (Eg d iL (rJ (vY I.1) _ _  U) (fun b3 d => V (lM rfl) (ln (CI hm rfl (fun N hm => ?_) (fun N hm => ?_)))))))))
 ·refine sg (Wm (bS hm fun a4 H hm => ?_))
  rcases a4 with b7 | c0
  ·have p := d.size
   refine pR (.inl rfl) (ma (args := [(.pointer (some ⟨a, 0, none⟩)), (.int .i64 30)]) (caps := #[]) _ _ d (Cb Pz Cn) rfl dD (by exact og rfl rfl) (fun hH F o M => (jQ.l (ky a I.2 D 30 _ _ ⟨hH, F, o⟩ (k.mono (Pl.mono _) (jC.refl _)) H))) (fun a2 b5 W R d i h A => ?_))
   obtain ⟨c4, c6, T, rfl⟩ := A
   replace d := d.perm (Tb Tn)
   refine lF (lF (nc ?_))
   obtain rfl := sj hm
   exact lg.li ⟨_, _, _, rfl, (d.kF (Kb Sn)), (j.trans i), (m.trans h), (ST.kf d (ly.mem (Kb Sn))), ⟨_, _, T, rfl⟩⟩
  have p := d.size
  refine VE (eD d (Cb Pz Cn) dD (fun L => (jQ.r (ky a I.2 D 30 _ _ L (k.mono (Pl.mono _) (jC.refl _)) H))) ?_)
  rintro a2 c1 W R d i h ⟨B, rfl⟩
  obtain rfl := B.symm
  replace d := d.perm (Tb Tn)
  refine lr (Wa (lt (jE (tZ ?_))))
  obtain rfl := sj hm
  exact jR (v := (.string zS)) rfl rfl (lg.ri ⟨_, _, _, rfl, (d.kF (Kb Sn)), (j.trans i), (m.trans h), (ST.kf d (ly.mem (Kb Sn))), D, rfl, rfl, (k.mono (Pl.mono _) i)⟩)
 refine kg (Wm (Wa (lt (tZ ?_))))
 obtain rfl := sj hm
 exact jR (v := (.string (vY I.1))) rfl rfl (lg.ri ⟨_, _, _, rfl, (d.kF (Kb Sn)), j, m, (ST.kf d (ly.mem (Kb Sn))), D, rfl, rfl, k⟩)
theorem nQ (a : Nat) (G : jx) (g : Value) (s : (Int ⊕ (ja × jx))) (w : World) {Z : jF} (h0 : na Z ((a, Ob #[g, (.bool G.kQ)] 158) :: []) w) (u : Sl (Pl (jS .u8)) 1 Z g G.b) (hm : qp G = some s) :
  jQ true pg0 100 [(.pointer (some ⟨a, 0, none⟩))] w Z ((a, Ob #[g, (.bool G.kQ)] 158) :: []) s (fun r v M μ1 => ∃ R, v = (.agg (jc (r.1)).toArray) ∧ M = ((a, Ob #[R, (.bool ((r.2).kQ))] 158) :: []) ∧ Sl (Pl (jS .u8)) 1 μ1 R ((r.2).b)) (fun x c M μ1 => ∃ y z, c = [{ v := uJ 217 a x, recovered := false }] ∧ M = ((a, Ob #[y, z] 158) :: [])) := by
 have d := ST.tG (dd := true) h0
 refine oz (n := 10) func100 rfl rfl nb (sg (VE (kl d bj (fun W2 b1 d => lr (Wm (bS hm fun a5 J hm => ?_))))))
 rcases a5 with b7 | t
 ·have p := d.size
  refine pR (.inl rfl) (ma (args := [(.pointer (some ⟨a, 0, none⟩))]) (caps := #[]) _ _ d (Cb (Pb Pz) Cn) rfl gA (by exact ny rfl) (fun hH F o O => (jQ.l (pz a G g _ _ ⟨hH, F, o⟩ (u.mono (Pl.mono _) (jC.refl _)) J))) (fun W5 b5 P W d k m q => ?_))
  obtain ⟨c1, c3, T, rfl⟩ := q
  replace d := d.perm (Tb Tn)
  refine lF (nc ?_)
  obtain rfl := sj hm
  exact lg.li ⟨_, _, _, rfl, (d.kF (Kb Sn)), k, m, (ST.kf d (ly.mem (Kb Sn))), ⟨_, _, T, rfl⟩⟩
 have p := d.size
 refine VE (eD d (Cb (Pb Pz) Cn) gA (fun L => (jQ.r (pz a G g _ _ L (u.mono (Pl.mono _) (jC.refl _)) J))) ?_)
 rintro W5 v9 P W d k m ⟨K, B, rfl, I⟩
 obtain rfl := B.symm
 replace d := d.perm (Tb Tn)
 refine Wa (lr (Wm (Wm (bS hm fun a4 H hm => ?_))))
 rcases a4 with b9 | i
 ·have p := d.size
  refine pR (.inl rfl) (ma (args := [(.pointer (some ⟨a, 0, none⟩))]) (caps := #[]) _ _ d (Cb Pz Cn) rfl gA (by exact ny rfl) (fun hH F o O => (jQ.l (pz a t.2 K _ _ ⟨hH, F, o⟩ (I.mono (Pl.mono _) (jC.refl _)) H))) (fun a3 b6 a9 a2 d j h A => ?_))
  obtain ⟨c2, c4, U, rfl⟩ := A
  replace d := d.perm (Tb Tn)
  refine lF (nc ?_)
  obtain rfl := sj hm
  exact lg.li ⟨_, _, _, rfl, (d.kF (Kb Sn)), (k.trans j), (m.trans h), (ST.kf d (ly.mem (Kb Sn))), ⟨_, _, U, rfl⟩⟩
 have p := d.size
 refine VE (eD d (Cb Pz Cn) gA (fun L => (jQ.r (pz a t.2 K _ _ L (I.mono (Pl.mono _) (jC.refl _)) H))) ?_)
 rintro a3 c0 a9 a2 d j h ⟨a7, D, rfl, Y⟩
 obtain rfl := D.symm
 replace d := d.perm (Tb Tn)
 let N := (⟨t.1, i.1⟩ : ja)
 let Q : Value := (.agg (jc N).toArray)
 refine V (kO (v := Q) (nB rfl rfl) (ku bj bA (EC _ bA) kr)) ?_
 replace d := d.perm (Nb (Pb Pz) Nz)
 refine VO (jD Q ((jc N).toArray) d rfl rfl ag (lf N) nb rfl (fun b4 d => lt (tZ ?_)))
 obtain rfl := sj hm
 exact oE (v := Q) rfl rfl (jm d.has Mh (jc N) rfl au ag) (lg.ri ⟨_, _, _, rfl, (d.kF (Db (Kb Sn))), (k.trans j), (m.trans h), (ST.kf d (ly.mem (Db (Kb Sn)))), a7, rfl, rfl, Y⟩)
set_option maxHeartbeats 4000000 in
theorem EZ (a : Nat) (a0 : jx) (j : Value) (s : (Int ⊕ (jb × jx))) (w : World) {μ0 : jF} (h0 : na μ0 ((a, Ob #[j, (.bool a0.kQ)] 158) :: []) w) (d1 : Sl (Pl (jS .u8)) 1 μ0 j a0.b) (hm : yN a0 = some s) :
  jQ true pg0 167 [(.pointer (some ⟨a, 0, none⟩))] w μ0 ((a, Ob #[j, (.bool a0.kQ)] 158) :: []) s (fun r v L1 μ1 => ∃ y1, v = (.agg (jg (r.1)).toArray) ∧ L1 = ((a, Ob #[y1, (.bool ((r.2).kQ))] 158) :: []) ∧ Sl (Pl (jS .u8)) 1 μ1 y1 ((r.2).b)) (fun x c L1 μ1 => ∃ y z, c = [{ v := uJ 217 a x, recovered := false }] ∧ L1 = ((a, Ob #[y, z] 158) :: [])) := by
 let h2 : Value := (.agg (jg K7).toArray)
 let g5 := ((jg K7).toArray : Array Value)
 let b8 := ((a, Ob #[j, (.bool a0.kQ)] 158) :: [])
 let a5 : Value := (.pointer (some ⟨a, 0, none⟩))
 have d := ST.tG (dd := true) h0
 refine oz (n := 55) func167 rfl rfl nb (sg (VE (kl d bh (fun W2 b1 d => lr (Wm (bS hm fun o5 k4 hm => ?_))))))
 let g6 : Value := (.pointer (some ⟨b1, 0, none⟩))
 rcases o5 with v3 | J
 ·have m := d.size
  refine pR (.inl rfl) (ma (args := [a5, (.int .i64 9223372036854775807)]) (caps := #[]) _ _ d (Cb (Pb Pz) Cn) rfl gQ (by exact og rfl rfl) (fun hH A h P => (jQ.l (kW a a0 j 9223372036854775807 _ _ ⟨hH, A, h⟩ (d1.mono (Pl.mono _) (jC.refl _)) k4))) (fun W5 v1 ba p4 d u q cs => ?_))
  obtain ⟨v6, v8, m6, rfl⟩ := cs
  replace d := d.perm (Tb Tn)
  refine lF (nc ?_)
  obtain rfl := sj hm
  exact lg.li ⟨_, _, _, rfl, (d.kF (Kb Sn)), u, q, (ST.kf d (ly.mem (Kb Sn))), ⟨_, _, m6, rfl⟩⟩
 have m := d.size
 refine VE (eD d (Cb (Pb Pz) Cn) gQ (fun F => (jQ.r (kW a a0 j 9223372036854775807 _ _ F (d1.mono (Pl.mono _) (jC.refl _)) k4))) ?_)
 rintro W5 v9 ba p4 d u q ⟨b5, d4, rfl, c8⟩
 let h3 := (#[b5, (.bool ((J.2).kQ))] : Array Value)
 obtain rfl := d4.symm
 replace d := d.perm (Tb Tn)
 let f2 := (⟨J.1, K0, zS, K0, K0, zS⟩ : jb)
 refine V (kO (v := (.agg (jg f2).toArray)) (mf rfl) (ku bh bD (Fy _ bD) kr)) (VE (kl d bh (fun u8 b4 d => VO (jD (.agg (jg f2).toArray) ((jg f2).toArray) d rfl rfl an (mo f2) nb rfl (fun u9 d => ln (jo (EX hm (fun o3 E W => ∃ f0 k3, jC ba f0 ∧ Lo (keys b8) w ba f0 ∧ ST true (keys b8) w W f0 ((b4, Ol (jg f2) 108) :: ((a, Obj.cells h3 158 (0, 0)) :: ((b1, Obj.cells g5 108 (0, 0)) :: k3))) ∧ E 0 = a5 ∧ E 2 = g6 ∧ E 3 = (.pointer (some ⟨b4, 0, none⟩))) (fun o3 j7 b7 => ?_) ?_)))))))
 ·refine sg (Wf mh (VB d Mh rfl rfl bl (Wi rfl (Wm (LJ j7 (fun g0 E W => ∃ f4, ST true (keys b8) w W ba ((b4, Ol (jg f2) 108) :: ((a, Obj.cells h3 158 (0, 0)) :: ((b1, Obj.cells g5 108 (0, 0)) :: f4))) ∧ E 0 = a5 ∧ E 2 = g6 ∧ E 3 = (.pointer (some ⟨b4, 0, none⟩)) ∧ E 14 = (.bool g0)) 4 ?_ (fun g0 Z d2 => ?_))))))
  ·rintro t1 E W ⟨f4, d, d3, f6, f7, m3⟩ H
   refine ln (CI H m3 (fun i6 H => ?_) (fun i6 H => ?_))
   ·refine jk (Wh d3 (bS H fun o4 e7 H => ?_))
    rcases o4 with n4 | s2
    ·have m := d.size
     refine pR (.inl rfl) (ma (args := [a5, (.int .i64 11)]) (caps := #[]) _ _ d (Cb (Pb Pz) Cn) rfl dD (by exact og rfl rfl) (fun hH A h P => (jQ.l (ky a J.2 b5 11 _ _ ⟨hH, A, h⟩ (c8.mono (Pl.mono _) (jC.refl _)) e7))) (fun m1 r7 h1 l3 d b2 aE cp => ?_))
     obtain ⟨t9, u7, j6, rfl⟩ := cp
     replace d := d.perm (Tb Tn)
     refine lF (nc ?_)
     obtain rfl := sj H
     replace b7 : some (Sum.inl n4) = some s := b7
     obtain rfl := sj b7
     exact lg.li ⟨_, _, _, rfl, (d.kF (Kb Sn)), (u.trans b2), (q.trans aE), (ST.kf d (ly.mem (Kb Sn))), ⟨_, _, j6, rfl⟩⟩
    have m := d.size
    refine VE (eD d (Cb (Pb Pz) Cn) dD (fun F => (jQ.r (ky a J.2 b5 11 _ _ F (c8.mono (Pl.mono _) (jC.refl _)) e7))) ?_)
    rintro m1 t0 h1 l3 d b2 aE ⟨c7, rfl⟩
    obtain rfl := c7.symm
    replace d := d.perm (Tb Tn)
    refine ln ?_
    obtain rfl := sj H
    exact ⟨_, rfl, h1, _, b2, aE, (d.je (Sb (Pb Pz) St)), d3, f6, f7⟩
   refine kn ?_
   obtain rfl := sj H
   exact ⟨_, rfl, ba, _, (jC.refl _), Lo.refl, (d.je St), d3, f6, f7⟩
  refine bC Z (fun G Z => ?_) (fun G Z => ?_)
  ·refine un G (un G (un G (V (jz (cB G) rfl) ?_)))
   obtain rfl := sj Z
   exact d2 _ _ ⟨_, (d.je St), rfl, rfl, rfl, rfl⟩
  refine ug G (jh mh rfl) (ug G (jf rfl (jq d.has Mh rfl bl)) (ug G (kv rfl rfl rfl) (V (jA (cB G) rfl) ?_)))
  obtain rfl := sj Z
  exact d2 _ _ ⟨_, (d.je St), rfl, rfl, rfl, rfl⟩
 rintro ⟨⟩ E W ⟨f0, k3, k, p, d, M, d0, I⟩ b9
 refine sg (Wh M (bS b9 fun o2 f8 b9 => ?_))
 rcases o2 with v4 | D
 ·have m := d.size
  refine pR (.inl rfl) (ma (args := [a5]) (caps := #[]) _ _ d (Cb (Pb Pz) Cn) rfl fK (by exact ny rfl) (fun hH A h P => (jQ.l (nQ a J.2 b5 _ _ ⟨hH, A, h⟩ (c8.mono (Pl.mono _) k) f8))) (fun p6 v2 f1 p5 d t o cS => ?_))
  obtain ⟨v7, w0, m7, rfl⟩ := cS
  replace d := d.perm (Tb Tn)
  refine lF (nc ?_)
  obtain rfl := sj b9
  exact lg.li ⟨_, _, _, rfl, (d.kF (Kb Sn)), ((u.trans k).trans t), ((q.trans p).trans o), (ST.kf d (ly.mem (Kb Sn))), ⟨_, _, m7, rfl⟩⟩
 have m := d.size
 refine VE (eD d (Cb (Pb Pz) Cn) fK (fun F => (jQ.r (nQ a J.2 b5 _ _ F (c8.mono (Pl.mono _) k) f8))) ?_)
 rintro p6 v5 f1 p5 d t o ⟨a1, d5, rfl, K⟩
 obtain rfl := d5.symm
 replace d := d.perm (Tb Tn)
 refine V (jh mJ I) ?_
 replace d := d.perm (Nb (Pb Pz) Nz)
 refine VO (jD (.agg (jc D.1).toArray) ((jg (⟨J.1, D.1, zS, K0, K0, zS⟩ : jb)).toArray) d rfl rfl ag (lf D.1) nb rfl (fun v0 d => ln (jo (EX b9 (fun c9 E W => ∃ Q b3 f3, jC f1 b3 ∧ Lo (keys b8) w f1 b3 ∧ ST true (keys b8) w W b3 ((b4, Ol (jg c9.1) 108) :: ((a, Ob #[Q, (.bool c9.2.2)] 158) :: ((b1, Obj.cells g5 108 (0, 0)) :: f3))) ∧ E 0 = a5 ∧ E 2 = g6 ∧ E 3 = (.pointer (some ⟨b4, 0, none⟩)) ∧ Sl (Pl (jS .u8)) 1 b3 Q c9.2.1) (fun c9 g i => ?_) ?_))))
 ·refine sg (V (jh mh I) (VB d Mh rfl rfl bl (ln (bg (Wi rfl (Wa (ln (CI g rfl (fun i2 g => ?_) (fun i2 g => ?_)))))))))
  ·refine jk (Wh M (bS g fun n6 e1 g => ?_))
   rcases n6 with m8 | d6
   ·have m := d.size
    refine pR (.inl rfl) (ma (args := [a5]) (caps := #[]) _ _ d (Cb (Pb Pz) Cn) rfl gA (by exact ny rfl) (fun hH A h P => (jQ.l (pz a D.2 a1 _ _ ⟨hH, A, h⟩ (K.mono (Pl.mono _) (jC.refl _)) e1))) (fun l5 r0 g4 k7 d a7 ad ca => ?_))
    obtain ⟨t3, u1, i8, rfl⟩ := ca
    replace d := d.perm (Tb Tn)
    refine uP (lF (nc ?_))
    obtain rfl := sj g
    replace i : some (Sum.inl m8) = some s := i
    obtain rfl := sj i
    exact lg.li ⟨_, _, _, rfl, (d.kF (Kb Sn)), (((u.trans k).trans t).trans a7), (((q.trans p).trans o).trans ad), (ST.kf d (ly.mem (Kb Sn))), ⟨_, _, i8, rfl⟩⟩
   have m := d.size
   refine VE (eD d (Cb (Pb Pz) Cn) gA (fun F => (jQ.r (pz a D.2 a1 _ _ F (K.mono (Pl.mono _) (jC.refl _)) e1))) ?_)
   rintro l5 s4 g4 k7 d a7 ad ⟨o6, c1, rfl, j9⟩
   obtain rfl := c1.symm
   replace d := d.perm (Tb Tn)
   refine V (jh rq I) ?_
   replace d := d.perm (Nb (Pb Pz) Nz)
   refine VO (jD (.string d6.1) ((jg (⟨J.1, D.1, d6.1, K0, K0, zS⟩ : jb)).toArray) d rfl rfl cj (An d6.1) nb rfl (fun q2 d => jH (jV (jj ?_))))
   obtain rfl := sj g
   exact ⟨_, rfl, o6, g4, _, a7, ad, (d.je St), M, d0, I, j9⟩
  refine sg (Wi rfl (Wa (ln (CI g rfl (fun i3 g => ?_) (fun i3 g => ?_)))))
  ·refine jk (Wh M (bS g fun n7 e2 g => ?_))
   rcases n7 with m9 | d7
   ·have m := d.size
    refine pR (.inl rfl) (ma (args := [a5]) (caps := #[]) _ _ d (Cb (Pb Pz) Cn) rfl fK (by exact ny rfl) (fun hH A h P => (jQ.l (nQ a D.2 a1 _ _ ⟨hH, A, h⟩ (K.mono (Pl.mono _) (jC.refl _)) e2))) (fun l6 r1 g7 k8 d a8 af cb => ?_))
    obtain ⟨t4, u2, i9, rfl⟩ := cb
    replace d := d.perm (Tb Tn)
    refine uP (lF (nc ?_))
    obtain rfl := sj g
    replace i : some (Sum.inl m9) = some s := i
    obtain rfl := sj i
    exact lg.li ⟨_, _, _, rfl, (d.kF (Kb Sn)), (((u.trans k).trans t).trans a8), (((q.trans p).trans o).trans af), (ST.kf d (ly.mem (Kb Sn))), ⟨_, _, i9, rfl⟩⟩
   have m := d.size
   refine VE (eD d (Cb (Pb Pz) Cn) fK (fun F => (jQ.r (nQ a D.2 a1 _ _ F (K.mono (Pl.mono _) (jC.refl _)) e2))) ?_)
   rintro l6 s5 g7 k8 d a8 af ⟨o7, c2, rfl, k0⟩
   obtain rfl := c2.symm
   replace d := d.perm (Tb Tn)
   refine V (jh lm I) ?_
   replace d := d.perm (Nb (Pb Pz) Nz)
   refine VO (jD (.agg (jc d7.1).toArray) ((jg (⟨J.1, D.1, zS, d7.1, K0, zS⟩ : jb)).toArray) d rfl rfl ag (lf d7.1) nb rfl (fun q3 d => jH (jV (jj ?_))))
   obtain rfl := sj g
   exact ⟨_, rfl, o7, g7, _, a8, af, (d.je St), M, d0, I, k0⟩
  refine sg (Wi rfl (Wa (ln (CI g rfl (fun i4 g => ?_) (fun i4 g => ?_)))))
  ·refine sg (Wh M (bS g fun n9 e3 g => ?_))
   rcases n9 with n0 | a2
   ·have m := d.size
    refine pR (.inl rfl) (ma (args := [a5]) (caps := #[]) _ _ d (Cb (Pb Pz) Cn) rfl fK (by exact ny rfl) (fun hH A h P => (jQ.l (nQ a D.2 a1 _ _ ⟨hH, A, h⟩ (K.mono (Pl.mono _) (jC.refl _)) e3))) (fun l7 r2 p2 k9 d U L cc => ?_))
    obtain ⟨t5, u3, j0, rfl⟩ := cc
    replace d := d.perm (Tb Tn)
    refine lF (uP (lF (nc ?_)))
    obtain rfl := sj g
    replace i : some (Sum.inl n0) = some s := i
    obtain rfl := sj i
    exact lg.li ⟨_, _, _, rfl, (d.kF (Kb Sn)), (((u.trans k).trans t).trans U), (((q.trans p).trans o).trans L), (ST.kf d (ly.mem (Kb Sn))), ⟨_, _, j0, rfl⟩⟩
   have m := d.size
   refine VE (eD d (Cb (Pb Pz) Cn) fK (fun F => (jQ.r (nQ a D.2 a1 _ _ F (K.mono (Pl.mono _) (jC.refl _)) e3))) ?_)
   rintro l7 s6 p2 k9 d U L ⟨g2, c3, rfl, e8⟩
   obtain rfl := c3.symm
   replace d := d.perm (Tb Tn)
   refine V (jh lm I) ?_
   replace d := d.perm (Nb (Pb Pz) Nz)
   refine VO (jD (.agg (jc a2.1).toArray) ((jg (⟨J.1, D.1, zS, a2.1, K0, zS⟩ : jb)).toArray) d rfl rfl ag (lf a2.1) nb rfl (fun q4 d => ln (jk (Wh M (bS g fun n8 e4 g => ?_)))))
   rcases n8 with n1 | d8
   ·have m := d.size
    refine pR (.inl rfl) (ma (args := [a5]) (caps := #[]) _ _ d (Cb (Pb Pz) Cn) rfl gA (by exact ny rfl) (fun hH A h P => (jQ.l (pz a a2.2 g2 _ _ ⟨hH, A, h⟩ (e8.mono (Pl.mono _) (jC.refl _)) e4))) (fun l8 r4 g8 l0 d a9 ao cf => ?_))
    obtain ⟨t6, u4, j3, rfl⟩ := cf
    replace d := d.perm (Tb Tn)
    refine uP (lF (nc ?_))
    obtain rfl := sj g
    replace i : some (Sum.inl n1) = some s := i
    obtain rfl := sj i
    exact lg.li ⟨_, _, _, rfl, (d.kF (Kb Sn)), ((((u.trans k).trans t).trans U).trans a9), ((((q.trans p).trans o).trans L).trans ao), (ST.kf d (ly.mem (Kb Sn))), ⟨_, _, j3, rfl⟩⟩
   have m := d.size
   refine VE (eD d (Cb (Pb Pz) Cn) gA (fun F => (jQ.r (pz a a2.2 g2 _ _ F (e8.mono (Pl.mono _) (jC.refl _)) e4))) ?_)
   rintro l8 s7 g8 l0 d a9 ao ⟨o8, c4, rfl, k1⟩
   obtain rfl := c4.symm
   replace d := d.perm (Tb Tn)
   refine V (jh pX I) ?_
   replace d := d.perm (Nb (Pb Pz) Nz)
   refine VO (jD (.string d8.1) ((jg (⟨J.1, D.1, zS, a2.1, K0, d8.1⟩ : jb)).toArray) d rfl rfl cj (An d8.1) nb rfl (fun q5 d => jH (jV (jj ?_))))
   obtain rfl := sj g
   exact ⟨_, rfl, o8, g8, _, (U.trans a9), (L.trans ao), (d.je St), M, d0, I, k1⟩
  refine sg (Wi rfl (Wa (ln (CI g rfl (fun i5 g => ?_) (fun i5 g => ?_)))))
  ·refine sg (Wh M (bS g fun o1 e5 g => ?_))
   rcases o1 with n2 | a3
   ·have m := d.size
    refine pR (.inl rfl) (ma (args := [a5]) (caps := #[]) _ _ d (Cb (Pb Pz) Cn) rfl fK (by exact ny rfl) (fun hH A h P => (jQ.l (nQ a D.2 a1 _ _ ⟨hH, A, h⟩ (K.mono (Pl.mono _) (jC.refl _)) e5))) (fun l9 r5 p3 l1 d Y O ch => ?_))
    obtain ⟨t7, u5, j4, rfl⟩ := ch
    replace d := d.perm (Tb Tn)
    refine lF (uP (lF (nc ?_)))
    obtain rfl := sj g
    replace i : some (Sum.inl n2) = some s := i
    obtain rfl := sj i
    exact lg.li ⟨_, _, _, rfl, (d.kF (Kb Sn)), (((u.trans k).trans t).trans Y), (((q.trans p).trans o).trans O), (ST.kf d (ly.mem (Kb Sn))), ⟨_, _, j4, rfl⟩⟩
   have m := d.size
   refine VE (eD d (Cb (Pb Pz) Cn) fK (fun F => (jQ.r (nQ a D.2 a1 _ _ F (K.mono (Pl.mono _) (jC.refl _)) e5))) ?_)
   rintro l9 s8 p3 l1 d Y O ⟨g3, c5, rfl, e9⟩
   obtain rfl := c5.symm
   replace d := d.perm (Tb Tn)
   refine V (jh lm I) ?_
   replace d := d.perm (Nb (Pb Pz) Nz)
   refine VO (jD (.agg (jc a3.1).toArray) ((jg (⟨J.1, D.1, zS, a3.1, K0, zS⟩ : jb)).toArray) d rfl rfl ag (lf a3.1) nb rfl (fun q6 d => ln (jk (Wh M (bS g fun o0 e6 g => ?_)))))
   rcases o0 with n3 | d9
   ·have m := d.size
    refine pR (.inl rfl) (ma (args := [a5]) (caps := #[]) _ _ d (Cb (Pb Pz) Cn) rfl fK (by exact ny rfl) (fun hH A h P => (jQ.l (nQ a a3.2 g3 _ _ ⟨hH, A, h⟩ (e9.mono (Pl.mono _) (jC.refl _)) e6))) (fun m0 r6 g9 l2 d b0 av cm => ?_))
    obtain ⟨t8, u6, j5, rfl⟩ := cm
    replace d := d.perm (Tb Tn)
    refine uP (lF (nc ?_))
    obtain rfl := sj g
    replace i : some (Sum.inl n3) = some s := i
    obtain rfl := sj i
    exact lg.li ⟨_, _, _, rfl, (d.kF (Kb Sn)), ((((u.trans k).trans t).trans Y).trans b0), ((((q.trans p).trans o).trans O).trans av), (ST.kf d (ly.mem (Kb Sn))), ⟨_, _, j5, rfl⟩⟩
   have m := d.size
   refine VE (eD d (Cb (Pb Pz) Cn) fK (fun F => (jQ.r (nQ a a3.2 g3 _ _ F (e9.mono (Pl.mono _) (jC.refl _)) e6))) ?_)
   rintro m0 s9 g9 l2 d b0 av ⟨o9, c6, rfl, k2⟩
   obtain rfl := c6.symm
   replace d := d.perm (Tb Tn)
   refine V (jh ou I) ?_
   replace d := d.perm (Nb (Pb Pz) Nz)
   refine VO (jD (.agg (jc d9.1).toArray) ((jg (⟨J.1, D.1, zS, a3.1, d9.1, zS⟩ : jb)).toArray) d rfl rfl ag (lf d9.1) nb rfl (fun q7 d => jH (jV (jj ?_))))
   obtain rfl := sj g
   exact ⟨_, rfl, o9, g9, _, (Y.trans b0), (O.trans av), (d.je St), M, d0, I, k2⟩
  refine jW (jV (jj ?_))
  obtain rfl := sj g
  exact ⟨_, rfl, a1, f1, _, (jC.refl _), Lo.refl, (d.je St), M, d0, I, K⟩
 rintro ⟨N, f9, g1⟩ E W ⟨Q, b3, f3, a6, R, d, m2, b6, f5, a4⟩ B
 refine jo (sg (V (jf f5 (jm d.has Mh (jg N) rfl aT an)) (bS B fun s0 j8 B => VE (Eg d iM (rU N _ _  j8) (fun p9 d => V (lM rfl) (ln (CI B rfl (fun i1 B => ?_) (fun i1 B => ?_))))))))
 ·refine sg (Wh m2 (bS B fun n5 e0 B => ?_))
  rcases n5 with r9 | s1
  ·have m := d.size
   refine pR (.inl rfl) (ma (args := [a5, (.int .i64 11)]) (caps := #[]) _ _ d (Cb (Pb Pz) Cn) rfl dD (by exact og rfl rfl) (fun hH A h P => (jQ.l (ky a (⟨f9, g1⟩ : jx) Q 11 _ _ ⟨hH, A, h⟩ (a4.mono (Pl.mono _) (jC.refl _)) e0))) (fun l4 q9 p1 k6 d T ab bs => ?_))
   obtain ⟨t2, u0, i7, rfl⟩ := bs
   replace d := d.perm (Tb Tn)
   refine lF (lF (nc ?_))
   obtain rfl := sj B
   exact lg.li ⟨_, _, _, rfl, (d.kF (Kb Sn)), ((((u.trans k).trans t).trans a6).trans T), ((((q.trans p).trans o).trans R).trans ab), (ST.kf d (ly.mem (Kb Sn))), ⟨_, _, i7, rfl⟩⟩
  have m := d.size
  refine VE (eD d (Cb (Pb Pz) Cn) dD (fun F => (jQ.r (ky a (⟨f9, g1⟩ : jx) Q 11 _ _ F (a4.mono (Pl.mono _) (jC.refl _)) e0))) ?_)
  rintro l4 s3 p1 k6 d T ab ⟨c0, rfl⟩
  obtain rfl := c0.symm
  replace d := d.perm (Tb Tn)
  refine ln ?_
  replace d := d.je (Kb (Db St))
  refine sg (V (kO (v := h2) sG (ku bh bD (Fy _ bD) kr)) ?_)
  replace d := d.perm (Nb (Pb Pz) Nz)
  refine VO (jD h2 ((jg K7).toArray) d b6 rfl an (mo K7) nb rfl (fun q0 d => lt (jE (tZ ?_))))
  obtain rfl := sj B
  exact oE (v := h2) rfl b6 (jm d.has Mh (jg K7) rfl aT an) (lg.ri ⟨_, _, _, rfl, (d.kF (Db (Kb Sn))), ((((u.trans k).trans t).trans a6).trans T), ((((q.trans p).trans o).trans R).trans ab), (ST.kf d (ly.mem (Db (Kb Sn)))), Q, rfl, rfl, (a4.mono (Pl.mono _) T)⟩)
 refine kg (V (jf f5 (jm d.has Mh (jg N) rfl aT an)) ?_)
 replace d := d.perm (Nb (Pb (Pb Pz)) Nz)
 refine VO (jD (.agg (jg N).toArray) ((jg N).toArray) d b6 rfl an (mo N) nb rfl (fun q1 d => ln ?_))
 replace d := d.je (Kb (Db St))
 refine jN (tZ ?_)
 obtain rfl := sj B
 exact oE (v := (.agg (jg N).toArray)) rfl b6 (jm d.has Mh (jg N) rfl aT an) (lg.ri ⟨_, _, _, rfl, (d.kF (Db (Kb Sn))), (((u.trans k).trans t).trans a6), (((q.trans p).trans o).trans R), (ST.kf d (ly.mem (Db (Kb Sn)))), Q, rfl, rfl, a4⟩)
theorem DL (i : Nat) (Y : jx) (j : Value) (a1 : Int) (s : (Int ⊕ ((List jv) × jx))) (w : World) {μ0 : jF} (h0 : na μ0 ((i, Ob #[j, (.bool Y.kQ)] 158) :: []) w) (Z : Sl (Pl (jS .u8)) 1 μ0 j Y.b) (hm : xL Y a1 = some s) :
  jQ true pg0 101 [(.pointer (some ⟨i, 0, none⟩)), (.int .i64 a1)] w μ0 ((i, Ob #[j, (.bool Y.kQ)] 158) :: []) s (fun r v L1 μ1 => ∃ y1 y3, v = y1 ∧ L1 = ((i, Ob #[y3, (.bool ((r.2).kQ))] 158) :: []) ∧ Sl (Pl js) 12 μ1 y1 (r.1) ∧ Sl (Pl (jS .u8)) 1 μ1 y3 ((r.2).b)) (fun x c L1 μ1 => ∃ y z, c = [{ v := uJ 217 i x, recovered := false }] ∧ L1 = ((i, Ob #[y, z] 158) :: [])) := by
 let b7 := ((i, Ob #[j, (.bool Y.kQ)] 158) :: [])
 let a0 : Value := (.pointer (some ⟨i, 0, none⟩))
 have d := ST.tG (dd := true) h0
 refine oz (n := 26) func101 rfl rfl nb (sg (Wa (lr (Wa (lS (Wm ?_))))))
 refine Wm (bS hm fun e3 c9 hm => ?_)
 rcases e3 with h6 | r1
 ·have L := d.size
  refine pR (.inl rfl) (ma (args := [a0, (.int .i64 a1)]) (caps := #[]) _ _ d (Cb Pz Cn) rfl gQ (by exact og rfl rfl) (fun hH hN F ao => (jQ.l (kW i Y j a1 _ _ ⟨hH, hN, F⟩ (Z.mono (Pl.mono _) (jC.refl _)) c9))) (fun W3 h5 O L9 d H A af => ?_))
  obtain ⟨h7, h8, d7, rfl⟩ := af
  replace d := d.perm (Tb Tn)
  refine lF (lF (nc ?_))
  obtain rfl := sj hm
  exact lg.li ⟨_, _, _, rfl, (d.kF (Kb Sn)), H, A, (ST.kf d (ly.mem (Kb Sn))), ⟨_, _, d7, rfl⟩⟩
 have L := d.size
 refine VE (eD d (Cb Pz Cn) gQ (fun hh => (jQ.r (kW i Y j a1 _ _ hh (Z.mono (Pl.mono _) (jC.refl _)) c9))) ?_)
 rintro W3 v7 O L9 d H A ⟨f1, a4, rfl, d8⟩
 obtain rfl := a4.symm
 replace d := d.perm (Tb Tn)
 refine Wm (ln (kV (ns (fun m E W => ∃ D a5 M U G I J K b0, jC O K ∧ Lo (keys b7) w O K ∧ ST true (keys b7) w W K ((i, Ob #[G, (.bool J)] 158) :: (M ++ b0)) ∧ E 0 = a0 ∧ E 5 = D ∧ E 9 = (.int .i64 r1.1) ∧ E 10 = (.int .i64 U) ∧ jy 140 js 12 D a5 M ∧ Sl (Pl (jS .u8)) 1 K G I ∧ pO r1 m a5 U I J = some s) jX ⟨(.slice none 0 0), ([]), [], 0, f1, ((r1.2).b), ((r1.2).kQ), O, _, (jC.refl _), Lo.refl, (d.je St), rfl, rfl, rfl, rfl, (jy.nil _ _ _), d8, hm⟩ ?_)))
 rintro m E W ⟨D, a5, M, U, G, I, J, K, b0, u, o, d, a3, b2, b3, b4, a8, N, g⟩
 cases m with
 | zero => rw [pO] at g; cases g
 | succ e0 =>
  refine sg (V (kv b4 b3 rfl) (ln (jo (CI g rfl (fun c1 g => ?_) (fun c1 g => ?_)))))
  ·refine kn (jo (bg (Wh a3 (bS g fun e2 a6 g => ?_))))
   rcases e2 with g3 | a
   ·have L := d.size
    refine pR (.inl rfl) (ma (args := [a0]) (caps := #[]) _ _ d (Cb Pz Cn) rfl call167 (by exact ny rfl) (fun hH hN F ao => (jQ.l (EZ i (⟨I, J⟩ : jx) G _ _ ⟨hH, hN, F⟩ (N.mono (Pl.mono _) (jC.refl _)) a6))) (fun d4 g0 e8 d1 d B p P => ?_))
    obtain ⟨g9, h2, c3, rfl⟩ := P
    replace d := d.perm (Tb Tn)
    refine lF (uP (lF (lF (uP (lF (nc ?_))))))
    obtain rfl := sj g
    exact lg.li ⟨_, _, _, rfl, (d.kF (Kb Sn)), ((H.trans u).trans B), ((A.trans o).trans p), (ST.kf d (ly.mem (Kb Sn))), ⟨_, _, c3, rfl⟩⟩
   have L := d.size
   refine VE (eD d (Cb Pz Cn) call167 (fun hh => (jQ.r (EZ i (⟨I, J⟩ : jx) G _ _ hh (N.mono (Pl.mono _) (jC.refl _)) a6))) ?_)
   rintro d4 g7 e8 d1 d B p ⟨b5, Q, rfl, a9⟩
   obtain rfl := Q.symm
   replace d := d.perm (Tb Tn)
   refine VE (kl d bh (fun f5 f9 d => VO (jD (.agg (jg a.1).toArray) ((jg a.1).toArray) d rfl rfl an (mo a.1) nb rfl (fun f6 d => ln ?_))))
   replace d := d.drew
   have h := d.has.je (Kb Sn)
   refine ko h jP (X 0 rfl h (jl b2) (XH 1 rfl h (fun _ hS => jf rfl (jm hS Mh (jg a.1) rfl aT an)) (X 2 rfl h (jh mJ rfl) (XH 3 rfl h (fun _ hS => jf rfl (jm hS Mh (jc a.1.Head) rfl au ag)) (X 4 rfl h (jl a3) (bS g fun e1 a7 g => ?_))))))
   rcases e1 with g4 | k
   ·have L := d.size
    refine RO 5 rfl kr (.inl rfl) (ma (args := [a0]) (caps := #[]) _ _ d (Cb (Pb Pz) Cn) rfl gA (by exact ny rfl) (fun hH hN F ao => (jQ.l (pz i a.2 b5 _ _ ⟨hH, hN, F⟩ (a9.mono (Pl.mono _) (jC.refl _)) a7))) (fun d5 g1 b6 d2 d t q ab => ?_))
    obtain ⟨h1, h3, c4, rfl⟩ := ab
    replace d := d.perm (Tb Tn)
    refine uP (lF (lF (uP (lF (nc ?_)))))
    obtain rfl := sj g
    exact lg.li ⟨_, _, _, rfl, (d.kF (Kb Sn)), (((H.trans u).trans B).trans t), (((A.trans o).trans p).trans q), (ST.kf d (ly.mem (Kb Sn))), ⟨_, _, c4, rfl⟩⟩
   have L := d.size
   refine XE 5 rfl (eD d (Cb (Pb Pz) Cn) gA (fun hh => (jQ.r (pz i a.2 b5 _ _ hh (a9.mono (Pl.mono _) (jC.refl _)) a7))) ?_)
   rintro d5 g8 b6 d2 d t q ⟨e5, T, rfl, c6⟩
   obtain rfl := T.symm
   replace d := d.perm (Tb Tn)
   have h := d.has.oW t (Db (Kb Sn))
   let b1 := (⟨a.1, (⟨a.1.Head, k.1⟩ : jd)⟩ : jv)
   refine ⟨h, (X 6 rfl h (kO (v := (.agg (jw (⟨a.1.Head, k.1⟩ : jd)).toArray)) (nB rfl rfl) (ku cx bn (B4 _ bn) kr)) (X 7 rfl h (kO (v := (.agg (js (b1)).toArray)) (nB rfl rfl) (ku bX cN (MU _ cN) kr)) (XE 8 rfl (kh (cs := (js (b1)).toArray) d (mf rfl) (mn aw aV bX) (fun f7 d6 d => ?_)))))⟩
   have h := d.has.oW t (Db (Db (Kb Sn)))
   refine ⟨h, ?_⟩
   replace d := d.perm (Nr (Qb (Qb (Qb Qz))) Nz)
   refine bS g fun d9 c2 g => XE 9 rfl (lC (enc := js) (v := D) (vs := (.slice (some ⟨d6, 0, none⟩) 1 1)) (R := M) d mz dc qJ aw lR.1 lR.2.1 rfl lR.2.2.1 lR.2.2.2 rfl rfl a8 (Sl.lit (enc := js) (l := [b1]) mz rfl nb rfl (d.at_ (Ma Mh))) c2 (fun f8 e4 d3 d c0 => ?_))
   have h := d.has.oW t (Dr (Db (Db (Kb Sn))))
   refine ⟨h, (X 10 rfl h (lO rfl) (kz kr (jV (jj ?_))))⟩
   replace d := d.je (Kr (Db (Kb (Db St))))
   exact jk (V (kv b4 rfl rfl) (Wm (ln ⟨e0, aY _, e4, d9, d3, (wi0 .i64 (U + 1)), e5, ((k.2).b), ((k.2).kQ), b6, _, ((u.trans B).trans t), ((o.trans p).trans q), (d.je (Sb (Pr Pz) St)), a3, rfl, b3, rfl, c0, c6, g⟩)))
  refine mI (lZ (lZ (sr (jj (sg (Wh b2 (Wa (lt (tZ ?_)))))))))
  obtain rfl := sj g
  refine jR (v := D) rfl rfl ?_
  replace d := d.perm (Nr (Qb Qz) Nz)
  obtain ⟨h4, d, a2, ad, c5⟩ := ST.xP d a8 mz
  exact lg.ri ⟨_, _, _, rfl, (d.kF (Kb Sn)), ((H.trans u).trans a2), ((A.trans o).trans ad), (ST.kf d (ly.mem (Kb Sn))), D, G, rfl, rfl, c5, (N.mono (Pl.mono _) a2)⟩
theorem wy (a : Nat) (a0 : jx) (k : Value) (s : (Int ⊕ (jI × jx))) (w : World) {μ0 : jF} (h0 : na μ0 ((a, Ob #[k, (.bool a0.kQ)] 158) :: []) w) (b4 : Sl (Pl (jS .u8)) 1 μ0 k a0.b) (hm : uo a0 = some s) :
  jQ true pg0 41 [(.pointer (some ⟨a, 0, none⟩))] w μ0 ((a, Ob #[k, (.bool a0.kQ)] 158) :: []) s (fun r v L1 μ1 => ∃ y1 y3 y5, v = (.agg #[(.int .i64 ((r.1).State)), (.int .i64 ((r.1).lc)), y1, y3]) ∧ L1 = ((a, Ob #[y5, (.bool ((r.2).kQ))] 158) :: []) ∧ Sl (Pl jc) 2 μ1 y1 ((r.1).jM) ∧ Sl (Pl js) 12 μ1 y3 ((r.1).jO) ∧ Sl (Pl (jS .u8)) 1 μ1 y5 ((r.2).b)) (fun x c L1 μ1 => ∃ y z, c = [{ v := uJ 217 a x, recovered := false }] ∧ L1 = ((a, Ob #[y, z] 158) :: [])) := by
 let d8 := ((a, Ob #[k, (.bool a0.kQ)] 158) :: [])
 let b3 : Value := (.pointer (some ⟨a, 0, none⟩))
 have d := ST.tG (dd := true) h0
 refine oz (n := 25) func41 rfl rfl nb (sg (VE (kl d cJ (fun W2 b1 d => lr (Wm (bS hm fun h3 e8 hm => ?_))))))
 rcases h3 with l7 | J
 ·have L := d.size
  refine pR (.inl rfl) (ma (args := [b3, (.int .i64 3)]) (caps := #[]) _ _ d (Cb (Pb Pz) Cn) rfl gQ (by exact og rfl rfl) (fun hH hN F af => (jQ.l (kW a a0 k 3 _ _ ⟨hH, hN, F⟩ (b4.mono (Pl.mono _) (jC.refl _)) e8))) (fun W5 l4 cc h8 d H ad ba => ?_))
  obtain ⟨m2, m5, g1, rfl⟩ := ba
  replace d := d.perm (Tb Tn)
  refine lF (nc ?_)
  obtain rfl := sj hm
  exact lg.li ⟨_, _, _, rfl, (d.kF (Kb Sn)), H, ad, (ST.kf d (ly.mem (Kb Sn))), ⟨_, _, g1, rfl⟩⟩
 have L := d.size
 refine VE (eD d (Cb (Pb Pz) Cn) gQ (fun hh => (jQ.r (kW a a0 k 3 _ _ hh (b4.mono (Pl.mono _) (jC.refl _)) e8))) ?_)
 rintro W5 v9 cc h8 d H ad ⟨e9, c0, rfl, d4⟩
 obtain rfl := c0.symm
 replace d := d.perm (Tb Tn)
 refine Wm (bS hm fun h2 d2 hm => ?_)
 rcases h2 with l8 | j
 ·have L := d.size
  refine pR (.inl rfl) (ma (args := [b3, (.int .i64 99)]) (caps := #[]) _ _ d (Cb Pz Cn) rfl gQ (by exact og rfl rfl) (fun hH hN F af => (jQ.l (kW a J.2 e9 99 _ _ ⟨hH, hN, F⟩ (d4.mono (Pl.mono _) (jC.refl _)) d2))) (fun i1 l5 i8 h9 d G q bs => ?_))
  obtain ⟨m3, m6, g2, rfl⟩ := bs
  replace d := d.perm (Tb Tn)
  refine lF (nc ?_)
  obtain rfl := sj hm
  exact lg.li ⟨_, _, _, rfl, (d.kF (Kb Sn)), (H.trans G), (ad.trans q), (ST.kf d (ly.mem (Kb Sn))), ⟨_, _, g2, rfl⟩⟩
 have L := d.size
 refine VE (eD d (Cb Pz Cn) gQ (fun hh => (jQ.r (kW a J.2 e9 99 _ _ hh (d4.mono (Pl.mono _) (jC.refl _)) d2))) ?_)
 rintro i1 m0 i8 h9 d G q ⟨f0, c1, rfl, d5⟩
 obtain rfl := c1.symm
 replace d := d.perm (Tb Tn)
 refine V (kO (v := (.agg (C5 J.1 j.1).toArray)) (nB rfl rfl) (ku cJ cQ (MZ _ cQ) kr)) (VE (kl d cJ (fun l2 e7 d => VO (jD (.agg (C5 J.1 j.1).toArray) ((C5 J.1 j.1).toArray) d rfl rfl bz oc nb rfl (fun l3 d => lS (Wm (bS hm fun h1 d3 hm => ?_)))))))
 rcases h1 with l9 | c7
 ·have L := d.size
  refine pR (.inl rfl) (ma (args := [b3, (.int .i64 64)]) (caps := #[]) _ _ d (Cb (Pb Pz) Cn) rfl gQ (by exact og rfl rfl) (fun hH hN F af => (jQ.l (kW a j.2 f0 64 _ _ ⟨hH, hN, F⟩ (d5.mono (Pl.mono _) (jC.refl _)) d3))) (fun i2 l6 c8 i0 d N O ca => ?_))
  obtain ⟨m4, m7, g3, rfl⟩ := ca
  replace d := d.perm (Tb Tn)
  refine lF (lF (nc ?_))
  obtain rfl := sj hm
  exact lg.li ⟨_, _, _, rfl, (d.kF (Kb Sn)), ((H.trans G).trans N), ((ad.trans q).trans O), (ST.kf d (ly.mem (Kb Sn))), ⟨_, _, g3, rfl⟩⟩
 have L := d.size
 refine VE (eD d (Cb (Pb Pz) Cn) gQ (fun hh => (jQ.r (kW a j.2 f0 64 _ _ hh (d5.mono (Pl.mono _) (jC.refl _)) d3))) ?_)
 rintro i2 m1 c8 i0 d N O ⟨i7, c2, rfl, g4⟩
 obtain rfl := c2.symm
 replace d := d.perm (Tb Tn)
 refine Wm (ln (kV (ns (fun m E W => ∃ b2 U B a6 K I M a5 c9, jC c8 a5 ∧ Lo (keys d8) w c8 a5 ∧ ST true (keys d8) w W a5 ((e7, Ob #[(.int .i64 J.1), (.int .i64 j.1), U, (.slice none 0 0)] 64) :: ((a, Ob #[K, (.bool M)] 158) :: ((b1, Ol C6 64) :: (a6 ++ c9)))) ∧ E 0 = b3 ∧ E 2 = (.pointer (some ⟨b1, 0, none⟩)) ∧ E 3 = (.pointer (some ⟨e7, 0, none⟩)) ∧ E 10 = (.int .i64 c7.1) ∧ E 11 = (.int .i64 b2) ∧ jy 28 jc 2 U B a6 ∧ Sl (Pl (jS .u8)) 1 a5 K I ∧ oD c7 J j m b2 B I M = some s) jX ⟨0, (.slice none 0 0), ([]), [], i7, ((c7.2).b), ((c7.2).kQ), c8, _, (jC.refl _), Lo.refl, (d.je (Sb (Pb Pz) St)), rfl, rfl, rfl, rfl, rfl, (jy.nil _ _ _), g4, hm⟩ ?_)))
 rintro m E W ⟨b2, U, B, a6, K, I, M, a5, c9, Q, A, d, b7, b9, a2, d0, d1, a7, Y, g⟩
 let d7 := (⟨I, M⟩ : jx)
 cases m with
 | zero => rw [oD] at g; cases g
 | succ g7 =>
  refine sg (V (kv d1 d0 rfl) (ln (jo (CI g rfl (fun d9 g => ?_) (fun d9 g => ?_)))))
  ·refine kn (jo (kV ?_))
   replace d := d.drew
   have o := d.has.je Sn
   have p := d.has.je (Kb Sn)
   refine ya 7 o p jP (lT 0 rfl kr (.inl rfl) rfl dc (fun _ _ h => ⟨h.1, oF br h.2⟩) ⟨o, fun _ => p⟩ (fun _ _ _ _ => jh pv a2) (lT 1 rfl kr (.inl rfl) rfl dc (fun _ _ h => ⟨h.1, oF br h.2⟩) ⟨o, fun _ => p⟩ (fun l W cb hs => have hS := (hs.2 (cb.Mz 7 [1] kr rfl)); jf rfl (jq hS Mh rfl dn)) (lT 2 rfl kr (.inl rfl) rfl dc (fun _ _ h => ⟨h.1, oF br h.2⟩) ⟨o, fun _ => p⟩ (fun _ _ _ _ => jl b7) (bS g fun g8 c4 g => ?_))))
   rcases g8 with k0 | T
   ·have L := d.size
    refine RO 3 rfl kr (.inl rfl) (ma (args := [b3]) (caps := #[]) _ _ d (Cb (Pb Pz) Cn) rfl fK (by exact ny rfl) (fun hH hN F af => (jQ.l (nQ a d7 K _ _ ⟨hH, hN, F⟩ (Y.mono (Pl.mono _) (jC.refl _)) c4))) (fun f5 j7 d6 f2 d i P ao => ?_))
    obtain ⟨k5, k8, e1, rfl⟩ := ao
    replace d := d.perm (Tb Tn)
    refine uP (lF (lF (uP (lF (nc ?_)))))
    obtain rfl := sj g
    exact lg.li ⟨_, _, _, rfl, (d.kF (Kb Sn)), ((((H.trans G).trans N).trans Q).trans i), ((((ad.trans q).trans O).trans A).trans P), (ST.kf d (ly.mem (Kb Sn))), ⟨_, _, e1, rfl⟩⟩
   have L := d.size
   refine XE 3 rfl (eD d (Cb (Pb Pz) Cn) fK (fun hh => (jQ.r (nQ a d7 K _ _ hh (Y.mono (Pl.mono _) (jC.refl _)) c4))) ?_)
   rintro f5 k2 d6 f2 d i P ⟨h4, a8, rfl, e4⟩
   obtain rfl := a8.symm
   replace d := d.perm (Tb Tn)
   have o := d.has.oW i Sn
   have p := d.has.oW i (Db (Kb Sn))
   refine ⟨⟨o, fun _ => p⟩, (XE 4 rfl (kh (cs := (jc T.1).toArray) d (mf rfl) (mn al ag bj) (fun j0 f7 d => ?_)))⟩
   have o := d.has.oW i Sn
   have p := d.has.oW i (Db (Db (Kb Sn)))
   refine ⟨⟨o, fun _ => p⟩, ?_⟩
   replace d := d.perm (Nr (Qb (Qb (Qb (Qb Qz)))) Nz)
   refine bS g fun b0 e0 g => XE 5 rfl (lC (enc := jc) (v := U) (vs := (.slice (some ⟨f7, 0, none⟩) 1 1)) (R := a6) d lx dc lf al mW.1 mW.2.1 rfl mW.2.2.1 mW.2.2.2 rfl rfl a7 (Sl.lit (enc := jc) (l := [T.1]) lx rfl nb rfl (d.at_ (Ma Mh))) e0 (fun j3 k3 f4 d c3 => ?_))
   have o := d.has.oW i Sn
   have p := d.has.oW i (Dr (Db (Db (Kb Sn))))
   refine ⟨⟨o, fun _ => p⟩, (lT 6 rfl kr (.inl rfl) rfl dc (fun _ _ h => ⟨h.1, oF br h.2⟩) ⟨o, fun _ => p⟩ (fun _ _ _ _ => jh pv a2) ?_)⟩
   obtain ⟨b5, b6, rfl⟩ := c3.form
   let f1 : Value := (.slice b5 b0.length b6)
   replace d := d.perm (Nb (Pr (Pb (Pb Pz))) Nz)
   refine XO 7 rfl (jD f1 (#[(.int .i64 J.1), (.int .i64 j.1), f1, (.slice none 0 0)]) d rfl rfl iX oc nb rfl (fun j4 d => ?_))
   have o := d.has.oW i Sn
   refine ⟨⟨o, fun h => JX kr h⟩, (kz kr (jV (jj ?_)))⟩
   replace d := d.je (Kb (Kr (Db St)))
   exact jk (V (kv d1 rfl rfl) (Wm (ln ⟨g7, aY _, (wi0 .i64 (b2 + 1)), f1, b0, f4, h4, ((T.2).b), ((T.2).kQ), d6, _, (Q.trans i), (A.trans P), (d.je (Kb (Sb (Pr Pz) (Sb (Pr Pz) St)))), b7, b9, a2, d0, rfl, c3, e4, g⟩)))
  refine mI (lZ (lZ (sr (jj (sg (Wh b7 (bS g fun g9 c5 g => ?_)))))))
  rcases g9 with k1 | D
  ·have L := d.size
   refine pR (.inl rfl) (ma (args := [b3, (.int .i64 256)]) (caps := #[]) _ _ d (Cb (Pb Pz) Cn) rfl call101 (by exact og rfl rfl) (fun hH hN F af => (jQ.l (DL a d7 K 256 _ _ ⟨hH, hN, F⟩ (Y.mono (Pl.mono _) (jC.refl _)) c5))) (fun f6 j8 h7 f3 d a3 ab av => ?_))
   obtain ⟨k7, k9, e2, rfl⟩ := av
   replace d := d.perm (Tb Tn)
   refine lF (nc ?_)
   obtain rfl := sj g
   exact lg.li ⟨_, _, _, rfl, (d.kF (Kb Sn)), ((((H.trans G).trans N).trans Q).trans a3), ((((ad.trans q).trans O).trans A).trans ab), (ST.kf d (ly.mem (Kb Sn))), ⟨_, _, e2, rfl⟩⟩
  have L := d.size
  refine VE (eD d (Cb (Pb Pz) Cn) call101 (fun hh => (jQ.r (DL a d7 K 256 _ _ hh (Y.mono (Pl.mono _) (jC.refl _)) c5))) ?_)
  rintro f6 k4 h7 f3 d a3 ab ⟨k6, h5, a9, rfl, c6, e5⟩
  obtain rfl := a9.symm
  replace d := d.perm (Tb Tn)
  refine V (jh tu a2) ?_
  obtain ⟨t, u, rfl⟩ := c6.form
  let e6 : Value := (.slice t D.1.length u)
  replace d := d.perm (Nb (Pb Pz) Nz)
  refine VO (jD e6 (#[(.int .i64 J.1), (.int .i64 j.1), U, e6]) d rfl rfl iF oc nb rfl (fun j5 d => lr (V (jf a2 (jm d.has Mh [(.int .i64 J.1), (.int .i64 j.1), U, e6] rfl cD bz)) ?_)))
  obtain ⟨Z, a1, rfl⟩ := a7.form
  let b8 := (C2 J.1 j.1 Z B.length a1 t D.1.length u)
  replace d := d.perm (Nb (Pb (Pb Pz)) Nz)
  refine VO (jD (.agg b8.toArray) (b8.toArray) d b9 rfl bz oc nb rfl (fun j6 d => ln ?_))
  replace d := d.je (Kb (Db St))
  refine jN (tZ ?_)
  obtain rfl := sj g
  refine oE (v := (.agg b8.toArray)) rfl b9 (jm d.has Mh b8 rfl cD bz) ?_
  replace d := d.perm (Nr (Qb (Qb Qz)) Nz)
  obtain ⟨l1, d, a4, aE, e3⟩ := ST.xP d a7 lx
  exact lg.ri ⟨_, _, _, rfl, (d.kF (Db (Kb Sn))), (((((H.trans G).trans N).trans Q).trans a3).trans a4), (((((ad.trans q).trans O).trans A).trans ab).trans aE), (ST.kf d (ly.mem (Db (Kb Sn)))), (.slice Z B.length a1), e6, h5, rfl, rfl, e3, (c6.mono (Pl.mono _) a4), (e5.mono (Pl.mono _) a4)⟩
theorem Ez (i : Nat) (H : jx) (j : Value) (k : Nat) (u : jI) (g a : Value) (s : (Int ⊕ (jx × jI))) (w : World) {T : jF} (h0 : na T ((i, Ob #[j, (.bool H.kQ)] 158) :: ((k, Ob #[(.int .i64 u.State), (.int .i64 u.lc), g, a] 64) :: [])) w) (B : Sl (Pl (jS .u8)) 1 T j H.b) (Y : Sl (Pl jc) 2 T g u.jM) (U : Sl (Pl js) 12 T a u.jO) (hm : z7 H u = some s) :
  jQ true pg0 70 [(.pointer (some ⟨i, 0, none⟩)), (.pointer (some ⟨k, 0, none⟩))] w T ((i, Ob #[j, (.bool H.kQ)] 158) :: ((k, Ob #[(.int .i64 u.State), (.int .i64 u.lc), g, a] 64) :: [])) s (fun r v L1 Z => ∃ O P R, v = (.tuple #[]) ∧ L1 = ((i, Ob #[O, (.bool ((r.1).kQ))] 158) :: ((k, Ob #[(.int .i64 ((r.2).State)), (.int .i64 ((r.2).lc)), P, R] 64) :: [])) ∧ Sl (Pl (jS .u8)) 1 Z O ((r.1).b) ∧ Sl (Pl jc) 2 Z P ((r.2).jM) ∧ Sl (Pl js) 12 Z R ((r.2).jO)) (fun x c L1 Z => ∃ y z, c = [{ v := uJ 217 i x, recovered := false }] ∧ L1 = ((i, Ob #[y, z] 158) :: ((k, Ob #[(.int .i64 u.State), (.int .i64 u.lc), g, a] 64) :: []))) := by
 have d := ST.tG (dd := true) h0
 refine oz (n := 5) func70 rfl rfl nb (jk (Wm (bS hm fun W L hm => ?_)))
 rcases W with b7 | t
 ·have A := d.size
  refine pR (.inl rfl) (ma (args := [(.pointer (some ⟨i, 0, none⟩))]) (caps := #[]) _ _ d (Cb Pz Cn) rfl call41 (by exact ny rfl) (fun hH p m q => (jQ.l (wy i H j _ _ ⟨hH, p, m⟩ (B.mono (Pl.mono _) (jC.refl _)) L))) (fun W3 b6 F L9 d D h o => ?_))
  obtain ⟨c2, c3, a3, rfl⟩ := o
  replace d := d.perm (Tb Tn)
  refine nc ?_
  obtain rfl := sj hm
  exact lg.li ⟨_, _, _, rfl, (d.kF (Kb (Kb Sn))), D, h, (ST.kf d (ly.mem (Kb (Kb Sn)))), ⟨_, _, a3, rfl⟩⟩
 have A := d.size
 refine VE (OF d (Cb Pz Cn) call41 (fun hH p m q => (jQ.r (wy i H j _ _ ⟨hH, p, m⟩ (B.mono (Pl.mono _) (jC.refl _)) L))) (fun W3 v7 F L9 d D h a5 => ?_))
 obtain ⟨b9, c1, a8, G, rfl, N, Q, a4⟩ := a5
 replace G := G.symm; subst G
 replace d := d.perm (Tb Tn)
 obtain ⟨I, K, rfl⟩ := N.form
 let a0 : Value := (.slice I ((t.1).jM).length K)
 obtain ⟨J, M, rfl⟩ := Q.form
 let a2 : Value := (.slice J ((t.1).jO).length M)
 replace d := d.perm (Nb (Pb Pz) Nz)
 refine VO (jD (.agg #[(.int .i64 ((t.1).State)), (.int .i64 ((t.1).lc)), a0, a2]) (#[(.int .i64 ((t.1).State)), (.int .i64 ((t.1).lc)), a0, a2]) d rfl rfl bz oc nb rfl (fun b5 d => jH (HX (tI ?_))))
 obtain rfl := sj hm
 exact sI rfl (lg.ri ⟨_, _, _, rfl, (d.kF (Sb (Pb Pz) (Kb Sn))), D, h, (ST.kf d (ly.mem (Sb (Pb Pz) (Kb Sn)))), a8, a0, a2, rfl, rfl, a4, N, Q⟩)
theorem Bw (H : Value) (M : List Int) (i : Nat) (t : jI) (g a : Value) (r : (Int × jI)) (w : World) {K : jF} (I : na K ((i, Ob #[(.int .i64 t.State), (.int .i64 t.lc), g, a] 64) :: []) w) (N : Sl (Pl (jS .u8)) 1 K H M) (k : Sl (Pl jc) 2 K g t.jM) (j : Sl (Pl js) 12 K a t.jO) (hm : tV M t = some r) :
  nr true pg0 39 [H, (.func (.func 70) #[] #[(.pointer (some ⟨i, 0, none⟩))])] w K ((i, Ob #[(.int .i64 t.State), (.int .i64 t.lc), g, a] 64) :: []) (fun v G D => ∃ u B, v = (.int .i64 (r.1)) ∧ G = ((i, Ob #[(.int .i64 ((r.2).State)), (.int .i64 ((r.2).lc)), u, B] 64) :: []) ∧ Sl (Pl jc) 2 D u ((r.2).jM) ∧ Sl (Pl js) 12 D B ((r.2).jO)) := by
 refine bS hm fun l h hm => bS hm fun s m hm => ?_
 obtain rfl := sj hm
 refine nr.mono (FI 70 #[(.pointer (some ⟨i, 0, none⟩))] H M l s (fun r => (r.1).b) w I N h (fun r G D => ∃ u B, G = ((i, Ob #[(.int .i64 ((r.2).State)), (.int .i64 ((r.2).lc)), u, B] 64) :: []) ∧ Sl (Pl jc) 2 D u ((r.2).jM) ∧ Sl (Pl js) 12 D B ((r.2).jO)) (fun x G D => G = ((i, Ob #[(.int .i64 t.State), (.int .i64 t.lc), g, a] 64) :: [])) call70 (fun L μ' F n J hle q => jQ.mono (Ez F (⟨l, false⟩ : jx) n i t g a s L J q (k.mono (Pl.mono _) hle) (j.mono (Pl.mono _) hle) m) ?_ ?_)) ?_
 ·rintro r v G D ⟨P, u, B, O, d, Q, I, J⟩; exact ⟨_, _, _, d, Q, u, B, rfl, I, J⟩
 ·rintro x c G D ⟨y, z, A, d⟩; exact ⟨y, z, _, A, d, rfl⟩
 rintro v G D p ⟨rfl, o⟩
 cases s with
 | inl x => exact ⟨g, a, rfl, o, (k.mono (Pl.mono _) p), (j.mono (Pl.mono _) p)⟩
 | inr r => obtain ⟨u, B, d, I, J⟩ := o; exact ⟨u, B, rfl, d, I, J⟩
theorem DS (k : Value) (G : List jv) (D : Value) (q : List jb) (K : jd) (r : (Int × Int)) (w : World) (x : Sl (Pl js) 12 (hp w) k G) (c9 : Sl (Pl jg) 9 (hp w) D q) (hm : vJ G q K = some r) :
  jJ false pg0 86 [k, D, (.agg (jw K).toArray)] w (.tuple #[(.int .i64 r.1), (.int .i64 r.2)]) := by
 let a0 : Value := (.int .i64 (G.length : Int))
 refine cG 43 func86 rfl (fun d => sg (VE (jU d rfl (fun W2 s d => Wa (Wa (lr (Wm (bS hm fun P d3 hm => VE (rC d call150 (kw.kI (Ad k G _ _ (x.mono (Pl.mono _) d.ju) d3)) (fun W5 v9 p R d Y ab U => Wa (jH ?_)))))))))))
 refine jj (jo (sg (Wm (V (kj aw rfl x) (Wm (ln (km (fun i E W => ∃ N, (E 15 = .int .i64 (i : Nat) ∧ E 14 = .int .i64 (G.length : Nat)) ∧ ST false jT w W p ((s, Ol (jw K) 38) :: (R ++ N)) ∧ E 0 = k ∧ E 1 = D ∧ E 5 = (.pointer (some ⟨s, 0, none⟩)) ∧ E 8 = v9 ∧ E 13 = k ∧ rz q P K G (G.drop i) i = some r) G.length x.len ⟨_, ⟨rfl, rfl⟩, (d.je (Sb (Pr Pz) St)), rfl, rfl, rfl, rfl, rfl, hm⟩ dc dc dc (fun _ _ _ h => by obtain ⟨_, A, _⟩ := h; exact A) ?_ ?_)))))))
 ·rintro y E W a7 ⟨N, ⟨n, F⟩, d, z, H, I, B, J, c⟩
  let a2 : Value := (.int .i64 (y : Int))
  obtain ⟨j, d5, b5, b4, b6⟩ := jY a7
  rw [b5] at c
  refine bg (Wh n (VQ (kC (enc := js) (i := (y : Int)) (x0 := j) aw aV J n (x.mono (Pl.mono _) Y) (ak _) b4) (fun e1 a8 => V (jf rfl (kG d.has a8 di aV)) (VE (kl d bX (fun d6 b9 d => Wa (VO (jD (.agg (js j).toArray) ((js j).toArray) d rfl rfl aV (qJ j) nb rfl (fun d7 d => ln (jo ?_))))))))))
  replace d := d.drew
  have m := d.has.je (Kb Sn)
  refine ko m jP (X 0 rfl m (jl H) (X 1 rfl m (jh wU rfl) (XH 2 rfl m (fun _ L => jf rfl (jm L Mh (jg j.jb) rfl aT an)) (bS c fun e2 a9 c => XE 3 rfl (Eg d call151 (jJ.kI (GU D q j.jb _ _ (c9.mono (Pl.mono _) (Y.trans d.ju)) a9)) (fun d8 d => ?_))))))
  have m := d.has.je (Kb Sn)
  refine ⟨m, (X 4 rfl m (lM rfl) (X 5 rfl m (jl rfl) (PJ c (fun Z E W => ∃ T, ST false jT w W p ((b9, Ol (js j) 140) :: ((s, Ol (jw K) 38) :: (R ++ T))) ∧ E 0 = k ∧ E 1 = D ∧ E 5 = (.pointer (some ⟨s, 0, none⟩)) ∧ E 8 = v9 ∧ E 9 = a2 ∧ E 13 = k ∧ E 14 = a0 ∧ E 15 = a2 ∧ E 32 = (.bool Z)) (bm 13 8191) 0 ?_ (fun Z g M => ?_))))⟩
  ·rintro e5 E W ⟨T, d, c0, c1, c2, c3, c4, c5, c6, c7, c8⟩ t
   refine kz kr (jj ?_)
   replace d := d.je (Db St)
   refine CI t c8 (fun a5 t => ?_) (fun a5 t => ?_)
   ·refine sg (Wh c4 (Wa (Wa (ln ?_))))
    replace d := d.je (Db (Dr St))
    refine jN (kH (jE (kH (jE ?_))))
    obtain rfl := sj t
    exact rL (v := a2) (u := (.int .i64 50)) rfl rfl rfl ⟨rfl, d.ex⟩
   exact jW (jV (jj ⟨c7, _, ⟨rfl, c6⟩, (d.je St), c0, c1, c2, c3, c5, (by rw [b6]; exact t)⟩))
  refine bC g (fun a g => ?_) (fun a g => ?_)
  ·refine Xn 6 rfl rfl (cB a) m (Xn 7 rfl rfl (cB a) m (Xn 8 rfl rfl (cB a) m (Xn 9 rfl rfl (cB a) m (Xn 10 rfl rfl (cB a) m (Xn 11 rfl rfl (cB a) m (X 12 rfl m (jz (cB a) rfl) ?_))))))
   obtain rfl := sj g
   refine tL kr (M _ _ ⟨_, (d.je St), z, H, I, B, rfl, J, F, n, rfl⟩)
  refine yo 6 rfl rfl (cB a) m (fun _ L => jf rfl (jm L Mh (js j) rfl di aV)) (Xg 7 rfl rfl (cB a) m (jl B) (Xg 8 rfl rfl (cB a) m (jl rfl) (bS g fun _ Q g => Ph 9 rfl kr (.inr ⟨5, false, 25, rfl, rfl, by decide, (cB a)⟩) rfl dc (fun _ _ h => h) m (sT (i := (y : Int)) bJ bu rfl rfl U nn (qc Q) (qb Q)) (fun d1 b3 => bS g fun e3 b0 g => Is 10 rfl rfl (cB a) (Eg d call152 (y7 j d1 (P.take (Int.toNat (y : Int))) _ _ (b3.sl nn (fun b o O => d.at_ (Mt (Mt (Ml O))))) b0) (fun d9 d => ?_))))))
  have m := d.has.je (Kb Sn)
  refine ⟨m, (Xg 11 rfl rfl (cB a) m (lM rfl) (X 12 rfl m (jA (cB a) rfl) ?_))⟩
  obtain rfl := sj g
  refine tL kr (M _ _ ⟨_, (d.je St), z, H, I, B, rfl, J, F, n, rfl⟩)
 rintro E W ⟨N, ⟨n, F⟩, d, z, H, I, B, J, c⟩
 rw [ap] at c
 refine jj (jo (sg (Wh B (V (jf I (jm d.has Mh (jw K) rfl cT bu)) (bS c fun e4 b2 c => VE (Eg d call153 (jJ.kI (xr v9 P K _ _ (U.sl nn (fun b o O => d.at_ (Mt (Ml O)))) b2)) (fun e0 d => V (lM rfl) (ln ?_))))))))
 replace d := d.je (Db (Dr St))
 refine CI c rfl (fun a6 c => ?_) (fun a6 c => ?_)
 ·refine sg (Wh z (V (kj aw rfl x) (Wa (Wa (lt (jE ?_))))))
  obtain rfl := sj c
  exact rL (v := a0) (u := (.int .i64 42)) rfl rfl rfl ⟨rfl, d.ex⟩
 refine kg (Wh z (V (kj aw rfl x) (Wa (Wa (lt ?_)))))
 obtain rfl := sj c
 exact rL (v := a0) (u := (.int .i64 0)) rfl rfl rfl ⟨rfl, d.ex⟩
theorem wq (g : jI) (u t B : Value) (M : List jb) (k : Formula) (y : Value) (D : ByteArray) (r : Int) (w : World) (a : Sl (Pl jc) 2 (hp w) u g.jM) (j : Sl (Pl js) 12 (hp w) t g.jO) (N : Sl (Pl jg) 9 (hp w) B M) (x : Sl jZ 5 (hp w) y k.Kids) (hm : mN g M k D = some r) :
  jJ false pg0 34 [(.agg #[(.int .i64 g.State), (.int .i64 g.lc), u, t]), B, (.agg #[(.int .i64 k.Op), (.int .i64 k.K), (.string k.ja.jn), (.string k.ja.jK), y]), (.string D)] w (.int .i64 r) := by
 refine cG 57 func34 rfl (fun d => sg ?_)
 obtain ⟨Q, U, rfl⟩ := a.form
 obtain ⟨T, Y, rfl⟩ := j.form
 refine VE (jU d rfl (fun W6 o d => ?_))
 obtain ⟨A7, p, rfl⟩ := x.form
 refine VE (jU d rfl (fun d2 b9 d => Wa (ln (jo (bg (Wf vB (VB d (Mt Mh) rfl rfl bl (Wi rfl (Wa (ln (CI hm rfl (fun s hm => ?_) (fun s hm => ?_))))))))))))
 ·refine sg (Wa (ln ?_))
  replace d := d.je (Db (Db St))
  refine jN (kH (jE ?_))
  obtain rfl := sj hm
  exact rP d
 refine sg (VA d Mh (C1 k.Op k.K k.ja.jn k.ja.jK A7 k.Kids.length p) cC bI (Wf pv (VB d (Mt Mh) rfl rfl dn (bS hm fun d5 L hm => VE (Eg d call85 (BX k (.slice A7 k.Kids.length p) (.slice Q g.jM.length U) g.jM _ _ (x.mono lX.mono d.ju) (a.mono (Pl.mono _) d.ju) L) (fun d3 d => V (lM rfl) (Wa (ln ?_))))))))
 replace d := d.je (Db St)
 refine CI hm rfl (fun a9 hm => ?_) (fun a9 hm => ?_)
 ·refine sg (Wa (ln ?_))
  replace d := d.je (Db St)
  refine jN (kH (jE ?_))
  obtain rfl := sj hm
  exact rP d
 refine jW (jV (jj (jo (sg (Wf tu (VB d Mh rfl rfl eB (Wm (V (kO (v := (.agg (jw K9).toArray)) sG (ku cx bn (B4 _ bn) kr)) (bS hm fun d6 O hm => VE (Eg d call86 (DS (.slice T g.jO.length Y) g.jO B M K9 _ _ (j.mono (Pl.mono _) d.ju) (N.mono (Pl.mono _) d.ju) O) (fun d4 d => Wm (Wx rfl (Wx rfl ?_)))))))))))))
 refine Wa (Wa (lr (Wm (Wi rfl (ln (CI hm rfl (fun A hm => ?_) (fun A hm => ?_)))))))
 ·refine sg (Wm (Wa (ln ?_)))
  replace d := d.je (Db St)
  refine jN (jE ?_)
  obtain rfl := sj hm
  exact rP d
 refine kS (Wf pv (VB d Mh rfl rfl dn (V (kj al rfl a) (Wm (ln (km (fun i E W => ∃ K, (E 39 = .int .i64 (i : Nat) ∧ E 38 = .int .i64 (g.jM.length : Nat)) ∧ ST false jT w W (hp w) ((o, Ol (C2 g.State g.lc Q g.jM.length U T g.jO.length Y) 64) :: K) ∧ E 1 = B ∧ E 3 = (.string D) ∧ E 4 = (.pointer (some ⟨o, 0, none⟩)) ∧ E 37 = (.slice Q g.jM.length U) ∧ rN g M D (g.jM.drop i) = some r) g.jM.length a.len ⟨_, ⟨rfl, rfl⟩, (d.je St), rfl, rfl, rfl, rfl, hm⟩ dc dc dc (fun _ _ _ h => by obtain ⟨_, n, _⟩ := h; exact n) ?_ ?_))))))
 ·rintro c1 E W F ⟨K, ⟨m, q⟩, d, G, H, I, J, c⟩
  obtain ⟨z, d1, R, P, b7⟩ := jY F
  rw [R] at c
  refine bg (VQ (kC (enc := jc) (i := (c1 : Int)) (x0 := z) al ag J m a (ak _) P) (fun c9 a4 => V (jf rfl (kG d.has a4 au ag)) (VE (kl d bj (fun c3 c7 d => VO (jD (.agg (jc z).toArray) ((jc z).toArray) d rfl rfl ag (lf z) nb rfl (fun c5 d => lr (V (jh tu I) (VB d (Mt Mh) rfl rfl eB (Wh G (VA d Mh (jc z) au ag ?_)))))))))))
  refine Wh H (V (kO (v := (.agg (jw (⟨z, D⟩ : jd)).toArray)) (nB rfl rfl) (ku cx bn (B4 _ bn) kr)) (bS c fun d0 a5 c => VE (Eg d call86 (DS (.slice T g.jO.length Y) g.jO B M (⟨z, D⟩ : jd) _ _ (j.mono (Pl.mono _) d.ju) (N.mono (Pl.mono _) d.ju) a5) (fun c6 d => Wm (Wx rfl (Wx rfl (Wa (Wa (ln ?_)))))))))
  replace d := d.je (Db St)
  refine sg (Wm (Wi rfl (ln (CI c rfl (fun Z c => ?_) (fun Z c => ?_)))))
  ·refine sg (Wm (Wa (ln ?_)))
   replace d := d.je (Db St)
   refine jN (kH (jE (kH (jE ?_))))
   obtain rfl := sj c
   exact rP d
  exact jW (jV (jj ⟨m, _, ⟨rfl, q⟩, (d.je St), G, H, I, J, (by rw [b7]; exact c)⟩))
 rintro E W ⟨K, ⟨m, q⟩, d, G, H, I, J, c⟩
 rw [ap] at c
 refine jj ?_
 replace d := d.je (Db St)
 exact sg (Wa (lt (rQ c d)))
theorem D8 (t : Value) (y : List ja) (u : Value) (K : List ja) (r : Bool) (w : World) (c : Sl (Pl jc) 2 (hp w) t y) (z : Sl (Pl jc) 2 (hp w) u K) (hm : tM y K = some r) :
  jJ true pg0 75 [t, u] w (.bool r) := by
 refine cG 26 func75 rfl (fun m => sg (Wa (lS (Wm (V (kj al rfl c) (Wm (V (kj al rfl z) (Wi rfl (jH ?_)))))))))
 refine jj (CI hm rfl (fun U hm => ?_) (fun U hm => ?_))
 ·refine sg (Wa (lt (jE ?_)))
  obtain rfl := sj hm
  exact rP m
 refine kS (Wm (V (kj al rfl c) (Wm (ln (km (fun i E W => ∃ g, (E 13 = .int .i64 (i : Nat) ∧ E 12 = .int .i64 (y.length : Nat)) ∧ ST true jT w W (hp w) g ∧ E 0 = t ∧ E 1 = u ∧ pB K (y.drop i) i = some r) y.length c.len ⟨_, ⟨rfl, rfl⟩, (m.je St), rfl, rfl, hm⟩ dc dc dc (fun _ _ _ h => by obtain ⟨_, o, _⟩ := h; exact o) ?_ ?_)))))
 ·rintro I E W M ⟨g, ⟨n, q⟩, m, j, k, a⟩
  obtain ⟨J, a3, Q, N, T⟩ := jY M
  rw [Q] at a
  refine bg (Wh n (Wa (ln (jo ?_))))
  replace m := m.drew
  have d := m.has.je Sn
  refine ko d jP (X 0 rfl d (jl j) (X 1 rfl d (jl rfl) (XQ 2 rfl d (kC (enc := jc) (i := (I : Int)) (x0 := J) al ag rfl rfl c (ak _) N) (fun Y G => XH 3 rfl d (fun _ p => jf rfl (kG p G au ag)) (X 4 rfl d (jl k) (X 5 rfl d (jl rfl) (bS a fun B x a => XQ 6 rfl d (kC (enc := jc) (i := (I : Int)) (x0 := B) al ag rfl rfl z (kL x) (kq x)) (fun Z H => XH 7 rfl d (fun _ p => jf rfl (kG p H au ag)) (X 8 rfl d (B3 rfl rfl (lN ck) (xZ (ni _ J B))) (kz kr (jj (CI a rfl (fun D a => ?_) (fun D a => ?_)))))))))))))
  ·refine sg (Wa (lt (kH (jE (kH (jE ?_))))))
   obtain rfl := sj a
   exact rP m
  exact jW (jV (jj ⟨n, _, ⟨rfl, q⟩, (m.je St), j, k, (by rw [T]; exact a)⟩))
 rintro E W ⟨g, ⟨n, q⟩, m, j, k, a⟩
 rw [ap] at a
 exact jj (sg (Wa (lt (rQ a m))))
theorem D4 (t : Value) (y : List jv) (u : Value) (K : List jv) (r : Bool) (w : World) (c : Sl (Pl js) 12 (hp w) t y) (z : Sl (Pl js) 12 (hp w) u K) (hm : tK y K = some r) :
  jJ true pg0 76 [t, u] w (.bool r) := by
 refine cG 26 func76 rfl (fun m => sg (Wa (lS (Wm (V (kj aw rfl c) (Wm (V (kj aw rfl z) (Wi rfl (jH ?_)))))))))
 refine jj (CI hm rfl (fun U hm => ?_) (fun U hm => ?_))
 ·refine sg (Wa (lt (jE ?_)))
  obtain rfl := sj hm
  exact rP m
 refine kS (Wm (V (kj aw rfl c) (Wm (ln (km (fun i E W => ∃ g, (E 13 = .int .i64 (i : Nat) ∧ E 12 = .int .i64 (y.length : Nat)) ∧ ST true jT w W (hp w) g ∧ E 0 = t ∧ E 1 = u ∧ pG K (y.drop i) i = some r) y.length c.len ⟨_, ⟨rfl, rfl⟩, (m.je St), rfl, rfl, hm⟩ dc dc dc (fun _ _ _ h => by obtain ⟨_, o, _⟩ := h; exact o) ?_ ?_)))))
 ·rintro I E W M ⟨g, ⟨n, q⟩, m, j, k, a⟩
  obtain ⟨J, a3, Q, N, T⟩ := jY M
  rw [Q] at a
  refine bg (Wh n (Wa (ln (jo ?_))))
  replace m := m.drew
  have d := m.has.je Sn
  refine ko d jP (X 0 rfl d (jl j) (X 1 rfl d (jl rfl) (XQ 2 rfl d (kC (enc := js) (i := (I : Int)) (x0 := J) aw aV rfl rfl c (ak _) N) (fun Y G => XH 3 rfl d (fun _ p => jf rfl (kG p G di aV)) (X 4 rfl d (jl k) (X 5 rfl d (jl rfl) (bS a fun B x a => XQ 6 rfl d (kC (enc := js) (i := (I : Int)) (x0 := B) aw aV rfl rfl z (kL x) (kq x)) (fun Z H => XH 7 rfl d (fun _ p => jf rfl (kG p H di aV)) (X 8 rfl d (B3 rfl rfl (lN eqGuardType140) (xZ (KD _ J B))) (kz kr (jj (CI a rfl (fun D a => ?_) (fun D a => ?_)))))))))))))
  ·refine sg (Wa (lt (kH (jE (kH (jE ?_))))))
   obtain rfl := sj a
   exact rP m
  exact jW (jV (jj ⟨n, _, ⟨rfl, q⟩, (m.je St), j, k, (by rw [T]; exact a)⟩))
 rintro E W ⟨g, ⟨n, q⟩, m, j, k, a⟩
 rw [ap] at a
 exact jj (sg (Wa (lt (rQ a m))))
theorem CC (i : jI) (D B : Value) (j : jI) (H G : Value) (r : Bool) (w : World) (x : Sl (Pl jc) 2 (hp w) D i.jM) (u : Sl (Pl js) 12 (hp w) B i.jO) (z : Sl (Pl jc) 2 (hp w) H j.jM) (y : Sl (Pl js) 12 (hp w) G j.jO) (hm : vd i j = some r) :
  jJ true pg0 28 [(.agg #[(.int .i64 i.State), (.int .i64 i.lc), D, B]), (.agg #[(.int .i64 j.State), (.int .i64 j.lc), H, G])] w (.bool r) := by
 refine cG 31 func28 rfl (fun d => sg ?_)
 obtain ⟨Y, c2, rfl⟩ := x.form
 obtain ⟨Z, F, rfl⟩ := u.form
 let m := (C2 i.State i.lc Y i.jM.length c2 Z i.jO.length F)
 refine VE (jU d rfl (fun W6 h d => ?_))
 obtain ⟨A7, L, rfl⟩ := z.form
 obtain ⟨A9, K, rfl⟩ := y.form
 let a0 := (C2 j.State j.lc A7 j.jM.length L A9 j.jO.length K)
 refine VE (jU d rfl (fun d1 J d => Wa (lr (Wf vB (VB d (Mt Mh) rfl rfl bl (Wf vB (VB d Mh rfl rfl bl (Wi rfl (Wm (LJ hm (fun A E W => ∃ n, ST true jT w W (hp w) ((J, Ol a0 64) :: ((h, Ol m 64) :: n)) ∧ E 2 = (.pointer (some ⟨h, 0, none⟩)) ∧ E 3 = (.pointer (some ⟨J, 0, none⟩)) ∧ E 4 = (.bool false) ∧ E 16 = (.bool A)) 6 ?_ (fun A I Q => ?_)))))))))))
 ·rintro d7 E W ⟨n, d, T, U, p, c5⟩ O
  refine Wh c5 (LJ O (fun v E W => ∃ a9, ST true jT w W (hp w) ((J, Ol a0 64) :: ((h, Ol m 64) :: a9)) ∧ E 2 = (.pointer (some ⟨h, 0, none⟩)) ∧ E 3 = (.pointer (some ⟨J, 0, none⟩)) ∧ E 4 = (.bool false) ∧ E 23 = (.bool v)) 6 ?_ (fun v t N => ?_))
  ·rintro d8 E W ⟨a9, d, c6, c7, q, c9⟩ P
   refine Wh c9 (LJ P (fun s E W => ∃ o, ST true jT w W (hp w) o ∧ E 4 = (.bool false) ∧ E 30 = (.bool s)) 6 ?_ (fun s k M => ?_))
   ·rintro d9 E W ⟨o, d, d4, d0⟩ R
    exact Wg d0 (lt (rQ R d))
   refine bC k (fun g k => ?_) (fun g k => ?_)
   ·refine ug g (jh tu c6) (ug g (jf rfl (jq d.has (Mt Mh) rfl eB)) (ug g (jh tu c7) (ug g (jf rfl (jq d.has Mh rfl eB)) (bS k fun d5 c1 k => pV g (Eg d call76 (D4 (.slice Z i.jO.length F) i.jO (.slice A9 j.jO.length K) j.jO _ _ (u.mono (Pl.mono _) d.ju) (y.mono (Pl.mono _) d.ju) c1) (fun d2 d => V (jz (cB g) rfl) ?_))))))
    obtain rfl := sj k
    exact M _ _ ⟨_, (d.je (Db (Db St))), q, rfl⟩
   refine un g (un g (un g (un g (un g (V (jA (cB g) rfl) ?_)))))
   obtain rfl := sj k
   exact M _ _ ⟨_, (d.je (Db (Db St))), q, rfl⟩
  refine bC t (fun c t => ?_) (fun c t => ?_)
  ·refine ug c (jh pv T) (ug c (jf rfl (jq d.has (Mt Mh) rfl dn)) (ug c (jh pv U) (ug c (jf rfl (jq d.has Mh rfl dn)) (bS t fun d6 c3 t => pV c (Eg d call75 (D8 (.slice Y i.jM.length c2) i.jM (.slice A7 j.jM.length L) j.jM _ _ (x.mono (Pl.mono _) d.ju) (z.mono (Pl.mono _) d.ju) c3) (fun d3 d => V (jz (cB c) rfl) ?_))))))
   obtain rfl := sj t
   exact N _ _ ⟨_, (d.je St), T, U, p, rfl⟩
  refine un c (un c (un c (un c (un c (V (jA (cB c) rfl) ?_)))))
  obtain rfl := sj t
  exact N _ _ ⟨_, (d.je St), T, U, p, rfl⟩
 refine bC I (fun a I => ?_) (fun a I => ?_)
 ·refine ug a (jh wD rfl) (ug a (jf rfl (jq d.has (Mt Mh) rfl eL)) (ug a (jh wD rfl) (ug a (jf rfl (jq d.has Mh rfl eL)) (ug a (kv rfl rfl rfl) (V (jz (cB a) rfl) ?_)))))
  obtain rfl := sj I
  exact Q _ _ ⟨_, (d.je St), rfl, rfl, rfl, rfl⟩
 refine un a (un a (un a (un a (un a (V (jA (cB a) rfl) ?_)))))
 obtain rfl := sj I
 exact Q _ _ ⟨_, (d.je St), rfl, rfl, rfl, rfl⟩
set_option maxHeartbeats 4000000 in
theorem IJ (r : Bool) (w : World) (hm : vC  = some r) :
  jJ false pg0 24 [] w (.bool r) := by
 let w0 := (⟨(⟨K4, [], []⟩ : mD), K3, 3, [Ew], [], [], []⟩ : Al)
 refine cG 94 func24 rfl (fun d => sg (Wa (lr (V (kO (v := (.agg (jc K6).toArray)) (nB rfl rfl) (ku bj bA (EC _ bA) kr)) (V (kO (v := (.agg (jg Ew).toArray)) (O2 rfl rfl rfl) (ku bh bD (Fy _ bD) kr)) (VE (kl d bh (fun W2 b1 d => VO (jD (.agg (jg Ew).toArray) ((jg Ew).toArray) d rfl rfl an (mo Ew) nb rfl (fun W3 d => ln (jo ?_)))))))))))
 refine jk (Wf mJ (VA d Mh (jc K6) au ag (V (kO (v := (.agg C4.toArray)) (nB rfl rfl) (ku ic eA (T6 _ eA) kr)) (VE (kl d ic (fun W5 s d => VO (jD (.agg C4.toArray) (C4.toArray) d rfl rfl bI oc nb rfl (fun W6 d => lr (V (kO (v := (.agg #[(.string K4), (.slice none 0 0), (.slice none 0 0)])) (mf rfl) (ku zeroValue52 underlying52 (Un _ underlying52) kr)) (VA d (Mt Mh) (jg Ew) aT an (VE (kh (cs := (jg Ew).toArray) d (mf rfl) (mn aJ an bh) (fun W8 A d => V (kO (v := (.agg (C3 A).toArray)) (Ot rfl rfl rfl rfl) (ku zeroValue54 gx (Ui _ gx) kr)) (VE (kl d zeroValue54 (fun s5 b9 d => ?_))))))))))))))))
 let v7 : Value := (.pointer (some ⟨b9, 0, none⟩))
 let p6 : Value := (.slice (some ⟨A, 0, none⟩) 1 1)
 let g6 : Value := (.pointer (some ⟨s, 0, none⟩))
 refine VO (jD (.agg (C3 A).toArray) ((C3 A).toArray) d rfl rfl sizeOf54 oc nb rfl (fun s6 d => ln ?_))
 replace d := d.je (Kb (Kb (Kb (Db St))))
 refine sg (VA d Mh (C3 A) isAgg54 sizeOf54 (VA d (Mt (Mt Mh)) C4 cC bI ?_))
 replace d := d.perm (Nb (Pb Pz) Nz)
 have q3 : Fr w.heap.size p6 := Fr.box d Mh
 obtain ⟨u6, d, p5, ad, c7⟩ := ST.xP (R := [(A, Ol (jg Ew) 108)]) d (jy.lit (l := [Ew]) (enc := jg) (b := A) (m := 1) rfl dc rfl rfl) lz
 let v9 := ((C3 A).toArray : Array Value)
 refine bS hm fun a o5 hm => ?_
 let v6 : Value := (.int .i64 ((a).lc))
 let v5 := (⟨(a).State, (a).lc, (a).jM, (a).jO⟩ : jI)
 let v2 : Value := (.int .i64 ((a).State))
 refine VE (OF d (cX _) call27 (fun hH L h O => (E7 w0 (.slice none 0 0) (.slice none 0 0) p6 (.slice none 0 0) (.slice none 0 0) (.slice none 0 0) L5 (.slice none 0 0) 1 0 true _ _ ⟨hH, L, h⟩ (Sl.nil _ _ _) (Sl.nil _ _ _) (c7.mono (Pl.mono _) (jC.refl _)) (Sl.nil _ _ _) (Sl.nil _ _ _) (Sl.nil _ _ _) (Sl.nil _ _ _) o5)) (fun s7 t8 u7 r9 d c6 af o1 => ?_) (L0 := []))
 obtain ⟨u2, u3, e5, rfl, P, b5⟩ := o1
 replace e5 := e5.symm; subst e5
 replace d := d.perm Tn
 refine VE (kl d cJ (fun s8 Q d => ?_))
 let j1 : Value := (.pointer (some ⟨Q, 0, none⟩))
 obtain ⟨H, J, rfl⟩ := P.form
 let n : Value := (.slice H ((a).jM).length J)
 obtain ⟨I, K, rfl⟩ := b5.form
 let g5 : Value := (.slice I ((a).jO).length K)
 let a3 := (#[v2, v6, n, g5] : Array Value)
 refine VO (jD (.agg #[v2, v6, n, g5]) (#[v2, v6, n, g5]) d rfl rfl bz oc nb rfl (fun s9 d => lr (VA d (Mt Mh) (C3 A) isAgg54 sizeOf54 (VA d (Mt (Mt Mh)) C4 cC bI (bS hm fun c o6 hm => ?_)))))
 let w2 : Value := (.int .i64 ((c).lc))
 let w1 : Value := (.int .i64 ((c).State))
 refine VE (OF d (cX _) call27 (fun hH L h O => (E7 w0 (.slice none 0 0) (.slice none 0 0) p6 (.slice none 0 0) (.slice none 0 0) (.slice none 0 0) L5 (.slice none 0 0) 1 0 false _ _ ⟨hH, L, h⟩ (Sl.nil _ _ _) (Sl.nil _ _ _) (c7.mono (Pl.mono _) c6) (Sl.nil _ _ _) (Sl.nil _ _ _) (Sl.nil _ _ _) (Sl.nil _ _ _) o6)) (fun t0 t9 u8 s0 d y ao o2 => ?_) (L0 := []))
 obtain ⟨u4, u5, e6, rfl, e8, e9⟩ := o2
 replace e6 := e6.symm; subst e6
 replace d := d.perm Tn
 refine VE (kl d cJ (fun t1 c1 d => ?_))
 let v8 : Value := (.pointer (some ⟨c1, 0, none⟩))
 obtain ⟨b6, c2, rfl⟩ := e8.form
 let v3 : Value := (.slice b6 ((c).jM).length c2)
 obtain ⟨c0, c3, rfl⟩ := e9.form
 let v4 : Value := (.slice c0 ((c).jO).length c3)
 let b8 := (#[w1, w2, v3, v4] : Array Value)
 refine VO (jD (.agg #[w1, w2, v3, v4]) (#[w1, w2, v3, v4]) d rfl rfl bz oc nb rfl (fun t2 d => lr (V (kO (v := (.agg #[(.slice none 0 0)])) sG (ku ie cY (JU _ cY) kr)) (VE (jU d rfl (fun t3 m4 d => Wa (lr (Wm (VA d (Mt (Mt Mh)) [v2, v6, n, g5] cD bz (bS hm fun c4 o7 hm => ?_))))))))))
 refine VE (FO d (Cb Pz (C0 Cn)) call36 (fun hH L h O => (BS m4 (.slice none 0 0) ([]) [] a n g5 _ _ ⟨hH, L, jC.refl _⟩ (jy.nil _ _ _) (P.mono (Pl.mono _) (y.trans h)) (b5.mono (Pl.mono _) (y.trans h)) o7)) (fun t4 u0 u9 s1 d z av ab o3 => ?_))
 obtain ⟨p4, s4, e7, rfl, p1⟩ := o3
 replace e7 := e7.symm; subst e7
 replace d := d.perm (Tb (Tr Tn))
 refine Wa (lr (VE (kl d cJ (fun t5 N d => lr (Wm (bS hm fun p2 o8 hm => VE (rC d call37 (kw.kI (vw m4 p4 c4.2 _ _ (p1.sl (fun _ => rfl) (fun b o hq => d.at_ (Mt (Mt (Ml hq))))) (At.of (d.at_ (Mt Mh)) _ rfl) o8)) (fun t6 p3 v0 s3 d B aE j8 => V (rF (by exact ny rfl) rfl) ?_))))))))
 let j2 : Value := (.pointer (some ⟨N, 0, none⟩))
 have q4 := j8.NX d (fun p hq => (Ml hq))
 obtain ⟨v1, d, D, ba, p0⟩ := ST.xP d j8 (fun _ => rfl)
 refine bS hm fun k o9 hm => ?_
 refine VE (OF d (Cb Pz Cn) call39 (fun hH L h O => nr.kI (Bw p3 p2 N K5 (.slice none 0 0) (.slice none 0 0) _ _ ⟨hH, L, h⟩ (p0.mono (Pl.mono _) (jC.refl _)) (Sl.nil _ _ _) (Sl.nil _ _ _) o9)) (fun t7 u1 q s2 d G bs o4 => ?_))
 obtain ⟨b0, a2, c8, rfl, m2, m3⟩ := o4
 let a4 := (#[(.int .i64 ((k.2).State)), (.int .i64 ((k.2).lc)), b0, a2] : Array Value)
 replace c8 := c8.symm; subst c8
 replace d := d.perm (Tb Tn)
 refine Wa (ln ?_)
 replace d := d.je (Kb (Db (Dr St)))
 refine sg (Wf pv (VB d (Mt (Mt Mh)) rfl rfl dn (V (kj al rfl P) (Wi rfl (Wm (LJ hm (fun k7 E W => ∃ f0, ST false jT w W q ((N, Obj.cells a4 64 (0, 0)) :: ((c1, Obj.cells b8 64 (0, 0)) :: ((Q, Obj.cells a3 64 (0, 0)) :: ((b9, Obj.cells v9 54 (0, 0)) :: ((s, Ol C4 57) :: f0))))) ∧ E 0 = (.bool false) ∧ E 2 = g6 ∧ E 3 = v7 ∧ E 4 = j1 ∧ E 5 = v8 ∧ E 7 = (.bool c4.1) ∧ E 8 = j2 ∧ E 9 = (.int .i64 k.1) ∧ E 43 = (.bool k7)) 5 ?_ (fun k7 a9 d8 => ?_)))))))
 ·rintro r0 E W ⟨f0, d, f9, d9, e0, e1, g0, g1, g2, g3, m5⟩ k8
  refine Wh m5 (LJ k8 (fun k6 E W => ∃ f1, ST false jT w W q ((N, Obj.cells a4 64 (0, 0)) :: ((c1, Obj.cells b8 64 (0, 0)) :: ((Q, Obj.cells a3 64 (0, 0)) :: ((b9, Obj.cells v9 54 (0, 0)) :: ((s, Ol C4 57) :: f1))))) ∧ E 0 = (.bool false) ∧ E 2 = g6 ∧ E 3 = v7 ∧ E 4 = j1 ∧ E 5 = v8 ∧ E 7 = (.bool c4.1) ∧ E 8 = j2 ∧ E 9 = (.int .i64 k.1) ∧ E 51 = (.bool k6)) 7 ?_ (fun k6 F d7 => ?_))
  ·rintro r1 E W ⟨f1, d, g4, e2, g7, e3, g8, g9, h0, h1, m6⟩ k9
   refine Wh m6 (LJ k9 (fun k5 E W => ∃ f2, ST false jT w W q ((N, Obj.cells a4 64 (0, 0)) :: ((c1, Obj.cells b8 64 (0, 0)) :: ((Q, Obj.cells a3 64 (0, 0)) :: ((b9, Obj.cells v9 54 (0, 0)) :: ((s, Ol C4 57) :: f2))))) ∧ E 0 = (.bool false) ∧ E 2 = g6 ∧ E 3 = v7 ∧ E 4 = j1 ∧ E 5 = v8 ∧ E 7 = (.bool c4.1) ∧ E 8 = j2 ∧ E 9 = (.int .i64 k.1) ∧ E 57 = (.bool k5)) 5 ?_ (fun k5 a0 d6 => ?_))
   ·rintro r2 E W ⟨f2, d, h2, h3, h4, h5, c5, h6, h7, h8, m7⟩ l0
    refine Wh m7 (LJ l0 (fun k4 E W => ∃ f3, ST false jT w W q ((N, Obj.cells a4 64 (0, 0)) :: ((c1, Obj.cells b8 64 (0, 0)) :: ((Q, Obj.cells a3 64 (0, 0)) :: ((b9, Obj.cells v9 54 (0, 0)) :: ((s, Ol C4 57) :: f3))))) ∧ E 0 = (.bool false) ∧ E 2 = g6 ∧ E 3 = v7 ∧ E 4 = j1 ∧ E 5 = v8 ∧ E 7 = (.bool c4.1) ∧ E 8 = j2 ∧ E 9 = (.int .i64 k.1) ∧ E 67 = (.bool k4)) 9 ?_ (fun k4 a8 d5 => ?_))
    ·rintro r3 E W ⟨f3, d, h9, e4, m8, i0, m9, i1, i2, i3, n0⟩ l1
     refine Wh n0 (LJ l1 (fun k3 E W => ∃ f4, ST false jT w W q ((N, Obj.cells a4 64 (0, 0)) :: ((Q, Obj.cells a3 64 (0, 0)) :: ((s, Ol C4 57) :: f4))) ∧ E 0 = (.bool false) ∧ E 2 = g6 ∧ E 4 = j1 ∧ E 7 = (.bool c4.1) ∧ E 8 = j2 ∧ E 9 = (.int .i64 k.1) ∧ E 75 = (.bool k3)) 7 ?_ (fun k3 Z d4 => ?_))
     ·rintro r4 E W ⟨f4, d, i4, i5, i6, n1, i7, i8, n2⟩ l2
      refine Wh n2 (LJ l2 (fun k2 E W => ∃ f5, ST false jT w W q ((N, Obj.cells a4 64 (0, 0)) :: ((Q, Obj.cells a3 64 (0, 0)) :: ((s, Ol C4 57) :: f5))) ∧ E 0 = (.bool false) ∧ E 2 = g6 ∧ E 4 = j1 ∧ E 8 = j2 ∧ E 9 = (.int .i64 k.1) ∧ E 78 = (.bool k2)) 2 ?_ (fun k2 a7 d3 => ?_))
      ·rintro r5 E W ⟨f5, d, i9, j0, j3, j4, n3, n4⟩ l3
       refine Wh n4 (LJ l3 (fun k1 E W => ∃ f6, ST false jT w W q ((N, Obj.cells a4 64 (0, 0)) :: ((Q, Obj.cells a3 64 (0, 0)) :: ((s, Ol C4 57) :: f6))) ∧ E 0 = (.bool false) ∧ E 2 = g6 ∧ E 4 = j1 ∧ E 8 = j2 ∧ E 82 = (.bool k1)) 3 ?_ (fun k1 a6 d2 => ?_))
       ·rintro r6 E W ⟨f6, d, j5, j6, n5, n6, n7⟩ l4
        refine Wh n7 (LJ l4 (fun k0 E W => ∃ f7, ST false jT w W q ((s, Ol C4 57) :: f7) ∧ E 0 = (.bool false) ∧ E 2 = g6 ∧ E 87 = (.bool k0)) 4 ?_ (fun k0 Y d1 => ?_))
        ·rintro r7 E W ⟨f7, d, j7, n8, n9⟩ l5
         refine Wh n9 (LJ l5 (fun j9 E W => ∃ f8, ST false jT w W q f8 ∧ E 0 = (.bool false) ∧ E 93 = (.bool j9)) 5 ?_ (fun j9 U d0 => ?_))
         ·rintro r8 E W ⟨f8, d, q2, o0⟩ l6
          exact Wg o0 (lt (rQ l6 d))
         refine bC U (fun x U => ?_) (fun x U => ?_)
         ·refine ug x (kO (v := (.agg C6.toArray)) sG (ku cJ cQ (MZ _ cQ) kr)) (ug x (jf n8 (jm d.has Mh C4 rfl cC bI)) (bS U fun q5 l7 U => pV x (Eg d call34 (wq K5 (.slice none 0 0) (.slice none 0 0) (.slice none 0 0) ([]) L5 (.slice none 0 0) K3 _ _ (Sl.nil _ _ _) (Sl.nil _ _ _) (Sl.nil _ _ _) (Sl.nil _ _ _) l7) (fun p7 d => ug x (kv rfl rfl rfl) (V (jz (cB x) rfl) ?_)))))
          obtain rfl := sj U
          exact d0 _ _ ⟨_, (d.je (Db St)), j7, rfl⟩
         refine un x (un x (un x (un x (V (jA (cB x) rfl) ?_))))
         obtain rfl := sj U
         exact d0 _ _ ⟨_, (d.je (Db St)), j7, rfl⟩
        refine bC Y (fun M Y => ?_) (fun M Y => ?_)
        ·refine ug M (jf n6 (jm d.has Mh [(.int .i64 ((k.2).State)), (.int .i64 ((k.2).lc)), b0, a2] rfl cD bz)) (ug M (jf n5 (jm d.has (Mt Mh) [v2, v6, n, g5] rfl cD bz)) (bS Y fun q6 l8 Y => pV M (Eg d call28 (jJ.kI (CC k.2 b0 a2 v5 n g5 _ _ (m2.mono (Pl.mono _) d.ju) (m3.mono (Pl.mono _) d.ju) (P.mono (Pl.mono _) (((((y.trans z).trans B).trans D).trans G).trans d.ju)) (b5.mono (Pl.mono _) (((((y.trans z).trans B).trans D).trans G).trans d.ju)) l8)) (fun p8 d => V (jz (cB M) rfl) ?_))))
         obtain rfl := sj Y
         exact d1 _ _ ⟨_, (d.je (Db (Db St))), j5, j6, rfl⟩
        refine un M (un M (un M (V (jA (cB M) rfl) ?_)))
        obtain rfl := sj Y
        exact d1 _ _ ⟨_, (d.je (Db (Db St))), j5, j6, rfl⟩
       refine bC a6 (fun T a6 => ?_) (fun T a6 => ?_)
       ·refine ug T (jl n3) (ug T (kv rfl rfl rfl) (V (jz (cB T) rfl) ?_))
        obtain rfl := sj a6
        exact d2 _ _ ⟨_, (d.je St), i9, j0, j3, j4, rfl⟩
       refine un T (un T (V (jA (cB T) rfl) ?_))
       obtain rfl := sj a6
       exact d2 _ _ ⟨_, (d.je St), i9, j0, j3, j4, rfl⟩
      refine bC a7 (fun a5 a7 => ?_) (fun a5 a7 => ?_)
      ·refine ug a5 (jl n1) (V (jz (cB a5) rfl) ?_)
       obtain rfl := sj a7
       exact d3 _ _ ⟨_, (d.je St), i4, i5, i6, i7, i8, rfl⟩
      refine un a5 (V (jA (cB a5) rfl) ?_)
      obtain rfl := sj a7
      exact d3 _ _ ⟨_, (d.je St), i4, i5, i6, i7, i8, rfl⟩
     refine bC Z (fun j Z => ?_) (fun j Z => ?_)
     ·refine ug j (jf m9 (jm d.has (Mt Mh) [w1, w2, v3, v4] rfl cD bz)) (ug j (jh GQ m8) (ug j (jf rfl (jq d.has (Mt (Mt (Mt Mh))) rfl isAgg22)) (ug j (jf e4 (jm d.has (Mt (Mt (Mt (Mt Mh)))) C4 rfl cC bI)) (bS Z fun q7 l9 Z => pV j (Eg d call34 (wq (⟨(c).State, (c).lc, (c).jM, (c).jO⟩ : jI) v3 v4 p6 ([Ew]) L5 (.slice none 0 0) K3 _ _ (e8.mono (Pl.mono _) ((((z.trans B).trans D).trans G).trans d.ju)) (e9.mono (Pl.mono _) ((((z.trans B).trans D).trans G).trans d.ju)) (c7.mono (Pl.mono _) ((((((c6.trans y).trans z).trans B).trans D).trans G).trans d.ju)) (Sl.nil _ _ _) l9) (fun p9 d => ug j (kv rfl rfl rfl) (V (jz (cB j) rfl) ?_)))))))
      obtain rfl := sj Z
      exact d4 _ _ ⟨_, (d.je (Kb (Db (Kb (Db St))))), h9, e4, i0, i1, i2, i3, rfl⟩
     refine un j (un j (un j (un j (un j (un j (V (jA (cB j) rfl) ?_))))))
     obtain rfl := sj Z
     exact d4 _ _ ⟨_, (d.je (Kb (Db (Kb (Db St))))), h9, e4, i0, i1, i2, i3, rfl⟩
    refine bC a8 (fun g a8 => ?_) (fun g a8 => ?_)
    ·refine ug g (jh pv c5) (ug g (jf rfl (jq d.has (Mt Mh) rfl dn)) (ug g (kj al rfl e8) (ug g (jh tu c5) (ug g (jf rfl (jq d.has (Mt Mh) rfl eB)) (ug g (kj aw rfl e9) (ug g (kv rfl rfl rfl) (ug g (kv rfl rfl rfl) (V (jz (cB g) rfl) ?_))))))))
     obtain rfl := sj a8
     exact d5 _ _ ⟨_, (d.je St), h2, h3, h4, h5, c5, h6, h7, h8, rfl⟩
    refine un g (un g (un g (un g (un g (un g (un g (un g (V (jA (cB g) rfl) ?_))))))))
    obtain rfl := sj a8
    exact d5 _ _ ⟨_, (d.je St), h2, h3, h4, h5, c5, h6, h7, h8, rfl⟩
   refine bC a0 (fun u a0 => ?_) (fun u a0 => ?_)
   ·refine ug u (jf e3 (jm d.has (Mt (Mt Mh)) [v2, v6, n, g5] rfl cD bz)) (ug u (jf e2 (jm d.has (Mt (Mt (Mt (Mt Mh)))) C4 rfl cC bI)) (bS a0 fun q8 m0 a0 => pV u (Eg d call34 (wq v5 n g5 (.slice none 0 0) ([]) L5 (.slice none 0 0) K3 _ _ (P.mono (Pl.mono _) (((((y.trans z).trans B).trans D).trans G).trans d.ju)) (b5.mono (Pl.mono _) (((((y.trans z).trans B).trans D).trans G).trans d.ju)) (Sl.nil _ _ _) (Sl.nil _ _ _) m0) (fun q0 d => ug u (kv rfl rfl rfl) (V (jz (cB u) rfl) ?_)))))
    obtain rfl := sj a0
    exact d6 _ _ ⟨_, (d.je St), g4, e2, g7, e3, g8, g9, h0, h1, rfl⟩
   refine un u (un u (un u (un u (V (jA (cB u) rfl) ?_))))
   obtain rfl := sj a0
   exact d6 _ _ ⟨_, (d.je St), g4, e2, g7, e3, g8, g9, h0, h1, rfl⟩
  refine bC F (fun i F => ?_) (fun i F => ?_)
  ·refine ug i (jf e1 (jm d.has (Mt (Mt Mh)) [v2, v6, n, g5] rfl cD bz)) (ug i (jh GQ e0) (ug i (jf rfl (jq d.has (Mt (Mt (Mt Mh))) rfl isAgg22)) (ug i (jf d9 (jm d.has (Mt (Mt (Mt (Mt Mh)))) C4 rfl cC bI)) (bS F fun q9 m1 F => pV i (Eg d call34 (wq v5 n g5 p6 ([Ew]) L5 (.slice none 0 0) K3 _ _ (P.mono (Pl.mono _) (((((y.trans z).trans B).trans D).trans G).trans d.ju)) (b5.mono (Pl.mono _) (((((y.trans z).trans B).trans D).trans G).trans d.ju)) (c7.mono (Pl.mono _) ((((((c6.trans y).trans z).trans B).trans D).trans G).trans d.ju)) (Sl.nil _ _ _) m1) (fun q1 d => ug i (kv rfl rfl rfl) (V (jz (cB i) rfl) ?_)))))))
   obtain rfl := sj F
   exact d7 _ _ ⟨_, (d.je St), f9, d9, e0, e1, g0, g1, g2, g3, rfl⟩
  refine un i (un i (un i (un i (un i (un i (V (jA (cB i) rfl) ?_))))))
  obtain rfl := sj F
  exact d7 _ _ ⟨_, (d.je St), f9, d9, e0, e1, g0, g1, g2, g3, rfl⟩
 refine bC a9 (fun t a9 => ?_) (fun t a9 => ?_)
 ·refine ug t (jh tu rfl) (ug t (jf rfl (jq d.has (Mt (Mt Mh)) rfl eB)) (ug t (kj aw rfl b5) (ug t (kv rfl rfl rfl) (V (jz (cB t) rfl) ?_))))
  obtain rfl := sj a9
  exact d8 _ _ ⟨_, (d.je St), rfl, rfl, rfl, rfl, rfl, rfl, rfl, rfl, rfl⟩
 refine un t (un t (un t (un t (V (jA (cB t) rfl) ?_))))
 obtain rfl := sj a9
 exact d8 _ _ ⟨_, (d.je St), rfl, rfl, rfl, rfl, rfl, rfl, rfl, rfl, rfl⟩
theorem IT (k : Value) (u : List jb) (r : Int) (w : World) (j : Sl (Pl jg) 9 (hp w) k u) (hm : vK u = some r) :
  jJ true pg0 11 [k] w (.int .i64 r) := by
 refine cG 54 func11 rfl (fun d => sg (Wa (lr (Wa (lS (Wm ?_))))))
 refine V (kj aJ rfl j) (Wm (ln (km (fun i E W => ∃ g t, (E 8 = .int .i64 (i : Nat) ∧ E 7 = .int .i64 (u.length : Nat)) ∧ ST true jT w W (hp w) t ∧ E 3 = (.int .i64 g) ∧ E 6 = k ∧ oB (u.drop i) g = some r) u.length j.len ⟨0, _, ⟨rfl, rfl⟩, (d.je St), rfl, rfl, hm⟩ dc dc dc (fun _ _ _ h => by obtain ⟨_, _, n, _⟩ := h; exact n) ?_ ?_)))
 ·rintro I E W z ⟨g, t, ⟨m, o⟩, d, x, y, c⟩
  obtain ⟨a, J, G, D, H⟩ := jY z
  rw [G] at c
  refine bg (VQ (kC (enc := jg) (i := (I : Int)) (x0 := a) aJ an y m j (ak _) D) (fun Q B => V (jf rfl (kG d.has B aT an)) (VE (kl d bh (fun K N d => VO (jD (.agg (jg a).toArray) ((jg a).toArray) d rfl rfl an (mo a) nb rfl (fun M d => ln (jk (Wh x (Wf mJ (Wf ox (VB d Mh rfl rfl aG (V (nK aP rfl) ?_)))))))))))))
  refine Wi rfl (Wf mJ (Wf um (VB d Mh rfl rfl aG (V (nK aP rfl) (Wi rfl (Wf rq (VB d Mh rfl rfl aG (V (nK aP rfl) (Wi rfl (Wf lm (Wf ox (VB d Mh rfl rfl aG (V (nK aP rfl) (Wi rfl ?_))))))))))))))
  refine Wf lm (Wf um (VB d Mh rfl rfl aG (V (nK aP rfl) (Wi rfl (Wf ou (Wf ox (VB d Mh rfl rfl aG (V (nK aP rfl) (Wi rfl (Wf ou (Wf um (VB d Mh rfl rfl aG (V (nK aP rfl) (Wi rfl ?_))))))))))))))
  refine Wf pX (VB d Mh rfl rfl aG (V (nK aP rfl) (Wi rfl (Wi rfl (Wa (jH (jV (jj ?_))))))))
  replace d := d.je (Db St)
  exact ⟨m, (wi0 .i64 (g + (wi0 .i64 ((wi0 .i64 ((wi0 .i64 ((wi0 .i64 ((wi0 .i64 ((wi0 .i64 ((wi0 .i64 ((wi0 .i64 (20 + (a.Head.jn.size : Int))) + (a.Head.jK.size : Int))) + (a.jL.size : Int))) + (a.B.jn.size : Int))) + (a.B.jK.size : Int))) + (a.C.jn.size : Int))) + (a.C.jK.size : Int))) + (a.kk.size : Int))))), _, ⟨rfl, o⟩, (d.je St), rfl, y, (by rw [H]; exact c)⟩
 rintro E W ⟨g, t, ⟨m, o⟩, d, x, y, c⟩
 rw [ap] at c
 exact jj (sg (Wh x (Wa (lt (rQ c d)))))
theorem IG (x : Value) (y : List jv) (r : Int) (w : World) (u : Sl (Pl js) 12 (hp w) x y) (hm : Ap y = some r) :
  jJ true pg0 84 [x] w (.int .i64 r) := by
 refine cG 37 func84 rfl (fun m => sg (Wa (lr (Wa (lS (Wm ?_))))))
 refine V (kj aw rfl u) (Wm (ln (km (fun i E W => ∃ g j, (E 8 = .int .i64 (i : Nat) ∧ E 7 = .int .i64 (y.length : Nat)) ∧ ST true jT w W (hp w) j ∧ E 3 = (.int .i64 g) ∧ E 6 = x ∧ tA (y.drop i) g = some r) y.length u.len ⟨0, _, ⟨rfl, rfl⟩, (m.je St), rfl, rfl, hm⟩ dc dc dc (fun _ _ _ h => by obtain ⟨_, _, p, _⟩ := h; exact p) ?_ ?_)))
 ·rintro M E W G ⟨g, j, ⟨o, q⟩, m, k, t, a⟩
  obtain ⟨c, s, I, H, J⟩ := jY G
  rw [I] at a
  refine bg (VQ (kC (enc := js) (i := (M : Int)) (x0 := c) aw aV t o u (ak _) H) (fun Z z => V (jf rfl (kG m.has z di aV)) (VE (kl m bX (fun N Y m => VO (jD (.agg (js c).toArray) ((js c).toArray) m rfl rfl aV (qJ c) nb rfl (fun Q m => ln ?_)))))))
  replace m := m.drew
  have d := m.has.je (Kb Sn)
  refine ko d jP (X 0 rfl d (jl k) (X 1 rfl d (jh wU rfl) (XH 2 rfl d (fun _ n => jf rfl (jm n Mh (jg c.jb) rfl aT an)) (X 5 rfl d (jh oV rfl) (X 6 rfl d (jh rV rfl) (XH 7 rfl d (fun _ n => jf rfl (jq n Mh rfl aG)) (X 8 rfl d (nK aP rfl) (X 10 rfl d (jh oV rfl) (X 11 rfl d (jh yz rfl) (X 12 rfl d (jh ox rfl) (XH 13 rfl d (fun _ n => jf rfl (jq n Mh rfl aG)) (X 14 rfl d (nK aP rfl) (X 16 rfl d (jh oV rfl) (X 17 rfl d (jh yz rfl) ?_))))))))))))))
  refine X 18 rfl d (jh um rfl) (XH 19 rfl d (fun _ n => jf rfl (jq n Mh rfl aG)) (X 20 rfl d (nK aP rfl) (XE 3 rfl (kh (cs := (jg c.jb).toArray) m (mf rfl) (mn aJ an bh) (fun T D m => ?_)))))
  have d := m.has.je (Db (Kb Sn))
  refine ⟨d, (bS a fun K B a => XE 4 rfl (Eg m call11 (IT (.slice (some ⟨D, 0, none⟩) 1 1) ([c.jb]) _ _ (Sl.lit (enc := jg) (l := [c.jb]) lz rfl nb rfl (m.at_ Mh)) B) (fun U m => ?_)))⟩
  have d := m.has.je (Db (Kb Sn))
  refine ⟨d, (X 9 rfl d (kv rfl rfl rfl) (X 15 rfl d (kv rfl rfl rfl) (X 21 rfl d (kv rfl rfl rfl) (X 22 rfl d (kv rfl rfl rfl) (X 23 rfl d (lO rfl) (kz kr (jV (jj ?_))))))))⟩
  replace m := m.je (Db (Db St))
  exact ⟨o, (wi0 .i64 (g + (wi0 .i64 ((wi0 .i64 ((wi0 .i64 (K + (c.jd.jL.size : Int))) + (c.jd.ja.jn.size : Int))) + (c.jd.ja.jK.size : Int))))), _, ⟨rfl, q⟩, (m.je St), rfl, t, (by rw [J]; exact a)⟩
 rintro E W ⟨g, j, ⟨o, q⟩, m, k, t, a⟩
 rw [ap] at a
 exact jj (sg (Wh k (Wa (lt (rQ a m)))))
theorem DU (c : jI) (t k : Value) (r : Int) (w : World) (a : Sl (Pl jc) 2 (hp w) t c.jM) (j : Sl (Pl js) 12 (hp w) k c.jO) (hm : vE c = some r) :
  jJ true pg0 33 [(.agg #[(.int .i64 c.State), (.int .i64 c.lc), t, k])] w (.int .i64 r) := by
 refine cG 28 func33 rfl (fun d => sg ?_)
 obtain ⟨K, N, rfl⟩ := a.form
 obtain ⟨M, Q, rfl⟩ := j.form
 refine VE (jU d rfl (fun W6 q d => Wa (lr (Wf tu (VB d Mh rfl rfl eB (bS hm fun Y T hm => VE (Eg d call84 (IG (.slice M c.jO.length Q) c.jO _ _ (j.mono (Pl.mono _) d.ju) T) (fun W9 d => Wa (ln (jo (jo ?_)))))))))))
 refine jk (Wf pv (VB d Mh rfl rfl dn (V (kj al rfl a) (Wm (ln ?_)))))
 replace d := d.je (Db St)
 refine km (fun i E W => ∃ x y, (E 12 = .int .i64 (i : Nat) ∧ E 11 = .int .i64 (c.jM.length : Nat)) ∧ ST true jT w W (hp w) y ∧ E 3 = (.int .i64 x) ∧ E 10 = (.slice K c.jM.length N) ∧ tm (c.jM.drop i) x = some r) c.jM.length a.len ⟨Y, _, ⟨rfl, rfl⟩, (d.je St), rfl, rfl, hm⟩ dc dc dc (fun _ _ _ h => by obtain ⟨_, _, n, _⟩ := h; exact n) ?_ ?_
 ·rintro U E W D ⟨x, y, ⟨m, o⟩, d, z, B, g⟩
  obtain ⟨u, Z, I, H, J⟩ := jY D
  rw [I] at g
  refine bg (VQ (kC (enc := jc) (i := (U : Int)) (x0 := u) al ag B m a (ak _) H) (fun a4 G => V (jf rfl (kG d.has G au ag)) (VE (kl d bj (fun p a3 d => VO (jD (.agg (jc u).toArray) ((jc u).toArray) d rfl rfl ag (lf u) nb rfl (fun a2 d => ln (jk (Wh z (Wf ox (VB d Mh rfl rfl aG (V (nK aP rfl) (Wi rfl ?_)))))))))))))
  refine Wf um (VB d Mh rfl rfl aG (V (nK aP rfl) (Wi rfl (Wi rfl (Wa (jH (jV (jj ?_))))))))
  replace d := d.je (Db St)
  exact ⟨m, (wi0 .i64 (x + (wi0 .i64 ((wi0 .i64 (5 + (u.jn.size : Int))) + (u.jK.size : Int))))), _, ⟨rfl, o⟩, (d.je St), rfl, B, (by rw [J]; exact g)⟩
 rintro E W ⟨x, y, ⟨m, o⟩, d, z, B, g⟩
 rw [ap] at g
 exact jj (sg (Wh z (Wa (lt (rQ g d)))))
theorem te (x : Int) (r : ByteArray) (w : World) (hm : nv x = some r) :
  jJ true pg0 87 [(.int .i64 x)] w (.string r) := by
 refine cG 22 func87 rfl (fun d => sg (Wa (lr (Wa (ln (jo (kV (ns (fun m E W => ∃ c j t, ST true jT w W (hp w) t ∧ E 0 = (.int .i64 c) ∧ E 3 = (.string j) ∧ pj m c j = some r) jX ⟨x, zS, _, (d.je St), rfl, rfl, hm⟩ ?_))))))))
 rintro m E W ⟨c, j, t, d, i, u, g⟩
 let N := (Int.tmod c 128)
 cases m with
 | zero => rw [pj] at g; cases g
 | succ D =>
  refine jo (sg (Wh i (Wi rfl (ln (CI g rfl (fun y g => ?_) (fun y g => ?_))))))
  ·refine kn (bg (Wh u (Wh i (V (Dt (k := .i64) (a := c) (b := 128) (v := (.int .i64 N)) rfl rfl dc rfl) (Wi rfl (V (yd (k' := .i64) (a := (wi0 .i64 (128 + N))) et da rfl) (VE (kh (cs := [(.int .u8 (IntKind.u8.wrap (wi0 .i64 (128 + N))))].toArray) d (mf rfl) (mn bf gy iN) (fun H J d => V (CP bf da aP rfl (Sl.lit (enc := (jS .u8)) (l := [(IntKind.u8.wrap (wi0 .i64 (128 + N)))]) (fun _ => rfl) rfl nb rfl (d.at_ Mh))) (bS g fun G z g => V (vl rfl rfl z) (Wa ?_)))))))))))
   refine ln ?_
   replace d := d.je (Db St)
   exact jk (Wh i (V (Dt (k := .i64) (a := c) (b := 128) (v := (.int .i64 (wi0 .i64 (Int.tdiv c 128)))) rfl rfl dc rfl) (Wa (jH (jV (jj ⟨D, aY _, (wi0 .i64 (Int.tdiv c 128)), G, _, (d.je St), rfl, rfl, g⟩))))))
  refine mI (lZ (lZ (sr (jj (sg (Wh u (Wh i (V (yd (k' := .i64) (a := c) et da rfl) (VE (kh (cs := [(.int .u8 (IntKind.u8.wrap c))].toArray) d (mf rfl) (mn bf gy iN) (fun I K d => V (CP bf da aP rfl (Sl.lit (enc := (jS .u8)) (l := [(IntKind.u8.wrap c)]) (fun _ => rfl) rfl nb rfl (d.at_ Mh))) (bS g fun M B g => V (vl rfl rfl B) (Wa (ln ?_))))))))))))))
  exact jN (rQ g d)
theorem ub (M : ByteArray) (r : Bool) (w : World) (hm : oP M = some r) :
  jJ true pg0 138 [(.string M)] w (.bool r) := by
 refine cG 49 func138 rfl (fun d => sg (Wa (lS (Wm (V (sQ rfl rfl rfl) (Wm (LJ hm (fun c7 E W => ∃ L3, ST true jT w W (hp w) L3 ∧ E 0 = (.string M) ∧ E 11 = (.bool c7)) 4 ?_ (fun c7 K a5 => ?_))))))))
 ·rintro x2 E W ⟨L3, d, q, e6⟩ f7
  refine Wh e6 (LJ f7 (fun c6 E W => ∃ d3, ST true jT w W (hp w) d3 ∧ E 0 = (.string M) ∧ E 16 = (.bool c6)) 4 ?_ (fun c6 x a4 => ?_))
  ·rintro g4 E W ⟨d3, d, p, f4⟩ f0
   refine Wh f4 (LJ f0 (fun c5 E W => ∃ d4, ST true jT w W (hp w) d4 ∧ E 0 = (.string M) ∧ E 21 = (.bool c5)) 4 ?_ (fun c5 u a3 => ?_))
   ·rintro g7 E W ⟨d4, d, f5, f6⟩ Q
    refine ln (CI Q f6 (fun e9 Q => ?_) (fun e9 Q => ?_))
    ·refine sg (Wa (lt (jE ?_)))
     obtain rfl := sj Q
     exact rP d
    refine kS (Wa (ln (kV (ns (fun m E W => ∃ y F, ST true jT w W (hp w) F ∧ E 0 = (.string M) ∧ E 3 = (.int .i64 y) ∧ pL M m y = some r) jX ⟨0, _, (d.je St), f5, rfl, Q⟩ ?_))))
    rintro m E W ⟨y, F, d, T, U, c⟩
    cases m with
    | zero => rw [pL] at c; cases c
    | succ f1 =>
     refine jo (sg (Wh U (Wh T (V (nK aP rfl) (Wi rfl (ln (CI c rfl (fun c8 c => ?_) (fun c8 c => ?_))))))))
     ·refine kn (jo (bg (Wh T (Wh U (bS c fun h a9 c => V (yY (i := y) aP rfl rfl (xp a9) (Bg a9)) (Wa (lr ?_)))))))
      refine Wm (Wi rfl (Wm (LJ c (fun c4 E W => ∃ L, ST true jT w W (hp w) L ∧ E 0 = (.string M) ∧ E 3 = (.int .i64 y) ∧ E 4 = (.int .u8 (h.toNat : Int)) ∧ E 36 = (.bool c4)) 3 ?_ (fun c4 J a2 => ?_))))
      ·rintro f2 E W ⟨L, d, n, o, N, d5⟩ d0
       refine Wh d5 (LJ d0 (fun c2 E W => ∃ O, ST true jT w W (hp w) O ∧ E 0 = (.string M) ∧ E 3 = (.int .i64 y) ∧ E 4 = (.int .u8 (h.toNat : Int)) ∧ E 44 = (.bool c2)) 7 ?_ (fun c2 H Z => ?_))
       ·rintro g1 E W ⟨O, d, b9, c0, d6, d7⟩ d1
        refine Wh d7 (LJ d1 (fun c1 E W => ∃ P, ST true jT w W (hp w) P ∧ E 0 = (.string M) ∧ E 3 = (.int .i64 y) ∧ E 48 = (.bool c1)) 3 ?_ (fun c1 G Y => ?_))
        ·rintro g2 E W ⟨P, d, d8, d9, e0⟩ D
         refine ln (CI D e0 (fun c9 D => ?_) (fun c9 D => ?_))
         ·refine sg (Wa (lt (kH (jE (jE (kH (jE ?_)))))))
          obtain rfl := sj D
          exact rP d
         exact jW (jV (jj (jk (Wh d9 (Wi rfl (Wa (ln ⟨f1, aY _, (wi0 .i64 (y + 1)), _, (d.je St), d8, rfl, D⟩)))))))
        refine bC G (fun k G => ?_) (fun k G => ?_)
        ·refine ug k (jl d6) (ug k (kv rfl rfl rfl) (V (jz (cB k) rfl) ?_))
         obtain rfl := sj G
         exact Y _ _ ⟨_, (d.je St), b9, c0, rfl⟩
        refine un k (un k (V (jA (cB k) rfl) ?_))
        obtain rfl := sj G
        exact Y _ _ ⟨_, (d.je St), b9, c0, rfl⟩
       refine bC H (fun a H => ?_) (fun a H => ?_)
       ·refine ug a (jl N) (ug a (kv rfl rfl rfl) (ug a (jl rfl) (LJ H (fun c3 E W => ∃ R, ST true jT w W (hp w) R ∧ E 0 = (.string M) ∧ E 3 = (.int .i64 y) ∧ E 4 = (.int .u8 (h.toNat : Int)) ∧ E 37 = (.bool f2) ∧ E 43 = (.bool c3)) 3 ?_ (fun c3 I s => ?_))))
        ·rintro g3 E W ⟨R, d, e1, e2, e3, e4, e7⟩ d2
         refine V (jz (e4.trans (cB a)) e7) ?_
         obtain rfl := sj d2
         exact Z _ _ ⟨_, (d.je St), e1, e2, e3, rfl⟩
        refine bC I (fun t I => ?_) (fun t I => ?_)
        ·refine un t (un t (ug a (jz (cB t) rfl) ?_))
         obtain rfl := sj I
         exact s _ _ ⟨_, (d.je St), n, o, N, rfl, rfl⟩
        refine ug t (jl N) (ug t (kv rfl rfl rfl) (ug a (jA (cB t) rfl) ?_))
        obtain rfl := sj I
        exact s _ _ ⟨_, (d.je St), n, o, N, rfl, rfl⟩
       refine un a (un a (un a (Vu rfl rfl (Vu rfl rfl (un a (V (jA (cB a) rfl) ?_))))))
       obtain rfl := sj H
       exact Z _ _ ⟨_, (d.je St), n, o, N, rfl⟩
      refine bC J (fun j J => ?_) (fun j J => ?_)
      ·refine un j (un j (V (jz (cB j) rfl) ?_))
       obtain rfl := sj J
       exact a2 _ _ ⟨_, (d.je St), T, U, rfl, rfl⟩
      refine ug j (jl rfl) (ug j (kv rfl rfl rfl) (V (jA (cB j) rfl) ?_))
      obtain rfl := sj J
      exact a2 _ _ ⟨_, (d.je St), T, U, rfl, rfl⟩
     exact mI (lZ (lZ (sr (jj (sg (Wa (lt (rQ c d))))))))
   refine bC u (fun g u => ?_) (fun g u => ?_)
   ·refine un g (un g (un g (V (jz (cB g) rfl) ?_)))
    obtain rfl := sj u
    exact a3 _ _ ⟨_, (d.je St), p, rfl⟩
   refine ug g (jl p) (bS u fun f8 v u => ug g (yY (i := 0) aP rfl rfl (xp v) (Bg v)) (ug g (kv rfl rfl rfl) (V (jA (cB g) rfl) ?_)))
   obtain rfl := sj u
   exact a3 _ _ ⟨_, (d.je St), p, rfl⟩
  refine bC x (fun B x => ?_) (fun B x => ?_)
  ·refine un B (un B (un B (V (jz (cB B) rfl) ?_)))
   obtain rfl := sj x
   exact a4 _ _ ⟨_, (d.je St), q, rfl⟩
  refine ug B (jl q) (bS x fun f9 A x => ug B (yY (i := 0) aP rfl rfl (xp A) (Bg A)) (ug B (kv rfl rfl rfl) (V (jA (cB B) rfl) ?_)))
  obtain rfl := sj x
  exact a4 _ _ ⟨_, (d.je St), q, rfl⟩
 refine bC K (fun z K => ?_) (fun z K => ?_)
 ·refine un z (un z (un z (V (jz (cB z) rfl) ?_)))
  obtain rfl := sj K
  exact a5 _ _ ⟨_, (d.je St), rfl, rfl⟩
 refine ug z (jl rfl) (ug z (nK aP rfl) (ug z (kv rfl rfl rfl) (V (jA (cB z) rfl) ?_)))
 obtain rfl := sj K
 exact a5 _ _ ⟨_, (d.je St), rfl, rfl⟩
theorem xA (i : ja) (r : Bool) (w : World) (hm : qN i = some r) :
  jJ true pg0 88 [(.agg (jc i).toArray)] w (.bool r) := by
 refine cG 11 func88 rfl (fun d => sg (VE (jU d rfl (fun H J d => Wa (lr (Wf ox (VB d Mh rfl rfl aG (bS hm fun K y hm => VE (Eg d call138 (ub i.jn _ _  y) (fun I d => Wm (LJ hm (fun k E W => ∃ j, ST true jT w W (hp w) j ∧ E 2 = (.bool false) ∧ E 10 = (.bool k)) 4 ?_ (fun k a g => ?_))))))))))))
 ·rintro G E W ⟨j, d, B, x⟩ t
  exact Wg x (lt (rQ t d))
 refine bC a (fun c a => ?_) (fun c a => ?_)
 ·refine ug c (jh um rfl) (ug c (jf rfl (jq d.has Mh rfl aG)) (bS a fun D u a => pV c (Eg d call138 (ub i.jK _ _  u) (fun z d => V (jz (cB c) rfl) ?_))))
  obtain rfl := sj a
  exact g _ _ ⟨_, (d.je (Db St)), rfl, rfl⟩
 refine un c (un c (un c (V (jA (cB c) rfl) ?_)))
 obtain rfl := sj a
 exact g _ _ ⟨_, (d.je (Db St)), rfl, rfl⟩
theorem wQ (a r : ByteArray) (w : World) (hm : rS a = some r) :
  jJ true pg0 154 [(.string a)] w (.string r) := by
 refine cG 8 func154 rfl (fun d => sg (Wa (lr (Wm (V (nK aP rfl) (bS hm fun j c hm => VE (Eg d call87 (te (a.size : Int) _ _  c) (fun i d => Wm (bS hm fun k g hm => V (vl rfl rfl g) ?_)))))))))
 exact Wa (lt (rQ hm d))
theorem xy (a : ja) (r : ByteArray) (w : World) (hm : sy a = some r) :
  jJ true pg0 89 [(.agg (jc a).toArray)] w (.string r) := by
 refine cG 10 func89 rfl (fun d => sg (VE (jU d rfl (fun y z d => Wa (ln (jo ?_))))))
 replace d := d.drew
 have h := d.has.je (Kb Sn)
 refine ko h jP (X 0 rfl h (jh ox rfl) (XH 1 rfl h (fun _ m => jf rfl (jq m Mh rfl aG)) (X 3 rfl h (jh um rfl) (XH 4 rfl h (fun _ m => jf rfl (jq m Mh rfl aG)) (bS hm fun t c hm => XE 2 rfl (Eg d call154 (wQ a.jn _ _  c) (fun j d => ?_)))))))
 have h := d.has.je (Kb Sn)
 refine ⟨h, (bS hm fun u g hm => XE 5 rfl (Eg d call154 (wQ a.jK _ _  g) (fun k d => ?_)))⟩
 have h := d.has.je (Kb Sn)
 refine ⟨h, (bS hm fun x i hm => X 6 rfl h (vl rfl rfl i) (X 7 rfl h (lO rfl) (kz kr (jj ?_))))⟩
 exact jN (rQ hm d)
theorem J9 (t u : ja) (r : Bool) (w : World) (hm : wK t u = some r) :
  jJ true pg0 107 [(.agg (jc t).toArray), (.agg (jc u).toArray)] w (.bool r) := by
 refine cG 24 func107 rfl (fun d => sg (VE (jU d rfl (fun T Y d => VE (jU d rfl (fun U Z d => Wa (lr (Wf ox (VB d (Mt Mh) rfl rfl aG (Wf ox (VB d Mh rfl rfl aG (V (sQ rfl rfl rfl) ?_))))))))))))
 refine Wm (LJ hm (fun z E W => ∃ x, ST true jT w W (hp w) x ∧ E 4 = (.bool false) ∧ E 23 = (.bool z)) 13 ?_ (fun z g j => ?_))
 ·rintro N E W ⟨x, d, M, H⟩ D
  exact Wg H (lt (rQ D d))
 refine bC g (fun a g => ?_) (fun a g => ?_)
 ·refine un a (un a (un a (un a (un a (un a (Vu rfl rfl (Vu rfl rfl (Vu rfl rfl (Vu rfl rfl (Vu rfl rfl (un a (V (jz (cB a) rfl) ?_))))))))))))
  obtain rfl := sj g
  exact j _ _ ⟨_, (d.je (Db (Db St))), rfl, rfl⟩
 refine ug a (jh ox rfl) (ug a (jf rfl (jq d.has (Mt Mh) rfl aG)) (ug a (jh ox rfl) (ug a (jf rfl (jq d.has Mh rfl aG)) (ug a (sQ rfl rfl rfl) (ug a (jl rfl) (LJ g (fun B E W => ∃ y, ST true jT w W (hp w) y ∧ E 4 = (.bool false) ∧ E 10 = (.bool (oQ t.jn u.jn)) ∧ E 22 = (.bool B)) 6 ?_ (fun B i k => ?_)))))))
 ·rintro Q E W ⟨y, d, I, J, K⟩ G
  refine V (jA (J.trans (cB a)) K) ?_
  obtain rfl := sj G
  exact j _ _ ⟨_, (d.je St), I, rfl⟩
 refine bC i (fun c i => ?_) (fun c i => ?_)
 ·refine ug c (jh um rfl) (ug c (jf rfl (jq d.has (Mt Mh) rfl aG)) (ug c (jh um rfl) (ug c (jf rfl (jq d.has Mh rfl aG)) (ug c (sQ rfl rfl rfl) (ug a (jz (cB c) rfl) ?_)))))
  obtain rfl := sj i
  exact k _ _ ⟨_, (d.je (Db (Db St))), rfl, rfl, rfl⟩
 refine un c (un c (un c (un c (un c (ug a (jA (cB c) rfl) ?_)))))
 obtain rfl := sj i
 exact k _ _ ⟨_, (d.je (Db (Db St))), rfl, rfl, rfl⟩
theorem DX (g : jb) (r : Bool) (w : World) (hm : pK g = some r) :
  jJ true pg0 68 [(.agg (jg g).toArray)] w (.bool r) := by
 refine cG 93 func68 rfl (fun d => sg (VE (jU d rfl (fun W2 M d => Wa (lr (VE (kl d bj (fun W4 m d => lS ?_))))))))
 refine Wf mJ (VA d (Mt Mh) (jc g.Head) au ag (bS hm fun r5 h4 hm => VE (Eg d call88 (xA g.Head _ _  h4) (fun W7 d => V (lM rfl) (ln (CI hm rfl (fun h2 hm => ?_) (fun h2 hm => ?_)))))))
 ·refine sg (Wa (ln ?_))
  replace d := d.je (Db (Db St))
  refine jN (jE ?_)
  obtain rfl := sj hm
  exact rP d
 refine kS (Wf mh (VB d (Mt Mh) rfl rfl bl (Wi rfl (ln (CI hm rfl (fun h3 hm => ?_) (fun h3 hm => ?_))))))
 ·refine sg (Wf rq (VB d (Mt Mh) rfl rfl aG (bS hm fun i6 f7 hm => VE (Eg d call138 (ub g.jL _ _  f7) (fun i3 d => Wm (LJ hm (fun e1 E W => ∃ c8, ST true jT w W (hp w) ((m, Ol (jc K0) 28) :: ((M, Ol (jg g) 108) :: c8)) ∧ E 1 = (.pointer (some ⟨M, 0, none⟩)) ∧ E 2 = (.bool false) ∧ E 3 = (.pointer (some ⟨m, 0, none⟩)) ∧ E 19 = (.bool e1)) 5 ?_ (fun e1 T q => ?_)))))))
  ·rintro i8 E W ⟨c8, d, n, d6, f9, g0⟩ f0
   refine Wh g0 (LJ f0 (fun e0 E W => ∃ c9, ST true jT w W (hp w) ((M, Ol (jg g) 108) :: c9) ∧ E 1 = (.pointer (some ⟨M, 0, none⟩)) ∧ E 2 = (.bool false) ∧ E 25 = (.bool e0)) 5 ?_ (fun e0 Q a5 => ?_))
   ·rintro i9 E W ⟨c9, d, g1, d7, g2⟩ f1
    refine Wh g2 (LJ f1 (fun d9 E W => ∃ d0, ST true jT w W (hp w) d0 ∧ E 2 = (.bool false) ∧ E 30 = (.bool d9)) 4 ?_ (fun d9 N a4 => ?_))
    ·rintro j0 E W ⟨d0, d, i5, g3⟩ f2
     refine Wg g3 (lt (jE ?_))
     obtain rfl := sj f2
     exact rP d
    refine bC N (fun x N => ?_) (fun x N => ?_)
    ·refine ug x (jh pX g1) (ug x (jf rfl (jq d.has Mh rfl aG)) (ug x (sQ rfl rfl rfl) (V (jz (cB x) rfl) ?_)))
     obtain rfl := sj N
     exact a4 _ _ ⟨_, (d.je (Db St)), d7, rfl⟩
    refine un x (un x (un x (V (jA (cB x) rfl) ?_)))
    obtain rfl := sj N
    exact a4 _ _ ⟨_, (d.je (Db St)), d7, rfl⟩
   refine bC Q (fun k Q => ?_) (fun k Q => ?_)
   ·refine ug k (jh ou n) (ug k (jf rfl (jm d.has (Mt Mh) (jc g.C) rfl au ag)) (ug k (jf f9 (jm d.has Mh (jc K0) rfl au ag)) (ug k (uL rfl rfl (lN ck) (qK (ni _ g.C K0))) (V (jz (cB k) rfl) ?_))))
    obtain rfl := sj Q
    exact a5 _ _ ⟨_, (d.je (Db St)), n, d6, rfl⟩
   refine un k (un k (un k (un k (V (jA (cB k) rfl) ?_))))
   obtain rfl := sj Q
   exact a5 _ _ ⟨_, (d.je (Db St)), n, d6, rfl⟩
  refine bC T (fun j T => ?_) (fun j T => ?_)
  ·refine ug j (jh lm rfl) (ug j (jf rfl (jm d.has (Mt Mh) (jc g.B) rfl au ag)) (ug j (jf rfl (jm d.has Mh (jc K0) rfl au ag)) (ug j (uL rfl rfl (lN ck) (qK (ni _ g.B K0))) (V (jz (cB j) rfl) ?_))))
   obtain rfl := sj T
   exact q _ _ ⟨_, (d.je St), rfl, rfl, rfl, rfl⟩
  refine un j (un j (un j (un j (V (jA (cB j) rfl) ?_))))
  obtain rfl := sj T
  exact q _ _ ⟨_, (d.je St), rfl, rfl, rfl, rfl⟩
 let a0 := ((jg g).toArray : Array Value)
 let h : Value := (.pointer (some ⟨M, 0, none⟩))
 refine kS (Wf rq (VB d (Mt Mh) rfl rfl aG (V (sQ rfl rfl rfl) (Wm (LJ hm (fun c1 E W => ∃ d1, ST true jT w W (hp w) ((m, Ol (jc K0) 28) :: ((M, Obj.cells a0 108 (0, 0)) :: d1)) ∧ E 1 = h ∧ E 3 = (.pointer (some ⟨m, 0, none⟩)) ∧ E 39 = (.bool c1)) 5 ?_ (fun c1 I a3 => ?_))))))
 ·rintro j3 E W ⟨d1, d, u, d8, g4⟩ i
  refine ln (CI i g4 (fun e7 i => ?_) (fun e7 i => ?_))
  ·refine sg (Wa (ln ?_))
   replace d := d.je (Db (Db St))
   refine jN (jE ?_)
   obtain rfl := sj i
   exact rP d
  refine kS (V (jh mh u) (VB d (Mt Mh) rfl rfl bl (Wi rfl (ln (CI i rfl (fun e8 i => ?_) (fun e8 i => ?_))))))
  ·refine sg (V (jh ou u) (VA d (Mt Mh) (jc g.C) au ag (V (jf d8 (jm d.has Mh (jc K0) rfl au ag)) (V (uL rfl rfl (lN ck) (qK (ni _ g.C K0))) (Wm (LJ i (fun e2 E W => ∃ d2, ST true jT w W (hp w) d2 ∧ E 51 = (.bool e2)) 4 ?_ (fun e2 U s => ?_)))))))
   ·rintro j4 E W ⟨d2, d, g7⟩ f3
    refine Wg g7 (lt (jE ?_))
    obtain rfl := sj f3
    exact rP d
   refine bC U (fun y U => ?_) (fun y U => ?_)
   ·refine ug y (jh pX u) (ug y (jf rfl (jq d.has (Mt Mh) rfl aG)) (ug y (sQ rfl rfl rfl) (V (jz (cB y) rfl) ?_)))
    obtain rfl := sj U
    exact s _ _ ⟨_, (d.je (Db (Db St))), rfl⟩
   refine un y (un y (un y (V (jA (cB y) rfl) ?_)))
   obtain rfl := sj U
   exact s _ _ ⟨_, (d.je (Db (Db St))), rfl⟩
  refine kS (V (jh mh u) (VB d (Mt Mh) rfl rfl bl (Wi rfl (ln (CI i rfl (fun e9 i => ?_) (fun e9 i => ?_))))))
  ·refine sg (V (jh ou u) (VA d (Mt Mh) (jc g.C) au ag (V (jf d8 (jm d.has Mh (jc K0) rfl au ag)) (V (uL rfl rfl (lN ck) (qK (ni _ g.C K0))) (Wm (LJ i (fun e4 E W => ∃ d3, ST true jT w W (hp w) ((M, Obj.cells a0 108 (0, 0)) :: d3) ∧ E 1 = h ∧ E 67 = (.bool e4)) 8 ?_ (fun e4 Y a9 => ?_)))))))
   ·rintro j5 E W ⟨d3, d, g8, g9⟩ f4
    refine Wh g9 (LJ f4 (fun e3 E W => ∃ d4, ST true jT w W (hp w) d4 ∧ E 72 = (.bool e3)) 4 ?_ (fun e3 J v => ?_))
    ·rintro j6 E W ⟨d4, d, h0⟩ f5
     refine Wg h0 (lt (jE ?_))
     obtain rfl := sj f5
     exact rP d
    refine bC J (fun z J => ?_) (fun z J => ?_)
    ·refine ug z (jh pX g8) (ug z (jf rfl (jq d.has Mh rfl aG)) (bS J fun i7 f8 J => pV z (Eg d call138 (ub g.kk _ _  f8) (fun i4 d => V (jz (cB z) rfl) ?_))))
     obtain rfl := sj J
     exact v _ _ ⟨_, (d.je (Db St)), rfl⟩
    refine un z (un z (un z (V (jA (cB z) rfl) ?_)))
    obtain rfl := sj J
    exact v _ _ ⟨_, (d.je (Db St)), rfl⟩
   refine bC Y (fun a Y => ?_) (fun a Y => ?_)
   ·refine ug a (jh lm u) (ug a (jh ox rfl) (ug a (jf rfl (jq d.has (Mt Mh) rfl aG)) (ug a (jh mJ u) (ug a (jh ox rfl) (ug a (jf rfl (jq d.has (Mt Mh) rfl aG)) (ug a (sQ rfl rfl rfl) (V (jz (cB a) rfl) ?_)))))))
    obtain rfl := sj Y
    exact a9 _ _ ⟨_, (d.je (Db St)), u, rfl⟩
   refine un a (un a (un a (un a (un a (un a (un a (V (jA (cB a) rfl) ?_)))))))
   obtain rfl := sj Y
   exact a9 _ _ ⟨_, (d.je (Db St)), u, rfl⟩
  refine kn ?_
  replace d := d.je (Db St)
  refine sg (V (jh mh u) (VB d Mh rfl rfl bl (Wi rfl (Wm (LJ i (fun R E W => ∃ d5, ST true jT w W (hp w) ((M, Obj.cells a0 108 (0, 0)) :: d5) ∧ E 1 = h ∧ E 80 = (.bool R)) 4 ?_ (fun R K a2 => ?_))))))
  ·rintro j7 E W ⟨d5, d, o, h1⟩ f6
   refine Wh h1 (LJ f6 (fun P E W => ∃ A, ST true jT w W (hp w) ((M, Obj.cells a0 108 (0, 0)) :: A) ∧ E 1 = h ∧ E 85 = (.bool P)) 4 ?_ (fun P H p => ?_))
   ·rintro i1 E W ⟨A, d, L, e5⟩ c3
    refine Wh e5 (LJ c3 (fun O E W => ∃ F, ST true jT w W (hp w) F ∧ E 92 = (.bool O)) 6 ?_ (fun O G Z => ?_))
    ·rintro i2 E W ⟨F, d, e6⟩ c4
     exact Wg e6 (lt (rQ c4 d))
    refine bC G (fun c G => ?_) (fun c G => ?_)
    ·refine ug c (jh lm L) (ug c (jf rfl (jm d.has Mh (jc g.B) rfl au ag)) (ug c (jh ou L) (ug c (jf rfl (jm d.has Mh (jc g.C) rfl au ag)) (bS G fun h8 c5 G => pV c (Eg d call107 (J9 g.B g.C _ _  c5) (fun h5 d => V (jz (cB c) rfl) ?_))))))
     obtain rfl := sj G
     exact Z _ _ ⟨_, (d.je (Db St)), rfl⟩
    refine un c (un c (un c (un c (un c (V (jA (cB c) rfl) ?_)))))
    obtain rfl := sj G
    exact Z _ _ ⟨_, (d.je (Db St)), rfl⟩
   refine bC H (fun D H => ?_) (fun D H => ?_)
   ·refine ug D (jh ou o) (ug D (jf rfl (jm d.has Mh (jc g.C) rfl au ag)) (bS H fun h9 c6 H => pV D (Eg d call88 (xA g.C _ _  c6) (fun h6 d => V (jz (cB D) rfl) ?_))))
    obtain rfl := sj H
    exact p _ _ ⟨_, (d.je St), o, rfl⟩
   refine un D (un D (un D (V (jA (cB D) rfl) ?_)))
   obtain rfl := sj H
   exact p _ _ ⟨_, (d.je St), o, rfl⟩
  refine bC K (fun B K => ?_) (fun B K => ?_)
  ·refine ug B (jh pX u) (ug B (jf rfl (jq d.has Mh rfl aG)) (ug B (sQ rfl rfl rfl) (V (jz (cB B) rfl) ?_)))
   obtain rfl := sj K
   exact a2 _ _ ⟨_, (d.je St), u, rfl⟩
  refine un B (un B (un B (V (jA (cB B) rfl) ?_)))
  obtain rfl := sj K
  exact a2 _ _ ⟨_, (d.je St), u, rfl⟩
 refine bC I (fun t I => ?_) (fun t I => ?_)
 ·refine un t (un t (un t (un t (V (jz (cB t) rfl) ?_))))
  obtain rfl := sj I
  exact a3 _ _ ⟨_, (d.je St), rfl, rfl, rfl⟩
 refine ug t (jh lm rfl) (ug t (jf rfl (jm d.has (Mt Mh) (jc g.B) rfl au ag)) (bS I fun i0 c7 I => pV t (Eg d call88 (xA g.B _ _  c7) (fun h7 d => ug t (lM rfl) (V (jA (cB t) rfl) ?_)))))
 obtain rfl := sj I
 exact a3 _ _ ⟨_, (d.je St), rfl, rfl, rfl⟩
theorem IQ (g : jb) (r : ByteArray) (w : World) (hm : ua g = some r) :
  jJ true pg0 155 [(.agg (jg g).toArray)] w (.string r) := by
 refine cG 41 func155 rfl (fun d => sg (VE (jU d rfl (fun W2 n d => Wa (ln (jo ?_))))))
 replace d := d.drew
 have h := d.has.je (Kb Sn)
 refine ko h jP (X 0 rfl h (jh mh rfl) (XH 1 rfl h (fun _ m => jf rfl (jq m Mh rfl bl)) (X 3 rfl h (jh mJ rfl) (XH 4 rfl h (fun _ m => jf rfl (jm m Mh (jc g.Head) rfl au ag)) (bS hm fun a9 H hm => XE 2 rfl (Eg d call87 (te g.Kind _ _  H) (fun a3 d => ?_)))))))
 have h := d.has.je (Kb Sn)
 refine ⟨h, (bS hm fun s I hm => XE 5 rfl (Eg d call89 (xy g.Head _ _  I) (fun a4 d => ?_)))⟩
 have h := d.has.je (Kb Sn)
 refine ⟨h, (bS hm fun O Q hm => X 6 rfl h (vl rfl rfl Q) (X 7 rfl h (lO rfl) (kz kr (jj (jo (sg (Wf mh (VB d Mh rfl rfl bl (Wi rfl (ln (CI hm rfl (fun y hm => ?_) (fun y hm => ?_))))))))))))⟩
 ·refine sg (Wm (Wf rq (VB d Mh rfl rfl aG (bS hm fun v J hm => VE (Eg d call154 (wQ g.jL _ _  J) (fun a5 d => bS hm fun P T hm => V (vl rfl rfl T) (Wa (ln ?_))))))))
  replace d := d.je (Db St)
  refine jN (jE ?_)
  obtain rfl := sj hm
  exact rP d
 refine kg (Wm (Wf lm (VA d Mh (jc g.B) au ag (bS hm fun A K hm => VE (Eg d call89 (xy g.B _ _  K) (fun o d => bS hm fun R U hm => V (vl rfl rfl U) (Wa (ln (jo ?_)))))))))
 refine CJ hm (fun x E W => ∃ i, ST true jT w W (hp w) ((n, Ol (jg g) 108) :: i) ∧ E 1 = (.pointer (some ⟨n, 0, none⟩)) ∧ E 3 = (.string x)) (fun x c => ?_) ?_
 ·refine sg (Wf mh (VB d Mh rfl rfl bl (Wi rfl (ln (CI c rfl (fun B c => ?_) (fun B c => ?_))))))
  ·refine jk (Wm (Wf pX (VB d Mh rfl rfl aG (bS c fun L N c => VE (Eg d call154 (wQ g.kk _ _  N) (fun q d => bS c fun c1 Z c => V (vl rfl rfl Z) (Wa (ln ?_))))))))
   obtain rfl := sj c
   exact ⟨_, (d.je St), rfl, rfl⟩
  refine kn ?_
  obtain rfl := sj c
  exact ⟨_, (d.je St), rfl, rfl⟩
 rintro c2 E W ⟨i, d, k, t⟩ D
 refine jo (CJ D (fun u E W => ∃ j, ST true jT w W (hp w) j ∧ E 3 = (.string u)) (fun u a => ?_) ?_)
 ·refine sg (V (jh mh k) (VB d Mh rfl rfl bl (Wi rfl (ln (CI a rfl (fun z a => ?_) (fun z a => ?_))))))
  ·refine jk (Wh t (V (jh ou k) (VA d Mh (jc g.C) au ag (bS a fun F M a => VE (Eg d call89 (xy g.C _ _  M) (fun p d => bS a fun c0 Y a => V (vl rfl rfl Y) (Wa (ln ?_))))))))
   obtain rfl := sj a
   exact ⟨_, (d.je (Db St)), rfl⟩
  refine kn ?_
  obtain rfl := sj a
  exact ⟨_, (d.je (Db St)), t⟩
 rintro c3 E W ⟨j, d, a2⟩ G
 exact sg (Wh a2 (Wa (lt (rQ G d))))
theorem I0 (z : Value) (H : List jv) (r : ByteArray) (w : World) (y : Sl (Pl js) 12 (hp w) z H) (hm : xD H = some r) :
  jJ true pg0 90 [z] w (.string r) := by
 refine cG 50 func90 rfl (fun d => sg (Wa (lS (Wm (V (kj aw rfl y) (Wi rfl (ln (CI hm rfl (fun c6 hm => ?_) (fun c6 hm => ?_)))))))))
 ·refine sg (Wa (lt (jE ?_)))
  obtain rfl := sj hm
  exact rP d
 refine kg (Wm (V (kj aw rfl y) (bS hm fun r2 c7 hm => VE (Eg d call87 (te (H.length : Int) _ _  c7) (fun W4 d => Wa (lS (Wm ?_)))))))
 refine V (kj aw rfl y) (Wm (ln (km (fun i E W => ∃ x K, (E 14 = .int .i64 (i : Nat) ∧ E 13 = .int .i64 (H.length : Nat)) ∧ ST true jT w W (hp w) K ∧ E 3 = (.string x) ∧ E 12 = z ∧ ry (H.drop i) x = some r) H.length y.len ⟨r2, _, ⟨rfl, rfl⟩, (d.je St), rfl, rfl, hm⟩ dc dc dc (fun _ _ _ h => by obtain ⟨_, _, o, _⟩ := h; exact o) ?_ ?_)))
 ·rintro N E W v ⟨x, K, ⟨n, p⟩, d, D, G, k⟩
  obtain ⟨j, c8, b6, b5, b7⟩ := jY v
  rw [b6] at k
  refine bg (VQ (kC (enc := js) (i := (N : Int)) (x0 := j) aw aV G n y (ak _) b5) (fun d5 F => V (jf rfl (kG d.has F di aV)) (VE (kl d bX (fun c9 B d => VO (jD (.agg (js j).toArray) ((js j).toArray) d rfl rfl aV (qJ j) nb rfl (fun d0 d => lS (Wf wU (VA d Mh (jg j.jb) aT an (bS k fun d7 a9 k => ?_))))))))))
  refine VE (Eg d call68 (DX j.jb _ _  a9) (fun d1 d => V (lM rfl) (Wm (LJ k (fun a4 E W => ∃ Q, ST true jT w W (hp w) ((B, Ol (js j) 140) :: Q) ∧ E 3 = (.string x) ∧ E 5 = (.pointer (some ⟨B, 0, none⟩)) ∧ E 12 = z ∧ E 13 = (.int .i64 (H.length : Int)) ∧ E 14 = (.int .i64 (N : Int)) ∧ E 30 = (.bool a4)) 8 ?_ (fun a4 u J => ?_)))))
  ·rintro e2 E W ⟨Q, d, U, M, Y, Z, s, b9⟩ A
   refine Wh b9 (LJ A (fun a3 E W => ∃ T, ST true jT w W (hp w) ((B, Ol (js j) 140) :: T) ∧ E 3 = (.string x) ∧ E 5 = (.pointer (some ⟨B, 0, none⟩)) ∧ E 12 = z ∧ E 13 = (.int .i64 (H.length : Int)) ∧ E 14 = (.int .i64 (N : Int)) ∧ E 37 = (.bool a3)) 6 ?_ (fun a3 t I => ?_))
   ·rintro e3 E W ⟨T, d, c0, a2, c1, c2, c3, c4⟩ g
    refine ln (CI g c4 (fun a5 g => ?_) (fun a5 g => ?_))
    ·refine sg (Wa (ln ?_))
     replace d := d.je (Db St)
     refine jN (jE (kH (jE (kH (jE ?_)))))
     obtain rfl := sj g
     exact rP d
    refine kn ?_
    replace d := d.drew
    have m := d.has.je (Kb Sn)
    refine ko m jP (X 0 rfl m (jl c0) (X 1 rfl m (jh wU a2) (XH 2 rfl m (fun _ q => jf rfl (jm q Mh (jg j.jb) rfl aT an)) (X 4 rfl m (jh oV a2) (X 5 rfl m (jh rV rfl) (XH 6 rfl m (fun _ q => jf rfl (jq q Mh rfl aG)) (bS g fun d8 L g => XE 3 rfl (Eg d call155 (IQ j.jb _ _  L) (fun d2 d => ?_)))))))))
    have m := d.has.je (Kb Sn)
    refine ⟨m, (bS g fun d9 O g => XE 7 rfl (Eg d call154 (wQ j.jd.jL _ _  O) (fun d3 d => ?_)))⟩
    have m := d.has.je (Kb Sn)
    refine ⟨m, (bS g fun e1 R g => X 8 rfl m (vl rfl rfl R) (bS g fun c5 b4 g => X 9 rfl m (vl rfl rfl b4) (X 10 rfl m (lO rfl) (kz kr (jV (jj ?_))))))⟩
    replace d := d.je (Db St)
    exact ⟨c3, c5, _, ⟨rfl, c2⟩, (d.je St), rfl, c1, (by rw [b7]; exact g)⟩
   refine bC t (fun c t => ?_) (fun c t => ?_)
   ·refine un c (un c (un c (un c (un c (V (jz (cB c) rfl) ?_)))))
    obtain rfl := sj t
    exact I _ _ ⟨_, (d.je St), U, M, Y, Z, s, rfl⟩
   refine ug c (jh oV M) (ug c (jh rV rfl) (ug c (jf rfl (jq d.has Mh rfl aG)) (bS t fun e0 P t => pV c (Eg d call138 (ub j.jd.jL _ _  P) (fun d4 d => ug c (lM rfl) (V (jA (cB c) rfl) ?_))))))
   obtain rfl := sj t
   exact I _ _ ⟨_, (d.je St), U, M, Y, Z, s, rfl⟩
  refine bC u (fun a u => ?_) (fun a u => ?_)
  ·refine un a (un a (un a (un a (un a (un a (un a (V (jz (cB a) rfl) ?_)))))))
   obtain rfl := sj u
   exact J _ _ ⟨_, (d.je St), D, rfl, G, p, n, rfl⟩
  refine ug a (jh oV rfl) (ug a (jh yz rfl) (ug a (jf rfl (jm d.has Mh (jc j.jd.ja) rfl au ag)) (ug a (jh wU rfl) (ug a (jh mJ rfl) (ug a (jf rfl (jm d.has Mh (jc j.jb.Head) rfl au ag)) (ug a (B3 rfl rfl (lN ck) (xZ (ni _ j.jd.ja j.jb.Head))) (V (jA (cB a) rfl) ?_)))))))
  obtain rfl := sj u
  exact J _ _ ⟨_, (d.je St), D, rfl, G, p, n, rfl⟩
 rintro E W ⟨x, K, ⟨n, p⟩, d, D, G, k⟩
 rw [ap] at k
 exact jj (sg (Wh D (Wa (lt (rQ k d)))))
theorem IR (c : jI) (J I : Value) (r : ByteArray) (w : World) (g : Sl (Pl jc) 2 (hp w) J c.jM) (y : Sl (Pl js) 12 (hp w) I c.jO) (hm : xz c = some r) :
  jJ true pg0 35 [(.agg #[(.int .i64 c.State), (.int .i64 c.lc), J, I])] w (.string r) := by
 refine cG 66 func35 rfl (fun d => sg ?_)
 obtain ⟨Z, c2, rfl⟩ := g.form
 obtain ⟨A3, c4, rfl⟩ := y.form
 let a3 := (C2 c.State c.lc Z c.jM.length c2 A3 c.jO.length c4)
 refine VE (jU d rfl (fun W6 K d => Wa (lS (Wf vB (VB d Mh rfl rfl bl (Wi rfl (Wm (LJ hm (fun R E W => ∃ L9, ST true jT w W (hp w) ((K, Ol a3 64) :: L9) ∧ E 1 = (.pointer (some ⟨K, 0, none⟩)) ∧ E 14 = (.bool R)) 4 ?_ (fun R H Y => ?_)))))))))
 ·let o : Value := (.pointer (some ⟨K, 0, none⟩))
  let a0 := (a3.toArray : Array Value)
  rintro x8 E W ⟨L9, d, s, e6⟩ d5
  refine Wh e6 (LJ d5 (fun P E W => ∃ d1, ST true jT w W (hp w) ((K, Obj.cells a0 64 (0, 0)) :: d1) ∧ E 1 = o ∧ E 19 = (.bool P)) 4 ?_ (fun P G U => ?_))
  ·rintro h2 E W ⟨d1, d, a9, e7⟩ d6
   refine Wh e7 (LJ d6 (fun O E W => ∃ d2, ST true jT w W (hp w) ((K, Obj.cells a0 64 (0, 0)) :: d2) ∧ E 1 = o ∧ E 24 = (.bool O)) 4 ?_ (fun O D T => ?_))
   ·rintro h3 E W ⟨d2, d, v, e8⟩ d7
    refine Wh e8 (LJ d7 (fun L E W => ∃ d3, ST true jT w W (hp w) ((K, Obj.cells a0 64 (0, 0)) :: d3) ∧ E 1 = o ∧ E 30 = (.bool L)) 5 ?_ (fun L B Q => ?_))
    ·rintro h4 E W ⟨d3, d, N, e9⟩ j
     refine ln (CI j e9 (fun d4 j => ?_) (fun d4 j => ?_))
     ·refine sg (Wa (ln ?_))
      replace d := d.je (Db St)
      refine jN (jE ?_)
      obtain rfl := sj j
      exact rP d
     refine kn (jo ?_)
     replace d := d.drew
     have m := d.has.je (Kb Sn)
     refine ko m jP (X 0 rfl m (jh vB N) (XH 1 rfl m (fun _ n => jf rfl (jq n Mh rfl bl)) (X 3 rfl m (jh wD N) (XH 4 rfl m (fun _ n => jf rfl (jq n Mh rfl eL)) (X 7 rfl m (jh pv N) (XH 8 rfl m (fun _ n => jf rfl (jq n Mh rfl dn)) (X 9 rfl m (kj al rfl g) (bS j fun g8 d8 j => XE 2 rfl (Eg d call87 (te c.State _ _  d8) (fun g3 d => ?_))))))))))
     have m := d.has.je (Kb Sn)
     refine ⟨m, (bS j fun g9 d9 j => XE 5 rfl (Eg d call87 (te c.lc _ _  d9) (fun g4 d => ?_)))⟩
     have m := d.has.je (Kb Sn)
     refine ⟨m, (bS j fun h1 e1 j => X 6 rfl m (vl rfl rfl e1) (bS j fun h0 e0 j => XE 10 rfl (Eg d call87 (te (c.jM.length : Int) _ _  e0) (fun g7 d => ?_))))⟩
     have m := d.has.je (Kb Sn)
     refine ⟨m, (bS j fun f0 e2 j => X 11 rfl m (vl rfl rfl e2) (X 12 rfl m (lO rfl) (kz kr (jj (jo (sg (V (jh pv N) (VB d Mh rfl rfl dn (V (kj al rfl g) (Wm (ln ?_)))))))))))⟩
     refine km (fun i E W => ∃ M a2, (E 46 = .int .i64 (i : Nat) ∧ E 45 = .int .i64 (c.jM.length : Nat)) ∧ ST true jT w W (hp w) ((K, Obj.cells a0 64 (0, 0)) :: a2) ∧ E 1 = o ∧ E 3 = (.string M) ∧ E 44 = (.slice Z c.jM.length c2) ∧ ra c (c.jM.drop i) M = some r) c.jM.length g.len ⟨f0, _, ⟨rfl, rfl⟩, (d.je St), N, rfl, rfl, j⟩ dc dc dc (fun _ _ _ h => by obtain ⟨_, _, F, _⟩ := h; exact F) ?_ ?_
     ·rintro e3 E W b9 ⟨M, a2, ⟨A, eN⟩, d, a5, p, q, a⟩
      obtain ⟨x, f1, c9, c8, d0⟩ := jY b9
      rw [c9] at a
      refine bg (VQ (kC (enc := jc) (i := (e3 : Int)) (x0 := x) al ag q A g (ak _) c8) (fun f8 c0 => V (jf rfl (kG d.has c0 au ag)) (VE (kl d bj (fun f2 f7 d => VO (jD (.agg (jc x).toArray) ((jc x).toArray) d rfl rfl ag (lf x) nb rfl (fun f3 d => lS (VA d Mh (jc x) au ag (bS a fun f9 c1 a => VE (Eg d call88 (xA x _ _  c1) (fun f4 d => ?_)))))))))))
      refine V (lM rfl) (ln (CI a rfl (fun b6 a => ?_) (fun b6 a => ?_)))
      ·refine sg (Wa (ln ?_))
       replace d := d.je (Db (Db St))
       refine jN (jE (kH (jE (kH (jE ?_)))))
       obtain rfl := sj a
       exact rP d
      refine kn (jk (Wh p (VA d Mh (jc x) au ag (bS a fun g0 c3 a => VE (Eg d call89 (xy x _ _  c3) (fun f5 d => bS a fun e4 c6 a => V (vl rfl rfl c6) (Wa (jH (jV (jj ?_))))))))))
      replace d := d.je (Db St)
      exact ⟨A, e4, _, ⟨rfl, eN⟩, (d.je St), a5, rfl, q, (by rw [d0]; exact a)⟩
     rintro E W ⟨M, a2, ⟨A, eN⟩, d, a5, p, q, a⟩
     rw [ap] at a
     refine jj (sg (V (jh tu a5) (VB d Mh rfl rfl eB (bS a fun g1 c5 a => VE (Eg d call90 (I0 (.slice A3 c.jO.length c4) c.jO _ _ (y.mono (Pl.mono _) d.ju) c5) (fun f6 d => Wa (ln ?_)))))))
     replace d := d.je (Db St)
     refine jo (sg (Wm (V (sQ rfl rfl rfl) (ln (CI a rfl (fun b7 a => ?_) (fun b7 a => ?_))))))
     ·refine sg (Wa (lt (jE ?_)))
      obtain rfl := sj a
      exact rP d
     exact kg (Wh p (Wm (bS a fun g2 c7 a => V (vl rfl rfl c7) (Wa (lt (rQ a d))))))
    refine bC B (fun k B => ?_) (fun k B => ?_)
    ·refine un k (un k (un k (un k (V (jz (cB k) rfl) ?_))))
     obtain rfl := sj B
     exact Q _ _ ⟨_, (d.je St), v, rfl⟩
    refine ug k (jh pv v) (ug k (jf rfl (jq d.has Mh rfl dn)) (ug k (kj al rfl g) (ug k (kv rfl rfl rfl) (V (jA (cB k) rfl) ?_))))
    obtain rfl := sj B
    exact Q _ _ ⟨_, (d.je St), v, rfl⟩
   refine bC D (fun u D => ?_) (fun u D => ?_)
   ·refine un u (un u (un u (V (jz (cB u) rfl) ?_)))
    obtain rfl := sj D
    exact T _ _ ⟨_, (d.je St), a9, rfl⟩
   refine ug u (jh wD a9) (ug u (jf rfl (jq d.has Mh rfl eL)) (ug u (kv rfl rfl rfl) (V (jA (cB u) rfl) ?_)))
   obtain rfl := sj D
   exact T _ _ ⟨_, (d.je St), a9, rfl⟩
  refine bC G (fun t G => ?_) (fun t G => ?_)
  ·refine un t (un t (un t (V (jz (cB t) rfl) ?_)))
   obtain rfl := sj G
   exact U _ _ ⟨_, (d.je St), s, rfl⟩
  refine ug t (jh wD s) (ug t (jf rfl (jq d.has Mh rfl eL)) (ug t (kv rfl rfl rfl) (V (jA (cB t) rfl) ?_)))
  obtain rfl := sj G
  exact U _ _ ⟨_, (d.je St), s, rfl⟩
 refine bC H (fun z H => ?_) (fun z H => ?_)
 ·refine un z (un z (un z (V (jz (cB z) rfl) ?_)))
  obtain rfl := sj H
  exact Y _ _ ⟨_, (d.je St), rfl, rfl⟩
 refine ug z (jh vB rfl) (ug z (jf rfl (jq d.has Mh rfl bl)) (ug z (kv rfl rfl rfl) (V (jA (cB z) rfl) ?_)))
 obtain rfl := sj H
 exact Y _ _ ⟨_, (d.je St), rfl, rfl⟩
theorem FB (g : jI) (c a : Value) (r : Bool) (w : World) (j : Sl (Pl jc) 2 (hp w) c g.jM) (i : Sl (Pl js) 12 (hp w) a g.jO) (hm : uS g = some r) :
  jJ true pg0 36 [(.pointer none), (.agg #[(.int .i64 g.State), (.int .i64 g.lc), c, a])] w (.bool r) := by
 refine cG 52 func36 rfl (fun d => sg ?_)
 obtain ⟨k, u, rfl⟩ := j.form
 obtain ⟨t, x, rfl⟩ := i.form
 refine VE (jU d rfl (fun y B d => Wa (lr (V (kO (v := (.agg #[(.slice none 0 0)])) sG (ku ie cY (JU _ cY) kr)) (VE (jU d rfl (fun z D d => Wa (lS (Wm ?_)))))))))
 refine V (qD dC rfl rfl) (Wm (Vn rfl rfl (Vn rfl rfl (Vn rfl rfl (V (jz rfl rfl) (Wm (Vn rfl rfl (Vn rfl rfl (Vn rfl rfl (Vn rfl rfl (Vn rfl rfl (V (jz rfl rfl) (ln ?_)))))))))))))
 refine vm rfl (sg (Wa (ln ?_)))
 replace d := d.je (Db (Db St))
 refine jN (jE ?_)
 obtain rfl := sj hm
 exact rP d
theorem Jk (t : Value) (y : List ja) (u : Value) (K : List ja) (r : Bool) (w : World) (c : Sl (Pl jc) 2 (hp w) t y) (z : Sl (Pl jc) 2 (hp w) u K) (hm : yV y K = some r) :
  jJ true pg0 15 [t, u] w (.bool r) := by
 refine cG 26 func15 rfl (fun m => sg (Wa (lS (Wm (V (kj al rfl c) (Wm (V (kj al rfl z) (Wi rfl (jH ?_)))))))))
 refine jj (CI hm rfl (fun U hm => ?_) (fun U hm => ?_))
 ·refine sg (Wa (lt (jE ?_)))
  obtain rfl := sj hm
  exact rP m
 refine kS (Wm (V (kj al rfl c) (Wm (ln (km (fun i E W => ∃ g, (E 13 = .int .i64 (i : Nat) ∧ E 12 = .int .i64 (y.length : Nat)) ∧ ST true jT w W (hp w) g ∧ E 0 = t ∧ E 1 = u ∧ uh K (y.drop i) i = some r) y.length c.len ⟨_, ⟨rfl, rfl⟩, (m.je St), rfl, rfl, hm⟩ dc dc dc (fun _ _ _ h => by obtain ⟨_, o, _⟩ := h; exact o) ?_ ?_)))))
 ·rintro I E W M ⟨g, ⟨n, q⟩, m, j, k, a⟩
  obtain ⟨J, a3, Q, N, T⟩ := jY M
  rw [Q] at a
  refine bg (Wh n (Wa (ln (jo ?_))))
  replace m := m.drew
  have d := m.has.je Sn
  refine ko d jP (X 0 rfl d (jl j) (X 1 rfl d (jl rfl) (XQ 2 rfl d (kC (enc := jc) (i := (I : Int)) (x0 := J) al ag rfl rfl c (ak _) N) (fun Y G => XH 3 rfl d (fun _ p => jf rfl (kG p G au ag)) (X 4 rfl d (jl k) (X 5 rfl d (jl rfl) (bS a fun B x a => XQ 6 rfl d (kC (enc := jc) (i := (I : Int)) (x0 := B) al ag rfl rfl z (kL x) (kq x)) (fun Z H => XH 7 rfl d (fun _ p => jf rfl (kG p H au ag)) (X 8 rfl d (B3 rfl rfl (lN ck) (xZ (ni _ J B))) (kz kr (jj (CI a rfl (fun D a => ?_) (fun D a => ?_)))))))))))))
  ·refine sg (Wa (lt (kH (jE (kH (jE ?_))))))
   obtain rfl := sj a
   exact rP m
  exact jW (jV (jj ⟨n, _, ⟨rfl, q⟩, (m.je St), j, k, (by rw [T]; exact a)⟩))
 rintro E W ⟨g, ⟨n, q⟩, m, j, k, a⟩
 rw [ap] at a
 exact jj (sg (Wa (lt (rQ a m))))
theorem Jh (t : Value) (y : List jv) (u : Value) (K : List jv) (r : Bool) (w : World) (c : Sl (Pl js) 12 (hp w) t y) (z : Sl (Pl js) 12 (hp w) u K) (hm : yq y K = some r) :
  jJ true pg0 97 [t, u] w (.bool r) := by
 refine cG 26 func97 rfl (fun m => sg (Wa (lS (Wm (V (kj aw rfl c) (Wm (V (kj aw rfl z) (Wi rfl (jH ?_)))))))))
 refine jj (CI hm rfl (fun U hm => ?_) (fun U hm => ?_))
 ·refine sg (Wa (lt (jE ?_)))
  obtain rfl := sj hm
  exact rP m
 refine kS (Wm (V (kj aw rfl c) (Wm (ln (km (fun i E W => ∃ g, (E 13 = .int .i64 (i : Nat) ∧ E 12 = .int .i64 (y.length : Nat)) ∧ ST true jT w W (hp w) g ∧ E 0 = t ∧ E 1 = u ∧ uw K (y.drop i) i = some r) y.length c.len ⟨_, ⟨rfl, rfl⟩, (m.je St), rfl, rfl, hm⟩ dc dc dc (fun _ _ _ h => by obtain ⟨_, o, _⟩ := h; exact o) ?_ ?_)))))
 ·rintro I E W M ⟨g, ⟨n, q⟩, m, j, k, a⟩
  obtain ⟨J, a3, Q, N, T⟩ := jY M
  rw [Q] at a
  refine bg (Wh n (Wa (ln (jo ?_))))
  replace m := m.drew
  have d := m.has.je Sn
  refine ko d jP (X 0 rfl d (jl j) (X 1 rfl d (jl rfl) (XQ 2 rfl d (kC (enc := js) (i := (I : Int)) (x0 := J) aw aV rfl rfl c (ak _) N) (fun Y G => XH 3 rfl d (fun _ p => jf rfl (kG p G di aV)) (X 4 rfl d (jl k) (X 5 rfl d (jl rfl) (bS a fun B x a => XQ 6 rfl d (kC (enc := js) (i := (I : Int)) (x0 := B) aw aV rfl rfl z (kL x) (kq x)) (fun Z H => XH 7 rfl d (fun _ p => jf rfl (kG p H di aV)) (X 8 rfl d (B3 rfl rfl (lN eqGuardType140) (xZ (KD _ J B))) (kz kr (jj (CI a rfl (fun D a => ?_) (fun D a => ?_)))))))))))))
  ·refine sg (Wa (lt (kH (jE (kH (jE ?_))))))
   obtain rfl := sj a
   exact rP m
  exact jW (jV (jj ⟨n, _, ⟨rfl, q⟩, (m.je St), j, k, (by rw [T]; exact a)⟩))
 rintro E W ⟨g, ⟨n, q⟩, m, j, k, a⟩
 rw [ap] at a
 exact jj (sg (Wa (lt (rQ a m))))
theorem Em (i : jI) (D B : Value) (j : jI) (H G : Value) (r : Bool) (w : World) (x : Sl (Pl jc) 2 (hp w) D i.jM) (u : Sl (Pl js) 12 (hp w) B i.jO) (z : Sl (Pl jc) 2 (hp w) H j.jM) (y : Sl (Pl js) 12 (hp w) G j.jO) (hm : uZ i j = some r) :
  jJ true pg0 38 [(.agg #[(.int .i64 i.State), (.int .i64 i.lc), D, B]), (.agg #[(.int .i64 j.State), (.int .i64 j.lc), H, G])] w (.bool r) := by
 refine cG 31 func38 rfl (fun d => sg ?_)
 obtain ⟨Y, c2, rfl⟩ := x.form
 obtain ⟨Z, F, rfl⟩ := u.form
 let m := (C2 i.State i.lc Y i.jM.length c2 Z i.jO.length F)
 refine VE (jU d rfl (fun W6 h d => ?_))
 obtain ⟨A7, L, rfl⟩ := z.form
 obtain ⟨A9, K, rfl⟩ := y.form
 let a0 := (C2 j.State j.lc A7 j.jM.length L A9 j.jO.length K)
 refine VE (jU d rfl (fun d1 J d => Wa (lr (Wf vB (VB d (Mt Mh) rfl rfl bl (Wf vB (VB d Mh rfl rfl bl (Wi rfl (Wm (LJ hm (fun A E W => ∃ n, ST true jT w W (hp w) ((J, Ol a0 64) :: ((h, Ol m 64) :: n)) ∧ E 2 = (.pointer (some ⟨h, 0, none⟩)) ∧ E 3 = (.pointer (some ⟨J, 0, none⟩)) ∧ E 4 = (.bool false) ∧ E 16 = (.bool A)) 6 ?_ (fun A I Q => ?_)))))))))))
 ·rintro d7 E W ⟨n, d, T, U, p, c5⟩ O
  refine Wh c5 (LJ O (fun v E W => ∃ a9, ST true jT w W (hp w) ((J, Ol a0 64) :: ((h, Ol m 64) :: a9)) ∧ E 2 = (.pointer (some ⟨h, 0, none⟩)) ∧ E 3 = (.pointer (some ⟨J, 0, none⟩)) ∧ E 4 = (.bool false) ∧ E 23 = (.bool v)) 6 ?_ (fun v t N => ?_))
  ·rintro d8 E W ⟨a9, d, c6, c7, q, c9⟩ P
   refine Wh c9 (LJ P (fun s E W => ∃ o, ST true jT w W (hp w) o ∧ E 4 = (.bool false) ∧ E 30 = (.bool s)) 6 ?_ (fun s k M => ?_))
   ·rintro d9 E W ⟨o, d, d4, d0⟩ R
    exact Wg d0 (lt (rQ R d))
   refine bC k (fun g k => ?_) (fun g k => ?_)
   ·refine ug g (jh tu c6) (ug g (jf rfl (jq d.has (Mt Mh) rfl eB)) (ug g (jh tu c7) (ug g (jf rfl (jq d.has Mh rfl eB)) (bS k fun d5 c1 k => pV g (Eg d call97 (Jh (.slice Z i.jO.length F) i.jO (.slice A9 j.jO.length K) j.jO _ _ (u.mono (Pl.mono _) d.ju) (y.mono (Pl.mono _) d.ju) c1) (fun d2 d => V (jz (cB g) rfl) ?_))))))
    obtain rfl := sj k
    exact M _ _ ⟨_, (d.je (Db (Db St))), q, rfl⟩
   refine un g (un g (un g (un g (un g (V (jA (cB g) rfl) ?_)))))
   obtain rfl := sj k
   exact M _ _ ⟨_, (d.je (Db (Db St))), q, rfl⟩
  refine bC t (fun c t => ?_) (fun c t => ?_)
  ·refine ug c (jh pv T) (ug c (jf rfl (jq d.has (Mt Mh) rfl dn)) (ug c (jh pv U) (ug c (jf rfl (jq d.has Mh rfl dn)) (bS t fun d6 c3 t => pV c (Eg d call15 (Jk (.slice Y i.jM.length c2) i.jM (.slice A7 j.jM.length L) j.jM _ _ (x.mono (Pl.mono _) d.ju) (z.mono (Pl.mono _) d.ju) c3) (fun d3 d => V (jz (cB c) rfl) ?_))))))
   obtain rfl := sj t
   exact N _ _ ⟨_, (d.je St), T, U, p, rfl⟩
  refine un c (un c (un c (un c (un c (V (jA (cB c) rfl) ?_)))))
  obtain rfl := sj t
  exact N _ _ ⟨_, (d.je St), T, U, p, rfl⟩
 refine bC I (fun a I => ?_) (fun a I => ?_)
 ·refine ug a (jh wD rfl) (ug a (jf rfl (jq d.has (Mt Mh) rfl eL)) (ug a (jh wD rfl) (ug a (jf rfl (jq d.has Mh rfl eL)) (ug a (kv rfl rfl rfl) (V (jz (cB a) rfl) ?_)))))
  obtain rfl := sj I
  exact Q _ _ ⟨_, (d.je St), rfl, rfl, rfl, rfl⟩
 refine un a (un a (un a (un a (un a (V (jA (cB a) rfl) ?_)))))
 obtain rfl := sj I
 exact Q _ _ ⟨_, (d.je St), rfl, rfl, rfl, rfl⟩
theorem Bk (i : Nat) (H : jx) (j : Value) (k : Nat) (u : jI) (g a : Value) (s : (Int ⊕ (jx × jI))) (w : World) {T : jF} (W : na T ((i, Ob #[j, (.bool H.kQ)] 158) :: ((k, Ob #[(.int .i64 u.State), (.int .i64 u.lc), g, a] 64) :: [])) w) (B : Sl (Pl (jS .u8)) 1 T j H.b) (Y : Sl (Pl jc) 2 T g u.jM) (U : Sl (Pl js) 12 T a u.jO) (hm : tk H u = some s) :
  jQ true pg0 40 [(.pointer (some ⟨i, 0, none⟩)), (.pointer (some ⟨k, 0, none⟩))] w T ((i, Ob #[j, (.bool H.kQ)] 158) :: ((k, Ob #[(.int .i64 u.State), (.int .i64 u.lc), g, a] 64) :: [])) s (fun r v L1 Z => ∃ F L O, v = (.tuple #[]) ∧ L1 = ((i, Ob #[F, (.bool ((r.1).kQ))] 158) :: ((k, Ob #[(.int .i64 ((r.2).State)), (.int .i64 ((r.2).lc)), L, O] 64) :: [])) ∧ Sl (Pl (jS .u8)) 1 Z F ((r.1).b) ∧ Sl (Pl jc) 2 Z L ((r.2).jM) ∧ Sl (Pl js) 12 Z O ((r.2).jO)) (fun x c L1 Z => ∃ y z, c = [{ v := uJ 217 i x, recovered := false }] ∧ L1 = ((i, Ob #[y, z] 158) :: ((k, Ob #[(.int .i64 u.State), (.int .i64 u.lc), g, a] 64) :: []))) := by
 have d := ST.tG (dd := true) W
 refine oz (n := 5) func40 rfl rfl nb (jk (Wm (bS hm fun P A hm => ?_)))
 rcases P with b7 | t
 ·have p := d.size
  refine pR (.inl rfl) (ma (args := [(.pointer (some ⟨i, 0, none⟩))]) (caps := #[]) _ _ d (Cb Pz Cn) rfl call41 (by exact ny rfl) (fun hH hN o a7 => (jQ.l (wy i H j _ _ ⟨hH, hN, o⟩ (B.mono (Pl.mono _) (jC.refl _)) A))) (fun W3 b6 q L9 d D h m => ?_))
  obtain ⟨c2, c3, a3, rfl⟩ := m
  replace d := d.perm (Tb Tn)
  refine nc ?_
  obtain rfl := sj hm
  exact lg.li ⟨_, _, _, rfl, (d.kF (Kb (Kb Sn))), D, h, (ST.kf d (ly.mem (Kb (Kb Sn)))), ⟨_, _, a3, rfl⟩⟩
 have p := d.size
 refine VE (eD d (Cb Pz Cn) call41 (fun hh => (jQ.r (wy i H j _ _ hh (B.mono (Pl.mono _) (jC.refl _)) A))) ?_)
 rintro W3 v7 q L9 d D h ⟨b9, c1, R, G, rfl, N, Q, a4⟩
 obtain rfl := G.symm
 replace d := d.perm (Tb Tn)
 obtain ⟨I, K, rfl⟩ := N.form
 let a0 : Value := (.slice I ((t.1).jM).length K)
 obtain ⟨J, M, rfl⟩ := Q.form
 let a2 : Value := (.slice J ((t.1).jO).length M)
 replace d := d.perm (Nb (Pb Pz) Nz)
 refine VO (jD (.agg #[(.int .i64 ((t.1).State)), (.int .i64 ((t.1).lc)), a0, a2]) (#[(.int .i64 ((t.1).State)), (.int .i64 ((t.1).lc)), a0, a2]) d rfl rfl bz oc nb rfl (fun b5 d => jH (HX (tI ?_))))
 obtain rfl := sj hm
 exact sI rfl (lg.ri ⟨_, _, _, rfl, (d.kF (Sb (Pb Pz) (Kb Sn))), D, h, (ST.kf d (ly.mem (Sb (Pb Pz) (Kb Sn)))), R, a0, a2, rfl, rfl, a4, N, Q⟩)
theorem zb (H : Value) (M : List Int) (i : Nat) (t : jI) (g a : Value) (r : (Int × jI)) (w : World) {K : jF} (I : na K ((i, Ob #[(.int .i64 t.State), (.int .i64 t.lc), g, a] 64) :: []) w) (N : Sl (Pl (jS .u8)) 1 K H M) (k : Sl (Pl jc) 2 K g t.jM) (j : Sl (Pl js) 12 K a t.jO) (hm : mX M t = some r) :
  nr true pg0 39 [H, (.func (.func 40) #[] #[(.pointer (some ⟨i, 0, none⟩))])] w K ((i, Ob #[(.int .i64 t.State), (.int .i64 t.lc), g, a] 64) :: []) (fun v G D => ∃ u B, v = (.int .i64 (r.1)) ∧ G = ((i, Ob #[(.int .i64 ((r.2).State)), (.int .i64 ((r.2).lc)), u, B] 64) :: []) ∧ Sl (Pl jc) 2 D u ((r.2).jM) ∧ Sl (Pl js) 12 D B ((r.2).jO)) := by
 refine bS hm fun l h hm => bS hm fun s m hm => ?_
 obtain rfl := sj hm
 refine nr.mono (FI 40 #[(.pointer (some ⟨i, 0, none⟩))] H M l s (fun r => (r.1).b) w I N h (fun r G D => ∃ u B, G = ((i, Ob #[(.int .i64 ((r.2).State)), (.int .i64 ((r.2).lc)), u, B] 64) :: []) ∧ Sl (Pl jc) 2 D u ((r.2).jM) ∧ Sl (Pl js) 12 D B ((r.2).jO)) (fun x G D => G = ((i, Ob #[(.int .i64 t.State), (.int .i64 t.lc), g, a] 64) :: [])) call40 (fun L μ' F n J hle q => jQ.mono (Bk F (⟨l, false⟩ : jx) n i t g a s L J q (k.mono (Pl.mono _) hle) (j.mono (Pl.mono _) hle) m) ?_ ?_)) ?_
 ·rintro r v G D ⟨P, u, B, O, d, Q, I, J⟩; exact ⟨_, _, _, d, Q, u, B, rfl, I, J⟩
 ·rintro x c G D ⟨y, z, A, d⟩; exact ⟨y, z, _, A, d, rfl⟩
 rintro v G D p ⟨rfl, o⟩
 cases s with
 | inl x => exact ⟨g, a, rfl, o, (k.mono (Pl.mono _) p), (j.mono (Pl.mono _) p)⟩
 | inr r => obtain ⟨u, B, d, I, J⟩ := o; exact ⟨u, B, rfl, d, I, J⟩
theorem om (j : Nat) (N : jr) (U : Int) (r : (Int × jr)) (w : World) {μ0 : jF} (h0 : na μ0 ((j, Ol (jG N) 87) :: []) w) (hm : kd N U = some r) :
  ki true pg0 102 [(.pointer (some ⟨j, 0, none⟩)), (.int .i64 U)] w ((j, Ol (jG N) 87) :: []) (fun v L1 W' => v = (.int .i64 (r.1)) ∧ L1 = ((j, Ol (jG (r.2)) 87) :: [])) := by
 let h := ((j, Ol (jG N) 87) :: [])
 refine vg h0 69 func102 rfl (fun d => sg (Wa (lS (Wm (Wn (Wf oL (VB d Mh rfl rfl bl (Wi rfl (jH ?_)))))))))
 refine jj (CI hm rfl (fun b9 hm => ?_) (fun b9 hm => ?_))
 ·refine sg (Wa (lt (jE ?_)))
  obtain rfl := sj hm
  exact jR (v := (.int .i64 0)) rfl rfl ⟨_, _, rfl, (d.kF (Kb Sn)), rfl, rfl⟩
 refine kg (Wa (lr (Wa (lS ?_))))
 refine Wa (ln (kV (ns (fun m E W => ∃ G y H u Q, ST true (keys h) w W μ0 ((j, Ol (jG u) 87) :: Q) ∧ E 0 = (.pointer (some ⟨j, 0, none⟩)) ∧ E 1 = (.int .i64 U) ∧ E 5 = (.int .i64 G) ∧ E 6 = (.int .i64 y) ∧ E 7 = (.int .i64 H) ∧ mx U m G y H u = some r) jX ⟨0, 1, 0, N, _, (d.je St), rfl, rfl, rfl, rfl, rfl, hm⟩ ?_)))
 rintro m E W ⟨G, y, H, u, Q, d, x, Y, Z, a2, I, c⟩
 cases m with
 | zero => rw [mx] at c; cases c
 | succ b6 =>
  refine jo (kV (jo (sg (Wh I (Wi rfl (ln (CI c rfl (fun p c => ?_) (fun p c => ?_))))))))
  ·refine sg (Wh x (Wn (Wf oL (VO (jD (.int .i64 11) ((jG (⟨u.S, 11⟩ : jr)).toArray) d rfl rfl dg (wj _ 11) nb rfl (fun c1 d => lr (Wa (lt (jE (kH (jE (jE (kH (jE ?_))))))))))))))
   obtain rfl := sj c
   exact jR (v := (.int .i64 0)) rfl rfl ⟨_, _, rfl, (d.kF (Kb Sn)), rfl, rfl⟩
  refine kS (Wh x (Wn (Wf yn (VB d Mh rfl rfl aG (V (sQ rfl rfl rfl) (ln (CI c rfl (fun q c => ?_) (fun q c => ?_))))))))
  ·refine sg (Wh x (Wn (Wf oL (VO (jD (.int .i64 10) ((jG (⟨u.S, 10⟩ : jr)).toArray) d rfl rfl dg (wj _ 10) nb rfl (fun c2 d => lr (Wa (lt (jE (kH (jE (jE (kH (jE ?_))))))))))))))
   obtain rfl := sj c
   exact jR (v := (.int .i64 0)) rfl rfl ⟨_, _, rfl, (d.kF (Kb Sn)), rfl, rfl⟩
  refine kg (Wh x (Wn (Wf yn (VB d Mh rfl rfl aG (bS c fun D M c => V (yY (i := 0) aP rfl rfl (xp M) (Bg M)) (V (yd (k' := .u8) (a := (D.toNat : Int)) da et rfl) (Wa (ln (jo ?_)))))))))
  refine jk (Wh x (Wh x (Wn (Wf yn (VB d Mh rfl rfl aG (bS c fun z L c => V (Iq (s := u.S) (i := 1) aP rfl rfl L) (Wn (Wf yn (VO (jD (.string z) ((jG (⟨z, u.E⟩ : jr)).toArray) d rfl rfl cj (An z) nb rfl (fun c3 d => ln (jo (jo ?_)))))))))))))
  refine jk (Wm (Wi rfl (Wm (LJ c (fun n E W => ∃ T, ST true (keys h) w W μ0 ((j, Ol (jG (⟨z, u.E⟩ : jr)) 87) :: T) ∧ E 0 = (.pointer (some ⟨j, 0, none⟩)) ∧ E 1 = (.int .i64 U) ∧ E 5 = (.int .i64 G) ∧ E 6 = (.int .i64 y) ∧ E 7 = (.int .i64 H) ∧ E 8 = (.int .i64 (wi0 .i64 (D.toNat : Int))) ∧ E 48 = (.bool n)) 3 ?_ (fun n B J => ?_)))))
  ·let a0 := (wi0 .i64 (D.toNat : Int))
   let o := (wi0 .i64 (G + (wi0 .i64 ((Int.tmod a0 128) * y))))
   rintro c7 E W ⟨T, d, K, a3, O, a4, P, a5, R⟩ g
   refine ln (CI g R (fun a9 g => ?_) (fun a9 g => ?_))
   ·refine sg (Wh K (Wn (Wf oL (VO (jD (.int .i64 11) ((jG (⟨z, 11⟩ : jr)).toArray) d rfl rfl dg (wj _ 11) nb rfl (fun c4 d => lr (Wa (lt (jE (kH (jE (jE (kH (jE ?_))))))))))))))
    obtain rfl := sj g
    exact jR (v := (.int .i64 0)) rfl rfl ⟨_, _, rfl, (d.kF (Kb Sn)), rfl, rfl⟩
   refine kg (Wh O (Wh a5 (V (Dt (k := .i64) (a := a0) (b := 128) (v := (.int .i64 (Int.tmod a0 128))) rfl rfl dc rfl) (Wh a4 (Wi rfl (Wi rfl (Wa (ln (jo (jo ?_))))))))))
   refine jk (Wh a5 (Wi rfl (ln (CI g rfl (fun A g => ?_) (fun A g => ?_)))))
   ·refine mI (lZ (P6 (by simp) (lZ (lZ (sr (jj (jo (sg (Wm (Wh a3 (Wi rfl (ln (CI g rfl (fun F g => ?_) (fun F g => ?_))))))))))))))
    ·refine sg (Wh K (Wn (Wf oL (VO (jD (.int .i64 12) ((jG (⟨z, 12⟩ : jr)).toArray) d rfl rfl dg (wj _ 12) nb rfl (fun c5 d => lr (Wa (lt (jE ?_)))))))))
     obtain rfl := sj g
     exact jR (v := (.int .i64 0)) rfl rfl ⟨_, _, rfl, (d.kF (Kb Sn)), rfl, rfl⟩
    refine kg (Wm (Wa (lt ?_)))
    obtain rfl := sj g
    exact jR (v := (.int .i64 o)) rfl rfl ⟨_, _, rfl, (d.kF (Kb Sn)), rfl, rfl⟩
   refine kn (jk (Wh a4 (Wi rfl (Wa (jH (jV (jj (jk (Wh P (Wi rfl (Wa (ln ?_))))))))))))
   exact ⟨b6, aY _, o, (wi0 .i64 (y * 128)), (wi0 .i64 (H + 1)), (⟨z, u.E⟩ : jr), _, (d.je St), K, a3, rfl, rfl, rfl, g⟩
  refine bC B (fun t B => ?_) (fun t B => ?_)
  ·refine ug t (jl I) (ug t (kv rfl rfl rfl) (V (jz (cB t) rfl) ?_))
   obtain rfl := sj B
   exact J _ _ ⟨_, (d.je St), x, Y, Z, a2, I, rfl, rfl⟩
  refine un t (un t (V (jA (cB t) rfl) ?_))
  obtain rfl := sj B
  exact J _ _ ⟨_, (d.je St), x, Y, Z, a2, I, rfl, rfl⟩
end Go.Proofs.YtbnbdigcbldfhaaGreat
