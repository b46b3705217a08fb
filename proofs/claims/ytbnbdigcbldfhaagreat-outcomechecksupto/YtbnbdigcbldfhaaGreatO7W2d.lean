/- a part of a proof of OutcomeChecks -/
import Derived.Test.YtbnbdigcbldfhaaGreatO7W1d
set_option linter.all false
namespace Go.Proofs.YtbnbdigcbldfhaaGreat
open Go.IntKind renaming wrap → wi0
open Go.Proofs.Tryz renaming prog → pg0
open Go.RowKit
set_option maxRecDepth 10000
open Tryz
theorem H7 (f7 : Value) (a0 : List iS) (q : iV) (r : ((List jk) × Bool)) (w : World) (i1 : Sl (Pl iX) 9 (hp w) f7 a0) (hm : uP a0 q = some r) :
  jY false pg0 66 [f7, (.agg (je q).toArray)] w [] (fun v L1 W' => ∃ y1 S2, v = (.tuple #[y1, (.bool (r.2))]) ∧ L1 = (S2 ++ []) ∧ jl 140 ji 12 y1 r.1 S2) := by
 refine tS 60 func66 rfl (fun d => sg (VE (jF d rfl (fun W2 A d => Wa (Wa (lr (Wm (bS hm fun r3 o5 hm => VE (pT d call51 (Lz f7 a0 _ _ (i1.mono (Pl.mono _) d.jf) o5) (fun W5 v9 ao g0 d o1 af f2 => Wm (bS hm fun k5 o2 hm => ?_)))))))))))
 refine VE (pT d call132 (jZ.kw (H0 f7 a0 _ _ (i1.mono (Pl.mono _) (o1.trans d.jf)) o2)) (fun q3 e2 n9 g1 d p8 ad o0 => Wa (Wa (lr (VE (AL (P := pg0) (fun (x : iV) => (.agg (je x).toArray)) (fun (x : Bool) => (Value.bool x)) d (fun q4 q7 o3 d h9 => VE (jK d zeroValue191 (fun q5 t d => ?_)))))))))
 obtain ⟨D, rfl⟩ := h9.form
 refine VO (jy (.map (some D)) (#[(.map (some D))]) d rfl rfl sizeOf191 oc nb rfl (fun q6 d => lr (V (si (by exact nr rfl) rfl) (Wa (lr (Wa (ln (jm ?_))))))))
 refine sg (Wa (ln (lc (og (fun m E W => ∃ d3 B b2 f8 d1 b3 Y g9, js n9 Y ∧ ST false jD w W Y ((t, Ob #[(.map (some D))] 191) :: ((A, Ol (je q) 38) :: (b2 ++ (b3 ++ (g1 ++ (g0 ++ g9)))))) ∧ E 3 = (.pointer (some ⟨A, 0, none⟩)) ∧ E 6 = v9 ∧ E 7 = e2 ∧ E 8 = (.pointer (some ⟨t, 0, none⟩)) ∧ E 9 = (.func (.func 133) #[] #[(.pointer (some ⟨t, 0, none⟩))]) ∧ E 10 = d3 ∧ E 11 = (.int .i64 f8) ∧ jl 140 ji 12 d3 B b2 ∧ kl (fun (x : iV) => (.agg (je x).toArray)) (fun (x : Bool) => (Value.bool x)) (.map (some D)) d1 b3 ∧ pf k5 q r3 m B f8 d1 = some r) jM ⟨(.slice none 0 0), ([]), [], (-1), ([]), o3, n9, _, (js.refl _), (d.iU (Kb (Sb (Pr (Pr (Pr Pz))) St))), rfl, rfl, rfl, rfl, rfl, rfl, rfl, (jl.nil _ _ _), h9, hm⟩ ?_))))
 let g6 := (#[(.map (some D))] : Array Value)
 let g5 : Value := (.pointer (some ⟨A, 0, none⟩))
 let e1 := ((je q).toArray : Array Value)
 let a9 : Value := (.pointer (some ⟨t, 0, none⟩))
 let b8 : Value := (.func (.func 133) #[] #[a9])
 rintro m E W ⟨d3, B, b2, f8, d1, b3, Y, g9, h5, d, l0, h4, l1, l2, l3, e5, l4, d9, j7, y⟩
 cases m with
 | zero => rw [pf] at y; cases y
 | succ n7 =>
  refine jm (sg (Wh l4 (Wh e5 (V (lT au rfl d9) (Wi rfl (ln (CI y rfl (fun i2 y => ?_) (fun i2 y => ?_))))))))
  ·refine kn (bg (Wh e5 (V (lT au rfl d9) (Wa (lr (Wh h4 (V (lT aG rfl f2) (Wm ?_))))))))
   refine ln (yi (D0 y (fun a7 E W => ∃ d4 b4 b5 d6 h0, js Y d6 ∧ ST false jD w W d6 ((t, Obj.cells g6 191 (0, 0)) :: ((A, Obj.cells e1 38 (0, 0)) :: (b4 ++ (b5 ++ (g1 ++ (g0 ++ h0)))))) ∧ E 3 = g5 ∧ E 6 = v9 ∧ E 7 = e2 ∧ E 8 = a9 ∧ E 9 = b8 ∧ E 10 = d4 ∧ E 11 = (.int .i64 (B.length : Int)) ∧ jl 140 ji 12 d4 a7.1 b4 ∧ kl (fun (x : iV) => (.agg (je x).toArray)) (fun (x : Bool) => (Value.bool x)) (.map (some D)) a7.2 b5) (fun a7 i9 d7 => ?_) ?_))
   ·let g8 : Value := (.int .i64 (B.length : Int))
    refine jG (fun i E W => ∃ U a5 K H M a8 e3, (E 30 = .int .i64 (i : Nat) ∧ E 29 = .int .i64 (r3.length : Nat)) ∧ js Y a8 ∧ ST false jD w W a8 ((t, Obj.cells g6 191 (0, 0)) :: ((A, Obj.cells e1 38 (0, 0)) :: (K ++ (M ++ (g1 ++ (g0 ++ e3)))))) ∧ E 3 = g5 ∧ E 6 = v9 ∧ E 7 = e2 ∧ E 8 = a9 ∧ E 9 = b8 ∧ E 10 = U ∧ E 11 = g8 ∧ E 28 = v9 ∧ jl 140 ji 12 U a5 K ∧ kl (fun (x : iV) => (.agg (je x).toArray)) (fun (x : Bool) => (Value.bool x)) (.map (some D)) H M ∧ pe k5 q (r3.drop i) a5 H = some a7) r3.length f2.len ⟨d3, B, b2, d1, b3, Y, _, ⟨rfl, rfl⟩, (js.refl _), (d.iU St), l0, h4, l1, l2, l3, e5, rfl, rfl, d9, j7, i9⟩ dc dc dc (fun _ _ _ h => by obtain ⟨_, _, _, _, _, _, _, L, _⟩ := h; exact L) ?_ ?_
    ·rintro f3 E W i6 ⟨U, a5, K, H, M, a8, e3, ⟨s, eN⟩, b0, d, e6, e7, b9, e8, c0, e9, f0, f1, e0, a3, j⟩
     obtain ⟨g, o6, k2, g3, k3⟩ := jB i6
     rw [k2] at j
     refine bg (VQ (kY (i := (f3 : Int)) (x0 := g) aG ak f1 s f2 (ah _) g3) (fun p9 j4 => V (iW rfl (oy d.has (fun p n => (Mt (Mt (Ma (Ma (Ma (Ml n))))))) f2 kU j4 g3 aS ak)) (VE (jK d bw (fun o9 h3 d => VO (jy (.agg (iX g).toArray) ((iX g).toArray) d rfl rfl ak (mx g) nb rfl (fun p0 d => lr (VA d Mh (iX g) aS ak (Wh c0 (Wh b9 (bS j fun f5 j6 j => ?_)))))))))))
     refine VE (pT d call130 (HH g b8 (fun (x : (iR × ByteArray)) => sA x.1 x.2 H) e2 k5 _ _ ⟨133, #[], #[a9], rfl, call133, fun W x r hs hm => (Fh x.1 x.2 t (.map (some D)) H r W (a3.at (fun b o n => hs _ _ ((fun b o n => d.at_ (Mt (Mt (Mt (Ma (Ml n)))))) b o n))) (At.of (hs _ _ (d.at_ (Mt Mh))) _ rfl) hm).kw⟩ (o0.sl (fun _ => rfl) (fun b o n => d.at_ (Mt (Mt (Mt (Ma (Ma (Ml n)))))))) j6) (fun p1 n8 f9 k6 d h7 ab a2 => V (lT bj rfl a2) (Wm (ln (yi (D0 j (fun d2 E W => ∃ d5 b6 b7 h1, ST false jD w W f9 ((t, Obj.cells g6 191 (0, 0)) :: ((A, Obj.cells e1 38 (0, 0)) :: (b6 ++ (b7 ++ (g1 ++ (g0 ++ h1)))))) ∧ E 3 = g5 ∧ E 6 = v9 ∧ E 7 = e2 ∧ E 8 = a9 ∧ E 9 = b8 ∧ E 10 = d5 ∧ E 11 = g8 ∧ E 28 = v9 ∧ E 29 = (.int .i64 (r3.length : Int)) ∧ E 30 = (.int .i64 (f3 : Int)) ∧ jl 140 ji 12 d5 d2.1 b6 ∧ kl (fun (x : iV) => (.agg (je x).toArray)) (fun (x : Bool) => (Value.bool x)) (.map (some D)) d2.2 b7) (fun d2 j3 d8 => ?_) ?_))))))
     ·refine jG (fun i E W => ∃ I a6 G T N e4, (E 39 = .int .i64 (i : Nat) ∧ E 38 = .int .i64 (f5.length : Nat)) ∧ ST false jD w W f9 ((h3, Ol (iX g) 108) :: ((t, Obj.cells g6 191 (0, 0)) :: ((A, Obj.cells e1 38 (0, 0)) :: (G ++ (N ++ (k6 ++ (g1 ++ (g0 ++ e4)))))))) ∧ E 3 = g5 ∧ E 6 = v9 ∧ E 7 = e2 ∧ E 8 = a9 ∧ E 9 = b8 ∧ E 10 = I ∧ E 11 = g8 ∧ E 13 = (.pointer (some ⟨h3, 0, none⟩)) ∧ E 28 = v9 ∧ E 29 = (.int .i64 (r3.length : Int)) ∧ E 30 = (.int .i64 (f3 : Int)) ∧ E 37 = n8 ∧ jl 140 ji 12 I a6 G ∧ kl (fun (x : iV) => (.agg (je x).toArray)) (fun (x : Bool) => (Value.bool x)) (.map (some D)) T N ∧ nP g q (f5.drop i) a6 T = some d2) f5.length a2.len ⟨U, a5, K, H, M, _, ⟨rfl, rfl⟩, (d.iU (Sb (Pr Pz) (Sb (Pr Pz) (Sb (Pr Pz) (Sr (Qr Qz) (Sr (Qr Qz) St)))))), e6, e7, b9, e8, c0, e9, f0, rfl, f1, eN, s, rfl, e0, a3, j3⟩ dc dc dc (fun _ _ _ h => by obtain ⟨_, _, _, _, _, _, L, _⟩ := h; exact L) ?_ ?_
      ·rintro n2 E W i7 ⟨I, a6, G, T, N, e4, ⟨s, eN⟩, d, Z, c1, c2, Q, c3, c4, c5, c6, c7, c8, c9, d0, a4, J, a⟩
       obtain ⟨c, o7, k4, g4, g7⟩ := jB i7
       rw [k4] at a
       refine bg (VQ (kY (i := (n2 : Int)) (x0 := c) bj bf d0 s a2 (ah _) g4) (fun q0 j5 => V (iW rfl (oy d.has (fun p n => (Mt (Mt (Mt (Ma (Ma (Ml n))))))) a2 lJ j5 g4 cH bf)) (VE (jK d bW (fun p2 p7 d => VO (jy (.agg (je c).toArray) ((je c).toArray) d rfl rfl bf (uW c) nb rfl (fun p3 d => lS (V (iW Q (jg d.has (Mt (Mt Mh)) rfl isAgg191)) (VA d Mh (je c) cH bf (V (uu (k := c) (z := false) (vf := (fun (x : Bool) => (Value.bool x))) IU fV eV rfl rfl (J.at (fun b o n => d.has.2 b o (Mt (Mt (Mt (Mt (Ma (Ml n))))))))) ?_))))))))))
       refine ln (CI a rfl (fun i3 a => ?_) (fun i3 a => ?_))
       ·refine nt (mH (tK (jb ?_)))
        replace d := d.iU (Db St)
        exact ⟨s, I, a6, G, T, N, _, ⟨rfl, eN⟩, (d.iU St), Z, c1, c2, Q, c3, c4, c5, c6, c7, c8, c9, d0, a4, J, (by rw [g7]; exact a)⟩
       refine kg (V (iW Q (jg d.has (Mt (Mt Mh)) rfl isAgg191)) (VA d Mh (je c) cH bf ?_))
       replace d := d.perm (Nr (Qb (Qb (Qb (Qb (Qr Qz))))) Nz)
       refine VO (EI (k := c) (v := true) (vf := (fun (x : Bool) => (Value.bool x)))  IU fV d J rfl rfl rfl (fun p4 k7 d i0 => lr (Wh c4 (V (iW c6 (jc d.has (Ma (Mt Mh)) (iX g) rfl aS ak)) (VA d (Ma Mh) (je c) cH bf (V (kT (v := (.agg (ji (⟨g, c⟩ : jk)).toArray)) (nz rfl rfl) (ku cu cW (O1 _ cW) kr)) (VE (jS (cs := (ji (⟨g, c⟩ : jk)).toArray) d (ma rfl) (lV au aV cu) (fun p5 k9 d => ?_)))))))))
       replace d := d.perm (Nr (Qb (Qr (Qb (Qb (Qb (Qb Qz)))))) Nz)
       refine bS a fun f4 i4 a => VE (kX (enc := ji) (v := I) (vs := (.slice (some ⟨k9, 0, none⟩) 1 1)) (R := G) d mD dc qb au lY.1 lY.2.1 rfl lY.2.2.1 lY.2.2.2 rfl rfl a4 (Sl.lit (enc := ji) (l := [(⟨g, c⟩ : jk)]) mD rfl nb rfl (d.at_ (Ma Mh))) i4 (fun p6 f6 h2 d g2 => Wa (ln ?_)))
       replace d := d.iU (Kr (Db St))
       refine sg (VA d (Ma (Ma Mh)) (je c) cH bf (V (iW Z (jc d.has (Ma (Ma (Mt (Mt (Mt Mh))))) (je q) rfl cH bf)) (V (rn rfl rfl (kV eqGuardType38) (nE (Af _ c q))) (ln ?_))))
       replace d := d.iU (Kr (Kr (Db St)))
       refine CI a rfl (fun i5 a => ?_) (fun i5 a => ?_)
       ·refine sg (Wm (Wa (Wa (ln ?_))))
        replace d := d.iU (Kr (Dr (Db (Db (Db (Dr (Dr (Dr St))))))))
        refine jz (ko (jx (ko (jx (ko (jx (ko (jx (ko (jx (ko (jx ?_))))))))))))
        obtain rfl := sj a
        replace d8 : some (Sum.inl (f4, true)) = some a7 := d8
        obtain rfl := sj d8
        replace d7 : some (f4, true) = some r := d7
        obtain rfl := sj d7
        exact pq (v := f6) (u := (.bool true)) rfl rfl rfl ⟨_, _, rfl, (d.I4 (Kr Sn)), f6, h2, rfl, rfl, g2⟩
       exact jJ (jI (jb ⟨s, f6, f4, h2, (lZ lf T c true), k7, _, ⟨rfl, eN⟩, (d.iU (Sb (Pr (Pr Pz)) (Sb (Pr (Pr Pz)) (Sb (Pr (Pr Pz)) St)))), Z, c1, c2, Q, c3, rfl, c5, c6, c7, c8, c9, d0, g2, i0, (by rw [g7]; exact a)⟩))
      rintro E W ⟨I, a6, G, T, N, e4, ⟨s, eN⟩, d, Z, c1, c2, Q, c3, c4, c5, c6, c7, c8, c9, d0, a4, J, a⟩
      rw [ai] at a
      refine jb ?_
      obtain rfl := sj a
      exact ⟨_, rfl, I, G, N, _, (d.iU (Db (Kb (Kb (Kr (Kr (Dr St))))))), Z, c1, c2, Q, c3, c4, c5, c7, c8, c9, a4, J⟩
     rintro ⟨n5, n6⟩ E W ⟨d5, b6, b7, h1, d, m2, m3, m4, m5, m6, m7, m8, m9, n0, n1, k0, k1⟩ j0
     exact jI (jb ⟨n1, d5, n5, b6, n6, b7, f9, _, ⟨rfl, n0⟩, (b0.trans h7), (d.iU St), m2, m3, m4, m5, m6, m7, m8, m9, k0, k1, (by rw [k3]; exact j0)⟩)
    rintro E W ⟨U, a5, K, H, M, a8, e3, ⟨s, eN⟩, b0, d, e6, e7, b9, e8, c0, e9, f0, f1, e0, a3, j⟩
    rw [ai] at j
    refine jb ?_
    obtain rfl := sj j
    exact ⟨_, rfl, U, K, M, a8, _, b0, (d.iU St), e6, e7, b9, e8, c0, e9, f0, e0, a3⟩
   rintro ⟨n3, n4⟩ E W ⟨d4, b4, b5, d6, h0, h6, d, l5, l6, l7, l8, l9, m0, m1, j8, j9⟩ i8
   exact jI (jb ⟨n7, bk _, d4, n3, b4, (B.length : Int), n4, b5, d6, _, (h5.trans h6), (d.iU St), l5, l6, l7, l8, l9, m0, m1, j8, j9, i8⟩)
  refine nt (mH (mH (tK (jb ?_))))
  replace d := d.iU (Db (Db (Dr (Dr (Dr (Dr St))))))
  refine sg (Wa (Wa (lt ?_)))
  obtain rfl := sj y
  refine pq (v := (.slice none 0 0)) (u := (.bool false)) rfl rfl rfl ?_
  replace d := d.QV
  exact ⟨_, _, rfl, (d.I4 (Kr Sn)), (.slice none 0 0), [], rfl, rfl, (jl.nil _ _ _)⟩
theorem zb (z : Value) (D : List jk) (r : List iV) (w : World) (y : Sl (Pl ji) 12 (hp w) z D) (hm : te D = some r) :
  jZ true pg0 150 [z] w 38 je 3 r := by
 refine tS 19 func150 rfl (fun d => sg (Wa (lr (Wa (lS (Wm ?_))))))
 refine V (jO au rfl y) (Wm (ln (jG (fun i E W => ∃ j B g t, (E 8 = .int .i64 (i : Nat) ∧ E 7 = .int .i64 (D.length : Nat)) ∧ ST true jD w W (hp w) (g ++ t) ∧ E 3 = j ∧ E 6 = z ∧ jl 38 je 3 j B g ∧ qF (D.drop i) B = some r) D.length y.len ⟨(.slice none 0 0), ([]), [], _, ⟨rfl, rfl⟩, (d.iU St), rfl, rfl, (jl.nil _ _ _), hm⟩ dc dc dc (fun _ _ _ h => by obtain ⟨_, _, _, _, n, _⟩ := h; exact n) ?_ ?_)))
 ·rintro Z E W M ⟨j, B, g, t, ⟨m, o⟩, d, u, x, k, a⟩
  obtain ⟨c, L, Q, N, T⟩ := jB M
  rw [Q] at a
  refine bg (VQ (kk (enc := ji) (i := (Z : Int)) (x0 := c) au aV x m y (ah _) N) (fun A I => V (iW rfl (jX d.has I da aV)) (VE (jK d cu (fun s a5 d => VO (jy (.agg (ji c).toArray) ((ji c).toArray) d rfl rfl aV (qb c) nb rfl (fun a2 d => ln (jj (Wh u (Wf od (VA d Mh (je c.iV) cH bf (VE (jS (cs := (je c.iV).toArray) d (ma rfl) (lV bj bf bW) (fun a3 K d => ?_))))))))))))))
  replace d := d.perm (Nr (Qb (Qb Qz)) Nz)
  refine bS a fun U H a => VE (kX (enc := je) (v := j) (vs := (.slice (some ⟨K, 0, none⟩) 1 1)) (R := g) d lJ dc uW bj pt.1 pt.2.1 rfl pt.2.2.1 pt.2.2.2 rfl rfl k (Sl.lit (enc := je) (l := [c.iV]) lJ rfl nb rfl (d.at_ (Ma Mh))) H (fun a4 Y J d G => Wa (jC (jI (jb ?_)))))
  replace d := d.iU (Kr (Db (Db St)))
  exact ⟨m, Y, U, J, _, ⟨rfl, o⟩, (d.iU St), rfl, x, G, (by rw [T]; exact a)⟩
 rintro E W ⟨j, B, g, t, ⟨m, o⟩, d, u, x, k, a⟩
 rw [ai] at a
 refine jb (sg (Wh u (Wa (lt ?_))))
 obtain rfl := sj a
 exact jR (v := j) rfl rfl ⟨_, g, rfl, d.ly (fun p q => (Ml q)) k.nd, k⟩
theorem De (j : Value) (t : List iV) (c : iV) (r : Int) (w : World) (g : Sl (Pl je) 3 (hp w) j t) (hm : vg t c = some r) :
  jv true pg0 204 [j, (.agg (je c).toArray)] w (.int .i64 r) := by
 refine cG 19 func204 rfl (fun d => sg (VE (jF d rfl (fun Q J d => Wa (lS (Wm (V (jO bj rfl g) (Wm (ln ?_)))))))))
 refine jG (fun i E W => ∃ k, (E 8 = .int .i64 (i : Nat) ∧ E 7 = .int .i64 (t.length : Nat)) ∧ ST true jD w W (hp w) ((J, Ol (je c) 38) :: k) ∧ E 0 = j ∧ E 3 = (.pointer (some ⟨J, 0, none⟩)) ∧ oV c (t.drop i) i = some r) t.length g.len ⟨_, ⟨rfl, rfl⟩, (d.iU St), rfl, rfl, hm⟩ dc dc dc (fun _ _ _ h => by obtain ⟨_, o, _⟩ := h; exact o) ?_ ?_
 ·rintro K E W B ⟨k, ⟨n, q⟩, d, u, x, a⟩
  obtain ⟨y, M, H, G, I⟩ := jB B
  rw [H] at a
  refine bg (Wh n (Wa (ln (jm ?_))))
  replace d := d.drew
  have m := d.has.iU (Kb Sn)
  refine jV m jE (XH 0 rfl m (fun _ p => iW x (jc p Mh (je c) rfl cH bf)) (X 1 rfl m (jd u) (X 2 rfl m (jd rfl) (XQ 3 rfl m (kk (enc := je) (i := (K : Int)) (x0 := y) bj bf rfl rfl g (ah _) G) (fun N D => XH 4 rfl m (fun _ p => iW rfl (jX p D cH bf)) (X 5 rfl m (rn rfl rfl (kV eqGuardType38) (nE (Af _ c y))) (km kr (jb (CI a rfl (fun z a => ?_) (fun z a => ?_))))))))))
  ·refine sg (Wm (Wa (ln ?_)))
   replace d := d.iU (Db St)
   refine jz (ko (jx (ko (jx ?_))))
   obtain rfl := sj a
   exact rP d
  exact jJ (jI (jb ⟨n, _, ⟨rfl, q⟩, (d.iU St), u, x, (by rw [I]; exact a)⟩))
 rintro E W ⟨k, ⟨n, q⟩, d, u, x, a⟩
 rw [ai] at a
 refine jb ?_
 replace d := d.iU (Db St)
 exact sg (Wa (lt (rQ a d)))
theorem wN (a : Value) (g : List iV) (c : iV) (r : Bool) (w : World) (i : Sl (Pl je) 3 (hp w) a g) (hm : oJ g c = some r) :
  jv true pg0 153 [a, (.agg (je c).toArray)] w (.bool r) := by
 refine cG 9 func153 rfl (fun d => sg (VE (jF d rfl (fun k u d => Wa (lr (Wm (VA d Mh (je c) cH bf (bS hm fun x j hm => VE (Eg d call204 (De a g c _ _ (i.mono (Pl.mono _) d.jf) j) (fun t d => Wi rfl (Wa ?_)))))))))))
 refine ln ?_
 exact jz (rQ hm d)
theorem AA (j : Value) (t : List iV) (c : iV) (r : Int) (w : World) (g : Sl (Pl je) 3 (hp w) j t) (hm : sU t c = some r) :
  jv true pg0 287 [j, (.agg (je c).toArray)] w (.int .i64 r) := by
 refine cG 19 func287 rfl (fun d => sg (VE (jF d rfl (fun Q J d => Wa (lS (Wm (V (jO iq rfl g) (Wm (ln ?_)))))))))
 refine jG (fun i E W => ∃ k, (E 8 = .int .i64 (i : Nat) ∧ E 7 = .int .i64 (t.length : Nat)) ∧ ST true jD w W (hp w) ((J, Ol (je c) 38) :: k) ∧ E 0 = j ∧ E 3 = (.pointer (some ⟨J, 0, none⟩)) ∧ nk c (t.drop i) i = some r) t.length g.len ⟨_, ⟨rfl, rfl⟩, (d.iU St), rfl, rfl, hm⟩ dc dc dc (fun _ _ _ h => by obtain ⟨_, o, _⟩ := h; exact o) ?_ ?_
 ·rintro K E W B ⟨k, ⟨n, q⟩, d, u, x, a⟩
  obtain ⟨y, M, H, G, I⟩ := jB B
  rw [H] at a
  refine bg (Wh n (Wa (ln (jm ?_))))
  replace d := d.drew
  have m := d.has.iU (Kb Sn)
  refine jV m jE (XH 0 rfl m (fun _ p => iW x (jc p Mh (je c) rfl cH bf)) (X 1 rfl m (jd u) (X 2 rfl m (jd rfl) (XQ 3 rfl m (kk (enc := je) (i := (K : Int)) (x0 := y) iq bf rfl rfl g (ah _) G) (fun N D => XH 4 rfl m (fun _ p => iW rfl (jX p D cH bf)) (X 5 rfl m (rn rfl rfl (kV eqGuardType38) (nE (Af _ c y))) (km kr (jb (CI a rfl (fun z a => ?_) (fun z a => ?_))))))))))
  ·refine sg (Wm (Wa (ln ?_)))
   replace d := d.iU (Db St)
   refine jz (ko (jx (ko (jx ?_))))
   obtain rfl := sj a
   exact rP d
  exact jJ (jI (jb ⟨n, _, ⟨rfl, q⟩, (d.iU St), u, x, (by rw [I]; exact a)⟩))
 rintro E W ⟨k, ⟨n, q⟩, d, u, x, a⟩
 rw [ai] at a
 refine jb ?_
 replace d := d.iU (Db St)
 exact sg (Wa (lt (rQ a d)))
theorem yU (a : Value) (g : List iV) (c : iV) (r : Bool) (w : World) (i : Sl (Pl je) 3 (hp w) a g) (hm : oY g c = some r) :
  jv true pg0 249 [a, (.agg (je c).toArray)] w (.bool r) := by
 refine cG 9 func249 rfl (fun d => sg (VE (jF d rfl (fun k u d => Wa (lr (Wm (VA d Mh (je c) cH bf (bS hm fun x j hm => VE (Eg d call287 (AA a g c _ _ (i.mono (Pl.mono _) d.jf) j) (fun t d => Wi rfl (Wa ?_)))))))))))
 refine ln ?_
 exact jz (rQ hm d)
theorem vW (c : Value) (i : List iV) (a : iR) (g : ByteArray) (r : Bool) (w : World) (j : Sl (Pl je) 3 (hp w) c i) (hm : qy i a g = some r) :
  jv true pg0 202 [c, (.agg (iT a).toArray), (.string g)] w (.bool r) := by
 refine cG 12 func202 rfl (fun d => sg (VE (jF d rfl (fun t x d => Wa (lr (Wm (VA d Mh (iT a) an ag (Wm (V (kT (v := (.agg (je (⟨a, g⟩ : iV)).toArray)) (nz rfl rfl) (ku bW bl (Be _ bl) kr)) (bS hm fun y k hm => VE (Eg d call249 (yU c i (⟨a, g⟩ : iV) _ _ (j.mono (Pl.mono _) d.jf) k) (fun u d => ?_))))))))))))
 refine Wa (ln ?_)
 exact jz (rQ hm d)
theorem yJ (g : Value) (t : List iV) (j : Value) (B : iV → Option Bool) (r : Int) (w : World) (c : Sl (Pl je) 3 (hp w) g t) (D : qt pg0 j (hp w) (fun (x : iV) => [(.agg (je x).toArray)]) (fun (r : Bool) => (.bool r)) B) (hm : qX t B = some r) :
  jv false pg0 288 [g, j] w (.int .i64 r) := by
 refine cG 19 func288 rfl (fun d => sg (Wa (lS (Wm (V (jO iq rfl c) (Wm (ln (jG (fun i E W => ∃ k, (E 8 = .int .i64 (i : Nat) ∧ E 7 = .int .i64 (t.length : Nat)) ∧ ST false jD w W (hp w) k ∧ E 0 = g ∧ E 1 = j ∧ mj B (t.drop i) i = some r) t.length c.len ⟨_, ⟨rfl, rfl⟩, (d.iU St), rfl, rfl, hm⟩ dc dc dc (fun _ _ _ h => by obtain ⟨_, n, _⟩ := h; exact n) ?_ ?_))))))))
 ·rintro Q E W H ⟨k, ⟨m, o⟩, d, u, y, a⟩
  obtain ⟨z, T, M, K, N⟩ := jB H
  rw [M] at a
  refine bg (Wh m (Wa (lr (Wh y (Wh u (Wm (VQ (kk (enc := je) (i := (Q : Int)) (x0 := z) iq bf rfl rfl c (ah _) K) (fun Y I => V (iW rfl (jX d.has I cH bf)) (bS a fun Z J a => ?_)))))))))
  refine VE (xV z d D (js.refl _) rfl (nr rfl) J (fun U d => ln (CI a rfl (fun G a => ?_) (fun G a => ?_))))
  ·refine sg (Wm (Wa (lt (ko (jx (ko (jx ?_)))))))
   obtain rfl := sj a
   exact rP d
  exact jJ (jI (jb ⟨m, _, ⟨rfl, o⟩, (d.iU St), u, y, (by rw [N]; exact a)⟩))
 rintro E W ⟨k, ⟨m, o⟩, d, u, y, a⟩
 rw [ai] at a
 exact jb (sg (Wa (lt (rQ a d))))
theorem xE (a : Value) (g : List iV) (c : Value) (i : iV → Option Bool) (r : Bool) (w : World) (j : Sl (Pl je) 3 (hp w) a g) (k : qt pg0 c (hp w) (fun (x : iV) => [(.agg (je x).toArray)]) (fun (r : Bool) => (.bool r)) i) (hm : nv g i = some r) :
  jv false pg0 250 [a, c] w (.bool r) := by
 refine cG 9 func250 rfl (fun d => sg (Wa (lr (Wm (Wm (bS hm fun y t hm => VE (Eg d call288 (yJ a g c i _ _ (j.mono (Pl.mono _) d.jf) (k.mono d.jf) t) (fun u d => Wi rfl (Wa (jC ?_))))))))))
 exact jb (jz (rQ hm d))
theorem BD (i : iV) (t : Nat) (K : iR) (u : Nat) (g : Value) (M : List iV) (x : Nat) (k : ByteArray) (z : Nat) (B : ByteArray) (r : Bool) (w : World) (D : At (hp w) (.pointer (some ⟨t, 0, none⟩)) (iT K)) (N : Sl (Pl je) 3 (hp w) g M) (G : At (hp w) (.pointer (some ⟨u, 0, none⟩)) [g]) (H : At (hp w) (.pointer (some ⟨x, 0, none⟩)) [(.string k)]) (I : At (hp w) (.pointer (some ⟨z, 0, none⟩)) [(.string B)]) (hm : rB i K M k B = some r) :
  jv true pg0 251 [(.agg (je i).toArray), (.pointer (some ⟨t, 0, none⟩)), (.pointer (some ⟨u, 0, none⟩)), (.pointer (some ⟨x, 0, none⟩)), (.pointer (some ⟨z, 0, none⟩))] w (.bool r) := by
 refine cG 20 func251 rfl (fun d => sg (VE (jF d rfl (fun W2 m d => Wa (lr (Wf vB (VA d Mh (iT i.iR) an ag (V (iW rfl (jX d.has D an ag)) (V (rn rfl rfl (kV bT) (nE (me _ i.iR K))) (Wm (LJ hm (fun J E W => ∃ T, ST true jD w W (hp w) T ∧ E 6 = (.bool false) ∧ E 19 = (.bool J)) 8 ?_ (fun J c j => ?_))))))))))))
 ·rintro n E W ⟨T, d, h, U⟩ Y
  exact Wg U (lt (rQ Y d))
 refine bC c (fun a c => ?_) (fun a c => ?_)
 ·refine ug a (iW rfl (lC d.has (y := g) G isAgg250)) (ug a (iY pU rfl) (ug a (iW rfl (jg d.has Mh rfl aH)) (ug a (iW rfl (lC d.has (y := (.string k)) H aH)) (ug a (kT (v := (.agg (iT (⟨i.jA, k⟩ : iR)).toArray)) (nz rfl rfl) (ku bo bB (DE _ bB) kr)) (ug a (iW rfl (lC d.has (y := (.string B)) I aH)) (bS c fun a2 Q c => oH a (Eg d call202 (vW g M (⟨i.jA, k⟩ : iR) B _ _ (N.mono (Pl.mono _) d.jf) Q) (fun Z d => V (jq (cB a) rfl) ?_))))))))
  obtain rfl := sj c
  exact j _ _ ⟨_, (d.iU (Db St)), rfl, rfl⟩
 refine un a (un a (un a (un a (un a (un a (un a (V (jn (cB a) rfl) ?_)))))))
 obtain rfl := sj c
 exact j _ _ ⟨_, (d.iU (Db St)), rfl, rfl⟩
theorem Ds (k : Value) (a : List iV) (g : iR) (i j : ByteArray) (r : Bool) (w : World) (c : Sl (Pl je) 3 (hp w) k a) (hm : vG a g i j = some r) :
  jv false pg0 203 [k, (.agg (iT g).toArray), (.string i), (.string j)] w (.bool r) := by
 refine cG 12 func203 rfl (fun d => sg ?_)
 obtain ⟨t, D, rfl⟩ := c.form
 refine VE (jF d rfl (fun K u d => VE (jF d rfl (fun M y d => VE (jF d rfl (fun N z d => VE (jF d rfl (fun H B d => Wa (lr (VB d (Mt (Mt (Mt Mh))) rfl rfl isAgg250 (V (si (by exact Sj rfl rfl rfl rfl) rfl) (bS hm fun J G hm => VE (Eg d call250 (xE (.slice t a.length D) a (.func (.func 251) #[] #[(.pointer (some ⟨y, 0, none⟩)), (.pointer (some ⟨u, 0, none⟩)), (.pointer (some ⟨z, 0, none⟩)), (.pointer (some ⟨B, 0, none⟩))]) (fun (x : iV) => rB x g a i j) _ _ (c.mono (Pl.mono _) d.jf) ⟨251, #[], #[(.pointer (some ⟨y, 0, none⟩)), (.pointer (some ⟨u, 0, none⟩)), (.pointer (some ⟨z, 0, none⟩)), (.pointer (some ⟨B, 0, none⟩))], rfl, call251, fun W x r h hm => (BD x y g u (.slice t a.length D) a z i B j r W (At.of (h _ _ (d.at_ (Mt (Mt Mh)))) _ rfl) (c.mono (Pl.mono _) (d.jf.trans h)) (At.of (h _ _ (d.at_ (Mt (Mt (Mt Mh))))) _ rfl) (At.of (h _ _ (d.at_ (Mt Mh))) _ rfl) (At.of (h _ _ (d.at_ Mh)) _ rfl) hm).kw⟩ G) (fun I d => Wa (jC ?_)))))))))))))))
 refine jb ?_
 exact jz (rQ hm d)
theorem xY (i : jk) (k : Value) (G : List iV) (r : Bool) (w : World) (x : Sl (Pl je) 3 (hp w) k G) (hm : rC i G = some r) :
  jv false pg0 152 [(.agg (ji i).toArray), k] w (.bool r) := by
 refine cG 67 func152 rfl (fun d => sg (VE (jF d rfl (fun W2 m d => Wa (ln (jm ?_))))))
 replace d := d.drew
 have h := d.has.iU (Kb Sn)
 refine jV h jE (X 0 rfl h (jd rfl) (X 1 rfl h (iY uX rfl) (XH 2 rfl h (fun _ q => iW rfl (jc q Mh (iX i.iS) rfl aS ak)) (XE 3 rfl (jK d bw (fun a9 n d => ?_))))))
 have h := d.has.iU (Db (Kb Sn))
 refine ⟨h, (X 4 rfl h (mw rfl) (XO 5 rfl (jy (.agg (iX i.iS).toArray) ((iX i.iS).toArray) d rfl rfl ak (mx i.iS) nb rfl (fun s d => ?_))))⟩
 have h := d.has.iU (Db (Kb Sn))
 refine ⟨h, (km kr (jb (jm (sg (VA d Mh (iX i.iS) aS ak (bS hm fun b7 Y hm => VE (Eg d iD (jv.kw (rf i.iS _ _  Y)) (fun v d => V (lj rfl) (Wm (LJ hm (fun K E W => ∃ H, ST false jD w W (hp w) ((n, Ol (iX i.iS) 108) :: ((m, Ol (ji i) 140) :: H)) ∧ E 2 = (.pointer (some ⟨m, 0, none⟩)) ∧ E 5 = k ∧ E 6 = (.pointer (some ⟨n, 0, none⟩)) ∧ E 20 = (.bool K)) 7 ?_ (fun K u D => ?_)))))))))))⟩
 ·rintro c4 E W ⟨H, d, y, z, t, o⟩ a
  refine ln (CI a o (fun M a => ?_) (fun M a => ?_))
  ·refine sg (Wa (ln ?_))
   replace d := d.iU (Db (Db St))
   refine jz (jx ?_)
   obtain rfl := sj a
   exact rP d
  refine kS (V (iY mT t) (VB d Mh rfl rfl bF (ln (bg (Wi rfl (Wa (jC ?_)))))))
  refine jb (CI a rfl (fun N a => ?_) (fun N a => ?_))
  ·refine sg (V (iY rz t) (VB d Mh rfl rfl aH (V (iY od y) (Wf pU (VB d (Mt Mh) rfl rfl aH (V (tZ rfl rfl rfl) (Wa (ln ?_))))))))
   replace d := d.iU (Db (Db St))
   refine jz (ko (jx ?_))
   obtain rfl := sj a
   exact rP d
  refine sg (Wi rfl (Wa (ln (CI a rfl (fun Q a => ?_) (fun Q a => ?_)))))
  ·refine sg (Wh z (V (iY kK t) (VA d Mh (iT i.iS.B) an ag (V (iY od y) (Wf pU (VB d (Mt Mh) rfl rfl aH (bS a fun c0 Z a => VE (Eg d call202 (jv.kw (vW k G i.iS.B i.iV.jA _ _ (x.mono (Pl.mono _) d.jf) Z)) (fun A d => Wa (ln ?_))))))))))
   replace d := d.iU (Db (Db St))
   refine jz (ko (jx ?_))
   obtain rfl := sj a
   exact rP d
  refine sg (Wi rfl (Wa (ln (CI a rfl (fun T a => ?_) (fun T a => ?_)))))
  ·refine sg (Wh z (V (iY kK t) (VA d Mh (iT i.iS.B) an ag (V (iY pZ t) (VB d Mh rfl rfl aH (V (iY od y) (Wf pU (VB d (Mt Mh) rfl rfl aH (bS a fun c1 a2 a => VE (Eg d call203 (Ds k G i.iS.B i.iS.jU i.iV.jA _ _ (x.mono (Pl.mono _) d.jf) a2) (fun L d => Wa (ln ?_))))))))))))
   replace d := d.iU (Db (Db St))
   refine jz (ko (jx ?_))
   obtain rfl := sj a
   exact rP d
  refine jJ (jI (jb (sg (Wh z (V (iY kK t) (VA d Mh (iT i.iS.B) an ag (V (iY od y) (Wf pU (VB d (Mt Mh) rfl rfl aH (bS a fun c2 a3 a => VE (Eg d call202 (jv.kw (vW k G i.iS.B i.iV.jA _ _ (x.mono (Pl.mono _) d.jf) a3)) (fun P d => Wm (LJ a (fun J E W => ∃ I, ST false jD w W (hp w) I ∧ E 66 = (.bool J)) 8 ?_ (fun J j B => ?_))))))))))))))
  ·rintro c5 E W ⟨I, d, p⟩ U
   exact Wg p (lt (rQ U d))
  refine bC j (fun c j => ?_) (fun c j => ?_)
  ·refine ug c (jd z) (ug c (iY oh t) (ug c (iW rfl (jc d.has Mh (iT i.iS.C) rfl an ag)) (ug c (iY od y) (ug c (iY pU rfl) (ug c (iW rfl (jg d.has (Mt Mh) rfl aH)) (bS j fun c3 a4 j => oH c (Eg d call202 (jv.kw (vW k G i.iS.C i.iV.jA _ _ (x.mono (Pl.mono _) d.jf) a4)) (fun R d => V (jq (cB c) rfl) ?_))))))))
   obtain rfl := sj j
   exact B _ _ ⟨_, (d.iU (Db (Db St))), rfl⟩
  refine un c (un c (un c (un c (un c (un c (un c (V (jn (cB c) rfl) ?_)))))))
  obtain rfl := sj j
  exact B _ _ ⟨_, (d.iU (Db (Db St))), rfl⟩
 refine bC u (fun g u => ?_) (fun g u => ?_)
 ·refine un g (un g (un g (un g (un g (un g (V (jq (cB g) rfl) ?_))))))
  obtain rfl := sj u
  exact D _ _ ⟨_, (d.iU St), rfl, rfl, rfl, rfl⟩
 refine ug g (iY od rfl) (ug g (iY vB rfl) (ug g (iW rfl (jc d.has (Mt Mh) (iT i.iV.iR) rfl an ag)) (ug g (iY mY rfl) (ug g (iW rfl (jc d.has Mh (iT i.iS.Head) rfl an ag)) (ug g (Eu rfl rfl (kV bT) (zQ (me _ i.iV.iR i.iS.Head))) (V (jn (cB g) rfl) ?_))))))
 obtain rfl := sj u
 exact D _ _ ⟨_, (d.iU St), rfl, rfl, rfl, rfl⟩
theorem BP (j : Value) (y : List jk) (r : Bool) (w : World) (g : Sl (Pl ji) 12 (hp w) j y) (hm : uj y = some r) :
  jv false pg0 191 [j] w (.bool r) := by
 refine cG 22 func191 rfl (fun d => sg (Wa (lr (Wm (bS hm fun Y U hm => VE (pT d call150 (jZ.kw (zb j y _ _ (g.mono (Pl.mono _) d.jf) U)) (fun W3 P q R8 d N A T => Wa (ln (jm ?_)))))))))
 refine sg (Wm (V (jO au rfl g) (Wm (ln (jG (fun i E W => ∃ k, (E 10 = .int .i64 (i : Nat) ∧ E 9 = .int .i64 (y.length : Nat)) ∧ ST false jD w W q (R8 ++ k) ∧ E 3 = P ∧ E 8 = j ∧ qc Y (y.drop i) i = some r) y.length g.len ⟨_, ⟨rfl, rfl⟩, (d.iU St), rfl, rfl, hm⟩ dc dc dc (fun _ _ _ h => by obtain ⟨_, p, _⟩ := h; exact p) ?_ ?_)))))
 ·rintro z E W D ⟨k, ⟨n, s⟩, d, t, u, a⟩
  obtain ⟨c, Z, K, J, M⟩ := jB D
  rw [K] at a
  refine bg (Wh n (VQ (kk (enc := ji) (i := (z : Int)) (x0 := c) au aV u n (g.mono (Pl.mono _) N) (ah _) J) (fun R G => V (iW rfl (jX d.has G da aV)) (VE (jK d cu (fun a2 a5 d => Wa (VO (jy (.agg (ji c).toArray) ((ji c).toArray) d rfl rfl aV (qb c) nb rfl (fun a3 d => ln (jm ?_))))))))))
  replace d := d.drew
  have m := d.has.iU (Kb Sn)
  refine jV m jE (XH 0 rfl m (fun _ v => iW rfl (jc v Mh (ji c) rfl da aV)) (X 1 rfl m (jd t) (X 2 rfl m (jd rfl) (bS a fun _ x a => XQ 3 rfl m (se (i := (z : Int)) bj bf rfl rfl T lJ (pc x) (oZ x)) (fun Q I => bS a fun a7 H a => XE 4 rfl (Eg d call152 (xY c Q (Y.take (Int.toNat (z : Int))) _ _ (I.sl lJ (fun b o L => d.at_ (Mt (Ml L)))) H) (fun a4 d => ?_)))))))
  have m := d.has.iU (Kb Sn)
  refine ⟨m, (X 5 rfl m (lj rfl) (km kr (jb ?_)))⟩
  replace d := d.iU (Db St)
  refine CI a rfl (fun B a => ?_) (fun B a => ?_)
  ·refine sg (Wa (ln ?_))
   replace d := d.iU (Dr St)
   refine jz (ko (jx (ko (jx ?_))))
   obtain rfl := sj a
   exact rP d
  exact jJ (jI (jb ⟨n, _, ⟨rfl, s⟩, (d.iU St), t, u, (by rw [M]; exact a)⟩))
 rintro E W ⟨k, ⟨n, s⟩, d, t, u, a⟩
 rw [ai] at a
 refine jb ?_
 replace d := d.iU (Dr St)
 exact sg (Wa (lt (rQ a d)))
theorem yc (g : Value) (i r : List jk) (w : World) (a : Sl (Pl ji) 12 (hp w) g i) (hm : oE i = some r) :
  jZ true pg0 136 [g] w 140 ji 12 r := by
 unfold oE at hm
 refine tS 8 func136 rfl (fun d => sg (Wa (lS (Wm ?_))))
 obtain ⟨y, B, rfl⟩ := a.form
 refine V (AK au rfl rfl) (ln ?_)
 rcases y with _ | z
 ·have u := a.isNil
  replace hm : some [] = some r := by rw [u] at hm; simpa [kR, maxLen] using hm
  refine vN (rfl) (sg (Wa (lt (jx ?_))))
  obtain rfl := sj hm
  exact jR (v := (.slice none 0 0)) rfl rfl ⟨_, [], rfl, d.ly (fun p h => by cases h) (by simp), jl.nil _ _ _⟩
 ·refine nW (rfl) (kg (VE (jS (cs := #[]) d uo (B9 [] au aV cu dc rfl (by simp) rfl rfl) (fun G k d => Wm (bS hm fun H t hm => VE (kX (enc := ji) (v := (.slice (some ⟨k, 0, none⟩) 0 0)) (vs := (.slice (some z) i.length B)) (R := [(k, Ob #[] 140)]) d mD dc qb au lY.1 lY.2.1 rfl lY.2.2.1 lY.2.2.2 rfl rfl (jl.lit (l := []) (enc := ji) rfl dc rfl rfl) (a.mono (Pl.mono _) d.jf) t (fun D x j d c => Wa (lt ?_))))))))
  obtain rfl := sj hm
  exact jR (v := x) rfl rfl ⟨_, j, rfl, d.ly (fun p h => (Ml h)) c.nd, c⟩
theorem xr (t : Value) (B : List jk) (k : LO) (D G : Int) (r : List jk) (w : World) {μ0 : jw} (o : nR μ0 (k ++ []) w) (c : jl 140 ji 12 t B k) (hm : pE B D G = some r) :
  jY true pg0 135 [t, (.int .i64 D), (.int .i64 G)] w (k ++ []) (fun v L1 W' => ∃ n Y, v = n ∧ L1 = (Y ++ []) ∧ jl 140 ji 12 n r Y) := by
 refine wJ o 33 func135 rfl (fun h => sg (Wa (lr (Wm (Wm (Wm (Wm (V (lT au rfl c) (bS hm fun _ y hm => VQ (NS (a := D) (b := G) (m := (B.length : Int)) au aV c rfl rfl rfl rfl (wC y).1 (wC y).2.1 (wC y).2.2.1 (wC y).2.2.2) (fun v1 s => ?_))))))))))
 refine lS (Wm (Wm (Wi rfl (ln (CI hm rfl (fun Z hm => ?_) (fun Z hm => ?_))))))
 ·refine sg (Wm (Wa (lt (jx ?_))))
  obtain rfl := sj hm
  exact jR (v := t) rfl rfl ⟨_, _, rfl, (h.kC (Kr Sn)), t, k, rfl, rfl, c⟩
 refine kg (Wm (V (lT au rfl c) (Wa (ln (jm ?_)))))
 replace h := h.drew
 have d := h.has.iU Sn
 refine jV d jE (X 0 rfl d (jd rfl) (X 1 rfl d (jd rfl) (bS hm fun _ I hm => XQ 2 rfl d (se (i := D) au aV rfl rfl c mD (pc I) (oZ I)) (fun E N => X 3 rfl d (jd rfl) (X 4 rfl d (jd rfl) (bS hm fun _ J hm => XQ 5 rfl d (qN (i := G) au aV rfl rfl c (pc J) (oZ J)) (fun L Q => bS hm fun A H hm => XE 6 rfl (I2 (i := (Int.toNat D)) (j := (Int.toNat G))  h c N mD dc qb au lY.1 lY.2.2.1 (wC H).1 (wC H).2 Q rfl rfl (fun q K p h u x => ?_)))))))))
 have d := h.has.iU Sn
 refine ⟨d, (X 7 rfl d (mw rfl) (km kr (jb (sg (Wm (Wm (V (lT au rfl x) (Wm (bS hm fun _ g hm => VQ (M9 (a := ((B.take (Int.toNat D) ++ B.drop (Int.toNat G)).length : Int)) (b := (B.length : Int)) au aV dc u x rfl rfl rfl (wC g).1 (wC g).2.1 (wC g).2.2.1 (wC g).2.2.2) (fun P T => VO (vc (z := (⟨K6, K7⟩ : jk))  h u mD qb au cu T rfl rfl (fun a9 U h M => ln ?_))))))))))))⟩
 refine sg (Wm (Wa (lt ?_)))
 obtain rfl := sj hm
 exact jR (v := K) rfl rfl ⟨_, _, rfl, (h.kC (Kr Sn)), K, U, rfl, rfl, (jl.NV dc mD u x M (by have := wC g; rw [tb _ _ _ (by omega)]; omega))⟩
theorem HX (g : Value) (y : List jk) (r : Bool) (w : World) (z : Sl (Pl ji) 12 (hp w) g y) (hm : wS y = some r) :
  jv false pg0 134 [g] w (.bool r) := by
 refine cG 40 func134 rfl (fun d => sg (Wa (lr (Wm (bS hm fun v d8 hm => VE (pT d call150 (jZ.kw (zb g y _ _ (z.mono (Pl.mono _) d.jf) d8)) (fun W3 v7 q R8 d a5 a8 H => Wa (ln (jm ?_)))))))))
 refine sg (Wm (V (lT bj rfl H) (Wm (ln (jG (fun i E W => ∃ I, (E 11 = .int .i64 (i : Nat) ∧ E 10 = .int .i64 (v.length : Nat)) ∧ ST false jD w W q (R8 ++ I) ∧ E 0 = g ∧ E 3 = v7 ∧ E 9 = v7 ∧ qI v y (v.drop i) i = some r) v.length H.len ⟨_, ⟨rfl, rfl⟩, (d.iU St), rfl, rfl, rfl, hm⟩ dc dc dc (fun _ _ _ h => by obtain ⟨_, L, _⟩ := h; exact L) ?_ ?_)))))
 ·rintro N E W b4 ⟨I, ⟨A, eN⟩, d, u, J, K, a⟩
  obtain ⟨j, e0, c5, U, c6⟩ := jB b4
  rw [c5] at a
  refine bg (Wh A (VQ (kY (i := (N : Int)) (x0 := j) bj bf K A H (ah _) U) (fun f2 b7 => V (iW rfl (oy d.has (fun p s => (Ml s)) H lJ b7 U cH bf)) (VE (jK d bW (fun e4 f1 d => Wa (VO (jy (.agg (je j).toArray) ((je j).toArray) d rfl rfl bf (uW j) nb rfl (fun e5 d => ln (jm ?_))))))))))
  replace d := d.drew
  have n := d.has.iU (Kb Sn)
  refine jV n jE (X 0 rfl n (jd J) (X 1 rfl n (jd rfl) (bS a fun _ T a => XQ 2 rfl n (se (i := (N : Int)) bj bf rfl rfl H lJ (pc T) (oZ T)) (fun d3 c4 => XH 3 rfl n (fun _ hS => iW rfl (jc hS Mh (je j) rfl cH bf)) (bS a fun f3 b9 a => XE 4 rfl (Eg d call153 (jv.kw (wN d3 (v.take (Int.toNat (N : Int))) j _ _ (c4.sl lJ (fun b o s => d.at_ (Mt (Ml s)))) b9)) (fun e6 d => ?_)))))))
  have n := d.has.iU (Kb Sn)
  refine ⟨n, (km kr (jb ?_))⟩
  replace d := d.iU (Db St)
  refine CI a rfl (fun b0 a => ?_) (fun b0 a => ?_)
  ·refine sg (Wa (ln ?_))
   replace d := d.iU (Dr St)
   refine jz (ko (jx (ko (jx ?_))))
   obtain rfl := sj a
   exact rP d
  exact jJ (jI (jb ⟨A, _, ⟨rfl, eN⟩, (d.iU St), u, J, K, (by rw [c6]; exact a)⟩))
 rintro E W ⟨I, ⟨A, eN⟩, d, u, J, K, a⟩
 rw [ai] at a
 refine jb ?_
 replace d := d.iU (Dr St)
 refine jm (sg (Wh u (bS a fun f4 c0 a => VE (Eg d call191 (BP g y _ _ (z.mono (Pl.mono _) (a5.trans d.jf)) c0) (fun e7 d => V (lj rfl) (ln (CI a rfl (fun b1 a => ?_) (fun b1 a => ?_))))))))
 ·refine sg (Wa (lt (jx ?_)))
  obtain rfl := sj a
  exact rP d
 refine kS (Wh u (V (jO au rfl z) (Wi rfl (V (JD (k := .i64) rfl rfl) (Wm (ln (D0 a (fun a7 E W => ∃ Q Y, js q Q ∧ ST false jD w W Q Y) (fun a7 b6 B => ?_) ?_)))))))
 ·refine lc (og (fun m E W => ∃ t G Z, js q G ∧ ST false jD w W G Z ∧ E 0 = g ∧ E 28 = (.int .i64 (if 0 > (wi0 .i64 ((y.length : Int) - 1)) then 0 else (wi0 .i64 ((y.length : Int) - 1)))) ∧ E 29 = (.int .i64 t) ∧ qD y m t = some a7) jM ⟨0, q, _, (js.refl _), (d.iU St), u, rfl, rfl, b6⟩ ?_)
  rintro m E W ⟨t, G, Z, x, d, a1, a2, M, c⟩
  cases m with
  | zero => rw [qD] at c; cases c
  | succ d0 =>
   refine sg (V (kd M a2 rfl) (ln (jm (CI c rfl (fun b2 c => ?_) (fun b2 c => ?_)))))
   ·refine kn (jm (bg (Wh M (Wa (lr (Wh a1 (bS c fun d1 c1 c => VE (pT d call136 (jZ.kw (yc g y _ _ (z.mono (Pl.mono _) ((a5.trans x).trans d.jf)) c1)) (fun e8 d4 f7 c9 d a3 P a9 => ?_)))))))))
    refine Wm (Wm (Wi rfl (bS c fun d2 c2 c => ?_)))
    refine VE (eM d (Cr Qz Cn) call135 (fun hh _ => jY.kw (xr d4 d1 c9 t (wi0 .i64 (t + 1)) _ _ hh a9 c2)) ?_)
    rintro _ f6 d6 e1 d a4 R a6 ⟨d5, e3, D, rfl, c7⟩
    obtain rfl := D.symm
    replace d := d.perm (Tr Tn)
    refine bS c fun f5 c3 c => VE (Eg d call191 (BP d5 d2 _ _ (c7.sl mD (fun b o s => d.at_ (Ml s))) c3) (fun f0 d => ln ?_))
    replace d := d.iU (Dr St)
    refine CI c rfl (fun b3 c => ?_) (fun b3 c => ?_)
    ·refine sg (Wa (lt (ko (jx (jx (ko (jx ?_)))))))
     obtain rfl := sj c
     replace B : some false = some r := B
     obtain rfl := sj B
     exact rP d
    exact jJ (jI (jb (jj (V (kd M rfl rfl) (Wm (ln ⟨d0, bk _, (wi0 .i64 (t + 1)), d6, _, ((x.trans a3).trans a4), (d.iU St), a1, a2, rfl, c⟩))))))
   refine nt (mH (mH (tK (jb ?_))))
   obtain rfl := sj c
   exact ⟨_, rfl, G, _, x, (d.iU St)⟩
 rintro ⟨⟩ E W ⟨Q, Y, d7, d⟩ b5
 exact sg (Wa (lt (rQ b5 d)))
theorem G2 (B : Value) (D : List jk) (r : Bool) (w : World) (z : Sl (Pl ji) 12 (hp w) B D) (hm : vX D = some r) :
  jv false pg0 137 [B] w (.bool r) := by
 refine cG 22 func137 rfl (fun d => sg (Wa (lr (Wa (lS (Wm ?_))))))
 refine V (jO au rfl z) (Wm (ln (jG (fun i E W => ∃ g k j u, (E 8 = .int .i64 (i : Nat) ∧ E 7 = .int .i64 (D.length : Nat)) ∧ ST false jD w W (hp w) (j ++ u) ∧ E 3 = g ∧ E 6 = B ∧ jl 38 je 3 g k j ∧ qa (D.drop i) k = some r) D.length z.len ⟨(.slice none 0 0), ([]), [], _, ⟨rfl, rfl⟩, (d.iU St), rfl, rfl, (jl.nil _ _ _), hm⟩ dc dc dc (fun _ _ _ h => by obtain ⟨_, _, _, _, n, _⟩ := h; exact n) ?_ ?_)))
 ·rintro a2 E W Q ⟨g, k, j, u, ⟨m, p⟩, d, x, y, t, a⟩
  obtain ⟨c, b1, U, T, Y⟩ := jB Q
  rw [U] at a
  refine bg (VQ (kk (enc := ji) (i := (a2 : Int)) (x0 := c) au aV y m z (ah _) T) (fun a9 J => V (iW rfl (jX d.has J da aV)) (VE (jK d cu (fun a3 P d => VO (jy (.agg (ji c).toArray) ((ji c).toArray) d rfl rfl aV (qb c) nb rfl (fun a4 d => lS (VA d Mh (ji c) da aV (Wh x (bS a fun b0 K a => ?_))))))))))
  refine VE (Eg d call152 (xY c g k _ _ (t.sl lJ (fun b o s => d.at_ (Mt (Ml s)))) K) (fun a5 d => V (lj rfl) (ln (CI a rfl (fun H a => ?_) (fun H a => ?_)))))
  ·refine sg (Wa (ln ?_))
   replace d := d.iU (Db (Dr St))
   refine jz (jx (ko (jx (ko (jx ?_)))))
   obtain rfl := sj a
   exact rP d
  refine kn (jj (Wh x (Wf od (VA d Mh (je c.iV) cH bf (VE (jS (cs := (je c.iV).toArray) d (ma rfl) (lV bj bf bW) (fun A N d => ?_)))))))
  replace d := d.perm (Nr (Qb (Qb Qz)) Nz)
  refine bS a fun Z I a => VE (kX (enc := je) (v := g) (vs := (.slice (some ⟨N, 0, none⟩) 1 1)) (R := j) d lJ dc uW bj pt.1 pt.2.1 rfl pt.2.2.1 pt.2.2.2 rfl rfl t (Sl.lit (enc := je) (l := [c.iV]) lJ rfl nb rfl (d.at_ (Ma Mh))) I (fun L q M d G => Wa (jC (jI (jb ?_)))))
  replace d := d.iU (Kr (Db (Db St)))
  exact ⟨m, q, Z, M, _, ⟨rfl, p⟩, (d.iU St), rfl, y, G, (by rw [Y]; exact a)⟩
 rintro E W ⟨g, k, j, u, ⟨m, p⟩, d, x, y, t, a⟩
 rw [ai] at a
 refine jb ?_
 replace d := d.iU (Dr St)
 exact sg (Wa (lt (rQ a d)))
theorem EA (q : Value) (a0 : List jk) (k : LO) (r : List jk) (w : World) {μ0 : jw} (h0 : nR μ0 (k ++ []) w) (e5 : jl 140 ji 12 q a0 k) (hm : uc a0 = some r) :
  jY false pg0 67 [q] w (k ++ []) (fun v L1 W' => ∃ y1 S2, v = y1 ∧ L1 = (S2 ++ []) ∧ jl 140 ji 12 y1 r S2) := by
 refine wJ h0 25 func67 rfl (fun d => sg (Wa (ln (jm (lc (og (fun m E W => ∃ i t y x L, js μ0 x ∧ ST false (keys (k ++ [])) w W x (y ++ L) ∧ E 0 = i ∧ jl 140 ji 12 i t y ∧ nY m t = some r) jM ⟨q, a0, k, μ0, _, (js.refl _), (d.iU St), rfl, e5, hm⟩ ?_))))))
 rintro m E W ⟨i, t, y, x, L, b4, d, J, D, c⟩
 cases m with
 | zero => rw [nY] at c; cases c
 | succ d9 =>
  refine jm (sg (Wh J (bS c fun f4 c6 c => VE (Eg d call134 (HX i t _ _ (D.sl mD (fun b o h => d.at_ (Ml h))) c6) (fun f0 d => V (lj rfl) (ln (CI c rfl (fun c0 c => ?_) (fun c0 c => ?_))))))))
  ·refine kn (bg (Wh J (V (lT au rfl D) (Wi rfl (Wa (ln (yi (CJ c (fun a4 E W => ∃ M H Q P, js x Q ∧ ST false (keys (k ++ [])) w W Q (H ++ P) ∧ E 0 = M ∧ jl 140 ji 12 M a4 H) (fun a4 c4 => ?_) ?_))))))))
   ·refine lc (og (fun m E W => ∃ u K z j G a9, js x G ∧ ST false (keys (k ++ [])) w W G (z ++ a9) ∧ E 0 = u ∧ E 3 = (.int .i64 j) ∧ jl 140 ji 12 u K z ∧ na m K j = some a4) jM ⟨i, t, y, (wi0 .i64 ((t.length : Int) - 2)), x, _, (js.refl _), (d.iU St), J, rfl, D, c4⟩ ?_)
    rintro m E W ⟨u, K, z, j, G, a9, Z, d, a3, B, U, g⟩
    cases m with
    | zero => rw [na] at g; cases g
    | succ e0 =>
     refine jm (sg (Wh B (Wi rfl (ln (CI g rfl (fun c1 g => ?_) (fun c1 g => ?_))))))
     ·refine kn (jm (CJ g (fun b1 E W => ∃ N I T R, js G T ∧ ST false (keys (k ++ [])) w W T (I ++ R) ∧ E 0 = N ∧ E 3 = (.int .i64 j) ∧ jl 140 ji 12 N b1 I) (fun b1 a => ?_) ?_))
      ·refine bg (Wh a3 (bS a fun e1 c7 a => VE (pT d call136 (jZ.kw (yc u K _ _ (U.sl mD (fun b o h => d.at_ (Ml h))) c7)) (fun f1 e3 f7 d2 d A n b9 => Wh B (Wh B (Wi rfl (bS a fun e2 c8 a => ?_)))))))
       refine VE (eM d (Cr Qz Cn) call135 (fun hh _ => jY.kw (xr e3 e1 d2 j (wi0 .i64 (j + 1)) _ _ hh b9 c8)) ?_)
       rintro _ f6 b3 e9 d a2 p s ⟨b2, d3, Y, rfl, a5⟩
       obtain rfl := Y.symm
       replace d := d.perm (Tr Tn)
       refine Wa (lr (Wm (bS a fun f5 c9 a => VE (Eg d call137 (G2 b2 e2 _ _ (a5.sl mD (fun b o h => d.at_ (Ml h))) c9) (fun f3 d => ln (CI a rfl (fun c2 a => ?_) (fun c2 a => ?_)))))))
       ·refine jj (Wm (Wa (jC (jI (jb ?_)))))
        obtain rfl := sj a
        exact ⟨b2, d3, b3, _, (A.trans a2), (d.iU (Kr (Dr St))), rfl, B, a5⟩
       refine jJ (jI (jb ?_))
       obtain rfl := sj a
       exact ⟨u, z, b3, _, (A.trans a2), (d.iU (Dr St)), a3, B, U⟩
      rintro d8 E W ⟨N, I, T, R, b6, d, d5, d6, d1⟩ c5
      exact jj (Wh d6 (Wi rfl (Wa (ln ⟨e0, bk _, N, d8, I, (wi0 .i64 (j - 1)), T, _, (Z.trans b6), (d.iU St), d5, rfl, d1, c5⟩))))
     refine nt (mH (mH (tK (jb ?_))))
     obtain rfl := sj g
     exact ⟨u, z, G, _, Z, (d.iU St), a3, U⟩
   rintro d7 E W ⟨M, H, Q, P, b5, d, d4, d0⟩ c3
   exact jI (jb ⟨d9, bk _, M, d7, H, Q, _, (b4.trans b5), (d.iU St), d4, d0, c3⟩)
  refine nt (mH (mH (tK (jb (sg (Wh J (Wa (lt ?_))))))))
  obtain rfl := sj c
  exact jR (v := i) rfl rfl ⟨_, _, rfl, (d.kC (Kr Sn)), i, y, rfl, rfl, D⟩
theorem IY (g : Value) (k : List iS) (i : iV) (r : ((List jk) × Bool)) (w : World) (y : Sl (Pl iX) 9 (hp w) g k) (hm : uf k i = some r) :
  jY false pg0 22 [g, (.agg (je i).toArray)] w [] (fun v T W' => ∃ M I, v = (.tuple #[M, (.bool (r.2))]) ∧ T = (I ++ []) ∧ jl 140 ji 12 M r.1 I) := by
 refine tS 18 func22 rfl (fun d => sg (VE (jF d rfl (fun W2 s d => Wa (Wa (lr (Wm (VA d Mh (je i) cH bf (bS hm fun Y K hm => ?_)))))))))
 refine VE (F0 d (cP _) call66 (fun _ _ _ _ => (H7 g k i _ _ (y.mono (Pl.mono _) d.jf) K)) (fun W5 v9 p Z d U o h t => ?_) (L0 := []))
 obtain ⟨N, H, a, rfl, D⟩ := t
 replace a := a.symm; subst a
 replace d := d.perm (Tr Tn)
 refine Wm (Wx rfl (Wx rfl (Wa (Wa (ln ?_)))))
 replace d := d.iU (Kr (Db St))
 refine jm (sg (Wm (V (lj rfl) (ln (CI hm rfl (fun z hm => ?_) (fun z hm => ?_))))))
 ·refine sg (Wa (Wa (ln ?_)))
  replace d := d.iU (Dr St)
  refine jz (jx ?_)
  obtain rfl := sj hm
  refine pq (v := (.slice none 0 0)) (u := (.bool false)) rfl rfl rfl ?_
  replace d := d.QV
  exact ⟨_, _, rfl, (d.I4 (Kr Sn)), (.slice none 0 0), [], rfl, rfl, (jl.nil _ _ _)⟩
 refine kg (Wm (bS hm fun a4 B hm => ?_))
 refine VE (eM d (Cr Qz Cn) call67 (fun n _ => (EA N Y.1 H _ _ n D B)) ?_)
 rintro _ a5 q a2 d Q m h ⟨j, J, c, rfl, G⟩
 obtain rfl := c.symm
 replace d := d.perm (Tr Tn)
 refine Wa (Wa (lt ?_))
 obtain rfl := sj hm
 exact pq (v := j) (u := (.bool true)) rfl rfl rfl ⟨_, _, rfl, (d.I4 (Kr Sn)), j, J, rfl, rfl, G⟩
theorem Bs (I : Int) (r : List jk) (w : World) (hm : qP I = some r) :
  jZ true pg0 198 [(.slice none 0 0), (.int .i64 I)] w 140 ji 12 r := by
 refine tS 27 func198 rfl (fun d => sg (Wa (lS (Wm (Wi rfl (ln (CI hm rfl (fun K hm => ?_) (fun K hm => ?_))))))))
 ·cases hm
 refine kn (jm (CJ hm (fun u E W => ∃ g c t, ST true jD w W (hp w) (c ++ t) ∧ E 0 = g ∧ jl 140 ji 12 g u c) (fun u a => ?_) ?_))
 ·refine sg (Wm (Wm (V (Jg au rfl) (Wm (V (yq au rfl) (Wi rfl (Wi rfl (Wa (lr (Wm ?_))))))))))
  refine Wi rfl (ln (CI a rfl (fun y a => ?_) (fun y a => ?_)))
  ·refine jj (Wm (Wm (V (Jg au rfl) (V (Mv au aV rfl rfl) (Wm (bS a fun T B a => VE (ID (enc := ji) (z := (⟨K6, K7⟩ : jk)) d mD dc au gS lY.1 lY.2.1 lY.2.2.1 lY.2.2.2 rfl rfl rfl B (fun N U H d x => Wm (V (yq au rfl) (bS a fun _ j a => VQ (se (i := 0) au aV rfl rfl x mD (pc j) (oZ j)) (fun M G => Wa (ln ?_))))))))))))
   obtain rfl := sj a
   exact ⟨M, H, _, (d.iU St), rfl, G⟩
  refine kn ?_
  obtain rfl := sj a
  exact ⟨(.slice none 0 0), [], _, (d.iU St), rfl, (jl.nil _ _ _)⟩
 rintro Q E W ⟨g, c, t, d, J, k⟩ D
 refine sg (Wh J (Wa (lt ?_)))
 obtain rfl := sj D
 exact jR (v := g) rfl rfl ⟨_, c, rfl, d.ly (fun p h => (Ml h)) k.nd, k⟩
theorem Cu (t : Value) (z : List (List jk)) (r : List jk) (w : World) (j : Sl (yL ji 12) 1 (hp w) t z) (hm : uJ z = some r) :
  jZ true pg0 145 [t] w 140 ji 12 r := by
 refine tS 36 func145 rfl (fun d => sg (Wa (lr (Wa (lS (Wm ?_))))))
 refine V (jO fW rfl j) (Wm (ln (jG (fun i E W => ∃ u Q, (E 11 = .int .i64 (i : Nat) ∧ E 10 = .int .i64 (z.length : Nat)) ∧ ST true jD w W (hp w) Q ∧ E 0 = t ∧ E 3 = (.int .i64 u) ∧ E 9 = t ∧ mW z (z.drop i) u = some r) z.length j.len ⟨0, _, ⟨rfl, rfl⟩, (d.iU St), rfl, rfl, rfl, hm⟩ dc dc dc (fun _ _ _ h => by obtain ⟨_, _, n, _⟩ := h; exact n) ?_ ?_)))
 ·rintro d1 E W b9 ⟨u, Q, ⟨m, o⟩, d, T, U, Y, a⟩
  obtain ⟨q, e0, c4, c3, c5⟩ := jB b9
  rw [c4] at a
  refine bg (VQ (E6 (enc := ji) (k2 := 12) (i := (d1 : Int)) (x0 := q) fW iN Y m j (ah _) c3) (fun e2 ⟨d3, c0, c2⟩ => V (iW rfl (lC d.has (y := d3) c0 eF)) (Wa (lr (Wh U (Wm (V (jO au rfl c2) (Wi rfl (Wa ?_)))))))))
  refine lr (Wm (Wi rfl (ln (CI a rfl (fun b7 a => ?_) (fun b7 a => ?_)))))
  ·cases a
  exact jJ (jI (jb ⟨m, (wi0 .i64 (u + (q.length : Int))), _, ⟨rfl, o⟩, (d.iU St), T, rfl, Y, (by rw [c5]; exact a)⟩))
 rintro E W ⟨u, Q, ⟨m, o⟩, d, T, U, Y, a⟩
 rw [ai] at a
 refine jb (sg (Wh U (bS a fun d2 c1 a => VE (pT d call198 (Bs u _ _  c1) (fun e1 d4 s d0 d a4 A b6 => Wa (lS (Wh T (V (jO fW rfl j) (Wm ?_)))))))))
 refine ln (CJ a (fun K E W => ∃ G x N, ST true jD w W s (x ++ N) ∧ E 6 = G ∧ jl 140 ji 12 G K x) (fun K P => ?_) ?_)
 ·refine jG (fun i E W => ∃ k D g H, (E 27 = .int .i64 (i : Nat) ∧ E 26 = .int .i64 (z.length : Nat)) ∧ ST true jD w W s (g ++ H) ∧ E 6 = k ∧ E 25 = t ∧ jl 140 ji 12 k D g ∧ mZ (z.drop i) D = some K) z.length j.len ⟨d4, d2, d0, _, ⟨rfl, rfl⟩, (d.iU St), rfl, rfl, b6, P⟩ dc dc dc (fun _ _ _ h => by obtain ⟨_, _, _, _, n, _⟩ := h; exact n) ?_ ?_
  ·rintro c6 E W a3 ⟨k, D, g, H, ⟨m, o⟩, d, I, J, B, c⟩
   obtain ⟨c9, d5, b0, a9, b1⟩ := jB a3
   rw [b0] at c
   refine bg (VQ (E6 (enc := ji) (k2 := 12) (i := (c6 : Int)) (x0 := c9) fW iN J m (j.mono (yL.mono _ _) a4) (ah _) a9) (fun d8 ⟨Z, a7, a8⟩ => V (iW rfl (lC d.has (y := Z) a7 eF)) (Wa (ln (jj (Wh I (Wm (bS c fun c7 a2 c => VE (kX (enc := ji) (v := k) (vs := Z) (R := g) d mD dc qb au lY.1 lY.2.1 rfl lY.2.2.1 lY.2.2.2 rfl rfl B (a8.mono (Pl.mono _) d.jf) a2 (fun d6 c8 b4 d L => Wa (jC ?_)))))))))))
   exact jI (jb ⟨m, c8, c7, b4, _, ⟨rfl, o⟩, (d.iU St), rfl, J, L, (by rw [b1]; exact c)⟩)
  rintro E W ⟨k, D, g, H, ⟨m, o⟩, d, I, J, B, c⟩
  rw [ai] at c
  refine jb ?_
  obtain rfl := sj c
  exact ⟨k, g, _, (d.iU St), I, B⟩
 rintro d7 E W ⟨G, x, N, d, b5, M⟩ a5
 refine sg (Wh b5 (Wa (lt ?_)))
 obtain rfl := sj a5
 exact jR (v := G) rfl rfl ⟨_, x, rfl, d.ly (fun p hq => (Ml hq)) M.nd, M⟩
theorem H6 (M : Value) (a0 : List (List jk)) (r : List jk) (w : World) (a8 : Sl (yL ji 12) 1 (hp w) M a0) (hm : xb a0 = some r) :
  jZ true pg0 74 [M] w 140 ji 12 r := by
 refine tS 29 func74 rfl (fun d => sg (Wa (lr (VE (AL (P := pg0) (fun (x : iV) => (.agg (je x).toArray)) (fun (x : Bool) => (Value.bool x)) d (fun W1 v4 R2 d b3 => Wa (lr (Wa ?_))))))))
 refine lS (Wm (bS hm fun A b4 hm => VE (pT d call145 (Cu M a0 _ _ (a8.mono (yL.mono _ _) d.jf) b4) (fun W7 b6 L b2 d c6 a6 J => V (lT au rfl J) (Wm (ln (jG (fun i E W => ∃ u B j G g K, (E 11 = .int .i64 (i : Nat) ∧ E 10 = .int .i64 (A.length : Nat)) ∧ ST true jD w W L (g ++ (b2 ++ (B ++ K))) ∧ E 3 = v4 ∧ E 4 = j ∧ E 9 = b6 ∧ kl (fun (x : iV) => (.agg (je x).toArray)) (fun (x : Bool) => (Value.bool x)) v4 u B ∧ jl 140 ji 12 j G g ∧ po (A.drop i) u G = some r) A.length J.len ⟨([]), R2, (.slice none 0 0), ([]), [], _, ⟨rfl, rfl⟩, (d.iU St), rfl, rfl, rfl, b3, (jl.nil _ _ _), hm⟩ dc dc dc (fun _ _ _ h => by obtain ⟨_, _, _, _, _, _, q, _⟩ := h; exact q) ?_ ?_)))))))
 ·rintro b5 E W a1 ⟨u, B, j, G, g, K, ⟨n, s⟩, d, D, H, I, y, t, a⟩
  obtain ⟨c, c8, a3, N, Q⟩ := jB a1
  rw [a3] at a
  refine bg (VQ (kY (i := (b5 : Int)) (x0 := c) au aV I n J (ah _) N) (fun c7 a2 => V (iW rfl (oy d.has (fun p m => (Ma (Ml m))) J mD a2 N da aV)) (VE (jK d cu (fun c0 c5 d => VO (jy (.agg (ji c).toArray) ((ji c).toArray) d rfl rfl aV (qb c) nb rfl (fun c1 d => lr (Wh D (Wf od (VA d Mh (je c.iV) cH bf (V (uu (k := c.iV) (z := false) (vf := (fun (x : Bool) => (Value.bool x))) IU fV eV rfl rfl (y.at (fun b o m => d.has.2 b o (Mt (Ma (Ma (Ml m))))))) ?_)))))))))))
  refine V (lj rfl) (ln (CI a rfl (fun Y a => ?_) (fun Y a => ?_)))
  ·refine sg (Wh D (Wf od (VA d Mh (je c.iV) cH bf ?_)))
   replace d := d.perm (Nr (Qb (Qr (Qr Qz))) Nz)
   refine VO (EI (k := c.iV) (v := true) (vf := (fun (x : Bool) => (Value.bool x)))  IU fV d y rfl rfl rfl (fun c2 a4 d T => ln (jj (Wh H (VA d (Ma Mh) (ji c) da aV (VE (jS (cs := (ji c).toArray) d (ma rfl) (lV au aV cu) (fun c3 a7 d => ?_))))))))
   replace d := d.perm (Nr (Qb (Qr (Qb Qz))) Nz)
   refine bS a fun a9 Z a => VE (kX (enc := ji) (v := j) (vs := (.slice (some ⟨a7, 0, none⟩) 1 1)) (R := g) d mD dc qb au lY.1 lY.2.1 rfl lY.2.2.1 lY.2.2.2 rfl rfl t (Sl.lit (enc := ji) (l := [c]) mD rfl nb rfl (d.at_ (Ma Mh))) Z (fun c4 b1 a5 d U => Wa (jC (jI (jb ?_)))))
   replace d := d.iU (Kr (Db (Kr (Db St))))
   exact ⟨n, (lZ lf u c.iV true), a4, b1, a9, a5, _, ⟨rfl, s⟩, (d.iU (Kr (Sr (Qr Qz) St))), D, rfl, I, T, U, (by rw [Q]; exact a)⟩
  refine jJ (jI (jb ?_))
  replace d := d.iU (Db St)
  exact ⟨n, u, B, j, G, g, _, ⟨rfl, s⟩, (d.iU St), D, H, I, y, t, (by rw [Q]; exact a)⟩
 rintro E W ⟨u, B, j, G, g, K, ⟨n, s⟩, d, D, H, I, y, t, a⟩
 rw [ai] at a
 refine jb ?_
 replace d := d.iU (Kr (Dr (Dr St)))
 refine sg (Wh H (Wa (lt ?_)))
 obtain rfl := sj a
 exact jR (v := j) rfl rfl ⟨_, g, rfl, d.ly (fun p m => (Ml m)) t.nd, t⟩
set_option maxHeartbeats 4000000 in
theorem Ea (a : zg) (a5 a6 b1 c1 b3 c0 : Value) (Y : Formula) (c7 : Value) (Q T : Int) (a4 : Bool) (r : jP) (w : World) {μ0 : jw} (h0 : nR μ0 [] w) (H : Sl tk 15 μ0 a5 a.mc.pa) (K : Sl yI 8 μ0 a6 a.mc.Aa) (G : Sl (Pl iX) 9 μ0 b1 a.oz) (b0 : Sl (Pl iX) 9 μ0 c1 a.Shown) (a7 : Sl (Pl iT) 2 μ0 b3 a.lq) (a9 : Sl (Pl iT) 2 μ0 c0 a.Ct) (c5 : Sl ju 5 μ0 c7 Y.Kids) (hm : pS a Y Q T a4 = some r) :
  oq false pg0 27 [(.agg #[(.string a.mc.Name), a5, a6, (.string a.rU), (.int .i64 a.Room), b1, c1, b3, c0]), (.agg #[(.int .i64 Y.Op), (.int .i64 Y.K), (.string Y.iR.ja), (.string Y.iR.jt), c7]), (.int .i64 Q), (.int .i64 T), (.bool a4)] w μ0 [] (fun v L1 μ1 => ∃ y1 y3, v = (.agg #[(.int .i64 ((r).State)), (.int .i64 ((r).mq)), y1, y3]) ∧ L1 = [] ∧ Sl (Pl iT) 2 μ1 y1 ((r).jL) ∧ Sl (Pl ji) 12 μ1 y3 ((r).jQ)) := by
 let f9 : Value := (.string a.mc.Name)
 let f2 : Value := (.agg (C5 Q T).toArray)
 refine Qy h0 64 func27 rfl (fun d => sg ?_)
 obtain ⟨A1, c2, rfl⟩ := H.form
 let a1 : Value := (.slice A1 a.mc.pa.length c2)
 obtain ⟨A3, c4, rfl⟩ := K.form
 let a2 : Value := (.slice A3 a.mc.Aa.length c4)
 obtain ⟨A5, c6, rfl⟩ := G.form
 let a0 : Value := (.slice A5 a.oz.length c6)
 obtain ⟨A7, c8, rfl⟩ := b0.form
 let b8 : Value := (.slice A7 a.Shown.length c8)
 obtain ⟨A9, d1, rfl⟩ := a7.form
 let a3 : Value := (.slice A9 a.lq.length d1)
 obtain ⟨c9, d2, rfl⟩ := a9.form
 let d7 : Value := (.slice c9 a.Ct.length d2)
 refine VE (jF d rfl (fun r7 h3 d => ?_))
 obtain ⟨h2, h6, rfl⟩ := c5.form
 let f7 := (C1 Y.Op Y.K Y.iR.ja Y.iR.jt h2 Y.Kids.length h6)
 refine VE (jF d rfl (fun r8 m1 d => VE (jK d dh (fun r9 h4 d => lr (Wm (Wm (V (kT (v := f2) (nz rfl rfl) (ku dh cX (N8 _ cX) kr)) (VE (jK d dh (fun s0 h5 d => VO (jy f2 ((C5 Q T).toArray) d rfl rfl bV oc nb rfl (fun s1 d => ln (jm (jm ?_))))))))))))))
 refine jj (Wm (V (lj rfl) (Wm (LJ hm (fun i2 E W => ∃ m0, ST false (keys []) w W μ0 ((h5, Ol (C5 Q T) 64) :: ((h4, Ol C6 64) :: ((m1, Ol f7 57) :: ((h3, Ob #[f9, a1, a2, (.string a.rU), (.int .i64 a.Room), a0, b8, a3, d7] 54) :: m0)))) ∧ E 5 = (.pointer (some ⟨h3, 0, none⟩)) ∧ E 6 = (.pointer (some ⟨m1, 0, none⟩)) ∧ E 10 = (.pointer (some ⟨h4, 0, none⟩)) ∧ E 11 = (.pointer (some ⟨h5, 0, none⟩)) ∧ E 26 = (.bool i2)) 3 ?_ (fun i2 b6 f5 => ?_)))))
 ·rintro s3 E W ⟨m0, d, m2, n0, f3, h7, n1⟩ N
  refine ln (CI N n1 (fun m5 N => ?_) (fun m5 N => ?_))
  ·refine sg (V (iW h7 (jc d.has Mh (C5 Q T) rfl dq bV)) ?_)
   replace d := d.perm (Nb (Pb Pz) Nz)
   refine VO (jy f2 ((C5 Q T).toArray) d f3 rfl bV oc nb rfl (fun s2 d => ln ?_))
   replace d := d.iU (Kb (Db (Db (Db St))))
   refine jz (jx ?_)
   obtain rfl := sj N
   exact tw (v := f2) rfl f3 (jc d.has Mh (C5 Q T) rfl dq bV) ⟨_, _, _, rfl, (d.kC Sn), (js.refl _), Lo.refl, (ST.jT d (lm.mem Sn)), (.slice none 0 0), (.slice none 0 0), rfl, rfl, (Sl.nil _ _ _), (Sl.nil _ _ _)⟩
  refine kn (jm ?_)
  replace d := d.drew
  have m := d.has.iU (Db (Db (Kb (Kb Sn))))
  refine jV m jE (XH 0 rfl m (fun _ hS => iW n0 (jc hS Mh f7 rfl bG aP)) (XH 1 rfl m (fun _ hS => iW m2 (jc hS (Mt Mh) [f9, a1, a2, (.string a.rU), (.int .i64 a.Room), a0, b8, a3, d7] rfl isAgg54 sizeOf54)) (bS N fun t k5 N => ?_)))
  refine XE 2 rfl (F0 d (cP _) call73 (fun _ _ _ _ => (Ng a a1 a2 a0 b8 a3 d7 _ _ (H.mono JF.mono d.jf) (K.mono RB.mono d.jf) (G.mono (Pl.mono _) d.jf) (b0.mono (Pl.mono _) d.jf) (a7.mono (Pl.mono _) d.jf) (a9.mono (Pl.mono _) d.jf) k5)) (fun o6 q0 q6 n7 d z q ca i8 => ?_) (L0 := []))
  obtain ⟨e1, g2, i3, o0, i4, o1, i5, o2, i6, o3, i7, o4, e2, e7, rfl, l5, l6, l7, l8, l9⟩ := i8
  replace e7 := e7.symm; subst e7
  replace d := d.perm (Tb (Tb (Tb (Tr (Tr (Tr (Tr (Tr Tn))))))))
  have m := d.has.pO z (Db (Db (Db (Dr (Dr (Dr (Dr (Dr (Db (Db (Kb (Kb Sn))))))))))))
  refine ⟨m, ?_⟩
  replace d := d.perm (Nr (Qb (Qb (Qb Qz))) Nz)
  obtain ⟨q7, d, D, s, j8⟩ := ST.xw d
  replace d := d.perm (Nr (Qb (Qb (Qb Qz))) Nz)
  obtain ⟨q8, d, B, A, k9⟩ := ST.yk d l6 kU
  replace d := d.perm (Nr (Qb (Qb (Qb Qz))) Nz)
  obtain ⟨q9, d, y, L, j9⟩ := ST.xw d
  replace d := d.perm (Nr (Qb (Qb (Qb Qz))) Nz)
  obtain ⟨r0, d, u, P, k0⟩ := ST.xw d
  replace d := d.perm (Nr (Qb (Qb (Qb Qz))) Nz)
  obtain ⟨r1, d, k, ab, l0⟩ := ST.RS d l9 lJ
  replace d := d.perm (Nb (Pb Pz) Nz)
  obtain ⟨r2, d, j, ad, k1⟩ := ST.xw (R := [(g2, Ob #[i3, i4, i5, i6, i7, (.int .i64 (t.2.2.2.2.2.1))] 174)]) d
  have j3 := At.of (k1 _ _ (.head _)) _ rfl
  obtain ⟨r3, d, g, af, k2⟩ := ST.xw (R := [(e1, Ob #[(.pointer (some ⟨g2, 0, none⟩))] 101)]) d
  have j4 := At.of (k2 _ _ (.head _)) _ rfl
  obtain ⟨r4, d, c, ao, k3⟩ := ST.xw (R := [(e2, Ob #[(.string (t.2.2.2.2.2.2.1)), a1, a2, (.string (t.2.2.2.2.2.2.2.1)), (.int .i64 (t.2.2.2.2.2.2.2.2)), a0, b8, a3, d7] 54)]) d
  have j5 := At.of (k3 _ _ (.head _)) _ rfl
  refine bS N fun J k6 N => ?_
  refine XE 3 rfl (eD d (cP _) call72 (fun hh => (IX Y (.slice h2 Y.Kids.length h6) (.func (.func 144) #[] #[(.pointer (some ⟨e1, 0, none⟩)), (.pointer (some ⟨e2, 0, none⟩))]) (fun (x : iR) => vI x t.1 t.2.1 t.2.2.1 t.2.2.2.1 t.2.2.2.2.1 t.2.2.2.2.2.1 t.2.2.2.2.2.2.1 a.mc.pa a.mc.Aa t.2.2.2.2.2.2.2.1 t.2.2.2.2.2.2.2.2 a.oz a.Shown a.lq a.Ct) _ _ hh (c5.mono ky.mono ((((((((z.trans D).trans B).trans y).trans u).trans k).trans j).trans g).trans c)) ⟨144, #[], #[(.pointer (some ⟨e1, 0, none⟩)), (.pointer (some ⟨e2, 0, none⟩))], rfl, call144, fun W x r p hm => (IF x e1 g2 i3 t.1 i4 t.2.1 i5 t.2.2.1 i6 t.2.2.2.1 i7 t.2.2.2.2.1 t.2.2.2.2.2.1 e2 t.2.2.2.2.2.2.1 a1 a.mc.pa a2 a.mc.Aa t.2.2.2.2.2.2.2.1 t.2.2.2.2.2.2.2.2 a0 a.oz b8 a.Shown a3 a.lq d7 a.Ct r W ((l5.at j8).mono (((((((B.trans y).trans u).trans k).trans j).trans g).trans c).trans p)) (k9.mono (Pl.mono _) ((((((y.trans u).trans k).trans j).trans g).trans c).trans p)) ((l7.at j9).mono (((((u.trans k).trans j).trans g).trans c).trans p)) ((l8.at k0).mono ((((k.trans j).trans g).trans c).trans p)) (l0.mono (Pl.mono _) (((j.trans g).trans c).trans p)) (j3.mono ((g.trans c).trans p)) (j4.mono (c.trans p)) (H.mono JF.mono (((((((((z.trans D).trans B).trans y).trans u).trans k).trans j).trans g).trans c).trans p)) (K.mono RB.mono (((((((((z.trans D).trans B).trans y).trans u).trans k).trans j).trans g).trans c).trans p)) (G.mono (Pl.mono _) (((((((((z.trans D).trans B).trans y).trans u).trans k).trans j).trans g).trans c).trans p)) (b0.mono (Pl.mono _) (((((((((z.trans D).trans B).trans y).trans u).trans k).trans j).trans g).trans c).trans p)) (a7.mono (Pl.mono _) (((((((((z.trans D).trans B).trans y).trans u).trans k).trans j).trans g).trans c).trans p)) (a9.mono (Pl.mono _) (((((((((z.trans D).trans B).trans y).trans u).trans k).trans j).trans g).trans c).trans p)) (j5.mono ((js.refl _).trans p)) hm).kw⟩ k6)) ?_ (L0 := []))
  rintro _ q1 h1 n8 d b5 av ⟨q4, e8, rfl, b9⟩
  obtain rfl := e8.symm
  have m := d.has.pO (((((((((z.trans D).trans B).trans y).trans u).trans k).trans j).trans g).trans c).trans b5) (Db (Db (Kb (Kb Sn))))
  refine ⟨m, (X 4 rfl m (jd rfl) (X 5 rfl m (yO rfl rfl) (X 6 rfl m (yO rfl rfl) (X 7 rfl m (mw rfl) (X 8 rfl m (mw rfl) (km kr (jb ?_)))))))⟩
  replace d := d.iU (Kb (Kb (Db St)))
  refine jm (sg (Wm (V (lj rfl) (ln (CI N rfl (fun j6 N => ?_) (fun j6 N => ?_))))))
  ·refine sg (V (iW h7 (jc d.has Mh (C5 Q T) rfl dq bV)) ?_)
   replace d := d.perm (Nb (Pb Pz) Nz)
   refine VO (jy f2 ((C5 Q T).toArray) d f3 rfl bV oc nb rfl (fun o8 d => ln ?_))
   replace d := d.iU (Kb (Db (Db St)))
   refine jz (jx ?_)
   obtain rfl := sj N
   exact tw (v := f2) rfl f3 (jc d.has Mh (C5 Q T) rfl dq bV) ⟨_, _, _, rfl, (d.kC Sn), (((((((((z.trans D).trans B).trans y).trans u).trans k).trans j).trans g).trans c).trans b5), (((((((((q.trans s).trans A).trans L).trans P).trans ab).trans ad).trans af).trans ao).trans av), (ST.jT d (lm.mem Sn)), (.slice none 0 0), (.slice none 0 0), rfl, rfl, (Sl.nil _ _ _), (Sl.nil _ _ _)⟩
  refine kg (Wm (V (iY rM h7) ?_))
  obtain ⟨U, Z, rfl⟩ := b9.form
  let f6 : Value := (.slice U J.1.length Z)
  refine VO (jy f6 (#[(.int .i64 Q), (.int .i64 T), f6, (.slice none 0 0)]) d rfl rfl sizeOf34 oc nb rfl (fun o9 d => lS (Wm (V (jO al rfl b9) (Wm (ln (jG (fun i E W => ∃ d5 I e0 d6 g1, (E 42 = .int .i64 (i : Nat) ∧ E 41 = .int .i64 (J.1.length : Nat)) ∧ js h1 d6 ∧ Lo (keys []) w h1 d6 ∧ ST false (keys []) w W d6 ((h5, Ob #[(.int .i64 Q), (.int .i64 T), f6, d5] 64) :: ((h4, Ol C6 64) :: ((h3, Ob #[f9, a1, a2, (.string a.rU), (.int .i64 a.Room), a0, b8, a3, d7] 54) :: (e0 ++ g1)))) ∧ E 5 = (.pointer (some ⟨h3, 0, none⟩)) ∧ E 10 = (.pointer (some ⟨h4, 0, none⟩)) ∧ E 11 = (.pointer (some ⟨h5, 0, none⟩)) ∧ E 40 = f6 ∧ jl 140 ji 12 d5 I e0 ∧ tj a Q T J (J.1.drop i) I = some r) J.1.length b9.len ⟨(.slice none 0 0), ([]), [], h1, _, ⟨rfl, rfl⟩, (js.refl _), Lo.refl, (d.iU St), m2, f3, h7, rfl, (jl.nil _ _ _), N⟩ dc dc dc (fun _ _ _ h => by obtain ⟨_, _, _, _, _, cb, _⟩ := h; exact cb) ?_ ?_)))))))
  ·rintro m6 E W j7 ⟨d5, I, e0, d6, g1, ⟨eI, eN⟩, a8, n, d, e5, e6, d4, g9, b7, M⟩
   obtain ⟨b2, n5, l3, l2, l4⟩ := jB j7
   rw [l3] at M
   refine bg (VQ (kk (enc := iT) (i := (m6 : Int)) (x0 := b2) al ag g9 eI (b9.mono (Pl.mono _) a8) (ah _) l2) (fun p9 k4 => V (iW rfl (jX d.has k4 an ag)) (VE (jK d bo (fun p0 p7 d => VO (jy (.agg (iT b2).toArray) ((iT b2).toArray) d rfl rfl ag (lh b2) nb rfl (fun p1 d => lr (V (iY FK e5) (VB d (Mt (Mt (Mt Mh))) rfl rfl iQ (VA d Mh (iT b2) an ag (V (iY MI e5) ?_)))))))))))
   refine VB d (Mt (Mt (Mt Mh))) rfl rfl aH (V (kT (v := (.agg (je (⟨b2, a.rU⟩ : iV)).toArray)) (nz rfl rfl) (ku bW bl (Be _ bl) kr)) (bS M fun c3 k7 M => ?_))
   refine VE (F0 d (cP _) call22 (fun _ _ _ _ => (IY a0 a.oz (⟨b2, a.rU⟩ : iV) _ _ (G.mono (Pl.mono _) (((((((((((z.trans D).trans B).trans y).trans u).trans k).trans j).trans g).trans c).trans b5).trans a8).trans d.jf)) k7)) (fun p2 q2 r5 n9 d i0 aE ca j0 => ?_) (L0 := []))
   obtain ⟨q5, o5, e9, rfl, h9⟩ := j0
   replace e9 := e9.symm; subst e9
   replace d := d.perm (Tr Tn)
   refine Wm (Wx rfl (Wx rfl (Wa (Wa (ln ?_)))))
   replace d := d.iU (Kr (Db St))
   refine jj (V (iY ui d4) (VB d (Ma Mh) rfl rfl eF (Wm ?_)))
   obtain ⟨d8, e3, rfl⟩ := b7.form
   obtain ⟨d9, e4, rfl⟩ := h9.form
   refine VE (jS (cs := #[(.slice d8 I.length e3), (.slice d9 c3.1.length e4)]) d (nz rfl rfl) (lV fW iN zeroValue45) (fun p3 m4 d => bS M fun f0 k8 M => VE (pT d call74 (jZ.kw (H6 (.slice (some ⟨m4, 0, none⟩) 2 2) ([I, c3.1]) _ _ (yL.lit (l := [I, c3.1]) (vs := [(.slice d8 I.length e3), (.slice d9 c3.1.length e4)]) rfl nb (d.at_ Mh) (.cons (b7.sl mD (fun b o hq => d.at_ (Mt (Ma (Mt (Mt (Mt (Ml hq)))))))) (.cons (h9.sl mD (fun b o hq => d.at_ (Mt (Ml hq)))) .nil))) k8)) (fun p4 q3 m7 m3 d i1 ba h8 => V (iY ui d4) ?_))))
   obtain ⟨f8, g7, rfl⟩ := h8.form
   replace d := d.perm (Nb (Pr (Pb (Pr Pz))) Nz)
   refine VO (jy (.slice f8 f0.length g7) ((C2 Q T U J.1.length Z f8 f0.length g7).toArray) d rfl rfl iN oc nb rfl (fun p5 d => jC (jI (jb ?_))))
   replace d := d.iU (Kb (Kr (Db (Dr (Kb (Kb (Dr St)))))))
   exact ⟨eI, (.slice f8 f0.length g7), f0, m3, m7, _, ⟨rfl, eN⟩, ((a8.trans i0).trans i1), ((n.trans aE).trans ba), (d.iU (Kb (Sb (Pr Pz) (Sb (Pr Pz) St)))), e5, e6, d4, g9, h8, (by rw [l4]; exact M)⟩
  rintro E W ⟨d5, I, e0, d6, g1, ⟨eI, eN⟩, a8, n, d, e5, e6, d4, g9, b7, M⟩
  rw [ai] at M
  refine jb ?_
  replace d := d.iU (Kb (Kb (Db St)))
  refine sg (V (iW d4 (jc d.has Mh [(.int .i64 Q), (.int .i64 T), f6, d5] rfl dq bV)) ?_)
  obtain ⟨d0, d3, rfl⟩ := b7.form
  let f1 := (C2 Q T U J.1.length Z d0 I.length d3)
  replace d := d.perm (Nb (Pb Pz) Nz)
  refine VO (jy (.agg f1.toArray) (f1.toArray) d e6 rfl bV oc nb rfl (fun p6 d => ln ?_))
  replace d := d.iU (Kb (Db St))
  refine jz ?_
  obtain rfl := sj M
  refine tw (v := (.agg f1.toArray)) rfl e6 (jc d.has Mh f1 rfl dq bV) ?_
  replace d := d.perm (Nr (Qb Qz) Nz)
  obtain ⟨r6, d, f4, bs, l1⟩ := ST.yk d b7 mD
  exact ⟨_, _, _, rfl, (d.kC Sn), (((((((((((z.trans D).trans B).trans y).trans u).trans k).trans j).trans g).trans c).trans b5).trans a8).trans f4), (((((((((((q.trans s).trans A).trans L).trans P).trans ab).trans ad).trans af).trans ao).trans av).trans n).trans bs), (ST.jT d (lm.mem Sn)), f6, (.slice d0 I.length d3), rfl, rfl, (b9.mono (Pl.mono _) (a8.trans f4)), l1⟩
 refine bC b6 (fun b4 b6 => ?_) (fun b4 b6 => ?_)
 ·refine un b4 (un b4 (V (jq (cB b4) rfl) ?_))
  obtain rfl := sj b6
  exact f5 _ _ ⟨_, (d.iU St), rfl, rfl, rfl, rfl, rfl⟩
 refine ug b4 (jd rfl) (ug b4 (kd rfl rfl rfl) (V (jn (cB b4) rfl) ?_))
 obtain rfl := sj b6
 exact f5 _ _ ⟨_, (d.iU St), rfl, rfl, rfl, rfl, rfl⟩
theorem DO (a : iR) (r : Bool) (w : World) (hm : tD a = some r) :
  jv true pg0 156 [(.agg (iT a).toArray)] w (.bool r) := by
 refine cG 6 func156 rfl (fun d => sg (VE (jF d rfl (fun g j d => Wa (lr (VA d Mh (iT a) an ag (bS hm fun k c hm => VE (Eg d gT (pP a _ _  c) (fun i d => V (lj rfl) (Wa (jC ?_)))))))))))
 refine jb ?_
 exact jz (rQ hm d)
theorem FX (a : jP) (z y : Value) (r : Bool) (w : World) (i : Sl (Pl iT) 2 (hp w) z a.jL) (I : Sl (Pl ji) 12 (hp w) y a.jQ) (hm : vk a = some r) :
  jv false pg0 91 [(.agg #[(.int .i64 a.State), (.int .i64 a.mq), z, y])] w (.bool r) := by
 refine cG 33 func91 rfl (fun d => sg ?_)
 obtain ⟨U, Y, rfl⟩ := i.form
 obtain ⟨Z, c4, rfl⟩ := I.form
 let a0 := (C2 a.State a.mq U a.jL.length Y Z a.jQ.length c4)
 refine VE (jF d rfl (fun W6 J d => Wa (lr (Wf zY (VB d Mh rfl rfl bF (Wi rfl (Wm (LJ hm (fun R E W => ∃ L9, ST false jD w W (hp w) ((J, Ol a0 64) :: L9) ∧ E 1 = (.pointer (some ⟨J, 0, none⟩)) ∧ E 2 = (.bool false) ∧ E 10 = (.bool R)) 4 ?_ (fun R H T => ?_)))))))))
 ·let h : Value := (.pointer (some ⟨J, 0, none⟩))
  rintro x8 E W ⟨L9, d, a2, a9, c9⟩ c0
  refine Wh c9 (LJ c0 (fun P E W => ∃ a5, ST false jD w W (hp w) ((J, Ol a0 64) :: a5) ∧ E 1 = h ∧ E 2 = (.bool false) ∧ E 15 = (.bool P)) 4 ?_ (fun P G Q => ?_))
  ·rintro d8 E W ⟨a5, d, a3, p, d0⟩ c1
   refine Wh d0 (LJ c1 (fun L E W => ∃ m, ST false jD w W (hp w) ((J, Ol a0 64) :: m) ∧ E 1 = h ∧ E 2 = (.bool false) ∧ E 20 = (.bool L)) 4 ?_ (fun L D N => ?_))
   ·rintro d9 E W ⟨m, d, a4, q, d1⟩ c3
    refine Wh d1 (LJ c3 (fun A E W => ∃ n, ST false jD w W (hp w) ((J, Ol a0 64) :: n) ∧ E 1 = h ∧ E 2 = (.bool false) ∧ E 26 = (.bool A)) 5 ?_ (fun A B M => ?_))
    ·rintro e0 E W ⟨n, d, d2, s, d3⟩ c5
     refine Wh d3 (LJ c5 (fun v E W => ∃ o, ST false jD w W (hp w) o ∧ E 2 = (.bool false) ∧ E 32 = (.bool v)) 5 ?_ (fun v t K => ?_))
     ·rintro e1 E W ⟨o, d, d6, d4⟩ c6
      exact Wg d4 (lt (rQ c6 d))
     refine bC t (fun g t => ?_) (fun g t => ?_)
     ·refine ug g (iY rM d2) (ug g (iW rfl (jg d.has Mh rfl dK)) (bS t fun d7 c7 t => oH g (Eg d call142 (uS (.slice U a.jL.length Y) a.jL (.func (.func 156) #[] #[]) (fun (x : iR) => tD x) _ _ (i.mono (Pl.mono _) d.jf) ⟨156, #[], #[], rfl, call156, fun W x r hs hm => (DO x r W  hm).kw⟩ c7) (fun d5 d => ug g (lj rfl) (V (jq (cB g) rfl) ?_)))))
      obtain rfl := sj t
      exact K _ _ ⟨_, (d.iU (Db St)), s, rfl⟩
     refine un g (un g (un g (un g (V (jn (cB g) rfl) ?_))))
     obtain rfl := sj t
     exact K _ _ ⟨_, (d.iU (Db St)), s, rfl⟩
    refine bC B (fun c B => ?_) (fun c B => ?_)
    ·refine ug c (iY rM a4) (ug c (iW rfl (jg d.has Mh rfl dK)) (ug c (jO al rfl i) (ug c (kd rfl rfl rfl) (V (jq (cB c) rfl) ?_))))
     obtain rfl := sj B
     exact M _ _ ⟨_, (d.iU St), a4, q, rfl⟩
    refine un c (un c (un c (un c (V (jn (cB c) rfl) ?_))))
    obtain rfl := sj B
    exact M _ _ ⟨_, (d.iU St), a4, q, rfl⟩
   refine bC D (fun k D => ?_) (fun k D => ?_)
   ·refine ug k (iY Dp a3) (ug k (iW rfl (jg d.has Mh rfl iF)) (ug k (kd rfl rfl rfl) (V (jq (cB k) rfl) ?_)))
    obtain rfl := sj D
    exact N _ _ ⟨_, (d.iU St), a3, p, rfl⟩
   refine un k (un k (un k (V (jn (cB k) rfl) ?_)))
   obtain rfl := sj D
   exact N _ _ ⟨_, (d.iU St), a3, p, rfl⟩
  refine bC G (fun j G => ?_) (fun j G => ?_)
  ·refine ug j (iY Dp a2) (ug j (iW rfl (jg d.has Mh rfl iF)) (ug j (kd rfl rfl rfl) (V (jq (cB j) rfl) ?_)))
   obtain rfl := sj G
   exact Q _ _ ⟨_, (d.iU St), a2, a9, rfl⟩
  refine un j (un j (un j (V (jn (cB j) rfl) ?_)))
  obtain rfl := sj G
  exact Q _ _ ⟨_, (d.iU St), a2, a9, rfl⟩
 refine bC H (fun u H => ?_) (fun u H => ?_)
 ·refine ug u (iY zY rfl) (ug u (iW rfl (jg d.has Mh rfl bF)) (ug u (kd rfl rfl rfl) (V (jq (cB u) rfl) ?_)))
  obtain rfl := sj H
  exact T _ _ ⟨_, (d.iU St), rfl, rfl, rfl⟩
 refine un u (un u (un u (V (jn (cB u) rfl) ?_)))
 obtain rfl := sj H
 exact T _ _ ⟨_, (d.iU St), rfl, rfl, rfl⟩
theorem AB (g : Value) (t : List jk) (j : Value) (B : jk → Option Bool) (r : Int) (w : World) (c : Sl (Pl ji) 12 (hp w) g t) (D : qt pg0 j (hp w) (fun (x : jk) => [(.agg (ji x).toArray)]) (fun (r : Bool) => (.bool r)) B) (hm : sT t B = some r) :
  jv false pg0 205 [g, j] w (.int .i64 r) := by
 refine cG 19 func205 rfl (fun d => sg (Wa (lS (Wm (V (jO au rfl c) (Wm (ln (jG (fun i E W => ∃ k, (E 8 = .int .i64 (i : Nat) ∧ E 7 = .int .i64 (t.length : Nat)) ∧ ST false jD w W (hp w) k ∧ E 0 = g ∧ E 1 = j ∧ nm B (t.drop i) i = some r) t.length c.len ⟨_, ⟨rfl, rfl⟩, (d.iU St), rfl, rfl, hm⟩ dc dc dc (fun _ _ _ h => by obtain ⟨_, n, _⟩ := h; exact n) ?_ ?_))))))))
 ·rintro Q E W H ⟨k, ⟨m, o⟩, d, u, y, a⟩
  obtain ⟨z, T, M, K, N⟩ := jB H
  rw [M] at a
  refine bg (Wh m (Wa (lr (Wh y (Wh u (Wm (VQ (kk (enc := ji) (i := (Q : Int)) (x0 := z) au aV rfl rfl c (ah _) K) (fun Y I => V (iW rfl (jX d.has I da aV)) (bS a fun Z J a => ?_)))))))))
  refine VE (xV z d D (js.refl _) rfl (nr rfl) J (fun U d => ln (CI a rfl (fun G a => ?_) (fun G a => ?_))))
  ·refine sg (Wm (Wa (lt (ko (jx (ko (jx ?_)))))))
   obtain rfl := sj a
   exact rP d
  exact jJ (jI (jb ⟨m, _, ⟨rfl, o⟩, (d.iU St), u, y, (by rw [N]; exact a)⟩))
 rintro E W ⟨k, ⟨m, o⟩, d, u, y, a⟩
 rw [ai] at a
 exact jb (sg (Wa (lt (rQ a d))))
theorem ze (a : Value) (g : List jk) (c : Value) (i : jk → Option Bool) (r : Bool) (w : World) (j : Sl (Pl ji) 12 (hp w) a g) (k : qt pg0 c (hp w) (fun (x : jk) => [(.agg (ji x).toArray)]) (fun (r : Bool) => (.bool r)) i) (hm : oX g i = some r) :
  jv false pg0 158 [a, c] w (.bool r) := by
 refine cG 9 func158 rfl (fun d => sg (Wa (lr (Wm (Wm (bS hm fun y t hm => VE (Eg d call205 (AB a g c i _ _ (j.mono (Pl.mono _) d.jf) (k.mono d.jf) t) (fun u d => Wi rfl (Wa (jC ?_))))))))))
 exact jb (jz (rQ hm d))
theorem HS (i : jk) (r : Bool) (w : World) (hm : wQ i = some r) :
  jv true pg0 160 [(.agg (ji i).toArray)] w (.bool r) := by
 refine cG 21 func160 rfl (fun d => sg (VE (jF d rfl (fun Z H d => Wa (lr (Wf uX (VA d Mh (iX i.iS) aS ak (bS hm fun h N hm => VE (Eg d iD (rf i.iS _ _  N) (fun W5 d => Wm (LJ hm (fun z E W => ∃ G, ST true jD w W (hp w) ((H, Ol (ji i) 140) :: G) ∧ E 1 = (.pointer (some ⟨H, 0, none⟩)) ∧ E 2 = (.bool false) ∧ E 14 = (.bool z)) 8 ?_ (fun z j t => ?_))))))))))))
 ·rintro m E W ⟨G, d, I, x, J⟩ M
  refine Wh J (LJ M (fun y E W => ∃ u, ST true jD w W (hp w) u ∧ E 2 = (.bool false) ∧ E 20 = (.bool y)) 5 ?_ (fun y g k => ?_))
  ·rintro Y E W ⟨u, d, T, K⟩ B
   exact Wg K (lt (rQ B d))
  refine bC g (fun c g => ?_) (fun c g => ?_)
  ·refine ug c (iY od I) (ug c (iY pU rfl) (ug c (iW rfl (jg d.has Mh rfl aH)) (bS g fun U D g => oH c (Eg d iC (qU i.iV.jA _ _  D) (fun Q d => V (jq (cB c) rfl) ?_)))))
   obtain rfl := sj g
   exact k _ _ ⟨_, (d.iU (Db St)), x, rfl⟩
  refine un c (un c (un c (un c (V (jn (cB c) rfl) ?_))))
  obtain rfl := sj g
  exact k _ _ ⟨_, (d.iU (Db St)), x, rfl⟩
 refine bC j (fun a j => ?_) (fun a j => ?_)
 ·refine ug a (iY od rfl) (ug a (iY vB rfl) (ug a (iW rfl (jc d.has Mh (iT i.iV.iR) rfl an ag)) (ug a (iY uX rfl) (ug a (iY mY rfl) (ug a (iW rfl (jc d.has Mh (iT i.iS.Head) rfl an ag)) (ug a (rn rfl rfl (kV bT) (nE (me _ i.iV.iR i.iS.Head))) (V (jq (cB a) rfl) ?_)))))))
  obtain rfl := sj j
  exact t _ _ ⟨_, (d.iU St), rfl, rfl, rfl⟩
 refine un a (un a (un a (un a (un a (un a (un a (V (jn (cB a) rfl) ?_)))))))
 obtain rfl := sj j
 exact t _ _ ⟨_, (d.iU St), rfl, rfl, rfl⟩
theorem G5 (a : jk) (r : Bool) (w : World) (hm : wk a = some r) :
  jv true pg0 159 [(.agg (ji a).toArray)] w (.bool r) := by
 refine cG 6 func159 rfl (fun d => sg (VE (jF d rfl (fun g j d => Wa (lr (VA d Mh (ji a) da aV (bS hm fun k c hm => VE (Eg d call160 (HS a _ _  c) (fun i d => V (lj rfl) (Wa (jC ?_)))))))))))
 refine jb ?_
 exact jz (rQ hm d)
theorem Ax (g : Nat) (c : Value) (j : List Int) (a : LO) (i : Value) (D : List Int) (r : (Bool × (List Int))) (w : World) {I : jw} (M : nR I ((g, Ob #[c] 81) :: (a ++ [])) w) (k : jl 5 (jN .u8) 1 c j a) (y : Sl (Pl (jN .u8)) 1 I i D) (hm : sH j D = some r) :
  jY true pg0 95 [(.pointer (some ⟨g, 0, none⟩)), i] w ((g, Ob #[c] 81) :: (a ++ [])) (fun v J W' => ∃ H B, v = (.bool (r.1)) ∧ J = ((g, Ob #[H] 81) :: (B ++ [])) ∧ jl 5 (jN .u8) 1 H r.2 B) := by
 refine wJ M 16 func95 rfl (fun d => sg (Wa (lS (Wm (V (qS dL rfl rfl) (ln (nW rfl (jJ ?_))))))))
 refine jb (sg (Wm (Wm (Wn (Wf xF (VB d Mh rfl rfl fD (Wm ?_)))))))
 replace d := d.perm (Nr (Qb Qz) Nz)
 refine bS hm fun z G hm => VE (kX (enc := (jN .u8)) (v := c) (vs := i) (R := a) d (fun _ => rfl) dc (Fw _) bI ru.1 ru.2.1 rfl ru.2.2.1 ru.2.2.2 rfl rfl k (y.mono (Pl.mono _) d.jf) G (fun N T K d t => Wn (Wf xF ?_)))
 obtain ⟨u, x, rfl⟩ := t.form
 replace d := d.perm (Nb (Pr Pz) Nz)
 refine VO (jy (.slice u z.length x) (#[(.slice u z.length x)]) d rfl rfl gI oc nb rfl (fun Q d => lr (Wa (lt ?_))))
 obtain rfl := sj hm
 exact jR (v := (.bool true)) rfl rfl ⟨_, _, rfl, (d.kC (Kb (Kr Sn))), (.slice u z.length x), K, rfl, rfl, t⟩
theorem HP (c : Nat) (j : Value) (Z : List Int) (g : LO) (I : Value) (n : List jk) (r : (Bool × (List Int))) (w : World) {μ0 : jw} (h0 : nR μ0 ((c, Ob #[j] 81) :: (g ++ [])) w) (T : jl 5 (jN .u8) 1 j Z g) (y : Sl (Pl ji) 12 μ0 I n) (hm : w4 Z n = some r) :
  jY false pg0 92 [(.pointer (some ⟨c, 0, none⟩)), I] w ((c, Ob #[j] 81) :: (g ++ [])) (fun v L1 W' => ∃ y1 S2, v = (.bool (r.1)) ∧ L1 = ((c, Ob #[y1] 81) :: (S2 ++ [])) ∧ jl 5 (jN .u8) 1 y1 r.2 S2) := by
 let a0 := ((c, Ob #[j] 81) :: (g ++ []))
 refine wJ h0 39 func92 rfl (fun d => sg (Wa (lS (Wm (V (qS dL rfl rfl) (Wm (Vg rfl rfl (jd rfl) (Vg rfl rfl (jO au rfl y) (Vg rfl rfl (kd rfl rfl rfl) ?_)))))))))
 refine V (jn rfl rfl) (Wm (LJ hm (fun a7 E W => ∃ L6, ST false (keys a0) w W μ0 ((c, Ob #[j] 81) :: (g ++ L6)) ∧ E 0 = (.pointer (some ⟨c, 0, none⟩)) ∧ E 1 = I ∧ E 17 = (.bool a7)) 3 ?_ (fun a7 k U => ?_)))
 ·rintro x5 E W ⟨L6, d, e8, e9, e3⟩ G
  refine ln (CI G e3 (fun c8 G => ?_) (fun c8 G => ?_))
  ·refine sg (Wa (lt (jx ?_)))
   obtain rfl := sj G
   exact jR (v := (.bool false)) rfl rfl ⟨_, _, rfl, (d.kC (Kb (Kr Sn))), j, g, rfl, rfl, T⟩
  refine kg (Wh e8 (Wh e9 (V (jO au rfl y) (bS G fun e6 c9 G => ?_))))
  refine VE (eM d (Cb Pz (Cr Qz Cn)) call93 (fun s _ => jY.kw (oF c j Z g (n.length : Int) _ _ s T c9)) ?_)
  rintro _ h5 c4 h3 d b2 ab m ⟨f0, e2, a3, rfl, d0⟩
  obtain rfl := a3.symm
  replace d := d.perm (Tb (Tr Tn))
  refine lS (Wh e9 (V (jO au rfl y) (Wm (ln (jG (fun i E W => ∃ z H u Q Y, (E 24 = .int .i64 (i : Nat) ∧ E 23 = .int .i64 (n.length : Nat)) ∧ js c4 Q ∧ ST false (keys a0) w W Q ((c, Ob #[z] 81) :: (u ++ Y)) ∧ E 0 = (.pointer (some ⟨c, 0, none⟩)) ∧ E 22 = I ∧ jl 5 (jN .u8) 1 z H u ∧ qu (n.drop i) H = some r) n.length y.len ⟨f0, e6.2, e2, c4, _, ⟨rfl, rfl⟩, (js.refl _), (d.iU St), e8, rfl, d0, G⟩ dc dc dc (fun _ _ _ h => by obtain ⟨_, _, _, _, _, q, _⟩ := h; exact q) ?_ ?_)))))
  ·rintro d1 E W b1 ⟨z, H, u, Q, Y, ⟨p, eN⟩, D, d, J, a2, K, a⟩
   obtain ⟨t, f1, c0, b9, c1⟩ := jB b1
   rw [c0] at a
   refine bg (VQ (kk (enc := ji) (i := (d1 : Int)) (x0 := t) au aV a2 p (y.mono (Pl.mono _) (b2.trans D)) (ah _) b9) (fun g4 b3 => V (iW rfl (jX d.has b3 da aV)) (VE (jK d cu (fun f6 g2 d => VO (jy (.agg (ji t).toArray) ((ji t).toArray) d rfl rfl aV (qb t) nb rfl (fun f7 d => lr (Wh J (Wf uX (VA d Mh (iX t.iS) aS ak (bS a fun d2 b4 a => ?_)))))))))))
   refine VE (pT d call161 (jZ.kw (Ar t.iS _ _  b4)) (fun f8 d5 h1 f5 d a4 A b0 => bS a fun d3 b5 a => ?_))
   refine VE (F0 d (Cb (Pr (Pb Pz)) (Cr (Qr (Qb Qz)) Cn)) call95 (fun hH hN ad R => jY.kw (Ax c z H u d5 d2 _ _ ⟨hH, hN, js.refl _⟩ K (b0.sl (fun _ => rfl) (fun b o hq => R b o (Ml hq))) b5)) (fun f9 g8 h2 f3 d a5 L m a8 => ?_))
   obtain ⟨d6, c5, M, rfl, c2⟩ := a8
   replace M := M.symm; subst M
   replace d := d.perm (Tb (Tr Tn))
   refine ln ?_
   replace d := d.iU (Kb (Kr (Dr St)))
   refine jj (Wh J (Wf od (Wf pU (VB d (Mt (Ma Mh)) rfl rfl aH (bS a fun d4 b6 a => ?_)))))
   refine VE (eM d (Cb Pz (Cr Qz Cn)) call162 (fun s _ => jY.kw (vz c d6 d3.2 c5 t.iV.jA _ _ s c2 b6)) ?_)
   rintro _ g9 d9 f4 d a6 P m ⟨d7, c6, N, rfl, c3⟩
   obtain rfl := N.symm
   replace d := d.perm (Tb (Tr Tn))
   refine jC (jI (jb ?_))
   replace d := d.iU (Kb (Kr (Db St)))
   exact ⟨p, d7, d4.2, c6, d9, _, ⟨rfl, eN⟩, (((D.trans a4).trans a5).trans a6), (d.iU St), J, a2, c3, (by rw [c1]; exact a)⟩
  rintro E W ⟨z, H, u, Q, Y, ⟨p, eN⟩, D, d, J, a2, K, a⟩
  rw [ai] at a
  refine jb (sg (Wa (lt ?_)))
  obtain rfl := sj a
  exact jR (v := (.bool true)) rfl rfl ⟨_, _, rfl, (d.kC (Kb (Kr Sn))), z, u, rfl, rfl, K⟩
 refine bC k (fun B k => ?_) (fun B k => ?_)
 ·refine un B (un B (V (jq (cB B) rfl) ?_))
  obtain rfl := sj k
  exact U _ _ ⟨_, (d.iU St), rfl, rfl, rfl⟩
 refine ug B (jd rfl) (bS k fun g7 b7 k => oH B (Eg d call158 (ze I n (.func (.func 159) #[] #[]) (fun (x : jk) => wk x) _ _ (y.mono (Pl.mono _) d.jf) ⟨159, #[], #[], rfl, call159, fun W x r hs hm => (G5 x r W  hm).kw⟩ b7) (fun g1 d => V (jn (cB B) rfl) ?_)))
 obtain rfl := sj k
 exact U _ _ ⟨_, (d.iU St), rfl, rfl, rfl⟩
theorem FY (g : Nat) (u : Value) (a4 : List Int) (t : LO) (j : jP) (D B : Value) (r : (Bool × (List Int))) (w : World) {μ0 : jw} (h0 : nR μ0 ((g, Ob #[u] 81) :: (t ++ [])) w) (Z : jl 5 (jN .u8) 1 u a4 t) (a : Sl (Pl iT) 2 μ0 D j.jL) (y : Sl (Pl ji) 12 μ0 B j.jQ) (hm : tq a4 j = some r) :
  jY false pg0 36 [(.pointer (some ⟨g, 0, none⟩)), (.agg #[(.int .i64 j.State), (.int .i64 j.mq), D, B])] w ((g, Ob #[u] 81) :: (t ++ [])) (fun v L1 W' => ∃ y1 S2, v = (.bool (r.1)) ∧ L1 = ((g, Ob #[y1] 81) :: (S2 ++ [])) ∧ jl 5 (jN .u8) 1 y1 r.2 S2) := by
 let b4 := ((g, Ob #[u] 81) :: (t ++ []))
 refine wJ h0 52 func36 rfl (fun d => sg ?_)
 obtain ⟨A1, c2, rfl⟩ := a.form
 obtain ⟨A3, c4, rfl⟩ := y.form
 let a1 := (C2 j.State j.mq A1 j.jL.length c2 A3 j.jQ.length c4)
 refine VE (jF d rfl (fun W6 b5 d => Wa (lr (V (kT (v := (.agg #[(.slice none 0 0)])) uo (ku zeroValue81 dH (Of _ dH) kr)) (VE (jF d rfl (fun W8 p d => Wa (lS (Wm ?_)))))))))
 refine V (qS dL rfl rfl) (Wm (Vg rfl rfl (iW rfl (jc d.has (Mt Mh) a1 rfl dq bV)) (bS hm fun r9 f8 hm => ND rfl rfl (Eg d call91 (FX j (.slice A1 j.jL.length c2) (.slice A3 j.jQ.length c4) _ _ (a.mono (Pl.mono _) d.jf) (y.mono (Pl.mono _) d.jf) f8) (fun m1 d => Vg rfl rfl (lj rfl) (V (jn rfl rfl) (Wm (LJ hm (fun R E W => ∃ a2 s c7 e8, js μ0 c7 ∧ ST false (keys b4) w W c7 ((p, Ob #[a2] 81) :: ((b5, Ol a1 64) :: ((g, Ob #[u] 81) :: (s ++ (t ++ e8))))) ∧ E 0 = (.pointer (some ⟨g, 0, none⟩)) ∧ E 3 = (.pointer (some ⟨b5, 0, none⟩)) ∧ E 5 = (.pointer (some ⟨p, 0, none⟩)) ∧ E 23 = (.bool R.1) ∧ jl 5 (jN .u8) 1 a2 R.2 s) 6 ?_ (fun R z a0 => ?_)))))))))
 ·rintro ⟨m8, e9⟩ E W ⟨a2, s, c7, e8, d3, d, A, L, i4, i5, g2⟩ x
  refine ln (CI x i5 (fun f7 x => ?_) (fun f7 x => ?_))
  ·refine sg (Wa (ln ?_))
   replace d := d.iU (Db (Db (Kb (Dr St))))
   refine jz (jx ?_)
   obtain rfl := sj x
   exact jR (v := (.bool false)) rfl rfl ⟨_, _, rfl, (d.kC (Kb (Kr Sn))), u, t, rfl, rfl, Z⟩
  refine kg (Wh A (V (iY zY L) (VB d (Mt Mh) rfl rfl bF (bS x fun i8 f9 x => ?_))))
  refine VE (eM d (Cb (Pb (Pb Pz)) (Cr (Qb (Qb (Qr Qz))) Cn)) call93 (fun n _ => jY.kw (oF g u a4 t j.State _ _ n Z f9)) ?_)
  rintro _ m5 m9 l8 d d4 b6 m ⟨j4, i0, a7, rfl, g3⟩
  obtain rfl := a7.symm
  replace d := d.perm (Tb (Tr Tn))
  refine lr (Wh A (V (iY Dp L) (VB d (Mt (Ma (Mt Mh))) rfl rfl iF (bS x fun i9 g0 x => ?_))))
  refine VE (eM d (Cb Pz (Cr Qz Cn)) call93 (fun n _ => jY.kw (oF g j4 i8.2 i0 j.mq _ _ n g3 g0)) ?_)
  rintro _ m6 n0 l9 d d5 b9 m ⟨j5, i1, a8, rfl, g4⟩
  obtain rfl := a8.symm
  replace d := d.perm (Tb (Tr Tn))
  refine lr (Wh A (V (iY rM L) (VB d (Mt (Ma (Mt Mh))) rfl rfl dK (V (jO al rfl a) (bS x fun j0 g1 x => ?_)))))
  refine VE (eM d (Cb Pz (Cr Qz Cn)) call93 (fun n _ => jY.kw (oF g j5 i9.2 i1 (j.jL.length : Int) _ _ n g4 g1)) ?_)
  rintro _ m7 f0 m0 d d6 ba m ⟨j6, i2, a9, rfl, g7⟩
  obtain rfl := a9.symm
  replace d := d.perm (Tb (Tr Tn))
  refine lS (V (iY rM L) (VB d (Mt (Ma (Mt Mh))) rfl rfl dK (V (jO al rfl a) (Wm (ln ?_)))))
  replace d := d.iU (Kb (Kr (Kb (Db St))))
  refine jG (fun i E W => ∃ I H G Y a3, (E 40 = .int .i64 (i : Nat) ∧ E 39 = .int .i64 (j.jL.length : Nat)) ∧ js f0 Y ∧ ST false (keys b4) w W Y ((g, Ob #[I] 81) :: ((p, Ob #[a2] 81) :: (G ++ (s ++ a3)))) ∧ E 0 = (.pointer (some ⟨g, 0, none⟩)) ∧ E 5 = (.pointer (some ⟨p, 0, none⟩)) ∧ E 38 = (.slice A1 j.jL.length c2) ∧ jl 5 (jN .u8) 1 I H G ∧ pr e9 (j.jL.drop i) H = some r) j.jL.length a.len ⟨j6, j0.2, i2, f0, _, ⟨rfl, rfl⟩, (js.refl _), (d.iU (Kb (Sb (Pr Pz) St))), A, i4, rfl, g7, x⟩ dc dc dc (fun _ _ _ h => by obtain ⟨_, _, _, _, _, ab, _⟩ := h; exact ab) ?_ ?_
  ·rintro g8 E W d2 ⟨I, H, G, Y, a3, ⟨eI, eN⟩, K, d, M, a5, P, N, c⟩
   obtain ⟨J, j7, e3, e2, e4⟩ := jB d2
   rw [e3] at c
   refine bg (VQ (kk (enc := iT) (i := (g8 : Int)) (x0 := J) al ag P eI (a.mono (Pl.mono _) ((((d3.trans d4).trans d5).trans d6).trans K)) (ah _) e2) (fun l1 d7 => V (iW rfl (jX d.has d7 an ag)) (VE (jK d bo (fun k3 k9 d => VO (jy (.agg (iT J).toArray) ((iT J).toArray) d rfl rfl ag (lh J) nb rfl (fun k4 d => ln (jj (Wh M (VA d Mh (iT J) an ag (bS c fun g9 d8 c => ?_)))))))))))
   refine VE (eM d (Cb (Pb Pz) (Cr (Qb (Qb Qz)) Cn)) call94 (fun n _ => jY.kw (uq g I H G J _ _ n N d8)) ?_)
   rintro _ l3 h7 j9 d c3 ad m ⟨h4, f1, Q, rfl, e5⟩
   obtain rfl := Q.symm
   replace d := d.perm (Tb (Tr Tn))
   refine jC (jI (jb ?_))
   replace d := d.iU (Kb (Kr (Db St)))
   exact ⟨eI, h4, g9.2, f1, h7, _, ⟨rfl, eN⟩, (K.trans c3), (d.iU (Kb (Sb (Pr Pz) St))), M, a5, P, e5, (by rw [e4]; exact c)⟩
  rintro E W ⟨I, H, G, Y, a3, ⟨eI, eN⟩, K, d, M, a5, P, N, c⟩
  rw [ai] at c
  refine jb (sg (Wh M (Wh a5 (bS c fun h1 d9 c => VE (pT d call37 (jZ.kw (xg p a2 e9 _ _ (g2.sl (fun _ => rfl) (fun b o hq => d.at_ (Mt (Mt (Ma (Ml hq)))))) (At.of (d.at_ (Mt Mh)) _ rfl) d9)) (fun k6 h3 l6 k2 d i6 af d1 => bS c fun h2 e0 c => ?_))))))
  refine VE (F0 d (Cb (Pr Pz) (Cr (Qr (Qb Qz)) Cn)) call95 (fun hH hN q aE => jY.kw (Ax g I H G h3 h1 _ _ ⟨hH, hN, js.refl _⟩ N (d1.sl (fun _ => rfl) (fun b o hq => aE b o (Ml hq))) e0)) (fun k7 l4 l7 k0 d i7 ao m c9 => ?_))
  obtain ⟨h5, f2, T, rfl, e6⟩ := c9
  replace T := T.symm; subst T
  replace d := d.perm (Tb (Tr Tn))
  refine Wa (ln ?_)
  replace d := d.iU (Kb (Kr (Dr (Db (Dr St)))))
  refine jz ?_
  obtain rfl := sj c
  exact jR (v := (.bool h2.1)) rfl rfl ⟨_, _, rfl, (d.kC (Kb (Kr Sn))), h5, f2, rfl, rfl, e6⟩
 refine bC z (fun k z => ?_) (fun k z => ?_)
 ·refine un k (un k (un k (un k (un k (V (jq (cB k) rfl) ?_)))))
  obtain rfl := sj z
  exact a0 _ _ ⟨(.slice none 0 0), [], μ0, _, (js.refl _), (d.iU St), rfl, rfl, rfl, rfl, (jl.nil _ _ _)⟩
 refine ug k (jd rfl) (ug k (iY ui rfl) (ug k (iW rfl (jg d.has (Mt Mh) rfl eF)) (bS z fun l2 e1 z => ?_)))
 refine oH k (eM d (Cb Pz (C0 Cn)) call92 (fun n q => (HP p (.slice none 0 0) ([]) [] (.slice A3 j.jQ.length c4) j.jQ _ _ n (jl.nil _ _ _) (y.mono (Pl.mono _) q) e1)) ?_)
 rintro _ l5 h8 k1 d c5 av m ⟨h6, f3, U, rfl, e7⟩
 obtain rfl := U.symm
 replace d := d.perm (Tb (Tr Tn))
 refine ug k (lj rfl) (V (jn (cB k) rfl) ?_)
 obtain rfl := sj z
 exact a0 _ _ ⟨h6, f3, h8, _, c5, (d.iU (Kb (Sb (Pr Pz) (Sb (Pr Pz) St)))), rfl, rfl, rfl, rfl, e7⟩
theorem CN {dd : Bool} {F : Nat → Prop} {w W : World} {μ : jw} {L : LO} (o t : Nat) (z I : Value) (c y : Int) (u : FrameMode) (m : ST dd F w W μ ((o, .cells #[z, I] 158 (0, 0)) :: (t, .cells #[.int .i64 c] 62 (0, 0)) :: L)) (hu : (u = .returning ∧ y = c) ∨ u = .panicking [{ v := uC 217 o y, recovered := false }]) :
  CallsD pg0 98 #[.pointer (some ⟨o, 0, none⟩), .pointer (some ⟨t, 0, none⟩)] u W fun e G W' => e = .returned (.tuple #[]) ∧ settle G = .returning ∧ ST dd F w W' μ ((o, .cells #[z, .bool true] 158 (0, 0)) :: (t, .cells #[.int .i64 y] 62 (0, 0)) :: L) := by
 refine callsD_of_wpS func98 rfl fun p D x => RD (n := 31) (jj (Wm (Wn (Wf GS (VO (zU [] (.bool true) #[z, .bool true] m rfl rfl sizeOf4 oc (aJ 2) rfl (fun g m => jC ⟨rfl, fun a s => wpS_seq ?_⟩))))))) (Ja (args := [.pointer (some ⟨o, 0, none⟩), .pointer (some ⟨t, 0, none⟩)]) Tryz.ntmps98 nb)
 rcases hu with ⟨rfl, rfl⟩ | rfl
 ·refine EO (n := 31) (d := 10) (d2 := 4) (v := .nilIface) (cs' := { p with mode := .returning } :: D) dc dc rfl rfl rfl rfl (fun _ => rfl) (fun E h => mw h) (.inr ⟨?_, rfl, ?_⟩) s (fun a s => ?_)
  ·simp only [recoverD, x]
  ·rw [← x]
  exact KA (u := .returning) Tryz.results98 (jm (sg (Wm (V (PY underlying20 rfl rfl) (ln (vN rfl (jz (jx ⟨.inr rfl, rfl, rfl, m⟩)))))))) s
 refine EO (n := 31) (d := 10) (d2 := 4) (v := uC 217 o y) (cs' := { p with mode := .panicking [{ v := uC 217 o y, recovered := true }] } :: D) dc dc rfl rfl rfl rfl (fun _ => rfl) (fun E h => mw h) (.inl ?_) s (fun a s => ?_)
 ·simp only [recoverD, x]
 refine KA (u := .panicking [{ v := uC 217 o y, recovered := true }]) Tryz.results98 (jm (sg (Wm (V (Qk underlying20 rfl rfl) (ln (nW rfl (kg (Wm (V (LC dQ (by intro q h; cases h) rfl) ?_))))))))) s
 refine Wm (Wx rfl (Wx rfl (VE (jK m zeroValue217 (fun i J m => VO (zU [] (.agg #[.pointer (some ⟨o, 0, none⟩), .int .i64 y]) #[.pointer (some ⟨o, 0, none⟩), .int .i64 y] m rfl rfl sizeOf217 oc (aJ 2) rfl (fun j m => Wa (lS (Wm (V (lj rfl) (Wm (Vg rfl rfl (iY P5 rfl) ?_))))))))))))
 refine Vg rfl rfl (iW rfl (jg m.has Mh rfl isAgg89)) (Vg rfl rfl (jd rfl) (Vg rfl rfl (J5 iG sizeOf158 rfl rfl) (V (jn rfl rfl) (ln (nW rfl (kn (jj (Wm (Wf Qc (VB m Mh rfl rfl iF (Wn (VO (zU [_, _] (.int .i64 y) #[.int .i64 y] m rfl rfl sizeOf62 oc (aJ 1) rfl (fun k m => ?_))))))))))))))
 exact jC ⟨.inl rfl, rfl, rfl, ST.drop (A := []) m⟩
theorem JU {S : Type} (fk : Nat) (a : Array Value) (N : Value) (T b : List Int) (s : Int ⊕ S) (rd : S → List Int) (w : World) {Q : jw} {j : LO} (h0 : nR Q j w) (hb : Sl (Pl (jN .u8)) 1 Q N T) (Y : nq T = some b) (K : S → LO → jw → Prop) (X : Int → LO → jw → Prop) (H : ∀ args w, (callFunc fk args).run pg0 w = .ok (.enter fk args) w) (hf : ∀ (w' : World) (μ' : jw) (o : Nat) (G : Value), nR μ' ((o, Obj.cells #[G, .bool false] 158 (0, 0)) :: j) w' → js Q μ' → Sl (Pl (jN .u8)) 1 μ' G b →
   jH true pg0 fk (.pointer (some ⟨o, 0, none⟩) :: a.toList) w' μ' ((o, Obj.cells #[G, .bool false] 158 (0, 0)) :: j) s (fun r v B u => ∃ y z L', B = (o, Obj.cells #[y, z] 158 (0, 0)) :: L' ∧ Sl (Pl (jN .u8)) 1 u y (rd r) ∧ K r L' u)
    (fun x c B u => ∃ y z L', c = [{ v := uC 217 o x, recovered := false }] ∧ B = (o, Obj.cells #[y, z] 158 (0, 0)) :: L' ∧ X x L' u)) :
  oq true pg0 39 [N, .func (.func fk) #[] a] w Q j (fun v B u => v = .int .i64 (FE rd s) ∧ Pe K X s B u) := by
 refine Nd ?_
 have m := ST.ur (dd := true) h0
 refine JG (n := 22) func39 rfl rfl nb (KE (jj (VE (jK m zeroValue62 (fun W1 P m => jC ⟨rfl, (KE (jj (Wm (VE (pT m call96 (zf N T _ _ (hb.mono (Pl.mono _) m.jf) Y) (fun W2 v2 ab R2 m g a1 U => ?_))))))⟩)))))
 obtain ⟨ad, m, i, a6, J⟩ := ST.yk m U (fun _ => rfl)
 obtain ⟨A, c, rfl⟩ := J.form
 refine V (kT (v := (.agg #[.slice A b.length c, .bool false])) (ma rfl) (ku zeroValue158 fT (Ss _ fT) kr)) (VE (jF m rfl (fun W3 o m => Wa (jC ⟨rfl, (Rx (LN (Su (.inl rfl) rfl dc (jd rfl) (MF (d := ⟨.fn (.func 98) #[], #[.pointer (some ⟨o, 0, none⟩), .pointer (some ⟨P, 0, none⟩)]⟩) (.inl rfl) rfl (MY (args := [.pointer (some ⟨o, 0, none⟩), .pointer (some ⟨P, 0, none⟩)]) rfl (by exact nB rfl rfl)) (jb (zP (zP (xZ (yD (.inl rfl) rfl dc (jd rfl) (yD (.inl rfl) rfl dc (JX underlying91 rfl rfl) (BN ?_)))))))))))⟩))))
 refine jb (JS rfl (xZ (yD (.inl rfl) rfl dc (jd rfl) (yD (.inl rfl) rfl dc (jd rfl) ?_))))
 have hP : List.Perm ((o, Obj.cells (.agg #[.slice A b.length c, .bool false] : Value).cells 158 (0, 0)) :: (P, Obj.cells (Value.int IntKind.i64 0).cells 62 (0, 0)) :: j) (((o, Obj.cells #[.slice A b.length c, .bool false] 158 (0, 0)) :: j) ++ [(P, Obj.cells (Value.int IntKind.i64 0).cells 62 (0, 0))]) := List.Perm.cons _ (cJ (l₁ := [_]))
 have hB : ∀ {M : LO} {p q : Nat × Obj}, ((p :: M) ++ [q]).Perm (p :: q :: M) := List.Perm.cons _ (cJ (l₂ := [_]))
 rcases s with x | r
 ·refine Sq (.inl rfl) (lN (args := [(.pointer (some ⟨o, 0, none⟩))]) (caps := a) _ _ m hP rfl H (by exact nr rfl) (fun hH hN W a8 => jH.l (hf _ _ o _ ⟨hH, hN, W⟩ (g.trans i) J)) (fun W4 cc Z L4 m D R hX => ?_))
  obtain ⟨y, z, L', rfl, rfl, hX⟩ := hX
  replace m := m.perm hB
  intro E' a7
  refine kZ (IC (by simp) call98 (CN _ _ _ _ 0 x _ m (.inr rfl)) (fun I m => tw (v := .int .i64 x) rfl (a7 4) (jg m.has (.tail _ (.head _)) rfl iF) ?_))
  have m := ST.drop (A := []) (ST.drop (A := []) m)
  exact ⟨_, _, _, rfl, m.QS, (g.trans i).trans D, (a1.trans a6).trans R, m.jT (fun _ h => h), rfl, hX⟩
 refine Sy (.inl rfl) rfl dc (JL (args := [(.pointer (some ⟨o, 0, none⟩))]) (caps := a) _ _ m hP rfl H (by exact nr rfl) (fun hH hN W a8 => jH.r (hf _ _ o _ ⟨hH, hN, W⟩ (g.trans i) J)) (fun W4 v4 Z L4 m D R hK => ?_))
 obtain ⟨y, z, L', rfl, hy, hK⟩ := hK
 replace m := m.perm hB
 refine BN (jb (zP (zP (xZ (yD (.inl rfl) rfl dc (jd rfl) (yD (.inl rfl) rfl dc (lb rfl) (yD (.inl rfl) rfl dc (iY vP rfl) (yD (.inl rfl) rfl dc (iW rfl (jg m.has (.head _) rfl fD)) (yD (.inl rfl) rfl dc (jO bI rfl hy) (yD (.inl rfl) rfl dc (kd rfl rfl rfl) (BN (jb ?_))))))))))))
 have L : ∀ (k : Int) (E : Nat → Value) (I : World), E 4 = .pointer (some ⟨P, 0, none⟩) → k = (if (rd r).length > 0 then 13 else 0) → ST true (keys j) w I Z ((o, Obj.cells #[y, z] 158 (0, 0)) :: (P, Obj.cells #[.int .i64 k] 62 (0, 0)) :: L') → ∀ tmps : Array Value, (∀ t, tmps.getD t undef = E t) → Leaves pg0 Tryz.f39 tmps (Pm true w Q j (fun v B u => v = .int .i64 (FE rd (.inr r)) ∧ Pe K X (.inr r) B u)) [⟨.fn (.func 98) #[], #[.pointer (some ⟨o, 0, none⟩), .pointer (some ⟨P, 0, none⟩)]⟩] .returning I := fun k E I h4 hk m => by
  refine IC (by simp) call98 (CN _ _ _ _ k k _ m (.inl ⟨rfl, rfl⟩)) (fun W6 m => tw (v := .int .i64 k) rfl h4 (jg m.has (.tail _ (.head _)) rfl iF) ?_)
  have m := ST.drop (A := []) (ST.drop (A := []) m)
  exact ⟨_, _, _, rfl, m.QS, (g.trans i).trans D, (a1.trans a6).trans R, m.jT (fun _ h => h), by rw [hk, FE], hK⟩
 refine NK (b := decide (((rd r).length : Int) > 0)) rfl (fun hq => ?_) (fun hq => ?_)
 ·exact zP (xZ (NB (.inl rfl) rfl (zU [_] (.int .i64 13) #[.int .i64 13] m rfl rfl sizeOf62 oc (aJ 1) rfl (fun I m => BN (jb (KU (jx (L 13 _ _ rfl (by rw [aq (by simpa using hq)]) m))))))))
 exact Oq (jb (zP (xZ (NB (.inl rfl) rfl (zU [_] (.int .i64 0) #[.int .i64 0] m rfl rfl sizeOf62 oc (aJ 1) rfl (fun I m => BN (jb (KU (L 0 _ _ rfl (by rw [ap (by simpa using hq)]) m)))))))))
theorem zt (i : Nat) (c : Value) (g : List Int) (a r : Bool) (w : World) (k : Sl (Pl (jN .u8)) 1 (hp w) c g) (j : At (hp w) (.pointer (some ⟨i, 0, none⟩)) [c, (.bool a)]) (hm : rS g a = some r) :
  jv true pg0 163 [(.pointer (some ⟨i, 0, none⟩))] w (.bool r) := by
 refine cG 11 func163 rfl (fun d => sg (Wa (lr (Wm (V (qS iG rfl rfl) (Wm (Vg rfl rfl (jd rfl) (Vg rfl rfl (lb rfl) (SF rfl rfl (vK [(.bool a)] GS rfl j rfl) (fun u t => Vg rfl rfl (iW rfl (lC d.has (y := (.bool a)) t isAgg4)) ?_))))))))))
 exact V (jn rfl rfl) (Wa (lt (rQ hm d)))
theorem kj (a : Nat) (t : jo) (g : Value) (B : Int) (s : (Int ⊕ Unit)) (w : World) {D : jw} (T : nR D ((a, Ob #[g, (.bool t.kE)] 158) :: []) w) (I : Sl (Pl (jN .u8)) 1 D g t.b) (hm : kJ t B = some s) :
  jH true pg0 165 [(.pointer (some ⟨a, 0, none⟩)), (.int .i64 B)] w D ((a, Ob #[g, (.bool t.kE)] 158) :: []) s (fun r v G U => v = (.tuple #[]) ∧ G = ((a, Ob #[g, (.bool t.kE)] 158) :: [])) (fun x c G U => ∃ y z, c = [{ v := uC 217 a x, recovered := false }] ∧ G = ((a, Ob #[y, z] 158) :: [])) := by
 have d := ST.ur (dd := true) T
 refine oL (n := 21) func165 rfl rfl nb (sg (Wm (V (zI iG rfl rfl) (Wm (Vg rfl rfl (jd rfl) (Vg rfl rfl (lb rfl) (Vg rfl rfl (iY GS rfl) (Vg rfl rfl (iW rfl (jg d.has Mh rfl isAgg4)) (Vg rfl rfl (lj rfl) (V (jq rfl rfl) (Wm (LJ hm (fun K E W => ∃ H, ST true (keys ((a, Ob #[g, (.bool t.kE)] 158) :: [])) w W D ((a, Ob #[g, (.bool t.kE)] 158) :: H) ∧ E 0 = (.pointer (some ⟨a, 0, none⟩)) ∧ E 1 = (.int .i64 B) ∧ E 16 = (.bool K)) 3 ?_ (fun K j u => ?_)))))))))))))
 ·rintro Y E W ⟨H, d, M, N, Q⟩ k
  refine ln (CI k Q (fun J k => ?_) (fun J k => ?_))
  ·refine jj (Wh M (Wh N (V (kT (v := (.agg #[(.pointer (some ⟨a, 0, none⟩)), (.int .i64 B)])) (nz rfl rfl) (ku zeroValue217 dQ (R7 _ dQ) kr)) (V (PN dQ (by intro q h; cases h) rfl) (px (.inl rfl) (Pv rfl (mR ?_)))))))
   obtain rfl := sj k
   exact kP.li ⟨_, _, _, rfl, (d.kC (Kb Sn)), (js.refl _), Lo.refl, (ST.jT d (lm.mem (Kb Sn))), ⟨_, _, rfl, rfl⟩⟩
  refine jJ (Lh (tG ?_))
  obtain rfl := sj k
  exact sI rfl (kP.ri ⟨_, _, _, rfl, (d.kC (Kb Sn)), (js.refl _), Lo.refl, (ST.jT d (lm.mem (Kb Sn))), rfl, rfl⟩)
 refine bC j (fun i j => ?_) (fun i j => ?_)
 ·refine ug i (jd rfl) (ug i (kd rfl rfl rfl) (V (jq (cB i) rfl) ?_))
  obtain rfl := sj j
  exact u _ _ ⟨_, (d.iU St), rfl, rfl, rfl⟩
 refine un i (un i (V (jn (cB i) rfl) ?_))
 obtain rfl := sj j
 exact u _ _ ⟨_, (d.iU St), rfl, rfl, rfl⟩
theorem xt (a : Nat) (j : jo) (g : Value) (a1 : Int) (s : (Int ⊕ (Int × jo))) (w : World) {μ0 : jw} (h0 : nR μ0 ((a, Ob #[g, (.bool j.kE)] 158) :: []) w) (k : Sl (Pl (jN .u8)) 1 μ0 g j.b) (hm : sa j a1 = some s) :
  jH true pg0 164 [(.pointer (some ⟨a, 0, none⟩)), (.int .i64 a1)] w μ0 ((a, Ob #[g, (.bool j.kE)] 158) :: []) s (fun r v L1 μ1 => ∃ y1, v = (.int .u8 (r.1)) ∧ L1 = ((a, Ob #[y1, (.bool ((r.2).kE))] 158) :: []) ∧ Sl (Pl (jN .u8)) 1 μ1 y1 ((r.2).b)) (fun x c L1 μ1 => ∃ y z, c = [{ v := uC 217 a x, recovered := false }] ∧ L1 = ((a, Ob #[y, z] 158) :: [])) := by
 let c8 := (⟨(j.b.drop (Int.toNat 1)), j.kE⟩ : jo)
 let c7 := (#[g, (.bool j.kE)] : Array Value)
 let b8 : Value := (.pointer (some ⟨a, 0, none⟩))
 let a0 := ((a, Obj.cells c7 158 (0, 0)) :: [])
 have d := ST.ur (dd := true) h0
 refine oL (n := 41) func164 rfl rfl nb (sg (Wa (ln (jm (D0 hm (fun g0 E W => ∃ Y d7, js μ0 Y ∧ Lo (keys a0) w μ0 Y ∧ ST true (keys a0) w W Y ((a, Obj.cells c7 158 (0, 0)) :: d7) ∧ E 0 = b8 ∧ E 1 = (.int .i64 a1)) (fun g0 B a2 => ?_) ?_)))))
 ·refine sg (Wm (Wi rfl (ln (CI B rfl (fun d3 B => ?_) (fun d3 B => ?_)))))
  ·refine jj (Wm (bS B fun g1 b5 B => ?_))
   rcases g1 with f6 | h6
   ·have A := d.size
    refine px (.inl rfl) (lN (args := [b8, (.int .i64 11)]) (caps := #[]) _ _ d (Cb Pz Cn) rfl dx (by exact nB rfl rfl) (fun hH hN q ao => (jH.l (kj a j g 11 _ _ ⟨hH, hN, q⟩ (k.mono (Pl.mono _) (js.refl _)) b5))) (fun e7 h2 c6 e4 d T o ad => ?_))
    obtain ⟨i3, i6, d6, rfl⟩ := ad
    replace d := d.perm (Tb Tn)
    refine kZ (mR ?_)
    obtain rfl := sj B
    replace a2 : some (Sum.inl f6) = some s := a2
    obtain rfl := sj a2
    exact kP.li ⟨_, _, _, rfl, (d.kC (Kb Sn)), T, o, (ST.jT d (lm.mem (Kb Sn))), ⟨_, _, d6, rfl⟩⟩
   have A := d.size
   refine VE (eD d (Cb Pz Cn) dx (fun hh => (jH.r (kj a j g 11 _ _ hh (k.mono (Pl.mono _) (js.refl _)) b5))) ?_)
   rintro e7 h9 c6 e4 d T o ⟨a6, rfl⟩
   obtain rfl := a6.symm
   replace d := d.perm (Tb Tn)
   refine ln ?_
   obtain rfl := sj B
   exact ⟨_, rfl, c6, _, T, o, (d.iU St), rfl, rfl⟩
  refine kn ?_
  obtain rfl := sj B
  exact ⟨_, rfl, μ0, _, (js.refl _), Lo.refl, (d.iU St), rfl, rfl⟩
 rintro ⟨⟩ E W ⟨Y, d7, G, p, d, b1, e0⟩ f0
 refine jm (D0 f0 (fun f8 E W => ∃ I d8, js Y I ∧ Lo (keys a0) w Y I ∧ ST true (keys a0) w W I ((a, Obj.cells c7 158 (0, 0)) :: d8) ∧ E 0 = b8 ∧ E 1 = (.int .i64 a1)) (fun f8 u Z => ?_) ?_)
 ·refine sg (Wh b1 (Wn (Wf vP (VB d Mh rfl rfl fD (V (jO bI rfl k) (Wi rfl (ln (CI u rfl (fun d2 u => ?_) (fun d2 u => ?_)))))))))
  ·refine jj (Wh b1 (bS u fun f9 b4 u => ?_))
   rcases f9 with f5 | h5
   ·have A := d.size
    refine px (.inl rfl) (lN (args := [b8, (.int .i64 10)]) (caps := #[]) _ _ d (Cb Pz Cn) rfl dx (by exact nB rfl rfl) (fun hH hN q ao => (jH.l (kj a j g 10 _ _ ⟨hH, hN, q⟩ (k.mono (Pl.mono _) G) b4))) (fun e6 h1 c5 e3 d Q m ab => ?_))
    obtain ⟨i2, i5, d5, rfl⟩ := ab
    replace d := d.perm (Tb Tn)
    refine kZ (mR ?_)
    obtain rfl := sj u
    replace Z : some (Sum.inl f5) = some s := Z
    obtain rfl := sj Z
    exact kP.li ⟨_, _, _, rfl, (d.kC (Kb Sn)), (G.trans Q), (p.trans m), (ST.jT d (lm.mem (Kb Sn))), ⟨_, _, d5, rfl⟩⟩
   have A := d.size
   refine VE (eD d (Cb Pz Cn) dx (fun hh => (jH.r (kj a j g 10 _ _ hh (k.mono (Pl.mono _) G) b4))) ?_)
   rintro e6 h8 c5 e3 d Q m ⟨a5, rfl⟩
   obtain rfl := a5.symm
   replace d := d.perm (Tb Tn)
   refine ln ?_
   obtain rfl := sj u
   exact ⟨_, rfl, c5, _, Q, m, (d.iU St), b1, e0⟩
  refine kn ?_
  obtain rfl := sj u
  exact ⟨_, rfl, Y, _, (js.refl _), Lo.refl, (d.iU St), b1, e0⟩
 rintro ⟨⟩ E W ⟨I, d8, J, L, d, a7, g2⟩ U
 refine sg (Wh a7 (Wn (Wf vP (VB d Mh rfl rfl fD (bS U fun a9 c2 U => VQ (kk (enc := (jN .u8)) (i := 0) (x0 := a9) bI iB rfl rfl (k.mono (Pl.mono _) (G.trans J)) (kz c2) (ke c2)) (fun i8 f3 => V (iW rfl (lC d.has (y := (.int .u8 a9)) f3 isAgg5)) (Wa (lr (Wh a7 ?_)))))))))
 refine Wh a7 (Wn (Wf vP (VB d Mh rfl rfl fD (bS U fun _ c1 U => VQ (Br (i := 1) bI iB rfl rfl (k.mono (Pl.mono _) (G.trans J)) (pc c1) (oZ c1)) (fun i9 a3 => Wn (Wf vP ?_))))))
 obtain ⟨K, M, rfl⟩ := a3.1.form
 let P : Value := (.slice K (j.b.drop (Int.toNat 1)).length M)
 refine VO (jy P (#[P, (.bool j.kE)]) d rfl rfl gI oc nb rfl (fun i7 d => ln (jm (D0 U (fun g4 E W => ∃ b6 d9, js I b6 ∧ Lo (keys a0) w I b6 ∧ ST true (keys a0) w W b6 ((a, Ob #[P, (.bool j.kE)] 158) :: d9) ∧ E 5 = (.int .u8 a9)) (fun g4 f2 b0 => ?_) ?_))))
 ·refine sg (Wm (Wi rfl (Wm (LJ f2 (fun c3 E W => ∃ b9, ST true (keys a0) w W I ((a, Ob #[P, (.bool j.kE)] 158) :: b9) ∧ E 0 = b8 ∧ E 5 = (.int .u8 a9) ∧ E 37 = (.bool c3)) 3 ?_ (fun c3 H a8 => ?_)))))
  ·rintro i0 E W ⟨b9, d, e8, c0, e9⟩ t
   refine ln (CI t e9 (fun d1 t => ?_) (fun d1 t => ?_))
   ·refine jj (Wh e8 (bS t fun f7 b3 t => ?_))
    rcases f7 with f4 | h4
    ·have A := d.size
     refine px (.inl rfl) (lN (args := [b8, (.int .i64 11)]) (caps := #[]) _ _ d (Cb Pz Cn) rfl dx (by exact nB rfl rfl) (fun hH hN q ao => (jH.l (kj a c8 P 11 _ _ ⟨hH, hN, q⟩ (a3.1.mono (Pl.mono _) (js.refl _)) b3))) (fun e5 g9 c4 e2 d N h R => ?_))
     obtain ⟨i1, i4, d4, rfl⟩ := R
     replace d := d.perm (Tb Tn)
     refine kZ (mR ?_)
     obtain rfl := sj t
     replace b0 : some (Sum.inl f4) = some s := b0
     obtain rfl := sj b0
     exact kP.li ⟨_, _, _, rfl, (d.kC (Kb Sn)), ((G.trans J).trans N), ((p.trans L).trans h), (ST.jT d (lm.mem (Kb Sn))), ⟨_, _, d4, rfl⟩⟩
    have A := d.size
    refine VE (eD d (Cb Pz Cn) dx (fun hh => (jH.r (kj a c8 P 11 _ _ hh (a3.1.mono (Pl.mono _) (js.refl _)) b3))) ?_)
    rintro e5 h7 c4 e2 d N h ⟨a4, rfl⟩
    obtain rfl := a4.symm
    replace d := d.perm (Tb Tn)
    refine ln ?_
    obtain rfl := sj t
    exact ⟨_, rfl, c4, _, N, h, (d.iU St), c0⟩
   refine kn ?_
   obtain rfl := sj t
   exact ⟨_, rfl, I, _, (js.refl _), Lo.refl, (d.iU St), c0⟩
  refine bC H (fun D H => ?_) (fun D H => ?_)
  ·refine ug D (jd g2) (ug D (kd rfl rfl rfl) (V (jq (cB D) rfl) ?_))
   obtain rfl := sj H
   exact a8 _ _ ⟨_, (d.iU St), a7, rfl, rfl⟩
  refine un D (un D (V (jn (cB D) rfl) ?_))
  obtain rfl := sj H
  exact a8 _ _ ⟨_, (d.iU St), a7, rfl, rfl⟩
 rintro ⟨⟩ E W ⟨b6, d9, b2, af, d, g3⟩ f1
 refine sg (Wh g3 (Wa (lt (sZ ?_))))
 obtain rfl := sj f1
 exact jR (v := (.int .u8 a9)) rfl rfl (kP.ri ⟨_, _, _, rfl, (d.kC (Kb Sn)), ((G.trans J).trans b2), ((p.trans L).trans af), (ST.jT d (lm.mem (Kb Sn))), P, rfl, rfl, (a3.1.mono (Pl.mono _) b2)⟩)
theorem kH (g : Nat) (I : jo) (j : Value) (a1 : Int) (s : (Int ⊕ (Int × jo))) (w : World) {μ0 : jw} (h0 : nR μ0 ((g, Ob #[j, (.bool I.kE)] 158) :: []) w) (K : Sl (Pl (jN .u8)) 1 μ0 j I.b) (hm : kW I a1 = some s) :
  jH true pg0 99 [(.pointer (some ⟨g, 0, none⟩)), (.int .i64 a1)] w μ0 ((g, Ob #[j, (.bool I.kE)] 158) :: []) s (fun r v L1 μ1 => ∃ y1, v = (.int .i64 (r.1)) ∧ L1 = ((g, Ob #[y1, (.bool ((r.2).kE))] 158) :: []) ∧ Sl (Pl (jN .u8)) 1 μ1 y1 ((r.2).b)) (fun x c L1 μ1 => ∃ y z, c = [{ v := uC 217 g x, recovered := false }] ∧ L1 = ((g, Ob #[y, z] 158) :: [])) := by
 let b7 : Value := (.pointer (some ⟨g, 0, none⟩))
 let b2 := ((g, Ob #[j, (.bool I.kE)] 158) :: [])
 have d := ST.ur (dd := true) h0
 refine oL (n := 31) func99 rfl rfl nb (sg (Wa (lS (Wm (bS hm fun r1 e0 hm => VE (Eg d call163 (zt g j I.b I.kE _ _ (K.mono (Pl.mono _) d.jf) (At.of (d.at_ Mh) _ rfl) e0) (fun W3 d => ln (CI hm rfl (fun d9 hm => ?_) (fun d9 hm => ?_)))))))))
 ·refine sg (Wa (lt (jx (sZ ?_))))
  obtain rfl := sj hm
  exact jR (v := (.int .i64 0)) rfl rfl (kP.ri ⟨_, _, _, rfl, (d.kC (Kb Sn)), (js.refl _), Lo.refl, (ST.jT d (lm.mem (Kb Sn))), j, rfl, rfl, K⟩)
 refine kg (Wa (lS (Wa (ln (lc (og (fun m E W => ∃ G u Q N T Y b3, js μ0 Y ∧ Lo (keys b2) w μ0 Y ∧ ST true (keys b2) w W Y ((g, Ob #[Q, (.bool T)] 158) :: b3) ∧ E 0 = b7 ∧ E 1 = (.int .i64 a1) ∧ E 5 = (.int .i64 G) ∧ E 6 = (.int .i64 u) ∧ Sl (Pl (jN .u8)) 1 Y Q N ∧ lL a1 m G u N T = some s) jM ⟨0, 0, j, I.b, I.kE, μ0, _, (js.refl _), Lo.refl, (d.iU St), rfl, rfl, rfl, rfl, K, hm⟩ ?_))))))
 rintro m E W ⟨G, u, Q, N, T, Y, b3, H, o, d, a7, b5, d2, a8, b1, i⟩
 cases m with
 | zero => rw [lL] at i; cases i
 | succ d4 =>
  refine jm (bg (Wh a7 (Wh a8 (bS i fun d8 a9 i => ?_))))
  rcases d8 with e6 | t
  ·have R := d.size
   refine px (.inl rfl) (lN (args := [b7, (.int .i64 u)]) (caps := #[]) _ _ d (Cb Pz Cn) rfl call164 (by exact nB rfl rfl) (fun hH hN P ab => (jH.l (xt g (⟨N, T⟩ : jo) Q u _ _ ⟨hH, hN, P⟩ (b1.mono (Pl.mono _) (js.refl _)) a9))) (fun d0 e3 Z c8 d D h q => ?_))
   obtain ⟨f0, f2, c3, rfl⟩ := q
   replace d := d.perm (Tb Tn)
   refine kZ (ua (kZ (kZ (ua (kZ (mR ?_))))))
   obtain rfl := sj i
   exact kP.li ⟨_, _, _, rfl, (d.kC (Kb Sn)), (H.trans D), (o.trans h), (ST.jT d (lm.mem (Kb Sn))), ⟨_, _, c3, rfl⟩⟩
  have R := d.size
  refine VE (eD d (Cb Pz Cn) call164 (fun hh => (jH.r (xt g (⟨N, T⟩ : jo) Q u _ _ hh (b1.mono (Pl.mono _) (js.refl _)) a9))) ?_)
  rintro d0 e8 Z c8 d D h ⟨U, a3, rfl, J⟩
  obtain rfl := a3.symm
  replace d := d.perm (Tb Tn)
  refine Wa (lr (Wh d2 (Wm (V (FZ (k := .u8) (a := t.1) (b := 127) (v := (.int .u8 (IntKind.u8.wrap (BitVec.ofInt (IntKind.bits .u8) t.1 &&& BitVec.ofInt (IntKind.bits .u8) 127).toNat))) rfl rfl dc rfl) (V (Ed (k' := .u8) (a := (IntKind.u8.wrap (BitVec.ofInt (IntKind.bits .u8) t.1 &&& BitVec.ofInt (IntKind.bits .u8) 127).toNat)) gb gS rfl) (Wh a8 (Wi rfl (bS i fun _ c5 i => V (Ll (a := (wi0 .i64 (IntKind.u8.wrap (BitVec.ofInt (IntKind.bits .u8) t.1 &&& BitVec.ofInt (IntKind.bits .u8) 127).toNat))) (b := (wi0 .i64 (7 * u))) rfl rfl (wC c5)) (V (RC (k := .i64) (a := G) (b := (wi0 .i64 ((wi0 .i64 (IntKind.u8.wrap (BitVec.ofInt (IntKind.bits .u8) t.1 &&& BitVec.ofInt (IntKind.bits .u8) 127).toNat)) * 2 ^ min (Int.toNat (wi0 .i64 (7 * u))) (IntKind.bits .i64)))) (v := (.int .i64 (wi0 .i64 (BitVec.ofInt (IntKind.bits .i64) G ||| BitVec.ofInt (IntKind.bits .i64) (wi0 .i64 ((wi0 .i64 (IntKind.u8.wrap (BitVec.ofInt (IntKind.bits .u8) t.1 &&& BitVec.ofInt (IntKind.bits .u8) 127).toNat)) * 2 ^ min (Int.toNat (wi0 .i64 (7 * u))) (IntKind.bits .i64)))).toNat))) rfl rfl rfl) (Wa ?_))))))))))
  let a0 := (wi0 .i64 (BitVec.ofInt (IntKind.bits .i64) G ||| BitVec.ofInt (IntKind.bits .i64) (wi0 .i64 ((wi0 .i64 (IntKind.u8.wrap (BitVec.ofInt (IntKind.bits .u8) t.1 &&& BitVec.ofInt (IntKind.bits .u8) 127).toNat)) * 2 ^ min (Int.toNat (wi0 .i64 (7 * u))) (IntKind.bits .i64)))).toNat)
  refine lr (Wm (Wi rfl (ln (CI i rfl (fun c1 i => ?_) (fun c1 i => ?_)))))
  ·refine nt (Rs (by simp) (mH (mH (tK (jb (jm (D0 i (fun d6 E W => ∃ a5 b4, js Z a5 ∧ Lo (keys b2) w Z a5 ∧ ST true (keys b2) w W a5 ((g, Ob #[U, (.bool ((t.2).kE))] 158) :: b4) ∧ E 5 = (.int .i64 a0)) (fun d6 B a2 => ?_) ?_)))))))
   ·refine sg (Wm (Wh b5 (Wi rfl (ln (CI B rfl (fun c2 B => ?_) (fun c2 B => ?_))))))
    ·refine jj (Wh a7 (bS B fun d7 b0 B => ?_))
     rcases d7 with d5 | e7
     ·have R := d.size
      refine px (.inl rfl) (lN (args := [b7, (.int .i64 12)]) (caps := #[]) _ _ d (Cb Pz Cn) rfl dx (by exact nB rfl rfl) (fun hH hN P ab => (jH.l (kj g t.2 U 12 _ _ ⟨hH, hN, P⟩ (J.mono (Pl.mono _) (js.refl _)) b0))) (fun d1 e4 b6 c9 d M p A => ?_))
      obtain ⟨f1, f3, c4, rfl⟩ := A
      replace d := d.perm (Tb Tn)
      refine kZ (mR ?_)
      obtain rfl := sj B
      replace a2 : some (Sum.inl d5) = some s := a2
      obtain rfl := sj a2
      exact kP.li ⟨_, _, _, rfl, (d.kC (Kb Sn)), ((H.trans D).trans M), ((o.trans h).trans p), (ST.jT d (lm.mem (Kb Sn))), ⟨_, _, c4, rfl⟩⟩
     have R := d.size
     refine VE (eD d (Cb Pz Cn) dx (fun hh => (jH.r (kj g t.2 U 12 _ _ hh (J.mono (Pl.mono _) (js.refl _)) b0))) ?_)
     rintro d1 e9 b6 c9 d M p ⟨a4, rfl⟩
     obtain rfl := a4.symm
     replace d := d.perm (Tb Tn)
     refine ln ?_
     obtain rfl := sj B
     exact ⟨_, rfl, b6, _, M, p, (d.iU St), rfl⟩
    refine kn ?_
    obtain rfl := sj B
    exact ⟨_, rfl, Z, _, (js.refl _), Lo.refl, (d.iU St), rfl⟩
   rintro ⟨⟩ E W ⟨a5, b4, a6, L, d, d3⟩ c6
   refine sg (Wh d3 (Wa (lt (sZ ?_))))
   obtain rfl := sj c6
   exact jR (v := (.int .i64 a0)) rfl rfl (kP.ri ⟨_, _, _, rfl, (d.kC (Kb Sn)), ((H.trans D).trans a6), ((o.trans h).trans L), (ST.jT d (lm.mem (Kb Sn))), U, rfl, rfl, (J.mono (Pl.mono _) a6)⟩)
  exact jJ (jI (jb (jj (Wh a8 (Wi rfl (Wa (ln ⟨d4, bk _, a0, (wi0 .i64 (u + 1)), U, ((t.2).b), ((t.2).kE), Z, _, (H.trans D), (o.trans h), (d.iU St), a7, b5, rfl, rfl, J, i⟩)))))))
theorem xy (a : Nat) (J : jo) (k : Value) (a1 : Int) (s : (Int ⊕ ((List Int) × jo))) (w : World) {μ0 : jw} (h0 : nR μ0 ((a, Ob #[k, (.bool J.kE)] 158) :: []) w) (D : Sl (Pl (jN .u8)) 1 μ0 k J.b) (hm : rZ J a1 = some s) :
  jH true pg0 207 [(.pointer (some ⟨a, 0, none⟩)), (.int .i64 a1)] w μ0 ((a, Ob #[k, (.bool J.kE)] 158) :: []) s (fun r v L1 μ1 => ∃ y1 y3, v = y1 ∧ L1 = ((a, Ob #[y3, (.bool ((r.2).kE))] 158) :: []) ∧ Sl (Pl (jN .u8)) 1 μ1 y1 (r.1) ∧ Sl (Pl (jN .u8)) 1 μ1 y3 ((r.2).b)) (fun x c L1 μ1 => ∃ y z, c = [{ v := uC 217 a x, recovered := false }] ∧ L1 = ((a, Ob #[y, z] 158) :: [])) := by
 let b6 := ((a, Ob #[k, (.bool J.kE)] 158) :: [])
 let b2 : Value := (.pointer (some ⟨a, 0, none⟩))
 have d := ST.ur (dd := true) h0
 refine oL (n := 44) func207 rfl rfl nb (sg (Wa (lS (Wm (bS hm fun r1 e6 hm => VE (Eg d call163 (zt a k J.b J.kE _ _ (D.mono (Pl.mono _) d.jf) (At.of (d.at_ Mh) _ rfl) e6) (fun W3 d => ln (CI hm rfl (fun e5 hm => ?_) (fun e5 hm => ?_)))))))))
 ·refine sg (Wa (lt (jx (sZ ?_))))
  obtain rfl := sj hm
  exact jR (v := (.slice none 0 0)) rfl rfl (kP.ri ⟨_, _, _, rfl, (d.kC (Kb Sn)), (js.refl _), Lo.refl, (ST.jT d (lm.mem (Kb Sn))), (.slice none 0 0), k, rfl, rfl, (Sl.nil _ _ _), D⟩)
 refine kg (Wm (bS hm fun d9 c0 hm => ?_))
 rcases d9 with g7 | t
 ·have q := d.size
  refine px (.inl rfl) (lN (args := [b2, (.int .i64 9223372036854775807)]) (caps := #[]) _ _ d (Cb Pz Cn) rfl gJ (by exact nB rfl rfl) (fun hH R p av => (jH.l (kH a J k 9223372036854775807 _ _ ⟨hH, R, p⟩ (D.mono (Pl.mono _) (js.refl _)) c0))) (fun W7 g4 A e2 d I h ab => ?_))
  obtain ⟨h4, h5, d1, rfl⟩ := ab
  replace d := d.perm (Tb Tn)
  refine kZ (mR ?_)
  obtain rfl := sj hm
  exact kP.li ⟨_, _, _, rfl, (d.kC (Kb Sn)), I, h, (ST.jT d (lm.mem (Kb Sn))), ⟨_, _, d1, rfl⟩⟩
 have q := d.size
 refine VE (eD d (Cb Pz Cn) gJ (fun hh => (jH.r (kH a J k 9223372036854775807 _ _ hh (D.mono (Pl.mono _) (js.refl _)) c0))) ?_)
 rintro W7 h1 A e2 d I h ⟨T, U, rfl, B⟩
 obtain rfl := U.symm
 replace d := d.perm (Tb Tn)
 refine Wa (ln (jm (D0 hm (fun e7 E W => ∃ a3 b7, js A a3 ∧ Lo (keys b6) w A a3 ∧ ST true (keys b6) w W a3 ((a, Ob #[T, (.bool ((t.2).kE))] 158) :: b7) ∧ E 0 = b2 ∧ E 5 = (.int .i64 t.1)) (fun e7 g G => ?_) ?_)))
 ·refine bg (Wm (Wm (Wi rfl (Wa (ln (CI g rfl (fun d0 g => ?_) (fun d0 g => ?_)))))))
  ·refine jj (Wm (bS g fun d7 a9 g => ?_))
   rcases d7 with d5 | g9
   ·have q := d.size
    refine px (.inl rfl) (lN (args := [b2, (.int .i64 12)]) (caps := #[]) _ _ d (Cb Pz Cn) rfl dx (by exact nB rfl rfl) (fun hH R p av => (jH.l (kj a t.2 T 12 _ _ ⟨hH, R, p⟩ (B.mono (Pl.mono _) (js.refl _)) a9))) (fun e3 f2 c2 c4 d M o L => ?_))
    obtain ⟨f7, f9, b4, rfl⟩ := L
    replace d := d.perm (Tb Tn)
    refine ua (kZ (mR ?_))
    obtain rfl := sj g
    replace G : some (Sum.inl d5) = some s := G
    obtain rfl := sj G
    exact kP.li ⟨_, _, _, rfl, (d.kC (Kb Sn)), (I.trans M), (h.trans o), (ST.jT d (lm.mem (Kb Sn))), ⟨_, _, b4, rfl⟩⟩
   have q := d.size
   refine VE (eD d (Cb Pz Cn) dx (fun hh => (jH.r (kj a t.2 T 12 _ _ hh (B.mono (Pl.mono _) (js.refl _)) a9))) ?_)
   rintro e3 h3 c2 c4 d M o ⟨N, rfl⟩
   obtain rfl := N.symm
   replace d := d.perm (Tb Tn)
   refine jC (jI (jb ?_))
   obtain rfl := sj g
   exact ⟨_, rfl, c2, _, M, o, (d.iU St), rfl, rfl⟩
  refine sg (Wm (Wm (Wn (Wf vP (VB d Mh rfl rfl fD (V (jO bI rfl B) (Wi rfl (Wa (ln (CI g rfl (fun b3 g => ?_) (fun b3 g => ?_)))))))))))
  ·refine jj (Wm (bS g fun d8 a2 g => ?_))
   rcases d8 with d6 | f5
   ·have q := d.size
    refine px (.inl rfl) (lN (args := [b2, (.int .i64 10)]) (caps := #[]) _ _ d (Cb Pz Cn) rfl dx (by exact nB rfl rfl) (fun hH R p av => (jH.l (kj a t.2 T 10 _ _ ⟨hH, R, p⟩ (B.mono (Pl.mono _) (js.refl _)) a2))) (fun c6 f3 b1 c5 d H m P => ?_))
    obtain ⟨f8, g0, b5, rfl⟩ := P
    replace d := d.perm (Tb Tn)
    refine ua (kZ (mR ?_))
    obtain rfl := sj g
    replace G : some (Sum.inl d6) = some s := G
    obtain rfl := sj G
    exact kP.li ⟨_, _, _, rfl, (d.kC (Kb Sn)), (I.trans H), (h.trans m), (ST.jT d (lm.mem (Kb Sn))), ⟨_, _, b5, rfl⟩⟩
   have q := d.size
   refine VE (eD d (Cb Pz Cn) dx (fun hh => (jH.r (kj a t.2 T 10 _ _ hh (B.mono (Pl.mono _) (js.refl _)) a2))) ?_)
   rintro c6 f6 b1 c5 d H m ⟨Q, rfl⟩
   obtain rfl := Q.symm
   replace d := d.perm (Tb Tn)
   refine jC (jI (jb ?_))
   obtain rfl := sj g
   exact ⟨_, rfl, b1, _, H, m, (d.iU St), rfl, rfl⟩
  refine jJ (jI (jb ?_))
  obtain rfl := sj g
  exact ⟨_, rfl, A, _, (js.refl _), Lo.refl, (d.iU St), rfl, rfl⟩
 rintro ⟨⟩ E W ⟨a3, b7, K, ad, d, a6, b9⟩ u
 refine sg (Wh a6 (Wn (Wf vP (VB d Mh rfl rfl fD (Wh b9 (bS u fun _ a7 u => VQ (Gh (j := t.1) bI iB rfl rfl (B.mono (Pl.mono _) K) (pc a7) (oZ a7)) (fun e8 d3 => bS u fun g8 d2 u => VE (pT d call96 (zf e8 (((t.2).b).take (Int.toNat t.1)) _ _ (d3.1.mono (Pl.mono _) d.jf) d2) (fun g2 c1 h6 g1 d Y af c9 => Wa (ln (jm ?_)))))))))))
 refine jj (Wh a6 (Wh a6 (Wn (Wf vP (VB d (Ma Mh) rfl rfl fD (Wh b9 (bS u fun _ a8 u => VQ (Br (i := t.1) bI iB rfl rfl (B.mono (Pl.mono _) (K.trans Y)) (pc a8) (oZ a8)) (fun h2 b0 => Wn (Wf vP ?_)))))))))
 obtain ⟨a4, a5, rfl⟩ := b0.1.form
 let a0 : Value := (.slice a4 (((t.2).b).drop (Int.toNat t.1)).length a5)
 replace d := d.perm (Nb (Pr Pz) Nz)
 refine VO (jy a0 (#[a0, (.bool ((t.2).kE))]) d rfl rfl gI oc nb rfl (fun g3 d => lr (Wm (Wa (lt (sZ ?_))))))
 obtain rfl := sj u
 refine jR (v := c1) rfl rfl ?_
 replace d := d.perm (Nr (Qb Qz) Nz)
 obtain ⟨h7, d, Z, ao, d4⟩ := ST.yk d c9 (fun _ => rfl)
 exact kP.ri ⟨_, _, _, rfl, (d.kC (Kb Sn)), (((I.trans K).trans Y).trans Z), (((h.trans ad).trans af).trans ao), (ST.jT d (lm.mem (Kb Sn))), c1, a0, rfl, rfl, d4, (b0.1.mono (Pl.mono _) Z)⟩
theorem oP (a : Nat) (G : jo) (g : Value) (s : (Int ⊕ (ByteArray × jo))) (w : World) {Z : jw} (h0 : nR Z ((a, Ob #[g, (.bool G.kE)] 158) :: []) w) (t : Sl (Pl (jN .u8)) 1 Z g G.b) (hm : ra G = some s) :
  jH true pg0 166 [(.pointer (some ⟨a, 0, none⟩))] w Z ((a, Ob #[g, (.bool G.kE)] 158) :: []) s (fun r v K μ1 => ∃ R, v = (.string (r.1)) ∧ K = ((a, Ob #[R, (.bool ((r.2).kE))] 158) :: []) ∧ Sl (Pl (jN .u8)) 1 μ1 R ((r.2).b)) (fun x c K μ1 => ∃ y z, c = [{ v := uC 217 a x, recovered := false }] ∧ K = ((a, Ob #[y, z] 158) :: [])) := by
 have d := ST.ur (dd := true) h0
 refine oL (n := 15) func166 rfl rfl nb (sg (Wa (lS (Wm (V (qS iG rfl rfl) (ln (nW rfl (jJ ?_))))))))
 refine jb (sg (Wm (bS hm fun a5 J hm => ?_)))
 rcases a5 with b6 | I
 ·have p := d.size
  refine px (.inl rfl) (lN (args := [(.pointer (some ⟨a, 0, none⟩)), (.int .i64 16)]) (caps := #[]) _ _ d (Cb Pz Cn) rfl call207 (by exact nB rfl rfl) (fun hH E o M => (jH.l (xy a G g 16 _ _ ⟨hH, E, o⟩ (t.mono (Pl.mono _) (js.refl _)) J))) (fun W3 b4 P L9 d j m q => ?_))
  obtain ⟨c3, c5, Q, rfl⟩ := q
  replace d := d.perm (Tb Tn)
  refine kZ (mR ?_)
  obtain rfl := sj hm
  exact kP.li ⟨_, _, _, rfl, (d.kC (Kb Sn)), j, m, (ST.jT d (lm.mem (Kb Sn))), ⟨_, _, Q, rfl⟩⟩
 have p := d.size
 refine VE (eD d (Cb Pz Cn) call207 (fun L => (jH.r (xy a G g 16 _ _ L (t.mono (Pl.mono _) (js.refl _)) J))) ?_)
 rintro W3 v7 P L9 d j m ⟨c2, D, u, rfl, Y, k⟩
 obtain rfl := u.symm
 replace d := d.perm (Tb Tn)
 refine V (PS bI gb aU rfl (Y.mono (Pl.mono _) d.jf)) (Wa (lS (Wm (bS hm fun b9 U hm => VE (Eg d iC (qU (yV I.1) _ _  U) (fun b3 d => V (lj rfl) (ln (CI hm rfl (fun N hm => ?_) (fun N hm => ?_)))))))))
 ·refine sg (Wm (bS hm fun a4 H hm => ?_))
  rcases a4 with b7 | c0
  ·have p := d.size
   refine px (.inl rfl) (lN (args := [(.pointer (some ⟨a, 0, none⟩)), (.int .i64 30)]) (caps := #[]) _ _ d (Cb Pz Cn) rfl dx (by exact nB rfl rfl) (fun hH E o M => (jH.l (kj a I.2 D 30 _ _ ⟨hH, E, o⟩ (k.mono (Pl.mono _) (js.refl _)) H))) (fun a2 b5 a8 W d i h A => ?_))
   obtain ⟨c4, c6, T, rfl⟩ := A
   replace d := d.perm (Tb Tn)
   refine kZ (kZ (mR ?_))
   obtain rfl := sj hm
   exact kP.li ⟨_, _, _, rfl, (d.kC (Kb Sn)), (j.trans i), (m.trans h), (ST.jT d (lm.mem (Kb Sn))), ⟨_, _, T, rfl⟩⟩
  have p := d.size
  refine VE (eD d (Cb Pz Cn) dx (fun L => (jH.r (kj a I.2 D 30 _ _ L (k.mono (Pl.mono _) (js.refl _)) H))) ?_)
  rintro a2 c1 a8 W d i h ⟨B, rfl⟩
  obtain rfl := B.symm
  replace d := d.perm (Tb Tn)
  refine lr (Wa (lt (jx (sZ ?_))))
  obtain rfl := sj hm
  exact jR (v := (.string zS)) rfl rfl (kP.ri ⟨_, _, _, rfl, (d.kC (Kb Sn)), (j.trans i), (m.trans h), (ST.jT d (lm.mem (Kb Sn))), D, rfl, rfl, (k.mono (Pl.mono _) i)⟩)
 refine kg (Wm (Wa (lt (sZ ?_))))
 obtain rfl := sj hm
 exact jR (v := (.string (yV I.1))) rfl rfl (kP.ri ⟨_, _, _, rfl, (d.kC (Kb Sn)), j, m, (ST.jT d (lm.mem (Kb Sn))), D, rfl, rfl, k⟩)
theorem nj (a : Nat) (G : jo) (g : Value) (s : (Int ⊕ (iR × jo))) (w : World) {Z : jw} (h0 : nR Z ((a, Ob #[g, (.bool G.kE)] 158) :: []) w) (u : Sl (Pl (jN .u8)) 1 Z g G.b) (hm : pJ G = some s) :
  jH true pg0 100 [(.pointer (some ⟨a, 0, none⟩))] w Z ((a, Ob #[g, (.bool G.kE)] 158) :: []) s (fun r v M μ1 => ∃ W, v = (.agg (iT (r.1)).toArray) ∧ M = ((a, Ob #[W, (.bool ((r.2).kE))] 158) :: []) ∧ Sl (Pl (jN .u8)) 1 μ1 W ((r.2).b)) (fun x c M μ1 => ∃ y z, c = [{ v := uC 217 a x, recovered := false }] ∧ M = ((a, Ob #[y, z] 158) :: [])) := by
 have d := ST.ur (dd := true) h0
 refine oL (n := 10) func100 rfl rfl nb (sg (VE (jK d bo (fun W2 b1 d => lr (Wm (bS hm fun a5 J hm => ?_))))))
 rcases a5 with b7 | t
 ·have p := d.size
  refine px (.inl rfl) (lN (args := [(.pointer (some ⟨a, 0, none⟩))]) (caps := #[]) _ _ d (Cb (Pb Pz) Cn) rfl gu (by exact nr rfl) (fun hH E o P => (jH.l (oP a G g _ _ ⟨hH, E, o⟩ (u.mono (Pl.mono _) (js.refl _)) J))) (fun W5 b5 R a1 d k m q => ?_))
  obtain ⟨c1, c3, T, rfl⟩ := q
  replace d := d.perm (Tb Tn)
  refine kZ (mR ?_)
  obtain rfl := sj hm
  exact kP.li ⟨_, _, _, rfl, (d.kC (Kb Sn)), k, m, (ST.jT d (lm.mem (Kb Sn))), ⟨_, _, T, rfl⟩⟩
 have p := d.size
 refine VE (eD d (Cb (Pb Pz) Cn) gu (fun L => (jH.r (oP a G g _ _ L (u.mono (Pl.mono _) (js.refl _)) J))) ?_)
 rintro W5 v9 R a1 d k m ⟨K, B, rfl, I⟩
 obtain rfl := B.symm
 replace d := d.perm (Tb Tn)
 refine Wa (lr (Wm (Wm (bS hm fun a4 H hm => ?_))))
 rcases a4 with b9 | i
 ·have p := d.size
  refine px (.inl rfl) (lN (args := [(.pointer (some ⟨a, 0, none⟩))]) (caps := #[]) _ _ d (Cb Pz Cn) rfl gu (by exact nr rfl) (fun hH E o P => (jH.l (oP a t.2 K _ _ ⟨hH, E, o⟩ (I.mono (Pl.mono _) (js.refl _)) H))) (fun a3 b6 a9 a2 d j h A => ?_))
  obtain ⟨c2, c4, U, rfl⟩ := A
  replace d := d.perm (Tb Tn)
  refine kZ (mR ?_)
  obtain rfl := sj hm
  exact kP.li ⟨_, _, _, rfl, (d.kC (Kb Sn)), (k.trans j), (m.trans h), (ST.jT d (lm.mem (Kb Sn))), ⟨_, _, U, rfl⟩⟩
 have p := d.size
 refine VE (eD d (Cb Pz Cn) gu (fun L => (jH.r (oP a t.2 K _ _ L (I.mono (Pl.mono _) (js.refl _)) H))) ?_)
 rintro a3 c0 a9 a2 d j h ⟨a7, D, rfl, Y⟩
 obtain rfl := D.symm
 replace d := d.perm (Tb Tn)
 let N := (⟨t.1, i.1⟩ : iR)
 let Q : Value := (.agg (iT N).toArray)
 refine V (kT (v := Q) (nz rfl rfl) (ku bo bB (DE _ bB) kr)) ?_
 replace d := d.perm (Nb (Pb Pz) Nz)
 refine VO (jy Q ((iT N).toArray) d rfl rfl ag (lh N) nb rfl (fun b4 d => lt (sZ ?_)))
 obtain rfl := sj hm
 exact tw (v := Q) rfl rfl (jc d.has Mh (iT N) rfl an ag) (kP.ri ⟨_, _, _, rfl, (d.kC (Db (Kb Sn))), (k.trans j), (m.trans h), (ST.jT d (lm.mem (Db (Kb Sn)))), a7, rfl, rfl, Y⟩)
set_option maxHeartbeats 4000000 in
theorem D3 (a : Nat) (a0 : jo) (j : Value) (s : (Int ⊕ (iS × jo))) (w : World) {μ0 : jw} (h0 : nR μ0 ((a, Ob #[j, (.bool a0.kE)] 158) :: []) w) (d1 : Sl (Pl (jN .u8)) 1 μ0 j a0.b) (hm : xT a0 = some s) :
  jH true pg0 167 [(.pointer (some ⟨a, 0, none⟩))] w μ0 ((a, Ob #[j, (.bool a0.kE)] 158) :: []) s (fun r v L1 μ1 => ∃ y1, v = (.agg (iX (r.1)).toArray) ∧ L1 = ((a, Ob #[y1, (.bool ((r.2).kE))] 158) :: []) ∧ Sl (Pl (jN .u8)) 1 μ1 y1 ((r.2).b)) (fun x c L1 μ1 => ∃ y z, c = [{ v := uC 217 a x, recovered := false }] ∧ L1 = ((a, Ob #[y, z] 158) :: [])) := by
 let h2 : Value := (.agg (iX K6).toArray)
 let g5 := ((iX K6).toArray : Array Value)
 let b8 := ((a, Ob #[j, (.bool a0.kE)] 158) :: [])
 let a5 : Value := (.pointer (some ⟨a, 0, none⟩))
 have d := ST.ur (dd := true) h0
 refine oL (n := 55) func167 rfl rfl nb (sg (VE (jK d bw (fun W2 b1 d => lr (Wm (bS hm fun o5 k4 hm => ?_))))))
 let g6 : Value := (.pointer (some ⟨b1, 0, none⟩))
 rcases o5 with v3 | J
 ·have m := d.size
  refine px (.inl rfl) (lN (args := [a5, (.int .i64 9223372036854775807)]) (caps := #[]) _ _ d (Cb (Pb Pz) Cn) rfl gJ (by exact nB rfl rfl) (fun hH A h ab => (jH.l (kH a a0 j 9223372036854775807 _ _ ⟨hH, A, h⟩ (d1.mono (Pl.mono _) (js.refl _)) k4))) (fun W5 v1 ca p4 d u q dk => ?_))
  obtain ⟨v6, v8, m6, rfl⟩ := dk
  replace d := d.perm (Tb Tn)
  refine kZ (mR ?_)
  obtain rfl := sj hm
  exact kP.li ⟨_, _, _, rfl, (d.kC (Kb Sn)), u, q, (ST.jT d (lm.mem (Kb Sn))), ⟨_, _, m6, rfl⟩⟩
 have m := d.size
 refine VE (eD d (Cb (Pb Pz) Cn) gJ (fun L => (jH.r (kH a a0 j 9223372036854775807 _ _ L (d1.mono (Pl.mono _) (js.refl _)) k4))) ?_)
 rintro W5 v9 ca p4 d u q ⟨b5, d4, rfl, c8⟩
 let h3 := (#[b5, (.bool ((J.2).kE))] : Array Value)
 obtain rfl := d4.symm
 replace d := d.perm (Tb Tn)
 let f2 := (⟨J.1, K0, zS, K0, K0, zS⟩ : iS)
 refine V (kT (v := (.agg (iX f2).toArray)) (ma rfl) (ku bw bN (Ij _ bN) kr)) (VE (jK d bw (fun u8 b4 d => VO (jy (.agg (iX f2).toArray) ((iX f2).toArray) d rfl rfl ak (mx f2) nb rfl (fun u9 d => ln (jm (D0 hm (fun o3 E W => ∃ f0 k3, js ca f0 ∧ Lo (keys b8) w ca f0 ∧ ST true (keys b8) w W f0 ((b4, Ol (iX f2) 108) :: ((a, Obj.cells h3 158 (0, 0)) :: ((b1, Obj.cells g5 108 (0, 0)) :: k3))) ∧ E 0 = a5 ∧ E 2 = g6 ∧ E 3 = (.pointer (some ⟨b4, 0, none⟩))) (fun o3 j7 b7 => ?_) ?_)))))))
 ·refine sg (Wf mT (VB d Mh rfl rfl bF (Wi rfl (Wm (LJ j7 (fun g0 E W => ∃ f4, ST true (keys b8) w W ca ((b4, Ol (iX f2) 108) :: ((a, Obj.cells h3 158 (0, 0)) :: ((b1, Obj.cells g5 108 (0, 0)) :: f4))) ∧ E 0 = a5 ∧ E 2 = g6 ∧ E 3 = (.pointer (some ⟨b4, 0, none⟩)) ∧ E 14 = (.bool g0)) 4 ?_ (fun g0 Z d2 => ?_))))))
  ·rintro t1 E W ⟨f4, d, d3, f6, f7, m3⟩ H
   refine ln (CI H m3 (fun i6 H => ?_) (fun i6 H => ?_))
   ·refine jj (Wh d3 (bS H fun o4 e7 H => ?_))
    rcases o4 with n4 | s2
    ·have m := d.size
     refine px (.inl rfl) (lN (args := [a5, (.int .i64 11)]) (caps := #[]) _ _ d (Cb (Pb Pz) Cn) rfl dx (by exact nB rfl rfl) (fun hH A h ab => (jH.l (kj a J.2 b5 11 _ _ ⟨hH, A, h⟩ (c8.mono (Pl.mono _) (js.refl _)) e7))) (fun m1 r7 h1 l3 d b2 bs cS => ?_))
     obtain ⟨t9, u7, j6, rfl⟩ := cS
     replace d := d.perm (Tb Tn)
     refine kZ (mR ?_)
     obtain rfl := sj H
     replace b7 : some (Sum.inl n4) = some s := b7
     obtain rfl := sj b7
     exact kP.li ⟨_, _, _, rfl, (d.kC (Kb Sn)), (u.trans b2), (q.trans bs), (ST.jT d (lm.mem (Kb Sn))), ⟨_, _, j6, rfl⟩⟩
    have m := d.size
    refine VE (eD d (Cb (Pb Pz) Cn) dx (fun L => (jH.r (kj a J.2 b5 11 _ _ L (c8.mono (Pl.mono _) (js.refl _)) e7))) ?_)
    rintro m1 t0 h1 l3 d b2 bs ⟨c7, rfl⟩
    obtain rfl := c7.symm
    replace d := d.perm (Tb Tn)
    refine ln ?_
    obtain rfl := sj H
    exact ⟨_, rfl, h1, _, b2, bs, (d.iU (Sb (Pb Pz) St)), d3, f6, f7⟩
   refine kn ?_
   obtain rfl := sj H
   exact ⟨_, rfl, ca, _, (js.refl _), Lo.refl, (d.iU St), d3, f6, f7⟩
  refine bC Z (fun G Z => ?_) (fun G Z => ?_)
  ·refine un G (un G (un G (V (jq (cB G) rfl) ?_)))
   obtain rfl := sj Z
   exact d2 _ _ ⟨_, (d.iU St), rfl, rfl, rfl, rfl⟩
  refine ug G (iY mT rfl) (ug G (iW rfl (jg d.has Mh rfl bF)) (ug G (kd rfl rfl rfl) (V (jn (cB G) rfl) ?_)))
  obtain rfl := sj Z
  exact d2 _ _ ⟨_, (d.iU St), rfl, rfl, rfl, rfl⟩
 rintro ⟨⟩ E W ⟨f0, k3, k, p, d, M, d0, I⟩ b9
 refine sg (Wh M (bS b9 fun o2 f8 b9 => ?_))
 rcases o2 with v4 | D
 ·have m := d.size
  refine px (.inl rfl) (lN (args := [a5]) (caps := #[]) _ _ d (Cb (Pb Pz) Cn) rfl fE (by exact nr rfl) (fun hH A h ab => (jH.l (nj a J.2 b5 _ _ ⟨hH, A, h⟩ (c8.mono (Pl.mono _) k) f8))) (fun p6 v2 f1 p5 d t o ds => ?_))
  obtain ⟨v7, w0, m7, rfl⟩ := ds
  replace d := d.perm (Tb Tn)
  refine kZ (mR ?_)
  obtain rfl := sj b9
  exact kP.li ⟨_, _, _, rfl, (d.kC (Kb Sn)), ((u.trans k).trans t), ((q.trans p).trans o), (ST.jT d (lm.mem (Kb Sn))), ⟨_, _, m7, rfl⟩⟩
 have m := d.size
 refine VE (eD d (Cb (Pb Pz) Cn) fE (fun L => (jH.r (nj a J.2 b5 _ _ L (c8.mono (Pl.mono _) k) f8))) ?_)
 rintro p6 v5 f1 p5 d t o ⟨a1, d5, rfl, K⟩
 obtain rfl := d5.symm
 replace d := d.perm (Tb Tn)
 refine V (iY mY I) ?_
 replace d := d.perm (Nb (Pb Pz) Nz)
 refine VO (jy (.agg (iT D.1).toArray) ((iX (⟨J.1, D.1, zS, K0, K0, zS⟩ : iS)).toArray) d rfl rfl ag (lh D.1) nb rfl (fun v0 d => ln (jm (D0 b9 (fun c9 E W => ∃ Q b3 f3, js f1 b3 ∧ Lo (keys b8) w f1 b3 ∧ ST true (keys b8) w W b3 ((b4, Ol (iX c9.1) 108) :: ((a, Ob #[Q, (.bool c9.2.2)] 158) :: ((b1, Obj.cells g5 108 (0, 0)) :: f3))) ∧ E 0 = a5 ∧ E 2 = g6 ∧ E 3 = (.pointer (some ⟨b4, 0, none⟩)) ∧ Sl (Pl (jN .u8)) 1 b3 Q c9.2.1) (fun c9 g i => ?_) ?_))))
 ·refine sg (V (iY mT I) (VB d Mh rfl rfl bF (ln (bg (Wi rfl (Wa (ln (CI g rfl (fun i2 g => ?_) (fun i2 g => ?_)))))))))
  ·refine jj (Wh M (bS g fun n6 e1 g => ?_))
   rcases n6 with m8 | d6
   ·have m := d.size
    refine px (.inl rfl) (lN (args := [a5]) (caps := #[]) _ _ d (Cb (Pb Pz) Cn) rfl gu (by exact nr rfl) (fun hH A h ab => (jH.l (oP a D.2 a1 _ _ ⟨hH, A, h⟩ (K.mono (Pl.mono _) (js.refl _)) e1))) (fun l5 r0 g4 k7 d a7 ao cc => ?_))
    obtain ⟨t3, u1, i8, rfl⟩ := cc
    replace d := d.perm (Tb Tn)
    refine ua (kZ (mR ?_))
    obtain rfl := sj g
    replace i : some (Sum.inl m8) = some s := i
    obtain rfl := sj i
    exact kP.li ⟨_, _, _, rfl, (d.kC (Kb Sn)), (((u.trans k).trans t).trans a7), (((q.trans p).trans o).trans ao), (ST.jT d (lm.mem (Kb Sn))), ⟨_, _, i8, rfl⟩⟩
   have m := d.size
   refine VE (eD d (Cb (Pb Pz) Cn) gu (fun L => (jH.r (oP a D.2 a1 _ _ L (K.mono (Pl.mono _) (js.refl _)) e1))) ?_)
   rintro l5 s4 g4 k7 d a7 ao ⟨o6, c1, rfl, j9⟩
   obtain rfl := c1.symm
   replace d := d.perm (Tb Tn)
   refine V (iY rz I) ?_
   replace d := d.perm (Nb (Pb Pz) Nz)
   refine VO (jy (.string d6.1) ((iX (⟨J.1, D.1, d6.1, K0, K0, zS⟩ : iS)).toArray) d rfl rfl cx (Cs d6.1) nb rfl (fun q2 d => jC (jI (jb ?_))))
   obtain rfl := sj g
   exact ⟨_, rfl, o6, g4, _, a7, ao, (d.iU St), M, d0, I, j9⟩
  refine sg (Wi rfl (Wa (ln (CI g rfl (fun i3 g => ?_) (fun i3 g => ?_)))))
  ·refine jj (Wh M (bS g fun n7 e2 g => ?_))
   rcases n7 with m9 | d7
   ·have m := d.size
    refine px (.inl rfl) (lN (args := [a5]) (caps := #[]) _ _ d (Cb (Pb Pz) Cn) rfl fE (by exact nr rfl) (fun hH A h ab => (jH.l (nj a D.2 a1 _ _ ⟨hH, A, h⟩ (K.mono (Pl.mono _) (js.refl _)) e2))) (fun l6 r1 g7 k8 d a8 av cf => ?_))
    obtain ⟨t4, u2, i9, rfl⟩ := cf
    replace d := d.perm (Tb Tn)
    refine ua (kZ (mR ?_))
    obtain rfl := sj g
    replace i : some (Sum.inl m9) = some s := i
    obtain rfl := sj i
    exact kP.li ⟨_, _, _, rfl, (d.kC (Kb Sn)), (((u.trans k).trans t).trans a8), (((q.trans p).trans o).trans av), (ST.jT d (lm.mem (Kb Sn))), ⟨_, _, i9, rfl⟩⟩
   have m := d.size
   refine VE (eD d (Cb (Pb Pz) Cn) fE (fun L => (jH.r (nj a D.2 a1 _ _ L (K.mono (Pl.mono _) (js.refl _)) e2))) ?_)
   rintro l6 s5 g7 k8 d a8 av ⟨o7, c2, rfl, k0⟩
   obtain rfl := c2.symm
   replace d := d.perm (Tb Tn)
   refine V (iY kK I) ?_
   replace d := d.perm (Nb (Pb Pz) Nz)
   refine VO (jy (.agg (iT d7.1).toArray) ((iX (⟨J.1, D.1, zS, d7.1, K0, zS⟩ : iS)).toArray) d rfl rfl ag (lh d7.1) nb rfl (fun q3 d => jC (jI (jb ?_))))
   obtain rfl := sj g
   exact ⟨_, rfl, o7, g7, _, a8, av, (d.iU St), M, d0, I, k0⟩
  refine sg (Wi rfl (Wa (ln (CI g rfl (fun i4 g => ?_) (fun i4 g => ?_)))))
  ·refine sg (Wh M (bS g fun n9 e3 g => ?_))
   rcases n9 with n0 | a2
   ·have m := d.size
    refine px (.inl rfl) (lN (args := [a5]) (caps := #[]) _ _ d (Cb (Pb Pz) Cn) rfl fE (by exact nr rfl) (fun hH A h ab => (jH.l (nj a D.2 a1 _ _ ⟨hH, A, h⟩ (K.mono (Pl.mono _) (js.refl _)) e3))) (fun l7 r2 p2 k9 d U P ch => ?_))
    obtain ⟨t5, u3, j0, rfl⟩ := ch
    replace d := d.perm (Tb Tn)
    refine kZ (ua (kZ (mR ?_)))
    obtain rfl := sj g
    replace i : some (Sum.inl n0) = some s := i
    obtain rfl := sj i
    exact kP.li ⟨_, _, _, rfl, (d.kC (Kb Sn)), (((u.trans k).trans t).trans U), (((q.trans p).trans o).trans P), (ST.jT d (lm.mem (Kb Sn))), ⟨_, _, j0, rfl⟩⟩
   have m := d.size
   refine VE (eD d (Cb (Pb Pz) Cn) fE (fun L => (jH.r (nj a D.2 a1 _ _ L (K.mono (Pl.mono _) (js.refl _)) e3))) ?_)
   rintro l7 s6 p2 k9 d U P ⟨g2, c3, rfl, e8⟩
   obtain rfl := c3.symm
   replace d := d.perm (Tb Tn)
   refine V (iY kK I) ?_
   replace d := d.perm (Nb (Pb Pz) Nz)
   refine VO (jy (.agg (iT a2.1).toArray) ((iX (⟨J.1, D.1, zS, a2.1, K0, zS⟩ : iS)).toArray) d rfl rfl ag (lh a2.1) nb rfl (fun q4 d => ln (jj (Wh M (bS g fun n8 e4 g => ?_)))))
   rcases n8 with n1 | d8
   ·have m := d.size
    refine px (.inl rfl) (lN (args := [a5]) (caps := #[]) _ _ d (Cb (Pb Pz) Cn) rfl gu (by exact nr rfl) (fun hH A h ab => (jH.l (oP a a2.2 g2 _ _ ⟨hH, A, h⟩ (e8.mono (Pl.mono _) (js.refl _)) e4))) (fun l8 r4 g8 l0 d a9 aE cm => ?_))
    obtain ⟨t6, u4, j3, rfl⟩ := cm
    replace d := d.perm (Tb Tn)
    refine ua (kZ (mR ?_))
    obtain rfl := sj g
    replace i : some (Sum.inl n1) = some s := i
    obtain rfl := sj i
    exact kP.li ⟨_, _, _, rfl, (d.kC (Kb Sn)), ((((u.trans k).trans t).trans U).trans a9), ((((q.trans p).trans o).trans P).trans aE), (ST.jT d (lm.mem (Kb Sn))), ⟨_, _, j3, rfl⟩⟩
   have m := d.size
   refine VE (eD d (Cb (Pb Pz) Cn) gu (fun L => (jH.r (oP a a2.2 g2 _ _ L (e8.mono (Pl.mono _) (js.refl _)) e4))) ?_)
   rintro l8 s7 g8 l0 d a9 aE ⟨o8, c4, rfl, k1⟩
   obtain rfl := c4.symm
   replace d := d.perm (Tb Tn)
   refine V (iY pZ I) ?_
   replace d := d.perm (Nb (Pb Pz) Nz)
   refine VO (jy (.string d8.1) ((iX (⟨J.1, D.1, zS, a2.1, K0, d8.1⟩ : iS)).toArray) d rfl rfl cx (Cs d8.1) nb rfl (fun q5 d => jC (jI (jb ?_))))
   obtain rfl := sj g
   exact ⟨_, rfl, o8, g8, _, (U.trans a9), (P.trans aE), (d.iU St), M, d0, I, k1⟩
  refine sg (Wi rfl (Wa (ln (CI g rfl (fun i5 g => ?_) (fun i5 g => ?_)))))
  ·refine sg (Wh M (bS g fun o1 e5 g => ?_))
   rcases o1 with n2 | a3
   ·have m := d.size
    refine px (.inl rfl) (lN (args := [a5]) (caps := #[]) _ _ d (Cb (Pb Pz) Cn) rfl fE (by exact nr rfl) (fun hH A h ab => (jH.l (nj a D.2 a1 _ _ ⟨hH, A, h⟩ (K.mono (Pl.mono _) (js.refl _)) e5))) (fun l9 r5 p3 l1 d Y R cp => ?_))
    obtain ⟨t7, u5, j4, rfl⟩ := cp
    replace d := d.perm (Tb Tn)
    refine kZ (ua (kZ (mR ?_)))
    obtain rfl := sj g
    replace i : some (Sum.inl n2) = some s := i
    obtain rfl := sj i
    exact kP.li ⟨_, _, _, rfl, (d.kC (Kb Sn)), (((u.trans k).trans t).trans Y), (((q.trans p).trans o).trans R), (ST.jT d (lm.mem (Kb Sn))), ⟨_, _, j4, rfl⟩⟩
   have m := d.size
   refine VE (eD d (Cb (Pb Pz) Cn) fE (fun L => (jH.r (nj a D.2 a1 _ _ L (K.mono (Pl.mono _) (js.refl _)) e5))) ?_)
   rintro l9 s8 p3 l1 d Y R ⟨g3, c5, rfl, e9⟩
   obtain rfl := c5.symm
   replace d := d.perm (Tb Tn)
   refine V (iY kK I) ?_
   replace d := d.perm (Nb (Pb Pz) Nz)
   refine VO (jy (.agg (iT a3.1).toArray) ((iX (⟨J.1, D.1, zS, a3.1, K0, zS⟩ : iS)).toArray) d rfl rfl ag (lh a3.1) nb rfl (fun q6 d => ln (jj (Wh M (bS g fun o0 e6 g => ?_)))))
   rcases o0 with n3 | d9
   ·have m := d.size
    refine px (.inl rfl) (lN (args := [a5]) (caps := #[]) _ _ d (Cb (Pb Pz) Cn) rfl fE (by exact nr rfl) (fun hH A h ab => (jH.l (nj a a3.2 g3 _ _ ⟨hH, A, h⟩ (e9.mono (Pl.mono _) (js.refl _)) e6))) (fun m0 r6 g9 l2 d b0 ba cs => ?_))
    obtain ⟨t8, u6, j5, rfl⟩ := cs
    replace d := d.perm (Tb Tn)
    refine ua (kZ (mR ?_))
    obtain rfl := sj g
    replace i : some (Sum.inl n3) = some s := i
    obtain rfl := sj i
    exact kP.li ⟨_, _, _, rfl, (d.kC (Kb Sn)), ((((u.trans k).trans t).trans Y).trans b0), ((((q.trans p).trans o).trans R).trans ba), (ST.jT d (lm.mem (Kb Sn))), ⟨_, _, j5, rfl⟩⟩
   have m := d.size
   refine VE (eD d (Cb (Pb Pz) Cn) fE (fun L => (jH.r (nj a a3.2 g3 _ _ L (e9.mono (Pl.mono _) (js.refl _)) e6))) ?_)
   rintro m0 s9 g9 l2 d b0 ba ⟨o9, c6, rfl, k2⟩
   obtain rfl := c6.symm
   replace d := d.perm (Tb Tn)
   refine V (iY oh I) ?_
   replace d := d.perm (Nb (Pb Pz) Nz)
   refine VO (jy (.agg (iT d9.1).toArray) ((iX (⟨J.1, D.1, zS, a3.1, d9.1, zS⟩ : iS)).toArray) d rfl rfl ag (lh d9.1) nb rfl (fun q7 d => jC (jI (jb ?_))))
   obtain rfl := sj g
   exact ⟨_, rfl, o9, g9, _, (Y.trans b0), (R.trans ba), (d.iU St), M, d0, I, k2⟩
  refine jJ (jI (jb ?_))
  obtain rfl := sj g
  exact ⟨_, rfl, a1, f1, _, (js.refl _), Lo.refl, (d.iU St), M, d0, I, K⟩
 rintro ⟨N, f9, g1⟩ E W ⟨Q, b3, f3, a6, ad, d, m2, b6, f5, a4⟩ B
 refine jm (sg (V (iW f5 (jc d.has Mh (iX N) rfl aS ak)) (bS B fun s0 j8 B => VE (Eg d iD (rf N _ _  j8) (fun p9 d => V (lj rfl) (ln (CI B rfl (fun i1 B => ?_) (fun i1 B => ?_))))))))
 ·refine sg (Wh m2 (bS B fun n5 e0 B => ?_))
  rcases n5 with r9 | s1
  ·have m := d.size
   refine px (.inl rfl) (lN (args := [a5, (.int .i64 11)]) (caps := #[]) _ _ d (Cb (Pb Pz) Cn) rfl dx (by exact nB rfl rfl) (fun hH A h ab => (jH.l (kj a (⟨f9, g1⟩ : jo) Q 11 _ _ ⟨hH, A, h⟩ (a4.mono (Pl.mono _) (js.refl _)) e0))) (fun l4 q9 p1 k6 d T af cb => ?_))
   obtain ⟨t2, u0, i7, rfl⟩ := cb
   replace d := d.perm (Tb Tn)
   refine kZ (kZ (mR ?_))
   obtain rfl := sj B
   exact kP.li ⟨_, _, _, rfl, (d.kC (Kb Sn)), ((((u.trans k).trans t).trans a6).trans T), ((((q.trans p).trans o).trans ad).trans af), (ST.jT d (lm.mem (Kb Sn))), ⟨_, _, i7, rfl⟩⟩
  have m := d.size
  refine VE (eD d (Cb (Pb Pz) Cn) dx (fun L => (jH.r (kj a (⟨f9, g1⟩ : jo) Q 11 _ _ L (a4.mono (Pl.mono _) (js.refl _)) e0))) ?_)
  rintro l4 s3 p1 k6 d T af ⟨c0, rfl⟩
  obtain rfl := c0.symm
  replace d := d.perm (Tb Tn)
  refine ln ?_
  replace d := d.iU (Kb (Db St))
  refine sg (V (kT (v := h2) uo (ku bw bN (Ij _ bN) kr)) ?_)
  replace d := d.perm (Nb (Pb Pz) Nz)
  refine VO (jy h2 ((iX K6).toArray) d b6 rfl ak (mx K6) nb rfl (fun q0 d => lt (jx (sZ ?_))))
  obtain rfl := sj B
  exact tw (v := h2) rfl b6 (jc d.has Mh (iX K6) rfl aS ak) (kP.ri ⟨_, _, _, rfl, (d.kC (Db (Kb Sn))), ((((u.trans k).trans t).trans a6).trans T), ((((q.trans p).trans o).trans ad).trans af), (ST.jT d (lm.mem (Db (Kb Sn)))), Q, rfl, rfl, (a4.mono (Pl.mono _) T)⟩)
 refine kg (V (iW f5 (jc d.has Mh (iX N) rfl aS ak)) ?_)
 replace d := d.perm (Nb (Pb (Pb Pz)) Nz)
 refine VO (jy (.agg (iX N).toArray) ((iX N).toArray) d b6 rfl ak (mx N) nb rfl (fun q1 d => ln ?_))
 replace d := d.iU (Kb (Db St))
 refine jz (sZ ?_)
 obtain rfl := sj B
 exact tw (v := (.agg (iX N).toArray)) rfl b6 (jc d.has Mh (iX N) rfl aS ak) (kP.ri ⟨_, _, _, rfl, (d.kC (Db (Kb Sn))), (((u.trans k).trans t).trans a6), (((q.trans p).trans o).trans ad), (ST.jT d (lm.mem (Db (Kb Sn)))), Q, rfl, rfl, a4⟩)
theorem CK (i : Nat) (Y : jo) (j : Value) (a1 : Int) (s : (Int ⊕ ((List jk) × jo))) (w : World) {μ0 : jw} (h0 : nR μ0 ((i, Ob #[j, (.bool Y.kE)] 158) :: []) w) (Z : Sl (Pl (jN .u8)) 1 μ0 j Y.b) (hm : xc Y a1 = some s) :
  jH true pg0 101 [(.pointer (some ⟨i, 0, none⟩)), (.int .i64 a1)] w μ0 ((i, Ob #[j, (.bool Y.kE)] 158) :: []) s (fun r v L1 μ1 => ∃ y1 y3, v = y1 ∧ L1 = ((i, Ob #[y3, (.bool ((r.2).kE))] 158) :: []) ∧ Sl (Pl ji) 12 μ1 y1 (r.1) ∧ Sl (Pl (jN .u8)) 1 μ1 y3 ((r.2).b)) (fun x c L1 μ1 => ∃ y z, c = [{ v := uC 217 i x, recovered := false }] ∧ L1 = ((i, Ob #[y, z] 158) :: [])) := by
 let b7 := ((i, Ob #[j, (.bool Y.kE)] 158) :: [])
 let a0 : Value := (.pointer (some ⟨i, 0, none⟩))
 have d := ST.ur (dd := true) h0
 refine oL (n := 26) func101 rfl rfl nb (sg (Wa (lr (Wa (lS (Wm ?_))))))
 refine Wm (bS hm fun e3 c9 hm => ?_)
 rcases e3 with h6 | r1
 ·have P := d.size
  refine px (.inl rfl) (lN (args := [a0, (.int .i64 a1)]) (caps := #[]) _ _ d (Cb Pz Cn) rfl gJ (by exact nB rfl rfl) (fun hH hN L aE => (jH.l (kH i Y j a1 _ _ ⟨hH, hN, L⟩ (Z.mono (Pl.mono _) (js.refl _)) c9))) (fun W3 h5 ab L9 d H A av => ?_))
  obtain ⟨h7, h8, d7, rfl⟩ := av
  replace d := d.perm (Tb Tn)
  refine kZ (kZ (mR ?_))
  obtain rfl := sj hm
  exact kP.li ⟨_, _, _, rfl, (d.kC (Kb Sn)), H, A, (ST.jT d (lm.mem (Kb Sn))), ⟨_, _, d7, rfl⟩⟩
 have P := d.size
 refine VE (eD d (Cb Pz Cn) gJ (fun hh => (jH.r (kH i Y j a1 _ _ hh (Z.mono (Pl.mono _) (js.refl _)) c9))) ?_)
 rintro W3 v7 ab L9 d H A ⟨f1, a4, rfl, d8⟩
 obtain rfl := a4.symm
 replace d := d.perm (Tb Tn)
 refine Wm (ln (lc (og (fun m E W => ∃ D a5 M U G I J K b0, js ab K ∧ Lo (keys b7) w ab K ∧ ST true (keys b7) w W K ((i, Ob #[G, (.bool J)] 158) :: (M ++ b0)) ∧ E 0 = a0 ∧ E 5 = D ∧ E 9 = (.int .i64 r1.1) ∧ E 10 = (.int .i64 U) ∧ jl 140 ji 12 D a5 M ∧ Sl (Pl (jN .u8)) 1 K G I ∧ pg r1 m a5 U I J = some s) jM ⟨(.slice none 0 0), ([]), [], 0, f1, ((r1.2).b), ((r1.2).kE), ab, _, (js.refl _), Lo.refl, (d.iU St), rfl, rfl, rfl, rfl, (jl.nil _ _ _), d8, hm⟩ ?_)))
 rintro m E W ⟨D, a5, M, U, G, I, J, K, b0, u, o, d, a3, b2, b3, b4, a8, N, g⟩
 cases m with
 | zero => rw [pg] at g; cases g
 | succ e0 =>
  refine sg (V (kd b4 b3 rfl) (ln (jm (CI g rfl (fun c1 g => ?_) (fun c1 g => ?_)))))
  ·refine kn (jm (bg (Wh a3 (bS g fun e2 a6 g => ?_))))
   rcases e2 with g3 | a
   ·have P := d.size
    refine px (.inl rfl) (lN (args := [a0]) (caps := #[]) _ _ d (Cb Pz Cn) rfl call167 (by exact nr rfl) (fun hH hN L aE => (jH.l (D3 i (⟨I, J⟩ : jo) G _ _ ⟨hH, hN, L⟩ (N.mono (Pl.mono _) (js.refl _)) a6))) (fun d4 g0 e8 d1 d B p ad => ?_))
    obtain ⟨g9, h2, c3, rfl⟩ := ad
    replace d := d.perm (Tb Tn)
    refine kZ (ua (kZ (kZ (ua (kZ (mR ?_))))))
    obtain rfl := sj g
    exact kP.li ⟨_, _, _, rfl, (d.kC (Kb Sn)), ((H.trans u).trans B), ((A.trans o).trans p), (ST.jT d (lm.mem (Kb Sn))), ⟨_, _, c3, rfl⟩⟩
   have P := d.size
   refine VE (eD d (Cb Pz Cn) call167 (fun hh => (jH.r (D3 i (⟨I, J⟩ : jo) G _ _ hh (N.mono (Pl.mono _) (js.refl _)) a6))) ?_)
   rintro d4 g7 e8 d1 d B p ⟨b5, Q, rfl, a9⟩
   obtain rfl := Q.symm
   replace d := d.perm (Tb Tn)
   refine VE (jK d bw (fun f5 f9 d => VO (jy (.agg (iX a.1).toArray) ((iX a.1).toArray) d rfl rfl ak (mx a.1) nb rfl (fun f6 d => ln ?_))))
   replace d := d.drew
   have h := d.has.iU (Kb Sn)
   refine jV h jE (X 0 rfl h (jd b2) (XH 1 rfl h (fun _ hS => iW rfl (jc hS Mh (iX a.1) rfl aS ak)) (X 2 rfl h (iY mY rfl) (XH 3 rfl h (fun _ hS => iW rfl (jc hS Mh (iT a.1.Head) rfl an ag)) (X 4 rfl h (jd a3) (bS g fun e1 a7 g => ?_))))))
   rcases e1 with g4 | k
   ·have P := d.size
    refine Qw 5 rfl kr (.inl rfl) (lN (args := [a0]) (caps := #[]) _ _ d (Cb (Pb Pz) Cn) rfl gu (by exact nr rfl) (fun hH hN L aE => (jH.l (oP i a.2 b5 _ _ ⟨hH, hN, L⟩ (a9.mono (Pl.mono _) (js.refl _)) a7))) (fun d5 g1 b6 d2 d t q af => ?_))
    obtain ⟨h1, h3, c4, rfl⟩ := af
    replace d := d.perm (Tb Tn)
    refine ua (kZ (kZ (ua (kZ (mR ?_)))))
    obtain rfl := sj g
    exact kP.li ⟨_, _, _, rfl, (d.kC (Kb Sn)), (((H.trans u).trans B).trans t), (((A.trans o).trans p).trans q), (ST.jT d (lm.mem (Kb Sn))), ⟨_, _, c4, rfl⟩⟩
   have P := d.size
   refine XE 5 rfl (eD d (Cb (Pb Pz) Cn) gu (fun hh => (jH.r (oP i a.2 b5 _ _ hh (a9.mono (Pl.mono _) (js.refl _)) a7))) ?_)
   rintro d5 g8 b6 d2 d t q ⟨e5, T, rfl, c6⟩
   obtain rfl := T.symm
   replace d := d.perm (Tb Tn)
   have h := d.has.pO t (Db (Kb Sn))
   let b1 := (⟨a.1, (⟨a.1.Head, k.1⟩ : iV)⟩ : jk)
   refine ⟨h, (X 6 rfl h (kT (v := (.agg (je (⟨a.1.Head, k.1⟩ : iV)).toArray)) (nz rfl rfl) (ku bW bl (Be _ bl) kr)) (X 7 rfl h (kT (v := (.agg (ji (b1)).toArray)) (nz rfl rfl) (ku cu cW (O1 _ cW) kr)) (XE 8 rfl (jS (cs := (ji (b1)).toArray) d (ma rfl) (lV au aV cu) (fun f7 d6 d => ?_)))))⟩
   have h := d.has.pO t (Db (Db (Kb Sn)))
   refine ⟨h, ?_⟩
   replace d := d.perm (Nr (Qb (Qb (Qb Qz))) Nz)
   refine bS g fun d9 c2 g => XE 9 rfl (kX (enc := ji) (v := D) (vs := (.slice (some ⟨d6, 0, none⟩) 1 1)) (R := M) d mD dc qb au lY.1 lY.2.1 rfl lY.2.2.1 lY.2.2.2 rfl rfl a8 (Sl.lit (enc := ji) (l := [b1]) mD rfl nb rfl (d.at_ (Ma Mh))) c2 (fun f8 e4 d3 d c0 => ?_))
   have h := d.has.pO t (Dr (Db (Db (Kb Sn))))
   refine ⟨h, (X 10 rfl h (mw rfl) (km kr (jI (jb ?_))))⟩
   replace d := d.iU (Kr (Db (Kb (Db St))))
   exact jj (V (kd b4 rfl rfl) (Wm (ln ⟨e0, bk _, e4, d9, d3, (wi0 .i64 (U + 1)), e5, ((k.2).b), ((k.2).kE), b6, _, ((u.trans B).trans t), ((o.trans p).trans q), (d.iU (Sb (Pr Pz) St)), a3, rfl, b3, rfl, c0, c6, g⟩)))
  refine nt (mH (mH (tK (jb (sg (Wh b2 (Wa (lt (sZ ?_)))))))))
  obtain rfl := sj g
  refine jR (v := D) rfl rfl ?_
  replace d := d.perm (Nr (Qb Qz) Nz)
  obtain ⟨h4, d, a2, ao, c5⟩ := ST.yk d a8 mD
  exact kP.ri ⟨_, _, _, rfl, (d.kC (Kb Sn)), ((H.trans u).trans a2), ((A.trans o).trans ao), (ST.jT d (lm.mem (Kb Sn))), D, G, rfl, rfl, c5, (N.mono (Pl.mono _) a2)⟩
theorem Ba (a : Nat) (a0 : jo) (k : Value) (s : (Int ⊕ (jP × jo))) (w : World) {μ0 : jw} (h0 : nR μ0 ((a, Ob #[k, (.bool a0.kE)] 158) :: []) w) (b4 : Sl (Pl (jN .u8)) 1 μ0 k a0.b) (hm : tB a0 = some s) :
  jH true pg0 41 [(.pointer (some ⟨a, 0, none⟩))] w μ0 ((a, Ob #[k, (.bool a0.kE)] 158) :: []) s (fun r v L1 μ1 => ∃ y1 y3 y5, v = (.agg #[(.int .i64 ((r.1).State)), (.int .i64 ((r.1).mq)), y1, y3]) ∧ L1 = ((a, Ob #[y5, (.bool ((r.2).kE))] 158) :: []) ∧ Sl (Pl iT) 2 μ1 y1 ((r.1).jL) ∧ Sl (Pl ji) 12 μ1 y3 ((r.1).jQ) ∧ Sl (Pl (jN .u8)) 1 μ1 y5 ((r.2).b)) (fun x c L1 μ1 => ∃ y z, c = [{ v := uC 217 a x, recovered := false }] ∧ L1 = ((a, Ob #[y, z] 158) :: [])) := by
 let d8 := ((a, Ob #[k, (.bool a0.kE)] 158) :: [])
 let b3 : Value := (.pointer (some ⟨a, 0, none⟩))
 have d := ST.ur (dd := true) h0
 refine oL (n := 25) func41 rfl rfl nb (sg (VE (jK d dh (fun W2 b1 d => lr (Wm (bS hm fun h3 e8 hm => ?_))))))
 rcases h3 with l7 | J
 ·have P := d.size
  refine px (.inl rfl) (lN (args := [b3, (.int .i64 3)]) (caps := #[]) _ _ d (Cb (Pb Pz) Cn) rfl gJ (by exact nB rfl rfl) (fun hH hN L av => (jH.l (kH a a0 k 3 _ _ ⟨hH, hN, L⟩ (b4.mono (Pl.mono _) (js.refl _)) e8))) (fun W5 l4 ch h8 d H ao ca => ?_))
  obtain ⟨m2, m5, g1, rfl⟩ := ca
  replace d := d.perm (Tb Tn)
  refine kZ (mR ?_)
  obtain rfl := sj hm
  exact kP.li ⟨_, _, _, rfl, (d.kC (Kb Sn)), H, ao, (ST.jT d (lm.mem (Kb Sn))), ⟨_, _, g1, rfl⟩⟩
 have P := d.size
 refine VE (eD d (Cb (Pb Pz) Cn) gJ (fun hh => (jH.r (kH a a0 k 3 _ _ hh (b4.mono (Pl.mono _) (js.refl _)) e8))) ?_)
 rintro W5 v9 ch h8 d H ao ⟨e9, c0, rfl, d4⟩
 obtain rfl := c0.symm
 replace d := d.perm (Tb Tn)
 refine Wm (bS hm fun h2 d2 hm => ?_)
 rcases h2 with l8 | j
 ·have P := d.size
  refine px (.inl rfl) (lN (args := [b3, (.int .i64 99)]) (caps := #[]) _ _ d (Cb Pz Cn) rfl gJ (by exact nB rfl rfl) (fun hH hN L av => (jH.l (kH a J.2 e9 99 _ _ ⟨hH, hN, L⟩ (d4.mono (Pl.mono _) (js.refl _)) d2))) (fun i1 l5 i8 h9 d G q cb => ?_))
  obtain ⟨m3, m6, g2, rfl⟩ := cb
  replace d := d.perm (Tb Tn)
  refine kZ (mR ?_)
  obtain rfl := sj hm
  exact kP.li ⟨_, _, _, rfl, (d.kC (Kb Sn)), (H.trans G), (ao.trans q), (ST.jT d (lm.mem (Kb Sn))), ⟨_, _, g2, rfl⟩⟩
 have P := d.size
 refine VE (eD d (Cb Pz Cn) gJ (fun hh => (jH.r (kH a J.2 e9 99 _ _ hh (d4.mono (Pl.mono _) (js.refl _)) d2))) ?_)
 rintro i1 m0 i8 h9 d G q ⟨f0, c1, rfl, d5⟩
 obtain rfl := c1.symm
 replace d := d.perm (Tb Tn)
 refine V (kT (v := (.agg (C5 J.1 j.1).toArray)) (nz rfl rfl) (ku dh cX (N8 _ cX) kr)) (VE (jK d dh (fun l2 e7 d => VO (jy (.agg (C5 J.1 j.1).toArray) ((C5 J.1 j.1).toArray) d rfl rfl bV oc nb rfl (fun l3 d => lS (Wm (bS hm fun h1 d3 hm => ?_)))))))
 rcases h1 with l9 | c7
 ·have P := d.size
  refine px (.inl rfl) (lN (args := [b3, (.int .i64 64)]) (caps := #[]) _ _ d (Cb (Pb Pz) Cn) rfl gJ (by exact nB rfl rfl) (fun hH hN L av => (jH.l (kH a j.2 f0 64 _ _ ⟨hH, hN, L⟩ (d5.mono (Pl.mono _) (js.refl _)) d3))) (fun i2 l6 c8 i0 d N ab cc => ?_))
  obtain ⟨m4, m7, g3, rfl⟩ := cc
  replace d := d.perm (Tb Tn)
  refine kZ (kZ (mR ?_))
  obtain rfl := sj hm
  exact kP.li ⟨_, _, _, rfl, (d.kC (Kb Sn)), ((H.trans G).trans N), ((ao.trans q).trans ab), (ST.jT d (lm.mem (Kb Sn))), ⟨_, _, g3, rfl⟩⟩
 have P := d.size
 refine VE (eD d (Cb (Pb Pz) Cn) gJ (fun hh => (jH.r (kH a j.2 f0 64 _ _ hh (d5.mono (Pl.mono _) (js.refl _)) d3))) ?_)
 rintro i2 m1 c8 i0 d N ab ⟨i7, c2, rfl, g4⟩
 obtain rfl := c2.symm
 replace d := d.perm (Tb Tn)
 refine Wm (ln (lc (og (fun m E W => ∃ b2 U B a6 K I M a5 c9, js c8 a5 ∧ Lo (keys d8) w c8 a5 ∧ ST true (keys d8) w W a5 ((e7, Ob #[(.int .i64 J.1), (.int .i64 j.1), U, (.slice none 0 0)] 64) :: ((a, Ob #[K, (.bool M)] 158) :: ((b1, Ol C6 64) :: (a6 ++ c9)))) ∧ E 0 = b3 ∧ E 2 = (.pointer (some ⟨b1, 0, none⟩)) ∧ E 3 = (.pointer (some ⟨e7, 0, none⟩)) ∧ E 10 = (.int .i64 c7.1) ∧ E 11 = (.int .i64 b2) ∧ jl 28 iT 2 U B a6 ∧ Sl (Pl (jN .u8)) 1 a5 K I ∧ nM c7 J j m b2 B I M = some s) jM ⟨0, (.slice none 0 0), ([]), [], i7, ((c7.2).b), ((c7.2).kE), c8, _, (js.refl _), Lo.refl, (d.iU (Sb (Pb Pz) St)), rfl, rfl, rfl, rfl, rfl, (jl.nil _ _ _), g4, hm⟩ ?_)))
 rintro m E W ⟨b2, U, B, a6, K, I, M, a5, c9, Q, A, d, b7, b9, a2, d0, d1, a7, Y, g⟩
 let d7 := (⟨I, M⟩ : jo)
 cases m with
 | zero => rw [nM] at g; cases g
 | succ g7 =>
  refine sg (V (kd d1 d0 rfl) (ln (jm (CI g rfl (fun d9 g => ?_) (fun d9 g => ?_)))))
  ·refine kn (jm (lc ?_))
   replace d := d.drew
   have o := d.has.iU Sn
   have p := d.has.iU (Kb Sn)
   refine yK 7 o p jE (lO 0 rfl kr (.inl rfl) rfl dc (fun _ _ h => ⟨h.1, oO br h.2⟩) ⟨o, fun _ => p⟩ (fun _ _ _ _ => iY rM a2) (lO 1 rfl kr (.inl rfl) rfl dc (fun _ _ h => ⟨h.1, oO br h.2⟩) ⟨o, fun _ => p⟩ (fun l W cf hs => have hS := (hs.2 (cf.Ny 7 [1] kr rfl)); iW rfl (jg hS Mh rfl dK)) (lO 2 rfl kr (.inl rfl) rfl dc (fun _ _ h => ⟨h.1, oO br h.2⟩) ⟨o, fun _ => p⟩ (fun _ _ _ _ => jd b7) (bS g fun g8 c4 g => ?_))))
   rcases g8 with k0 | T
   ·have P := d.size
    refine Qw 3 rfl kr (.inl rfl) (lN (args := [b3]) (caps := #[]) _ _ d (Cb (Pb Pz) Cn) rfl fE (by exact nr rfl) (fun hH hN L av => (jH.l (nj a d7 K _ _ ⟨hH, hN, L⟩ (Y.mono (Pl.mono _) (js.refl _)) c4))) (fun f5 j7 d6 f2 d i ad aE => ?_))
    obtain ⟨k5, k8, e1, rfl⟩ := aE
    replace d := d.perm (Tb Tn)
    refine ua (kZ (kZ (ua (kZ (mR ?_)))))
    obtain rfl := sj g
    exact kP.li ⟨_, _, _, rfl, (d.kC (Kb Sn)), ((((H.trans G).trans N).trans Q).trans i), ((((ao.trans q).trans ab).trans A).trans ad), (ST.jT d (lm.mem (Kb Sn))), ⟨_, _, e1, rfl⟩⟩
   have P := d.size
   refine XE 3 rfl (eD d (Cb (Pb Pz) Cn) fE (fun hh => (jH.r (nj a d7 K _ _ hh (Y.mono (Pl.mono _) (js.refl _)) c4))) ?_)
   rintro f5 k2 d6 f2 d i ad ⟨h4, a8, rfl, e4⟩
   obtain rfl := a8.symm
   replace d := d.perm (Tb Tn)
   have o := d.has.pO i Sn
   have p := d.has.pO i (Db (Kb Sn))
   refine ⟨⟨o, fun _ => p⟩, (XE 4 rfl (jS (cs := (iT T.1).toArray) d (ma rfl) (lV al ag bo) (fun j0 f7 d => ?_)))⟩
   have o := d.has.pO i Sn
   have p := d.has.pO i (Db (Db (Kb Sn)))
   refine ⟨⟨o, fun _ => p⟩, ?_⟩
   replace d := d.perm (Nr (Qb (Qb (Qb (Qb Qz)))) Nz)
   refine bS g fun b0 e0 g => XE 5 rfl (kX (enc := iT) (v := U) (vs := (.slice (some ⟨f7, 0, none⟩) 1 1)) (R := a6) d lp dc lh al nw.1 nw.2.1 rfl nw.2.2.1 nw.2.2.2 rfl rfl a7 (Sl.lit (enc := iT) (l := [T.1]) lp rfl nb rfl (d.at_ (Ma Mh))) e0 (fun j3 k3 f4 d c3 => ?_))
   have o := d.has.pO i Sn
   have p := d.has.pO i (Dr (Db (Db (Kb Sn))))
   refine ⟨⟨o, fun _ => p⟩, (lO 6 rfl kr (.inl rfl) rfl dc (fun _ _ h => ⟨h.1, oO br h.2⟩) ⟨o, fun _ => p⟩ (fun _ _ _ _ => iY rM a2) ?_)⟩
   obtain ⟨b5, b6, rfl⟩ := c3.form
   let f1 : Value := (.slice b5 b0.length b6)
   replace d := d.perm (Nb (Pr (Pb (Pb Pz))) Nz)
   refine XO 7 rfl (jy f1 (#[(.int .i64 J.1), (.int .i64 j.1), f1, (.slice none 0 0)]) d rfl rfl sizeOf34 oc nb rfl (fun j4 d => ?_))
   have o := d.has.pO i Sn
   refine ⟨⟨o, fun h => KH kr h⟩, (km kr (jI (jb ?_)))⟩
   replace d := d.iU (Kb (Kr (Db St)))
   exact jj (V (kd d1 rfl rfl) (Wm (ln ⟨g7, bk _, (wi0 .i64 (b2 + 1)), f1, b0, f4, h4, ((T.2).b), ((T.2).kE), d6, _, (Q.trans i), (A.trans ad), (d.iU (Kb (Sb (Pr Pz) (Sb (Pr Pz) St)))), b7, b9, a2, d0, rfl, c3, e4, g⟩)))
  refine nt (mH (mH (tK (jb (sg (Wh b7 (bS g fun g9 c5 g => ?_)))))))
  rcases g9 with k1 | D
  ·have P := d.size
   refine px (.inl rfl) (lN (args := [b3, (.int .i64 256)]) (caps := #[]) _ _ d (Cb (Pb Pz) Cn) rfl call101 (by exact nB rfl rfl) (fun hH hN L av => (jH.l (CK a d7 K 256 _ _ ⟨hH, hN, L⟩ (Y.mono (Pl.mono _) (js.refl _)) c5))) (fun f6 j8 h7 f3 d a3 af ba => ?_))
   obtain ⟨k7, k9, e2, rfl⟩ := ba
   replace d := d.perm (Tb Tn)
   refine kZ (mR ?_)
   obtain rfl := sj g
   exact kP.li ⟨_, _, _, rfl, (d.kC (Kb Sn)), ((((H.trans G).trans N).trans Q).trans a3), ((((ao.trans q).trans ab).trans A).trans af), (ST.jT d (lm.mem (Kb Sn))), ⟨_, _, e2, rfl⟩⟩
  have P := d.size
  refine VE (eD d (Cb (Pb Pz) Cn) call101 (fun hh => (jH.r (CK a d7 K 256 _ _ hh (Y.mono (Pl.mono _) (js.refl _)) c5))) ?_)
  rintro f6 k4 h7 f3 d a3 af ⟨k6, h5, a9, rfl, c6, e5⟩
  obtain rfl := a9.symm
  replace d := d.perm (Tb Tn)
  refine V (iY ui a2) ?_
  obtain ⟨t, u, rfl⟩ := c6.form
  let e6 : Value := (.slice t D.1.length u)
  replace d := d.perm (Nb (Pb Pz) Nz)
  refine VO (jy e6 (#[(.int .i64 J.1), (.int .i64 j.1), U, e6]) d rfl rfl iN oc nb rfl (fun j5 d => lr (V (iW a2 (jc d.has Mh [(.int .i64 J.1), (.int .i64 j.1), U, e6] rfl dq bV)) ?_)))
  obtain ⟨Z, a1, rfl⟩ := a7.form
  let b8 := (C2 J.1 j.1 Z B.length a1 t D.1.length u)
  replace d := d.perm (Nb (Pb (Pb Pz)) Nz)
  refine VO (jy (.agg b8.toArray) (b8.toArray) d b9 rfl bV oc nb rfl (fun j6 d => ln ?_))
  replace d := d.iU (Kb (Db St))
  refine jz (sZ ?_)
  obtain rfl := sj g
  refine tw (v := (.agg b8.toArray)) rfl b9 (jc d.has Mh b8 rfl dq bV) ?_
  replace d := d.perm (Nr (Qb (Qb Qz)) Nz)
  obtain ⟨l1, d, a4, bs, e3⟩ := ST.yk d a7 lp
  exact kP.ri ⟨_, _, _, rfl, (d.kC (Db (Kb Sn))), (((((H.trans G).trans N).trans Q).trans a3).trans a4), (((((ao.trans q).trans ab).trans A).trans af).trans bs), (ST.jT d (lm.mem (Db (Kb Sn)))), (.slice Z B.length a1), e6, h5, rfl, rfl, e3, (c6.mono (Pl.mono _) a4), (e5.mono (Pl.mono _) a4)⟩
theorem DB (i : Nat) (H : jo) (j : Value) (k : Nat) (u : jP) (g a : Value) (s : (Int ⊕ (jo × jP))) (w : World) {T : jw} (h0 : nR T ((i, Ob #[j, (.bool H.kE)] 158) :: ((k, Ob #[(.int .i64 u.State), (.int .i64 u.mq), g, a] 64) :: [])) w) (B : Sl (Pl (jN .u8)) 1 T j H.b) (Y : Sl (Pl iT) 2 T g u.jL) (U : Sl (Pl ji) 12 T a u.jQ) (hm : yR H u = some s) :
  jH true pg0 70 [(.pointer (some ⟨i, 0, none⟩)), (.pointer (some ⟨k, 0, none⟩))] w T ((i, Ob #[j, (.bool H.kE)] 158) :: ((k, Ob #[(.int .i64 u.State), (.int .i64 u.mq), g, a] 64) :: [])) s (fun r v L1 Z => ∃ P R W, v = (.tuple #[]) ∧ L1 = ((i, Ob #[P, (.bool ((r.1).kE))] 158) :: ((k, Ob #[(.int .i64 ((r.2).State)), (.int .i64 ((r.2).mq)), R, W] 64) :: [])) ∧ Sl (Pl (jN .u8)) 1 Z P ((r.1).b) ∧ Sl (Pl iT) 2 Z R ((r.2).jL) ∧ Sl (Pl ji) 12 Z W ((r.2).jQ)) (fun x c L1 Z => ∃ y z, c = [{ v := uC 217 i x, recovered := false }] ∧ L1 = ((i, Ob #[y, z] 158) :: ((k, Ob #[(.int .i64 u.State), (.int .i64 u.mq), g, a] 64) :: []))) := by
 have d := ST.ur (dd := true) h0
 refine oL (n := 5) func70 rfl rfl nb (jj (Wm (bS hm fun a6 L hm => ?_)))
 rcases a6 with b7 | t
 ·have A := d.size
  refine px (.inl rfl) (lN (args := [(.pointer (some ⟨i, 0, none⟩))]) (caps := #[]) _ _ d (Cb Pz Cn) rfl call41 (by exact nr rfl) (fun hH p m q => (jH.l (Ba i H j _ _ ⟨hH, p, m⟩ (B.mono (Pl.mono _) (js.refl _)) L))) (fun W3 b6 E L9 d D h o => ?_))
  obtain ⟨c2, c3, a3, rfl⟩ := o
  replace d := d.perm (Tb Tn)
  refine mR ?_
  obtain rfl := sj hm
  exact kP.li ⟨_, _, _, rfl, (d.kC (Kb (Kb Sn))), D, h, (ST.jT d (lm.mem (Kb (Kb Sn)))), ⟨_, _, a3, rfl⟩⟩
 have A := d.size
 refine VE (Nq d (Cb Pz Cn) call41 (fun hH p m q => (jH.r (Ba i H j _ _ ⟨hH, p, m⟩ (B.mono (Pl.mono _) (js.refl _)) L))) (fun W3 v7 E L9 d D h a5 => ?_))
 obtain ⟨b9, c1, a8, G, rfl, N, Q, a4⟩ := a5
 replace G := G.symm; subst G
 replace d := d.perm (Tb Tn)
 obtain ⟨I, K, rfl⟩ := N.form
 let a0 : Value := (.slice I ((t.1).jL).length K)
 obtain ⟨J, M, rfl⟩ := Q.form
 let a2 : Value := (.slice J ((t.1).jQ).length M)
 replace d := d.perm (Nb (Pb Pz) Nz)
 refine VO (jy (.agg #[(.int .i64 ((t.1).State)), (.int .i64 ((t.1).mq)), a0, a2]) (#[(.int .i64 ((t.1).State)), (.int .i64 ((t.1).mq)), a0, a2]) d rfl rfl bV oc nb rfl (fun b5 d => jC (Lh (tG ?_))))
 obtain rfl := sj hm
 exact sI rfl (kP.ri ⟨_, _, _, rfl, (d.kC (Sb (Pb Pz) (Kb Sn))), D, h, (ST.jT d (lm.mem (Sb (Pb Pz) (Kb Sn)))), a8, a0, a2, rfl, rfl, a4, N, Q⟩)
theorem AE (H : Value) (M : List Int) (i : Nat) (t : jP) (g a : Value) (r : (Int × jP)) (w : World) {K : jw} (I : nR K ((i, Ob #[(.int .i64 t.State), (.int .i64 t.mq), g, a] 64) :: []) w) (N : Sl (Pl (jN .u8)) 1 K H M) (k : Sl (Pl iT) 2 K g t.jL) (j : Sl (Pl ji) 12 K a t.jQ) (hm : sV M t = some r) :
  oq true pg0 39 [H, (.func (.func 70) #[] #[(.pointer (some ⟨i, 0, none⟩))])] w K ((i, Ob #[(.int .i64 t.State), (.int .i64 t.mq), g, a] 64) :: []) (fun v G D => ∃ u B, v = (.int .i64 (r.1)) ∧ G = ((i, Ob #[(.int .i64 ((r.2).State)), (.int .i64 ((r.2).mq)), u, B] 64) :: []) ∧ Sl (Pl iT) 2 D u ((r.2).jL) ∧ Sl (Pl ji) 12 D B ((r.2).jQ)) := by
 refine bS hm fun l h hm => bS hm fun s m hm => ?_
 obtain rfl := sj hm
 refine oq.mono (JU 70 #[(.pointer (some ⟨i, 0, none⟩))] H M l s (fun r => (r.1).b) w I N h (fun r G D => ∃ u B, G = ((i, Ob #[(.int .i64 ((r.2).State)), (.int .i64 ((r.2).mq)), u, B] 64) :: []) ∧ Sl (Pl iT) 2 D u ((r.2).jL) ∧ Sl (Pl ji) 12 D B ((r.2).jQ)) (fun x G D => G = ((i, Ob #[(.int .i64 t.State), (.int .i64 t.mq), g, a] 64) :: [])) call70 (fun L μ' E n J hle q => jH.mono (DB E (⟨l, false⟩ : jo) n i t g a s L J q (k.mono (Pl.mono _) hle) (j.mono (Pl.mono _) hle) m) ?_ ?_)) ?_
 ·rintro r v G D ⟨R, u, B, P, d, Q, I, J⟩; exact ⟨_, _, _, d, Q, u, B, rfl, I, J⟩
 ·rintro x c G D ⟨y, z, A, d⟩; exact ⟨y, z, _, A, d, rfl⟩
 rintro v G D p ⟨rfl, o⟩
 cases s with
 | inl x => exact ⟨g, a, rfl, o, (k.mono (Pl.mono _) p), (j.mono (Pl.mono _) p)⟩
 | inr r => obtain ⟨u, B, d, I, J⟩ := o; exact ⟨u, B, rfl, d, I, J⟩
theorem CR (k : Value) (G : List jk) (D : Value) (q : List iS) (K : iV) (r : (Int × Int)) (w : World) (x : Sl (Pl ji) 12 (hp w) k G) (c9 : Sl (Pl iX) 9 (hp w) D q) (hm : uM G q K = some r) :
  jv false pg0 86 [k, D, (.agg (je K).toArray)] w (.tuple #[(.int .i64 r.1), (.int .i64 r.2)]) := by
 let a0 : Value := (.int .i64 (G.length : Int))
 refine cG 43 func86 rfl (fun d => sg (VE (jF d rfl (fun W2 s d => Wa (Wa (lr (Wm (bS hm fun r3 d3 hm => VE (pT d call150 (jZ.kw (zb k G _ _ (x.mono (Pl.mono _) d.jf) d3)) (fun W5 v9 p b7 d Y ab U => Wa (jC ?_)))))))))))
 refine jb (jm (sg (Wm (V (jO au rfl x) (Wm (ln (jG (fun i E W => ∃ N, (E 15 = .int .i64 (i : Nat) ∧ E 14 = .int .i64 (G.length : Nat)) ∧ ST false jD w W p ((s, Ol (je K) 38) :: (b7 ++ N)) ∧ E 0 = k ∧ E 1 = D ∧ E 5 = (.pointer (some ⟨s, 0, none⟩)) ∧ E 8 = v9 ∧ E 13 = k ∧ qJ q r3 K G (G.drop i) i = some r) G.length x.len ⟨_, ⟨rfl, rfl⟩, (d.iU (Sb (Pr Pz) St)), rfl, rfl, rfl, rfl, rfl, hm⟩ dc dc dc (fun _ _ _ h => by obtain ⟨_, A, _⟩ := h; exact A) ?_ ?_)))))))
 ·rintro y E W a7 ⟨N, ⟨n, L⟩, d, z, H, I, B, J, c⟩
  let a2 : Value := (.int .i64 (y : Int))
  obtain ⟨j, d5, b5, b4, b6⟩ := jB a7
  rw [b5] at c
  refine bg (Wh n (VQ (kk (enc := ji) (i := (y : Int)) (x0 := j) au aV J n (x.mono (Pl.mono _) Y) (ah _) b4) (fun e1 a8 => V (iW rfl (jX d.has a8 da aV)) (VE (jK d cu (fun d6 b9 d => Wa (VO (jy (.agg (ji j).toArray) ((ji j).toArray) d rfl rfl aV (qb j) nb rfl (fun d7 d => ln (jm ?_))))))))))
  replace d := d.drew
  have m := d.has.iU (Kb Sn)
  refine jV m jE (X 0 rfl m (jd H) (X 1 rfl m (iY uX rfl) (XH 2 rfl m (fun _ P => iW rfl (jc P Mh (iX j.iS) rfl aS ak)) (bS c fun e2 a9 c => XE 3 rfl (Eg d call151 (jv.kw (FN D q j.iS _ _ (c9.mono (Pl.mono _) (Y.trans d.jf)) a9)) (fun d8 d => ?_))))))
  have m := d.has.iU (Kb Sn)
  refine ⟨m, (X 4 rfl m (lj rfl) (X 5 rfl m (jd rfl) (PJ c (fun Z E W => ∃ T, ST false jD w W p ((b9, Ol (ji j) 140) :: ((s, Ol (je K) 38) :: (b7 ++ T))) ∧ E 0 = k ∧ E 1 = D ∧ E 5 = (.pointer (some ⟨s, 0, none⟩)) ∧ E 8 = v9 ∧ E 9 = a2 ∧ E 13 = k ∧ E 14 = a0 ∧ E 15 = a2 ∧ E 32 = (.bool Z)) (bm 13 8191) 0 ?_ (fun Z g M => ?_))))⟩
  ·rintro e5 E W ⟨T, d, c0, c1, c2, c3, c4, c5, c6, c7, c8⟩ t
   refine km kr (jb ?_)
   replace d := d.iU (Db St)
   refine CI t c8 (fun a5 t => ?_) (fun a5 t => ?_)
   ·refine sg (Wh c4 (Wa (Wa (ln ?_))))
    replace d := d.iU (Db (Dr St))
    refine jz (ko (jx (ko (jx ?_))))
    obtain rfl := sj t
    exact pq (v := a2) (u := (.int .i64 50)) rfl rfl rfl ⟨rfl, d.ex⟩
   exact jJ (jI (jb ⟨c7, _, ⟨rfl, c6⟩, (d.iU St), c0, c1, c2, c3, c5, (by rw [b6]; exact t)⟩))
  refine bC g (fun a g => ?_) (fun a g => ?_)
  ·refine Xn 6 rfl rfl (cB a) m (Xn 7 rfl rfl (cB a) m (Xn 8 rfl rfl (cB a) m (Xn 9 rfl rfl (cB a) m (Xn 10 rfl rfl (cB a) m (Xn 11 rfl rfl (cB a) m (X 12 rfl m (jq (cB a) rfl) ?_))))))
   obtain rfl := sj g
   refine tW kr (M _ _ ⟨_, (d.iU St), z, H, I, B, rfl, J, L, n, rfl⟩)
  refine xz 6 rfl rfl (cB a) m (fun _ P => iW rfl (jc P Mh (ji j) rfl da aV)) (Xg 7 rfl rfl (cB a) m (jd B) (Xg 8 rfl rfl (cB a) m (jd rfl) (bS g fun _ Q g => Ls 9 rfl kr (.inr ⟨5, false, 25, rfl, rfl, by decide, (cB a)⟩) rfl dc (fun _ _ h => h) m (se (i := (y : Int)) bj bf rfl rfl U lJ (pc Q) (oZ Q)) (fun d1 b3 => bS g fun e3 b0 g => Hv 10 rfl rfl (cB a) (Eg d call152 (xY j d1 (r3.take (Int.toNat (y : Int))) _ _ (b3.sl lJ (fun b o R => d.at_ (Mt (Mt (Ml R))))) b0) (fun d9 d => ?_))))))
  have m := d.has.iU (Kb Sn)
  refine ⟨m, (Xg 11 rfl rfl (cB a) m (lj rfl) (X 12 rfl m (jn (cB a) rfl) ?_))⟩
  obtain rfl := sj g
  refine tW kr (M _ _ ⟨_, (d.iU St), z, H, I, B, rfl, J, L, n, rfl⟩)
 rintro E W ⟨N, ⟨n, L⟩, d, z, H, I, B, J, c⟩
 rw [ai] at c
 refine jb (jm (sg (Wh B (V (iW I (jc d.has Mh (je K) rfl cH bf)) (bS c fun e4 b2 c => VE (Eg d call153 (jv.kw (wN v9 r3 K _ _ (U.sl lJ (fun b o R => d.at_ (Mt (Ml R)))) b2)) (fun e0 d => V (lj rfl) (ln ?_))))))))
 replace d := d.iU (Db (Dr St))
 refine CI c rfl (fun a6 c => ?_) (fun a6 c => ?_)
 ·refine sg (Wh z (V (jO au rfl x) (Wa (Wa (lt (jx ?_))))))
  obtain rfl := sj c
  exact pq (v := a0) (u := (.int .i64 42)) rfl rfl rfl ⟨rfl, d.ex⟩
 refine kg (Wh z (V (jO au rfl x) (Wa (Wa (lt ?_)))))
 obtain rfl := sj c
 exact pq (v := a0) (u := (.int .i64 0)) rfl rfl rfl ⟨rfl, d.ex⟩
theorem tz (g : jP) (u t B : Value) (M : List iS) (k : Formula) (y : Value) (D : ByteArray) (r : Int) (w : World) (a : Sl (Pl iT) 2 (hp w) u g.jL) (j : Sl (Pl ji) 12 (hp w) t g.jQ) (N : Sl (Pl iX) 9 (hp w) B M) (x : Sl ju 5 (hp w) y k.Kids) (hm : lQ g M k D = some r) :
  jv false pg0 34 [(.agg #[(.int .i64 g.State), (.int .i64 g.mq), u, t]), B, (.agg #[(.int .i64 k.Op), (.int .i64 k.K), (.string k.iR.ja), (.string k.iR.jt), y]), (.string D)] w (.int .i64 r) := by
 refine cG 57 func34 rfl (fun d => sg ?_)
 obtain ⟨Q, U, rfl⟩ := a.form
 obtain ⟨T, Y, rfl⟩ := j.form
 refine VE (jF d rfl (fun W6 o d => ?_))
 obtain ⟨A7, p, rfl⟩ := x.form
 refine VE (jF d rfl (fun d2 b9 d => Wa (ln (jm (bg (Wf zY (VB d (Mt Mh) rfl rfl bF (Wi rfl (Wa (ln (CI hm rfl (fun s hm => ?_) (fun s hm => ?_))))))))))))
 ·refine sg (Wa (ln ?_))
  replace d := d.iU (Db (Db St))
  refine jz (ko (jx ?_))
  obtain rfl := sj hm
  exact rP d
 refine sg (VA d Mh (C1 k.Op k.K k.iR.ja k.iR.jt A7 k.Kids.length p) bG aP (Wf rM (VB d (Mt Mh) rfl rfl dK (bS hm fun d5 P hm => VE (Eg d call85 (A4 k (.slice A7 k.Kids.length p) (.slice Q g.jL.length U) g.jL _ _ (x.mono ky.mono d.jf) (a.mono (Pl.mono _) d.jf) P) (fun d3 d => V (lj rfl) (Wa (ln ?_))))))))
 replace d := d.iU (Db St)
 refine CI hm rfl (fun a9 hm => ?_) (fun a9 hm => ?_)
 ·refine sg (Wa (ln ?_))
  replace d := d.iU (Db St)
  refine jz (ko (jx ?_))
  obtain rfl := sj hm
  exact rP d
 refine jJ (jI (jb (jm (sg (Wf ui (VB d Mh rfl rfl eF (Wm (V (kT (v := (.agg (je K7).toArray)) uo (ku bW bl (Be _ bl) kr)) (bS hm fun d6 R hm => VE (Eg d call86 (CR (.slice T g.jQ.length Y) g.jQ B M K7 _ _ (j.mono (Pl.mono _) d.jf) (N.mono (Pl.mono _) d.jf) R) (fun d4 d => Wm (Wx rfl (Wx rfl ?_)))))))))))))
 refine Wa (Wa (lr (Wm (Wi rfl (ln (CI hm rfl (fun A hm => ?_) (fun A hm => ?_)))))))
 ·refine sg (Wm (Wa (ln ?_)))
  replace d := d.iU (Db St)
  refine jz (jx ?_)
  obtain rfl := sj hm
  exact rP d
 refine kS (Wf rM (VB d Mh rfl rfl dK (V (jO al rfl a) (Wm (ln (jG (fun i E W => ∃ K, (E 39 = .int .i64 (i : Nat) ∧ E 38 = .int .i64 (g.jL.length : Nat)) ∧ ST false jD w W (hp w) ((o, Ol (C2 g.State g.mq Q g.jL.length U T g.jQ.length Y) 64) :: K) ∧ E 1 = B ∧ E 3 = (.string D) ∧ E 4 = (.pointer (some ⟨o, 0, none⟩)) ∧ E 37 = (.slice Q g.jL.length U) ∧ qY g M D (g.jL.drop i) = some r) g.jL.length a.len ⟨_, ⟨rfl, rfl⟩, (d.iU St), rfl, rfl, rfl, rfl, hm⟩ dc dc dc (fun _ _ _ h => by obtain ⟨_, n, _⟩ := h; exact n) ?_ ?_))))))
 ·rintro c1 E W L ⟨K, ⟨m, q⟩, d, G, H, I, J, c⟩
  obtain ⟨z, d1, b6, b4, b7⟩ := jB L
  rw [b6] at c
  refine bg (VQ (kk (enc := iT) (i := (c1 : Int)) (x0 := z) al ag J m a (ah _) b4) (fun c9 a4 => V (iW rfl (jX d.has a4 an ag)) (VE (jK d bo (fun c3 c7 d => VO (jy (.agg (iT z).toArray) ((iT z).toArray) d rfl rfl ag (lh z) nb rfl (fun c5 d => lr (V (iY ui I) (VB d (Mt Mh) rfl rfl eF (Wh G (VA d Mh (iT z) an ag ?_)))))))))))
  refine Wh H (V (kT (v := (.agg (je (⟨z, D⟩ : iV)).toArray)) (nz rfl rfl) (ku bW bl (Be _ bl) kr)) (bS c fun d0 a5 c => VE (Eg d call86 (CR (.slice T g.jQ.length Y) g.jQ B M (⟨z, D⟩ : iV) _ _ (j.mono (Pl.mono _) d.jf) (N.mono (Pl.mono _) d.jf) a5) (fun c6 d => Wm (Wx rfl (Wx rfl (Wa (Wa (ln ?_)))))))))
  replace d := d.iU (Db St)
  refine sg (Wm (Wi rfl (ln (CI c rfl (fun Z c => ?_) (fun Z c => ?_)))))
  ·refine sg (Wm (Wa (ln ?_)))
   replace d := d.iU (Db St)
   refine jz (ko (jx (ko (jx ?_))))
   obtain rfl := sj c
   exact rP d
  exact jJ (jI (jb ⟨m, _, ⟨rfl, q⟩, (d.iU St), G, H, I, J, (by rw [b7]; exact c)⟩))
 rintro E W ⟨K, ⟨m, q⟩, d, G, H, I, J, c⟩
 rw [ai] at c
 refine jb ?_
 replace d := d.iU (Db St)
 exact sg (Wa (lt (rQ c d)))
theorem Dd (t : Value) (y : List iR) (u : Value) (K : List iR) (r : Bool) (w : World) (c : Sl (Pl iT) 2 (hp w) t y) (z : Sl (Pl iT) 2 (hp w) u K) (hm : sM y K = some r) :
  jv true pg0 75 [t, u] w (.bool r) := by
 refine cG 26 func75 rfl (fun m => sg (Wa (lS (Wm (V (jO al rfl c) (Wm (V (jO al rfl z) (Wi rfl (jC ?_)))))))))
 refine jb (CI hm rfl (fun U hm => ?_) (fun U hm => ?_))
 ·refine sg (Wa (lt (jx ?_)))
  obtain rfl := sj hm
  exact rP m
 refine kS (Wm (V (jO al rfl c) (Wm (ln (jG (fun i E W => ∃ g, (E 13 = .int .i64 (i : Nat) ∧ E 12 = .int .i64 (y.length : Nat)) ∧ ST true jD w W (hp w) g ∧ E 0 = t ∧ E 1 = u ∧ oR K (y.drop i) i = some r) y.length c.len ⟨_, ⟨rfl, rfl⟩, (m.iU St), rfl, rfl, hm⟩ dc dc dc (fun _ _ _ h => by obtain ⟨_, o, _⟩ := h; exact o) ?_ ?_)))))
 ·rintro I E W M ⟨g, ⟨n, q⟩, m, j, k, a⟩
  obtain ⟨J, a3, Q, N, T⟩ := jB M
  rw [Q] at a
  refine bg (Wh n (Wa (ln (jm ?_))))
  replace m := m.drew
  have d := m.has.iU Sn
  refine jV d jE (X 0 rfl d (jd j) (X 1 rfl d (jd rfl) (XQ 2 rfl d (kk (enc := iT) (i := (I : Int)) (x0 := J) al ag rfl rfl c (ah _) N) (fun Y G => XH 3 rfl d (fun _ p => iW rfl (jX p G an ag)) (X 4 rfl d (jd k) (X 5 rfl d (jd rfl) (bS a fun B x a => XQ 6 rfl d (kk (enc := iT) (i := (I : Int)) (x0 := B) al ag rfl rfl z (kz x) (ke x)) (fun Z H => XH 7 rfl d (fun _ p => iW rfl (jX p H an ag)) (X 8 rfl d (Eu rfl rfl (kV bT) (zQ (me _ J B))) (km kr (jb (CI a rfl (fun D a => ?_) (fun D a => ?_)))))))))))))
  ·refine sg (Wa (lt (ko (jx (ko (jx ?_))))))
   obtain rfl := sj a
   exact rP m
  exact jJ (jI (jb ⟨n, _, ⟨rfl, q⟩, (m.iU St), j, k, (by rw [T]; exact a)⟩))
 rintro E W ⟨g, ⟨n, q⟩, m, j, k, a⟩
 rw [ai] at a
 exact jb (sg (Wa (lt (rQ a m))))
theorem C8 (t : Value) (y : List jk) (u : Value) (K : List jk) (r : Bool) (w : World) (c : Sl (Pl ji) 12 (hp w) t y) (z : Sl (Pl ji) 12 (hp w) u K) (hm : sL y K = some r) :
  jv true pg0 76 [t, u] w (.bool r) := by
 refine cG 26 func76 rfl (fun m => sg (Wa (lS (Wm (V (jO au rfl c) (Wm (V (jO au rfl z) (Wi rfl (jC ?_)))))))))
 refine jb (CI hm rfl (fun U hm => ?_) (fun U hm => ?_))
 ·refine sg (Wa (lt (jx ?_)))
  obtain rfl := sj hm
  exact rP m
 refine kS (Wm (V (jO au rfl c) (Wm (ln (jG (fun i E W => ∃ g, (E 13 = .int .i64 (i : Nat) ∧ E 12 = .int .i64 (y.length : Nat)) ∧ ST true jD w W (hp w) g ∧ E 0 = t ∧ E 1 = u ∧ oW K (y.drop i) i = some r) y.length c.len ⟨_, ⟨rfl, rfl⟩, (m.iU St), rfl, rfl, hm⟩ dc dc dc (fun _ _ _ h => by obtain ⟨_, o, _⟩ := h; exact o) ?_ ?_)))))
 ·rintro I E W M ⟨g, ⟨n, q⟩, m, j, k, a⟩
  obtain ⟨J, a3, Q, N, T⟩ := jB M
  rw [Q] at a
  refine bg (Wh n (Wa (ln (jm ?_))))
  replace m := m.drew
  have d := m.has.iU Sn
  refine jV d jE (X 0 rfl d (jd j) (X 1 rfl d (jd rfl) (XQ 2 rfl d (kk (enc := ji) (i := (I : Int)) (x0 := J) au aV rfl rfl c (ah _) N) (fun Y G => XH 3 rfl d (fun _ p => iW rfl (jX p G da aV)) (X 4 rfl d (jd k) (X 5 rfl d (jd rfl) (bS a fun B x a => XQ 6 rfl d (kk (enc := ji) (i := (I : Int)) (x0 := B) au aV rfl rfl z (kz x) (ke x)) (fun Z H => XH 7 rfl d (fun _ p => iW rfl (jX p H da aV)) (X 8 rfl d (Eu rfl rfl (kV eqGuardType140) (zQ (OE _ J B))) (km kr (jb (CI a rfl (fun D a => ?_) (fun D a => ?_)))))))))))))
  ·refine sg (Wa (lt (ko (jx (ko (jx ?_))))))
   obtain rfl := sj a
   exact rP m
  exact jJ (jI (jb ⟨n, _, ⟨rfl, q⟩, (m.iU St), j, k, (by rw [T]; exact a)⟩))
 rintro E W ⟨g, ⟨n, q⟩, m, j, k, a⟩
 rw [ai] at a
 exact jb (sg (Wa (lt (rQ a m))))
theorem Gz (i : jP) (D B : Value) (j : jP) (H G : Value) (r : Bool) (w : World) (x : Sl (Pl iT) 2 (hp w) D i.jL) (u : Sl (Pl ji) 12 (hp w) B i.jQ) (z : Sl (Pl iT) 2 (hp w) H j.jL) (y : Sl (Pl ji) 12 (hp w) G j.jQ) (hm : wm i j = some r) :
  jv true pg0 28 [(.agg #[(.int .i64 i.State), (.int .i64 i.mq), D, B]), (.agg #[(.int .i64 j.State), (.int .i64 j.mq), H, G])] w (.bool r) := by
 refine cG 31 func28 rfl (fun d => sg ?_)
 obtain ⟨Y, c2, rfl⟩ := x.form
 obtain ⟨Z, L, rfl⟩ := u.form
 let m := (C2 i.State i.mq Y i.jL.length c2 Z i.jQ.length L)
 refine VE (jF d rfl (fun W6 h d => ?_))
 obtain ⟨A7, P, rfl⟩ := z.form
 obtain ⟨A9, K, rfl⟩ := y.form
 let a0 := (C2 j.State j.mq A7 j.jL.length P A9 j.jQ.length K)
 refine VE (jF d rfl (fun d1 J d => Wa (lr (Wf zY (VB d (Mt Mh) rfl rfl bF (Wf zY (VB d Mh rfl rfl bF (Wi rfl (Wm (LJ hm (fun A E W => ∃ n, ST true jD w W (hp w) ((J, Ol a0 64) :: ((h, Ol m 64) :: n)) ∧ E 2 = (.pointer (some ⟨h, 0, none⟩)) ∧ E 3 = (.pointer (some ⟨J, 0, none⟩)) ∧ E 4 = (.bool false) ∧ E 16 = (.bool A)) 6 ?_ (fun A I Q => ?_)))))))))))
 ·rintro d7 E W ⟨n, d, T, U, p, c5⟩ R
  refine Wh c5 (LJ R (fun v E W => ∃ a9, ST true jD w W (hp w) ((J, Ol a0 64) :: ((h, Ol m 64) :: a9)) ∧ E 2 = (.pointer (some ⟨h, 0, none⟩)) ∧ E 3 = (.pointer (some ⟨J, 0, none⟩)) ∧ E 4 = (.bool false) ∧ E 23 = (.bool v)) 6 ?_ (fun v t N => ?_))
  ·rintro d8 E W ⟨a9, d, c6, c7, q, c9⟩ b9
   refine Wh c9 (LJ b9 (fun s E W => ∃ o, ST true jD w W (hp w) o ∧ E 4 = (.bool false) ∧ E 30 = (.bool s)) 6 ?_ (fun s k M => ?_))
   ·rintro d9 E W ⟨o, d, d4, d0⟩ c0
    exact Wg d0 (lt (rQ c0 d))
   refine bC k (fun g k => ?_) (fun g k => ?_)
   ·refine ug g (iY ui c6) (ug g (iW rfl (jg d.has (Mt Mh) rfl eF)) (ug g (iY ui c7) (ug g (iW rfl (jg d.has Mh rfl eF)) (bS k fun d5 c1 k => oH g (Eg d call76 (C8 (.slice Z i.jQ.length L) i.jQ (.slice A9 j.jQ.length K) j.jQ _ _ (u.mono (Pl.mono _) d.jf) (y.mono (Pl.mono _) d.jf) c1) (fun d2 d => V (jq (cB g) rfl) ?_))))))
    obtain rfl := sj k
    exact M _ _ ⟨_, (d.iU (Db (Db St))), q, rfl⟩
   refine un g (un g (un g (un g (un g (V (jn (cB g) rfl) ?_)))))
   obtain rfl := sj k
   exact M _ _ ⟨_, (d.iU (Db (Db St))), q, rfl⟩
  refine bC t (fun c t => ?_) (fun c t => ?_)
  ·refine ug c (iY rM T) (ug c (iW rfl (jg d.has (Mt Mh) rfl dK)) (ug c (iY rM U) (ug c (iW rfl (jg d.has Mh rfl dK)) (bS t fun d6 c3 t => oH c (Eg d call75 (Dd (.slice Y i.jL.length c2) i.jL (.slice A7 j.jL.length P) j.jL _ _ (x.mono (Pl.mono _) d.jf) (z.mono (Pl.mono _) d.jf) c3) (fun d3 d => V (jq (cB c) rfl) ?_))))))
   obtain rfl := sj t
   exact N _ _ ⟨_, (d.iU St), T, U, p, rfl⟩
  refine un c (un c (un c (un c (un c (V (jn (cB c) rfl) ?_)))))
  obtain rfl := sj t
  exact N _ _ ⟨_, (d.iU St), T, U, p, rfl⟩
 refine bC I (fun a I => ?_) (fun a I => ?_)
 ·refine ug a (iY Dp rfl) (ug a (iW rfl (jg d.has (Mt Mh) rfl iF)) (ug a (iY Dp rfl) (ug a (iW rfl (jg d.has Mh rfl iF)) (ug a (kd rfl rfl rfl) (V (jq (cB a) rfl) ?_)))))
  obtain rfl := sj I
  exact Q _ _ ⟨_, (d.iU St), rfl, rfl, rfl, rfl⟩
 refine un a (un a (un a (un a (un a (V (jn (cB a) rfl) ?_)))))
 obtain rfl := sj I
 exact Q _ _ ⟨_, (d.iU St), rfl, rfl, rfl, rfl⟩
set_option maxHeartbeats 4000000 in
theorem HM (r : Bool) (w : World) (hm : wR  = some r) :
  jv false pg0 24 [] w (.bool r) := by
 let w0 := (⟨(⟨K4, [], []⟩ : mc), K3, 3, [K9], [], [], []⟩ : zg)
 refine cG 94 func24 rfl (fun d => sg (Wa (lr (V (kT (v := (.agg (iT K5).toArray)) (nz rfl rfl) (ku bo bB (DE _ bB) kr)) (V (kT (v := (.agg (iX K9).toArray)) (NM rfl rfl rfl) (ku bw bN (Ij _ bN) kr)) (VE (jK d bw (fun W2 b1 d => VO (jy (.agg (iX K9).toArray) ((iX K9).toArray) d rfl rfl ak (mx K9) nb rfl (fun W3 d => ln (jm ?_)))))))))))
 refine jj (Wf mY (VA d Mh (iT K5) an ag (V (kT (v := (.agg C4.toArray)) (nz rfl rfl) (ku cZ eu (SP _ eu) kr)) (VE (jK d cZ (fun W5 s d => VO (jy (.agg C4.toArray) (C4.toArray) d rfl rfl aP oc nb rfl (fun W6 d => lr (V (kT (v := (.agg #[(.string K4), (.slice none 0 0), (.slice none 0 0)])) (ma rfl) (ku zeroValue52 underlying52 (Tj _ underlying52) kr)) (VA d (Mt Mh) (iX K9) aS ak (VE (jS (cs := (iX K9).toArray) d (ma rfl) (lV aG ak bw) (fun W8 A d => V (kT (v := (.agg (C3 A).toArray)) (Na rfl rfl rfl rfl) (ku zeroValue54 gq (Tc _ gq) kr)) (VE (jK d zeroValue54 (fun s5 b9 d => ?_))))))))))))))))
 let v7 : Value := (.pointer (some ⟨b9, 0, none⟩))
 let p6 : Value := (.slice (some ⟨A, 0, none⟩) 1 1)
 let g6 : Value := (.pointer (some ⟨s, 0, none⟩))
 refine VO (jy (.agg (C3 A).toArray) ((C3 A).toArray) d rfl rfl sizeOf54 oc nb rfl (fun s6 d => ln ?_))
 replace d := d.iU (Kb (Kb (Kb (Db St))))
 refine sg (VA d Mh (C3 A) isAgg54 sizeOf54 (VA d (Mt (Mt Mh)) C4 bG aP ?_))
 replace d := d.perm (Nb (Pb Pz) Nz)
 have q3 : Fr w.heap.size p6 := Fr.box d Mh
 obtain ⟨u6, d, p5, af, c7⟩ := ST.yk (R := [(A, Ol (iX K9) 108)]) d (jl.lit (l := [K9]) (enc := iX) (b := A) (m := 1) rfl dc rfl rfl) kU
 let v9 := ((C3 A).toArray : Array Value)
 refine bS hm fun a o5 hm => ?_
 let v6 : Value := (.int .i64 ((a).mq))
 let v5 := (⟨(a).State, (a).mq, (a).jL, (a).jQ⟩ : jP)
 let v2 : Value := (.int .i64 ((a).State))
 refine VE (Nq d (cP _) call27 (fun hH P h ab => (Ea w0 (.slice none 0 0) (.slice none 0 0) p6 (.slice none 0 0) (.slice none 0 0) (.slice none 0 0) Ky (.slice none 0 0) 1 0 true _ _ ⟨hH, P, h⟩ (Sl.nil _ _ _) (Sl.nil _ _ _) (c7.mono (Pl.mono _) (js.refl _)) (Sl.nil _ _ _) (Sl.nil _ _ _) (Sl.nil _ _ _) (Sl.nil _ _ _) o5)) (fun s7 t8 u7 r9 d c6 ao o1 => ?_) (L0 := []))
 obtain ⟨u2, u3, e5, rfl, b3, b5⟩ := o1
 replace e5 := e5.symm; subst e5
 replace d := d.perm Tn
 refine VE (jK d dh (fun s8 Q d => ?_))
 let j1 : Value := (.pointer (some ⟨Q, 0, none⟩))
 obtain ⟨H, J, rfl⟩ := b3.form
 let n : Value := (.slice H ((a).jL).length J)
 obtain ⟨I, K, rfl⟩ := b5.form
 let g5 : Value := (.slice I ((a).jQ).length K)
 let a3 := (#[v2, v6, n, g5] : Array Value)
 refine VO (jy (.agg #[v2, v6, n, g5]) (#[v2, v6, n, g5]) d rfl rfl bV oc nb rfl (fun s9 d => lr (VA d (Mt Mh) (C3 A) isAgg54 sizeOf54 (VA d (Mt (Mt Mh)) C4 bG aP (bS hm fun c o6 hm => ?_)))))
 let w2 : Value := (.int .i64 ((c).mq))
 let w1 : Value := (.int .i64 ((c).State))
 refine VE (Nq d (cP _) call27 (fun hH P h ab => (Ea w0 (.slice none 0 0) (.slice none 0 0) p6 (.slice none 0 0) (.slice none 0 0) (.slice none 0 0) Ky (.slice none 0 0) 1 0 false _ _ ⟨hH, P, h⟩ (Sl.nil _ _ _) (Sl.nil _ _ _) (c7.mono (Pl.mono _) c6) (Sl.nil _ _ _) (Sl.nil _ _ _) (Sl.nil _ _ _) (Sl.nil _ _ _) o6)) (fun t0 t9 u8 s0 d y av o2 => ?_) (L0 := []))
 obtain ⟨u4, u5, e6, rfl, e8, e9⟩ := o2
 replace e6 := e6.symm; subst e6
 replace d := d.perm Tn
 refine VE (jK d dh (fun t1 c1 d => ?_))
 let v8 : Value := (.pointer (some ⟨c1, 0, none⟩))
 obtain ⟨b6, c2, rfl⟩ := e8.form
 let v3 : Value := (.slice b6 ((c).jL).length c2)
 obtain ⟨c0, c3, rfl⟩ := e9.form
 let v4 : Value := (.slice c0 ((c).jQ).length c3)
 let b8 := (#[w1, w2, v3, v4] : Array Value)
 refine VO (jy (.agg #[w1, w2, v3, v4]) (#[w1, w2, v3, v4]) d rfl rfl bV oc nb rfl (fun t2 d => lr (V (kT (v := (.agg #[(.slice none 0 0)])) uo (ku zeroValue81 dH (Of _ dH) kr)) (VE (jF d rfl (fun t3 m4 d => Wa (lr (Wm (VA d (Mt (Mt Mh)) [v2, v6, n, g5] dq bV (bS hm fun c4 o7 hm => ?_))))))))))
 refine VE (F0 d (Cb Pz (C0 Cn)) call36 (fun hH P h ab => (FY m4 (.slice none 0 0) ([]) [] a n g5 _ _ ⟨hH, P, js.refl _⟩ (jl.nil _ _ _) (b3.mono (Pl.mono _) (y.trans h)) (b5.mono (Pl.mono _) (y.trans h)) o7)) (fun t4 u0 u9 s1 d z aE ad o3 => ?_))
 obtain ⟨p4, s4, e7, rfl, p1⟩ := o3
 replace e7 := e7.symm; subst e7
 replace d := d.perm (Tb (Tr Tn))
 refine Wa (lr (VE (jK d dh (fun t5 N d => lr (Wm (bS hm fun p2 o8 hm => VE (pT d call37 (jZ.kw (xg m4 p4 c4.2 _ _ (p1.sl (fun _ => rfl) (fun b o hq => d.at_ (Mt (Mt (Ml hq))))) (At.of (d.at_ (Mt Mh)) _ rfl) o8)) (fun t6 p3 v0 s3 d B ba j8 => V (si (by exact nr rfl) rfl) ?_))))))))
 let j2 : Value := (.pointer (some ⟨N, 0, none⟩))
 have q4 := j8.MM d (fun p hq => (Ml hq))
 obtain ⟨v1, d, D, bs, p0⟩ := ST.yk d j8 (fun _ => rfl)
 refine bS hm fun k o9 hm => ?_
 refine VE (Nq d (Cb Pz Cn) call39 (fun hH P h ab => oq.kw (AE p3 p2 N (⟨0, 0, [], []⟩ : jP) (.slice none 0 0) (.slice none 0 0) _ _ ⟨hH, P, h⟩ (p0.mono (Pl.mono _) (js.refl _)) (Sl.nil _ _ _) (Sl.nil _ _ _) o9)) (fun t7 u1 q s2 d G ca o4 => ?_))
 obtain ⟨b0, a2, c8, rfl, m2, m3⟩ := o4
 let a4 := (#[(.int .i64 ((k.2).State)), (.int .i64 ((k.2).mq)), b0, a2] : Array Value)
 replace c8 := c8.symm; subst c8
 replace d := d.perm (Tb Tn)
 refine Wa (ln ?_)
 replace d := d.iU (Kb (Db (Dr St)))
 refine sg (Wf rM (VB d (Mt (Mt Mh)) rfl rfl dK (V (jO al rfl b3) (Wi rfl (Wm (LJ hm (fun k7 E W => ∃ f0, ST false jD w W q ((N, Obj.cells a4 64 (0, 0)) :: ((c1, Obj.cells b8 64 (0, 0)) :: ((Q, Obj.cells a3 64 (0, 0)) :: ((b9, Obj.cells v9 54 (0, 0)) :: ((s, Ol C4 57) :: f0))))) ∧ E 0 = (.bool false) ∧ E 2 = g6 ∧ E 3 = v7 ∧ E 4 = j1 ∧ E 5 = v8 ∧ E 7 = (.bool c4.1) ∧ E 8 = j2 ∧ E 9 = (.int .i64 k.1) ∧ E 43 = (.bool k7)) 5 ?_ (fun k7 a9 d8 => ?_)))))))
 ·rintro r0 E W ⟨f0, d, f9, d9, e0, e1, g0, g1, g2, g3, m5⟩ k8
  refine Wh m5 (LJ k8 (fun k6 E W => ∃ f1, ST false jD w W q ((N, Obj.cells a4 64 (0, 0)) :: ((c1, Obj.cells b8 64 (0, 0)) :: ((Q, Obj.cells a3 64 (0, 0)) :: ((b9, Obj.cells v9 54 (0, 0)) :: ((s, Ol C4 57) :: f1))))) ∧ E 0 = (.bool false) ∧ E 2 = g6 ∧ E 3 = v7 ∧ E 4 = j1 ∧ E 5 = v8 ∧ E 7 = (.bool c4.1) ∧ E 8 = j2 ∧ E 9 = (.int .i64 k.1) ∧ E 51 = (.bool k6)) 7 ?_ (fun k6 L d7 => ?_))
  ·rintro r1 E W ⟨f1, d, g4, e2, g7, e3, g8, g9, h0, h1, m6⟩ k9
   refine Wh m6 (LJ k9 (fun k5 E W => ∃ f2, ST false jD w W q ((N, Obj.cells a4 64 (0, 0)) :: ((c1, Obj.cells b8 64 (0, 0)) :: ((Q, Obj.cells a3 64 (0, 0)) :: ((b9, Obj.cells v9 54 (0, 0)) :: ((s, Ol C4 57) :: f2))))) ∧ E 0 = (.bool false) ∧ E 2 = g6 ∧ E 3 = v7 ∧ E 4 = j1 ∧ E 5 = v8 ∧ E 7 = (.bool c4.1) ∧ E 8 = j2 ∧ E 9 = (.int .i64 k.1) ∧ E 57 = (.bool k5)) 5 ?_ (fun k5 a0 d6 => ?_))
   ·rintro r2 E W ⟨f2, d, h2, h3, h4, h5, c5, h6, h7, h8, m7⟩ l0
    refine Wh m7 (LJ l0 (fun k4 E W => ∃ f3, ST false jD w W q ((N, Obj.cells a4 64 (0, 0)) :: ((c1, Obj.cells b8 64 (0, 0)) :: ((Q, Obj.cells a3 64 (0, 0)) :: ((b9, Obj.cells v9 54 (0, 0)) :: ((s, Ol C4 57) :: f3))))) ∧ E 0 = (.bool false) ∧ E 2 = g6 ∧ E 3 = v7 ∧ E 4 = j1 ∧ E 5 = v8 ∧ E 7 = (.bool c4.1) ∧ E 8 = j2 ∧ E 9 = (.int .i64 k.1) ∧ E 67 = (.bool k4)) 9 ?_ (fun k4 a8 d5 => ?_))
    ·rintro r3 E W ⟨f3, d, h9, e4, m8, i0, m9, i1, i2, i3, n0⟩ l1
     refine Wh n0 (LJ l1 (fun k3 E W => ∃ f4, ST false jD w W q ((N, Obj.cells a4 64 (0, 0)) :: ((Q, Obj.cells a3 64 (0, 0)) :: ((s, Ol C4 57) :: f4))) ∧ E 0 = (.bool false) ∧ E 2 = g6 ∧ E 4 = j1 ∧ E 7 = (.bool c4.1) ∧ E 8 = j2 ∧ E 9 = (.int .i64 k.1) ∧ E 75 = (.bool k3)) 7 ?_ (fun k3 Z d4 => ?_))
     ·rintro r4 E W ⟨f4, d, i4, i5, i6, n1, i7, i8, n2⟩ l2
      refine Wh n2 (LJ l2 (fun k2 E W => ∃ f5, ST false jD w W q ((N, Obj.cells a4 64 (0, 0)) :: ((Q, Obj.cells a3 64 (0, 0)) :: ((s, Ol C4 57) :: f5))) ∧ E 0 = (.bool false) ∧ E 2 = g6 ∧ E 4 = j1 ∧ E 8 = j2 ∧ E 9 = (.int .i64 k.1) ∧ E 78 = (.bool k2)) 2 ?_ (fun k2 a7 d3 => ?_))
      ·rintro r5 E W ⟨f5, d, i9, j0, j3, j4, n3, n4⟩ l3
       refine Wh n4 (LJ l3 (fun k1 E W => ∃ f6, ST false jD w W q ((N, Obj.cells a4 64 (0, 0)) :: ((Q, Obj.cells a3 64 (0, 0)) :: ((s, Ol C4 57) :: f6))) ∧ E 0 = (.bool false) ∧ E 2 = g6 ∧ E 4 = j1 ∧ E 8 = j2 ∧ E 82 = (.bool k1)) 3 ?_ (fun k1 a6 d2 => ?_))
       ·rintro r6 E W ⟨f6, d, j5, j6, n5, n6, n7⟩ l4
        refine Wh n7 (LJ l4 (fun k0 E W => ∃ f7, ST false jD w W q ((s, Ol C4 57) :: f7) ∧ E 0 = (.bool false) ∧ E 2 = g6 ∧ E 87 = (.bool k0)) 4 ?_ (fun k0 Y d1 => ?_))
        ·rintro r7 E W ⟨f7, d, j7, n8, n9⟩ l5
         refine Wh n9 (LJ l5 (fun j9 E W => ∃ f8, ST false jD w W q f8 ∧ E 0 = (.bool false) ∧ E 93 = (.bool j9)) 5 ?_ (fun j9 U d0 => ?_))
         ·rintro r8 E W ⟨f8, d, q2, o0⟩ l6
          exact Wg o0 (lt (rQ l6 d))
         refine bC U (fun x U => ?_) (fun x U => ?_)
         ·refine ug x (kT (v := (.agg C6.toArray)) uo (ku dh cX (N8 _ cX) kr)) (ug x (iW n8 (jc d.has Mh C4 rfl bG aP)) (bS U fun q5 l7 U => oH x (Eg d call34 (tz (⟨0, 0, [], []⟩ : jP) (.slice none 0 0) (.slice none 0 0) (.slice none 0 0) ([]) Ky (.slice none 0 0) K3 _ _ (Sl.nil _ _ _) (Sl.nil _ _ _) (Sl.nil _ _ _) (Sl.nil _ _ _) l7) (fun p7 d => ug x (kd rfl rfl rfl) (V (jq (cB x) rfl) ?_)))))
          obtain rfl := sj U
          exact d0 _ _ ⟨_, (d.iU (Db St)), j7, rfl⟩
         refine un x (un x (un x (un x (V (jn (cB x) rfl) ?_))))
         obtain rfl := sj U
         exact d0 _ _ ⟨_, (d.iU (Db St)), j7, rfl⟩
        refine bC Y (fun M Y => ?_) (fun M Y => ?_)
        ·refine ug M (iW n6 (jc d.has Mh [(.int .i64 ((k.2).State)), (.int .i64 ((k.2).mq)), b0, a2] rfl dq bV)) (ug M (iW n5 (jc d.has (Mt Mh) [v2, v6, n, g5] rfl dq bV)) (bS Y fun q6 l8 Y => oH M (Eg d call28 (jv.kw (Gz k.2 b0 a2 v5 n g5 _ _ (m2.mono (Pl.mono _) d.jf) (m3.mono (Pl.mono _) d.jf) (b3.mono (Pl.mono _) (((((y.trans z).trans B).trans D).trans G).trans d.jf)) (b5.mono (Pl.mono _) (((((y.trans z).trans B).trans D).trans G).trans d.jf)) l8)) (fun p8 d => V (jq (cB M) rfl) ?_))))
         obtain rfl := sj Y
         exact d1 _ _ ⟨_, (d.iU (Db (Db St))), j5, j6, rfl⟩
        refine un M (un M (un M (V (jn (cB M) rfl) ?_)))
        obtain rfl := sj Y
        exact d1 _ _ ⟨_, (d.iU (Db (Db St))), j5, j6, rfl⟩
       refine bC a6 (fun T a6 => ?_) (fun T a6 => ?_)
       ·refine ug T (jd n3) (ug T (kd rfl rfl rfl) (V (jq (cB T) rfl) ?_))
        obtain rfl := sj a6
        exact d2 _ _ ⟨_, (d.iU St), i9, j0, j3, j4, rfl⟩
       refine un T (un T (V (jn (cB T) rfl) ?_))
       obtain rfl := sj a6
       exact d2 _ _ ⟨_, (d.iU St), i9, j0, j3, j4, rfl⟩
      refine bC a7 (fun a5 a7 => ?_) (fun a5 a7 => ?_)
      ·refine ug a5 (jd n1) (V (jq (cB a5) rfl) ?_)
       obtain rfl := sj a7
       exact d3 _ _ ⟨_, (d.iU St), i4, i5, i6, i7, i8, rfl⟩
      refine un a5 (V (jn (cB a5) rfl) ?_)
      obtain rfl := sj a7
      exact d3 _ _ ⟨_, (d.iU St), i4, i5, i6, i7, i8, rfl⟩
     refine bC Z (fun j Z => ?_) (fun j Z => ?_)
     ·refine ug j (iW m9 (jc d.has (Mt Mh) [w1, w2, v3, v4] rfl dq bV)) (ug j (iY FK m8) (ug j (iW rfl (jg d.has (Mt (Mt (Mt Mh))) rfl iQ)) (ug j (iW e4 (jc d.has (Mt (Mt (Mt (Mt Mh)))) C4 rfl bG aP)) (bS Z fun q7 l9 Z => oH j (Eg d call34 (tz (⟨(c).State, (c).mq, (c).jL, (c).jQ⟩ : jP) v3 v4 p6 ([K9]) Ky (.slice none 0 0) K3 _ _ (e8.mono (Pl.mono _) ((((z.trans B).trans D).trans G).trans d.jf)) (e9.mono (Pl.mono _) ((((z.trans B).trans D).trans G).trans d.jf)) (c7.mono (Pl.mono _) ((((((c6.trans y).trans z).trans B).trans D).trans G).trans d.jf)) (Sl.nil _ _ _) l9) (fun p9 d => ug j (kd rfl rfl rfl) (V (jq (cB j) rfl) ?_)))))))
      obtain rfl := sj Z
      exact d4 _ _ ⟨_, (d.iU (Kb (Db (Kb (Db St))))), h9, e4, i0, i1, i2, i3, rfl⟩
     refine un j (un j (un j (un j (un j (un j (V (jn (cB j) rfl) ?_))))))
     obtain rfl := sj Z
     exact d4 _ _ ⟨_, (d.iU (Kb (Db (Kb (Db St))))), h9, e4, i0, i1, i2, i3, rfl⟩
    refine bC a8 (fun g a8 => ?_) (fun g a8 => ?_)
    ·refine ug g (iY rM c5) (ug g (iW rfl (jg d.has (Mt Mh) rfl dK)) (ug g (jO al rfl e8) (ug g (iY ui c5) (ug g (iW rfl (jg d.has (Mt Mh) rfl eF)) (ug g (jO au rfl e9) (ug g (kd rfl rfl rfl) (ug g (kd rfl rfl rfl) (V (jq (cB g) rfl) ?_))))))))
     obtain rfl := sj a8
     exact d5 _ _ ⟨_, (d.iU St), h2, h3, h4, h5, c5, h6, h7, h8, rfl⟩
    refine un g (un g (un g (un g (un g (un g (un g (un g (V (jn (cB g) rfl) ?_))))))))
    obtain rfl := sj a8
    exact d5 _ _ ⟨_, (d.iU St), h2, h3, h4, h5, c5, h6, h7, h8, rfl⟩
   refine bC a0 (fun u a0 => ?_) (fun u a0 => ?_)
   ·refine ug u (iW e3 (jc d.has (Mt (Mt Mh)) [v2, v6, n, g5] rfl dq bV)) (ug u (iW e2 (jc d.has (Mt (Mt (Mt (Mt Mh)))) C4 rfl bG aP)) (bS a0 fun q8 m0 a0 => oH u (Eg d call34 (tz v5 n g5 (.slice none 0 0) ([]) Ky (.slice none 0 0) K3 _ _ (b3.mono (Pl.mono _) (((((y.trans z).trans B).trans D).trans G).trans d.jf)) (b5.mono (Pl.mono _) (((((y.trans z).trans B).trans D).trans G).trans d.jf)) (Sl.nil _ _ _) (Sl.nil _ _ _) m0) (fun q0 d => ug u (kd rfl rfl rfl) (V (jq (cB u) rfl) ?_)))))
    obtain rfl := sj a0
    exact d6 _ _ ⟨_, (d.iU St), g4, e2, g7, e3, g8, g9, h0, h1, rfl⟩
   refine un u (un u (un u (un u (V (jn (cB u) rfl) ?_))))
   obtain rfl := sj a0
   exact d6 _ _ ⟨_, (d.iU St), g4, e2, g7, e3, g8, g9, h0, h1, rfl⟩
  refine bC L (fun i L => ?_) (fun i L => ?_)
  ·refine ug i (iW e1 (jc d.has (Mt (Mt Mh)) [v2, v6, n, g5] rfl dq bV)) (ug i (iY FK e0) (ug i (iW rfl (jg d.has (Mt (Mt (Mt Mh))) rfl iQ)) (ug i (iW d9 (jc d.has (Mt (Mt (Mt (Mt Mh)))) C4 rfl bG aP)) (bS L fun q9 m1 L => oH i (Eg d call34 (tz v5 n g5 p6 ([K9]) Ky (.slice none 0 0) K3 _ _ (b3.mono (Pl.mono _) (((((y.trans z).trans B).trans D).trans G).trans d.jf)) (b5.mono (Pl.mono _) (((((y.trans z).trans B).trans D).trans G).trans d.jf)) (c7.mono (Pl.mono _) ((((((c6.trans y).trans z).trans B).trans D).trans G).trans d.jf)) (Sl.nil _ _ _) m1) (fun q1 d => ug i (kd rfl rfl rfl) (V (jq (cB i) rfl) ?_)))))))
   obtain rfl := sj L
   exact d7 _ _ ⟨_, (d.iU St), f9, d9, e0, e1, g0, g1, g2, g3, rfl⟩
  refine un i (un i (un i (un i (un i (un i (V (jn (cB i) rfl) ?_))))))
  obtain rfl := sj L
  exact d7 _ _ ⟨_, (d.iU St), f9, d9, e0, e1, g0, g1, g2, g3, rfl⟩
 refine bC a9 (fun t a9 => ?_) (fun t a9 => ?_)
 ·refine ug t (iY ui rfl) (ug t (iW rfl (jg d.has (Mt (Mt Mh)) rfl eF)) (ug t (jO au rfl b5) (ug t (kd rfl rfl rfl) (V (jq (cB t) rfl) ?_))))
  obtain rfl := sj a9
  exact d8 _ _ ⟨_, (d.iU St), rfl, rfl, rfl, rfl, rfl, rfl, rfl, rfl, rfl⟩
 refine un t (un t (un t (un t (V (jn (cB t) rfl) ?_))))
 obtain rfl := sj a9
 exact d8 _ _ ⟨_, (d.iU St), rfl, rfl, rfl, rfl, rfl, rfl, rfl, rfl, rfl⟩
theorem CQ (k : Value) (u : List iS) (r : Int) (w : World) (j : Sl (Pl iX) 9 (hp w) k u) (hm : ta u = some r) :
  jv true pg0 11 [k] w (.int .i64 r) := by
 refine cG 54 func11 rfl (fun d => sg (Wa (lr (Wa (lS (Wm ?_))))))
 refine V (jO aG rfl j) (Wm (ln (jG (fun i E W => ∃ g t, (E 8 = .int .i64 (i : Nat) ∧ E 7 = .int .i64 (u.length : Nat)) ∧ ST true jD w W (hp w) t ∧ E 3 = (.int .i64 g) ∧ E 6 = k ∧ nK (u.drop i) g = some r) u.length j.len ⟨0, _, ⟨rfl, rfl⟩, (d.iU St), rfl, rfl, hm⟩ dc dc dc (fun _ _ _ h => by obtain ⟨_, _, n, _⟩ := h; exact n) ?_ ?_)))
 ·rintro I E W z ⟨g, t, ⟨m, o⟩, d, x, y, c⟩
  obtain ⟨a, J, G, D, H⟩ := jB z
  rw [G] at c
  refine bg (VQ (kk (enc := iX) (i := (I : Int)) (x0 := a) aG ak y m j (ah _) D) (fun Q B => V (iW rfl (jX d.has B aS ak)) (VE (jK d bw (fun K N d => VO (jy (.agg (iX a).toArray) ((iX a).toArray) d rfl rfl ak (mx a) nb rfl (fun M d => ln (jj (Wh x (Wf mY (Wf nH (VB d Mh rfl rfl aH (V (mF aU rfl) ?_)))))))))))))
  refine Wi rfl (Wf mY (Wf tA (VB d Mh rfl rfl aH (V (mF aU rfl) (Wi rfl (Wf rz (VB d Mh rfl rfl aH (V (mF aU rfl) (Wi rfl (Wf kK (Wf nH (VB d Mh rfl rfl aH (V (mF aU rfl) (Wi rfl ?_))))))))))))))
  refine Wf kK (Wf tA (VB d Mh rfl rfl aH (V (mF aU rfl) (Wi rfl (Wf oh (Wf nH (VB d Mh rfl rfl aH (V (mF aU rfl) (Wi rfl (Wf oh (Wf tA (VB d Mh rfl rfl aH (V (mF aU rfl) (Wi rfl ?_))))))))))))))
  refine Wf pZ (VB d Mh rfl rfl aH (V (mF aU rfl) (Wi rfl (Wi rfl (Wa (jC (jI (jb ?_))))))))
  replace d := d.iU (Db St)
  exact ⟨m, (wi0 .i64 (g + (wi0 .i64 ((wi0 .i64 ((wi0 .i64 ((wi0 .i64 ((wi0 .i64 ((wi0 .i64 ((wi0 .i64 ((wi0 .i64 (20 + (a.Head.ja.size : Int))) + (a.Head.jt.size : Int))) + (a.jA.size : Int))) + (a.B.ja.size : Int))) + (a.B.jt.size : Int))) + (a.C.ja.size : Int))) + (a.C.jt.size : Int))) + (a.jU.size : Int))))), _, ⟨rfl, o⟩, (d.iU St), rfl, y, (by rw [H]; exact c)⟩
 rintro E W ⟨g, t, ⟨m, o⟩, d, x, y, c⟩
 rw [ai] at c
 exact jb (sg (Wh x (Wa (lt (rQ c d)))))
theorem HJ (x : Value) (y : List jk) (r : Int) (w : World) (u : Sl (Pl ji) 12 (hp w) x y) (hm : zj y = some r) :
  jv true pg0 84 [x] w (.int .i64 r) := by
 refine cG 37 func84 rfl (fun m => sg (Wa (lr (Wa (lS (Wm ?_))))))
 refine V (jO au rfl u) (Wm (ln (jG (fun i E W => ∃ g j, (E 8 = .int .i64 (i : Nat) ∧ E 7 = .int .i64 (y.length : Nat)) ∧ ST true jD w W (hp w) j ∧ E 3 = (.int .i64 g) ∧ E 6 = x ∧ sC (y.drop i) g = some r) y.length u.len ⟨0, _, ⟨rfl, rfl⟩, (m.iU St), rfl, rfl, hm⟩ dc dc dc (fun _ _ _ h => by obtain ⟨_, _, p, _⟩ := h; exact p) ?_ ?_)))
 ·rintro M E W G ⟨g, j, ⟨o, q⟩, m, k, t, a⟩
  obtain ⟨c, s, I, H, J⟩ := jB G
  rw [I] at a
  refine bg (VQ (kk (enc := ji) (i := (M : Int)) (x0 := c) au aV t o u (ah _) H) (fun Z z => V (iW rfl (jX m.has z da aV)) (VE (jK m cu (fun N Y m => VO (jy (.agg (ji c).toArray) ((ji c).toArray) m rfl rfl aV (qb c) nb rfl (fun Q m => ln ?_)))))))
  replace m := m.drew
  have d := m.has.iU (Kb Sn)
  refine jV d jE (X 0 rfl d (jd k) (X 1 rfl d (iY uX rfl) (XH 2 rfl d (fun _ n => iW rfl (jc n Mh (iX c.iS) rfl aS ak)) (X 5 rfl d (iY od rfl) (X 6 rfl d (iY pU rfl) (XH 7 rfl d (fun _ n => iW rfl (jg n Mh rfl aH)) (X 8 rfl d (mF aU rfl) (X 10 rfl d (iY od rfl) (X 11 rfl d (iY vB rfl) (X 12 rfl d (iY nH rfl) (XH 13 rfl d (fun _ n => iW rfl (jg n Mh rfl aH)) (X 14 rfl d (mF aU rfl) (X 16 rfl d (iY od rfl) (X 17 rfl d (iY vB rfl) ?_))))))))))))))
  refine X 18 rfl d (iY tA rfl) (XH 19 rfl d (fun _ n => iW rfl (jg n Mh rfl aH)) (X 20 rfl d (mF aU rfl) (XE 3 rfl (jS (cs := (iX c.iS).toArray) m (ma rfl) (lV aG ak bw) (fun T D m => ?_)))))
  have d := m.has.iU (Db (Kb Sn))
  refine ⟨d, (bS a fun K B a => XE 4 rfl (Eg m call11 (CQ (.slice (some ⟨D, 0, none⟩) 1 1) ([c.iS]) _ _ (Sl.lit (enc := iX) (l := [c.iS]) kU rfl nb rfl (m.at_ Mh)) B) (fun U m => ?_)))⟩
  have d := m.has.iU (Db (Kb Sn))
  refine ⟨d, (X 9 rfl d (kd rfl rfl rfl) (X 15 rfl d (kd rfl rfl rfl) (X 21 rfl d (kd rfl rfl rfl) (X 22 rfl d (kd rfl rfl rfl) (X 23 rfl d (mw rfl) (km kr (jI (jb ?_))))))))⟩
  replace m := m.iU (Db (Db St))
  exact ⟨o, (wi0 .i64 (g + (wi0 .i64 ((wi0 .i64 ((wi0 .i64 (K + (c.iV.jA.size : Int))) + (c.iV.iR.ja.size : Int))) + (c.iV.iR.jt.size : Int))))), _, ⟨rfl, q⟩, (m.iU St), rfl, t, (by rw [J]; exact a)⟩
 rintro E W ⟨g, j, ⟨o, q⟩, m, k, t, a⟩
 rw [ai] at a
 exact jb (sg (Wh k (Wa (lt (rQ a m)))))
theorem HZ (c : jP) (t k : Value) (r : Int) (w : World) (a : Sl (Pl iT) 2 (hp w) t c.jL) (j : Sl (Pl ji) 12 (hp w) k c.jQ) (hm : wT c = some r) :
  jv true pg0 33 [(.agg #[(.int .i64 c.State), (.int .i64 c.mq), t, k])] w (.int .i64 r) := by
 refine cG 28 func33 rfl (fun d => sg ?_)
 obtain ⟨K, N, rfl⟩ := a.form
 obtain ⟨M, Q, rfl⟩ := j.form
 refine VE (jF d rfl (fun W6 q d => Wa (lr (Wf ui (VB d Mh rfl rfl eF (bS hm fun Y T hm => VE (Eg d call84 (HJ (.slice M c.jQ.length Q) c.jQ _ _ (j.mono (Pl.mono _) d.jf) T) (fun W9 d => Wa (ln (jm (jm ?_)))))))))))
 refine jj (Wf rM (VB d Mh rfl rfl dK (V (jO al rfl a) (Wm (ln ?_)))))
 replace d := d.iU (Db St)
 refine jG (fun i E W => ∃ x y, (E 12 = .int .i64 (i : Nat) ∧ E 11 = .int .i64 (c.jL.length : Nat)) ∧ ST true jD w W (hp w) y ∧ E 3 = (.int .i64 x) ∧ E 10 = (.slice K c.jL.length N) ∧ sy (c.jL.drop i) x = some r) c.jL.length a.len ⟨Y, _, ⟨rfl, rfl⟩, (d.iU St), rfl, rfl, hm⟩ dc dc dc (fun _ _ _ h => by obtain ⟨_, _, n, _⟩ := h; exact n) ?_ ?_
 ·rintro U E W D ⟨x, y, ⟨m, o⟩, d, z, B, g⟩
  obtain ⟨u, Z, I, H, J⟩ := jB D
  rw [I] at g
  refine bg (VQ (kk (enc := iT) (i := (U : Int)) (x0 := u) al ag B m a (ah _) H) (fun a4 G => V (iW rfl (jX d.has G an ag)) (VE (jK d bo (fun p a3 d => VO (jy (.agg (iT u).toArray) ((iT u).toArray) d rfl rfl ag (lh u) nb rfl (fun a2 d => ln (jj (Wh z (Wf nH (VB d Mh rfl rfl aH (V (mF aU rfl) (Wi rfl ?_)))))))))))))
  refine Wf tA (VB d Mh rfl rfl aH (V (mF aU rfl) (Wi rfl (Wi rfl (Wa (jC (jI (jb ?_))))))))
  replace d := d.iU (Db St)
  exact ⟨m, (wi0 .i64 (x + (wi0 .i64 ((wi0 .i64 (5 + (u.ja.size : Int))) + (u.jt.size : Int))))), _, ⟨rfl, o⟩, (d.iU St), rfl, B, (by rw [J]; exact g)⟩
 rintro E W ⟨x, y, ⟨m, o⟩, d, z, B, g⟩
 rw [ai] at g
 exact jb (sg (Wh z (Wa (lt (rQ g d)))))
theorem D9 (I : (List Formula) → Option Int) (N : ∀ (j : Value) (u : List Formula) (r : Int) (w : World) (t : Sl ju 5 (hp w) j u), I u = some r → jv false pg0 26 [j] w (.int .i64 r)) (j : Value) (u : List Formula) (r : Int) (w : World) (t : Sl ju 5 (hp w) j u) (hm : vw I u = some r) :
  jv false pg0 26 [j] w (.int .i64 r) := by
 refine cG 31 func26 rfl (fun m => sg (Wa (lr (Wa (lS (Wm ?_))))))
 refine V (jO bx rfl t) (Wm (ln (jG (fun i E W => ∃ x z, (E 8 = .int .i64 (i : Nat) ∧ E 7 = .int .i64 (u.length : Nat)) ∧ ST false jD w W (hp w) z ∧ E 3 = (.int .i64 x) ∧ E 6 = j ∧ sB I (u.drop i) x = some r) u.length t.len ⟨0, _, ⟨rfl, rfl⟩, (m.iU St), rfl, rfl, hm⟩ dc dc dc (fun _ _ _ h => by obtain ⟨_, _, p, _⟩ := h; exact p) ?_ ?_)))
 ·rintro Z E W M ⟨x, z, ⟨o, s⟩, m, D, G, g⟩
  obtain ⟨c, P, T, Q, U⟩ := jB M
  let a0 := ((c.iR.ja.size : Int) + (c.iR.jt.size : Int))
  rw [T] at g
  refine bg (VQ (uF (i := (Z : Int)) (x0 := c) ju.out bx aP G o t (ah _) Q) (fun a5 ⟨_, ⟨L, rfl, H⟩, J⟩ => V (iW rfl (jX m.has J bG aP)) (VE (jK m cZ (fun A a4 m => ?_)))))
  obtain ⟨y, B, rfl⟩ := H.form
  let q := (C1 c.Op c.K c.iR.ja c.iR.jt y c.Kids.length B)
  refine VO (jy (.agg q.toArray) (q.toArray) m rfl rfl aP oc nb rfl (fun a2 m => ln ?_))
  replace m := m.drew
  have d := m.has.iU (Kb Sn)
  refine jV d jE (X 0 rfl d (jd D) (X 1 rfl d (iY wI rfl) (X 2 rfl d (iY nH rfl) (XH 3 rfl d (fun _ n => iW rfl (jg n Mh rfl aH)) (X 4 rfl d (mF aU rfl) (X 5 rfl d (iY wI rfl) (X 6 rfl d (iY tA rfl) (XH 7 rfl d (fun _ n => iW rfl (jg n Mh rfl aH)) (X 8 rfl d (mF aU rfl) (X 9 rfl d (kd rfl rfl rfl) (X 10 rfl d (FZ (k := .i64) (a := (wi0 .i64 a0)) (b := 16) (v := (.int .i64 (wi0 .i64 (Int.tdiv (wi0 .i64 a0) 16)))) rfl rfl dc rfl) (X 11 rfl d (kd rfl rfl rfl) (X 12 rfl d (iY rT rfl) (XH 13 rfl d (fun _ n => iW rfl (jg n Mh rfl dJ)) ?_))))))))))))))
  refine bS g fun Y K g => XE 14 rfl (Eg m call26 (N (.slice y c.Kids.length B) c.Kids _ _ (H.mono ky.mono m.jf) K) (fun a3 m => ?_))
  have d := m.has.iU (Kb Sn)
  refine ⟨d, (X 15 rfl d (kd rfl rfl rfl) (X 16 rfl d (kd rfl rfl rfl) (X 17 rfl d (mw rfl) (km kr (jI (jb ?_))))))⟩
  replace m := m.iU (Db St)
  exact ⟨o, (wi0 .i64 (x + (wi0 .i64 ((wi0 .i64 (1 + (wi0 .i64 (Int.tdiv (wi0 .i64 a0) 16)))) + Y)))), _, ⟨rfl, s⟩, (m.iU St), rfl, G, (by rw [U]; exact g)⟩
 rintro E W ⟨x, z, ⟨o, s⟩, m, D, G, g⟩
 rw [ai] at g
 exact jb (sg (Wh D (Wa (lt (rQ g m)))))
theorem CZ : ∀ (n : Nat) (a : Value) (c : List Formula) (r : Int) (w : World) (g : Sl ju 5 (hp w) a c) (_ : qi n c = some r),
  jv false pg0 26 [a] w (.int .i64 r)
 | 0 => by intros; rename_i h; simp only [qi] at h; cases h
 | n + 1 => D9 (qi n) (CZ n)
theorem DS (G : Formula → Option Int) (K : ∀ (j : Formula) (g : Value) (r : Int) (w : World) (c : Sl ju 5 (hp w) g j.Kids), G j = some r → jv false pg0 77 [(.agg #[(.int .i64 j.Op), (.int .i64 j.K), (.string j.iR.ja), (.string j.iR.jt), g])] w (.int .i64 r)) (j : Formula) (g : Value) (r : Int) (w : World) (c : Sl ju 5 (hp w) g j.Kids) (hm : vE G j = some r) :
  jv false pg0 77 [(.agg #[(.int .i64 j.Op), (.int .i64 j.K), (.string j.iR.ja), (.string j.iR.jt), g])] w (.int .i64 r) := by
 refine cG 19 func77 rfl (fun d => sg ?_)
 obtain ⟨U, Y, rfl⟩ := c.form
 refine VE (jF d rfl (fun W4 v d => Wa (lr (Wa (lS (Wf rT (VB d Mh rfl rfl dJ (V (jO bx rfl c) ?_))))))))
 refine Wm (ln ?_)
 replace d := d.iU (Db St)
 refine jG (fun i E W => ∃ x z, (E 9 = .int .i64 (i : Nat) ∧ E 8 = .int .i64 (j.Kids.length : Nat)) ∧ ST false jD w W (hp w) z ∧ E 3 = (.int .i64 x) ∧ E 7 = (.slice U j.Kids.length Y) ∧ qE G (j.Kids.drop i) x = some r) j.Kids.length c.len ⟨1, _, ⟨rfl, rfl⟩, (d.iU St), rfl, rfl, hm⟩ dc dc dc (fun _ _ _ h => by obtain ⟨_, _, n, _⟩ := h; exact n) ?_ ?_
 ·rintro Z E W J ⟨x, z, ⟨m, o⟩, d, B, D, k⟩
  obtain ⟨a, s, N, M, Q⟩ := jB J
  rw [N] at k
  refine bg (VQ (uF (i := (Z : Int)) (x0 := a) ju.out bx aP D m c (ah _) M) (fun a5 ⟨_, ⟨q, rfl, y⟩, H⟩ => V (iW rfl (jX d.has H bG aP)) (VE (jK d cZ (fun p a4 d => ?_)))))
  obtain ⟨t, u, rfl⟩ := y.form
  let a0 := (C1 a.Op a.K a.iR.ja a.iR.jt t a.Kids.length u)
  refine VO (jy (.agg a0.toArray) (a0.toArray) d rfl rfl aP oc nb rfl (fun a2 d => ln (jj (Wh B (VA d Mh a0 bG aP (bS k fun T I k => VE (Eg d call77 (K a (.slice t a.Kids.length u) _ _ (y.mono ky.mono d.jf) I) (fun a3 d => Wi rfl (Wa (jC (jI (jb ?_))))))))))))
  replace d := d.iU (Db St)
  exact ⟨m, (wi0 .i64 (x + T)), _, ⟨rfl, o⟩, (d.iU St), rfl, D, (by rw [Q]; exact k)⟩
 rintro E W ⟨x, z, ⟨m, o⟩, d, B, D, k⟩
 rw [ai] at k
 exact jb (sg (Wh B (Wa (lt (rQ k d)))))
theorem CM : ∀ (n : Nat) (c : Formula) (a : Value) (r : Int) (w : World) (g : Sl ju 5 (hp w) a c.Kids) (_ : qf n c = some r),
  jv false pg0 77 [(.agg #[(.int .i64 c.Op), (.int .i64 c.K), (.string c.iR.ja), (.string c.iR.jt), a])] w (.int .i64 r)
 | 0 => by intros; rename_i h; simp only [qf] at h; cases h
 | n + 1 => DS (qf n) (CM n)
theorem EF (I : Formula → Option Int) (N : ∀ (j : Formula) (g : Value) (r : Int) (w : World) (c : Sl ju 5 (hp w) g j.Kids), I j = some r → jv false pg0 78 [(.agg #[(.int .i64 j.Op), (.int .i64 j.K), (.string j.iR.ja), (.string j.iR.jt), g])] w (.int .i64 r)) (j : Formula) (g : Value) (r : Int) (w : World) (c : Sl ju 5 (hp w) g j.Kids) (hm : wG I j = some r) :
  jv false pg0 78 [(.agg #[(.int .i64 j.Op), (.int .i64 j.K), (.string j.iR.ja), (.string j.iR.jt), g])] w (.int .i64 r) := by
 refine cG 20 func78 rfl (fun d => sg ?_)
 obtain ⟨Y, Z, rfl⟩ := c.form
 refine VE (jF d rfl (fun W4 A d => Wa (lr (Wa (lS (Wf rT (VB d Mh rfl rfl dJ (V (jO bx rfl c) ?_))))))))
 refine Wm (ln ?_)
 replace d := d.iU (Db St)
 refine jG (fun i E W => ∃ u B, (E 9 = .int .i64 (i : Nat) ∧ E 8 = .int .i64 (j.Kids.length : Nat)) ∧ ST false jD w W (hp w) B ∧ E 3 = (.int .i64 u) ∧ E 7 = (.slice Y j.Kids.length Z) ∧ rl I (j.Kids.drop i) u = some r) j.Kids.length c.len ⟨0, _, ⟨rfl, rfl⟩, (d.iU St), rfl, rfl, hm⟩ dc dc dc (fun _ _ _ h => by obtain ⟨_, _, n, _⟩ := h; exact n) ?_ ?_
 ·rintro p E W M ⟨u, B, ⟨m, o⟩, d, D, G, t⟩
  obtain ⟨a, v, T, Q, U⟩ := jB M
  rw [T] at t
  refine bg (VQ (uF (i := (p : Int)) (x0 := a) ju.out bx aP G m c (ah _) Q) (fun q ⟨_, ⟨s, rfl, z⟩, J⟩ => V (iW rfl (jX d.has J bG aP)) (VE (jK d cZ (fun a2 a5 d => ?_)))))
  obtain ⟨x, y, rfl⟩ := z.form
  let a0 := (C1 a.Op a.K a.iR.ja a.iR.jt x a.Kids.length y)
  refine VO (jy (.agg a0.toArray) (a0.toArray) d rfl rfl aP oc nb rfl (fun a3 d => ln (jj (Wh D (VA d Mh a0 bG aP (bS t fun H K t => VE (Eg d call78 (N a (.slice x a.Kids.length y) _ _ (z.mono ky.mono d.jf) K) (fun a4 d => V (JD (k := .i64) rfl rfl) (Wa (jC (jI (jb ?_))))))))))))
  replace d := d.iU (Db St)
  exact ⟨m, (if H > u then H else u), _, ⟨rfl, o⟩, (d.iU St), rfl, G, (by rw [U]; exact t)⟩
 rintro E W ⟨u, B, ⟨m, o⟩, d, D, G, t⟩
 rw [ai] at t
 exact jb (sg (Wh D (Wi rfl (Wa (lt (rQ t d))))))
theorem Dz : ∀ (n : Nat) (c : Formula) (a : Value) (r : Int) (w : World) (g : Sl ju 5 (hp w) a c.Kids) (_ : qV n c = some r),
  jv false pg0 78 [(.agg #[(.int .i64 c.Op), (.int .i64 c.K), (.string c.iR.ja), (.string c.iR.jt), a])] w (.int .i64 r)
 | 0 => by intros; rename_i h; simp only [qV] at h; cases h
 | n + 1 => EF (qV n) (Dz n)
theorem w5 (M : ByteArray) (r : Bool) (w : World) (hm : qh M = some r) :
  jv true pg0 138 [(.string M)] w (.bool r) := by
 refine cG 49 func138 rfl (fun d => sg (Wa (lS (Wm (V (tZ rfl rfl rfl) (Wm (LJ hm (fun c7 E W => ∃ L3, ST true jD w W (hp w) L3 ∧ E 0 = (.string M) ∧ E 11 = (.bool c7)) 4 ?_ (fun c7 K a5 => ?_))))))))
 ·rintro x2 E W ⟨L3, d, q, e6⟩ f7
  refine Wh e6 (LJ f7 (fun c6 E W => ∃ d3, ST true jD w W (hp w) d3 ∧ E 0 = (.string M) ∧ E 16 = (.bool c6)) 4 ?_ (fun c6 x a4 => ?_))
  ·rintro g4 E W ⟨d3, d, p, f4⟩ f0
   refine Wh f4 (LJ f0 (fun c5 E W => ∃ d4, ST true jD w W (hp w) d4 ∧ E 0 = (.string M) ∧ E 21 = (.bool c5)) 4 ?_ (fun c5 u a3 => ?_))
   ·rintro g7 E W ⟨d4, d, f5, f6⟩ Q
    refine ln (CI Q f6 (fun e9 Q => ?_) (fun e9 Q => ?_))
    ·refine sg (Wa (lt (jx ?_)))
     obtain rfl := sj Q
     exact rP d
    refine kS (Wa (ln (lc (og (fun m E W => ∃ y L, ST true jD w W (hp w) L ∧ E 0 = (.string M) ∧ E 3 = (.int .i64 y) ∧ pd M m y = some r) jM ⟨0, _, (d.iU St), f5, rfl, Q⟩ ?_))))
    rintro m E W ⟨y, L, d, T, U, c⟩
    cases m with
    | zero => rw [pd] at c; cases c
    | succ f1 =>
     refine jm (sg (Wh U (Wh T (V (mF aU rfl) (Wi rfl (ln (CI c rfl (fun c8 c => ?_) (fun c8 c => ?_))))))))
     ·refine kn (jm (bg (Wh T (Wh U (bS c fun h a9 c => V (zK (i := y) aU rfl rfl (yz a9) (Cm a9)) (Wa (lr ?_)))))))
      refine Wm (Wi rfl (Wm (LJ c (fun c4 E W => ∃ P, ST true jD w W (hp w) P ∧ E 0 = (.string M) ∧ E 3 = (.int .i64 y) ∧ E 4 = (.int .u8 (h.toNat : Int)) ∧ E 36 = (.bool c4)) 3 ?_ (fun c4 J a2 => ?_))))
      ·rintro f2 E W ⟨P, d, n, o, N, d5⟩ d0
       refine Wh d5 (LJ d0 (fun c2 E W => ∃ R, ST true jD w W (hp w) R ∧ E 0 = (.string M) ∧ E 3 = (.int .i64 y) ∧ E 4 = (.int .u8 (h.toNat : Int)) ∧ E 44 = (.bool c2)) 7 ?_ (fun c2 H Z => ?_))
       ·rintro g1 E W ⟨R, d, b9, c0, d6, d7⟩ d1
        refine Wh d7 (LJ d1 (fun c1 E W => ∃ b5, ST true jD w W (hp w) b5 ∧ E 0 = (.string M) ∧ E 3 = (.int .i64 y) ∧ E 48 = (.bool c1)) 3 ?_ (fun c1 G Y => ?_))
        ·rintro g2 E W ⟨b5, d, d8, d9, e0⟩ D
         refine ln (CI D e0 (fun c9 D => ?_) (fun c9 D => ?_))
         ·refine sg (Wa (lt (ko (jx (jx (ko (jx ?_)))))))
          obtain rfl := sj D
          exact rP d
         exact jJ (jI (jb (jj (Wh d9 (Wi rfl (Wa (ln ⟨f1, bk _, (wi0 .i64 (y + 1)), _, (d.iU St), d8, rfl, D⟩)))))))
        refine bC G (fun k G => ?_) (fun k G => ?_)
        ·refine ug k (jd d6) (ug k (kd rfl rfl rfl) (V (jq (cB k) rfl) ?_))
         obtain rfl := sj G
         exact Y _ _ ⟨_, (d.iU St), b9, c0, rfl⟩
        refine un k (un k (V (jn (cB k) rfl) ?_))
        obtain rfl := sj G
        exact Y _ _ ⟨_, (d.iU St), b9, c0, rfl⟩
       refine bC H (fun a H => ?_) (fun a H => ?_)
       ·refine ug a (jd N) (ug a (kd rfl rfl rfl) (ug a (jd rfl) (LJ H (fun c3 E W => ∃ b6, ST true jD w W (hp w) b6 ∧ E 0 = (.string M) ∧ E 3 = (.int .i64 y) ∧ E 4 = (.int .u8 (h.toNat : Int)) ∧ E 37 = (.bool f2) ∧ E 43 = (.bool c3)) 3 ?_ (fun c3 I s => ?_))))
        ·rintro g3 E W ⟨b6, d, e1, e2, e3, e4, e7⟩ d2
         refine V (jq (e4.trans (cB a)) e7) ?_
         obtain rfl := sj d2
         exact Z _ _ ⟨_, (d.iU St), e1, e2, e3, rfl⟩
        refine bC I (fun t I => ?_) (fun t I => ?_)
        ·refine un t (un t (ug a (jq (cB t) rfl) ?_))
         obtain rfl := sj I
         exact s _ _ ⟨_, (d.iU St), n, o, N, rfl, rfl⟩
        refine ug t (jd N) (ug t (kd rfl rfl rfl) (ug a (jn (cB t) rfl) ?_))
        obtain rfl := sj I
        exact s _ _ ⟨_, (d.iU St), n, o, N, rfl, rfl⟩
       refine un a (un a (un a (Vu rfl rfl (Vu rfl rfl (un a (V (jn (cB a) rfl) ?_))))))
       obtain rfl := sj H
       exact Z _ _ ⟨_, (d.iU St), n, o, N, rfl⟩
      refine bC J (fun j J => ?_) (fun j J => ?_)
      ·refine un j (un j (V (jq (cB j) rfl) ?_))
       obtain rfl := sj J
       exact a2 _ _ ⟨_, (d.iU St), T, U, rfl, rfl⟩
      refine ug j (jd rfl) (ug j (kd rfl rfl rfl) (V (jn (cB j) rfl) ?_))
      obtain rfl := sj J
      exact a2 _ _ ⟨_, (d.iU St), T, U, rfl, rfl⟩
     exact nt (mH (mH (tK (jb (sg (Wa (lt (rQ c d))))))))
   refine bC u (fun g u => ?_) (fun g u => ?_)
   ·refine un g (un g (un g (V (jq (cB g) rfl) ?_)))
    obtain rfl := sj u
    exact a3 _ _ ⟨_, (d.iU St), p, rfl⟩
   refine ug g (jd p) (bS u fun f8 v u => ug g (zK (i := 0) aU rfl rfl (yz v) (Cm v)) (ug g (kd rfl rfl rfl) (V (jn (cB g) rfl) ?_)))
   obtain rfl := sj u
   exact a3 _ _ ⟨_, (d.iU St), p, rfl⟩
  refine bC x (fun B x => ?_) (fun B x => ?_)
  ·refine un B (un B (un B (V (jq (cB B) rfl) ?_)))
   obtain rfl := sj x
   exact a4 _ _ ⟨_, (d.iU St), q, rfl⟩
  refine ug B (jd q) (bS x fun f9 A x => ug B (zK (i := 0) aU rfl rfl (yz A) (Cm A)) (ug B (kd rfl rfl rfl) (V (jn (cB B) rfl) ?_)))
  obtain rfl := sj x
  exact a4 _ _ ⟨_, (d.iU St), q, rfl⟩
 refine bC K (fun z K => ?_) (fun z K => ?_)
 ·refine un z (un z (un z (V (jq (cB z) rfl) ?_)))
  obtain rfl := sj K
  exact a5 _ _ ⟨_, (d.iU St), rfl, rfl⟩
 refine ug z (jd rfl) (ug z (mF aU rfl) (ug z (kd rfl rfl rfl) (V (jn (cB z) rfl) ?_)))
 obtain rfl := sj K
 exact a5 _ _ ⟨_, (d.iU St), rfl, rfl⟩
theorem wX (i : iR) (r : Bool) (w : World) (hm : rJ i = some r) :
  jv true pg0 88 [(.agg (iT i).toArray)] w (.bool r) := by
 refine cG 11 func88 rfl (fun d => sg (VE (jF d rfl (fun H J d => Wa (lr (Wf nH (VB d Mh rfl rfl aH (bS hm fun K y hm => VE (Eg d call138 (w5 i.ja _ _  y) (fun I d => Wm (LJ hm (fun k E W => ∃ j, ST true jD w W (hp w) j ∧ E 2 = (.bool false) ∧ E 10 = (.bool k)) 4 ?_ (fun k a g => ?_))))))))))))
 ·rintro G E W ⟨j, d, B, x⟩ t
  exact Wg x (lt (rQ t d))
 refine bC a (fun c a => ?_) (fun c a => ?_)
 ·refine ug c (iY tA rfl) (ug c (iW rfl (jg d.has Mh rfl aH)) (bS a fun D u a => oH c (Eg d call138 (w5 i.jt _ _  u) (fun z d => V (jq (cB c) rfl) ?_))))
  obtain rfl := sj a
  exact g _ _ ⟨_, (d.iU (Db St)), rfl, rfl⟩
 refine un c (un c (un c (V (jn (cB c) rfl) ?_)))
 obtain rfl := sj a
 exact g _ _ ⟨_, (d.iU (Db St)), rfl, rfl⟩
set_option maxHeartbeats 4000000 in
theorem ED (d8 : Formula → Option Bool) (i9 : ∀ (a : Formula) (x : Value) (r : Bool) (w : World) (k : Sl ju 5 (hp w) x a.Kids), d8 a = some r → jv false pg0 79 [(.agg #[(.int .i64 a.Op), (.int .i64 a.K), (.string a.iR.ja), (.string a.iR.jt), x])] w (.bool r)) (a : Formula) (x : Value) (r : Bool) (w : World) (k : Sl ju 5 (hp w) x a.Kids) (hm : wB d8 a = some r) :
  jv false pg0 79 [(.agg #[(.int .i64 a.Op), (.int .i64 a.K), (.string a.iR.ja), (.string a.iR.jt), x])] w (.bool r) := by
 refine cG 81 func79 rfl (fun d => sg ?_)
 obtain ⟨A1, c2, rfl⟩ := k.form
 let b8 := (C1 a.Op a.K a.iR.ja a.iR.jt A1 a.Kids.length c2)
 refine VE (jF d rfl (fun W4 H d => Wa (lr (Wf rT (VB d Mh rfl rfl dJ (V (jO bx rfl k) (Wa (lS ?_))))))))
 refine Wf um (VB d Mh rfl rfl bF (Wi rfl (ln (CI hm rfl (fun k0 hm => ?_) (fun k0 hm => ?_)))))
 ·refine sg (Wf wI (VA d Mh (iT a.iR) an ag (bS hm fun r6 k1 hm => VE (Eg d call88 (jv.kw (wX a.iR _ _  k1)) (fun W8 d => Wm (LJ hm (fun h2 E W => ∃ f9, ST false jD w W (hp w) ((H, Ol b8 57) :: f9) ∧ E 1 = (.pointer (some ⟨H, 0, none⟩)) ∧ E 2 = (.bool false) ∧ E 18 = (.bool h2)) 3 ?_ (fun h2 o c8 => ?_)))))))
  ·rintro l5 E W ⟨f9, d, j3, g7, j4⟩ i4
   refine Wh j4 (LJ i4 (fun h1 E W => ∃ g0, ST false jD w W (hp w) g0 ∧ E 2 = (.bool false) ∧ E 23 = (.bool h1)) 4 ?_ (fun h1 a5 c7 => ?_))
   ·rintro l6 E W ⟨g0, d, l4, j5⟩ i5
    refine Wg j5 (lt (jx ?_))
    obtain rfl := sj i5
    exact rP d
   refine bC a5 (fun B a5 => ?_) (fun B a5 => ?_)
   ·refine ug B (iY wM j3) (ug B (iW rfl (jg d.has Mh rfl bF)) (ug B (kd rfl rfl rfl) (V (jq (cB B) rfl) ?_)))
    obtain rfl := sj a5
    exact c7 _ _ ⟨_, (d.iU (Db St)), g7, rfl⟩
   refine un B (un B (un B (V (jn (cB B) rfl) ?_)))
   obtain rfl := sj a5
   exact c7 _ _ ⟨_, (d.iU (Db St)), g7, rfl⟩
  refine bC o (fun a4 o => ?_) (fun a4 o => ?_)
  ·refine ug a4 (jd rfl) (ug a4 (kd rfl rfl rfl) (V (jq (cB a4) rfl) ?_))
   obtain rfl := sj o
   exact c8 _ _ ⟨_, (d.iU St), rfl, rfl, rfl⟩
  refine un a4 (un a4 (V (jn (cB a4) rfl) ?_))
  obtain rfl := sj o
  exact c8 _ _ ⟨_, (d.iU St), rfl, rfl, rfl⟩
 let a0 := (b8.toArray : Array Value)
 let m : Value := (.pointer (some ⟨H, 0, none⟩))
 refine kS (Wf um (VB d Mh rfl rfl bF (Wi rfl (Wm (LJ hm (fun e6 E W => ∃ g1, ST false jD w W (hp w) ((H, Obj.cells a0 57 (0, 0)) :: g1) ∧ E 1 = m ∧ E 3 = (.int .i64 (a.Kids.length : Int)) ∧ E 31 = (.bool e6)) 4 ?_ (fun e6 Z c0 => ?_))))))
 ·let q : Value := (.int .i64 (a.Kids.length : Int))
  rintro l7 E W ⟨g1, d, d5, g8, j6⟩ i6
  refine Wh j6 (LJ i6 (fun e5 E W => ∃ g2, ST false jD w W (hp w) ((H, Obj.cells a0 57 (0, 0)) :: g2) ∧ E 1 = m ∧ E 3 = q ∧ E 37 = (.bool e5)) 5 ?_ (fun e5 Y b9 => ?_))
  ·rintro l8 E W ⟨g2, d, g9, d6, j7⟩ i7
   refine Wh j7 (LJ i7 (fun e4 E W => ∃ g3, ST false jD w W (hp w) ((H, Obj.cells a0 57 (0, 0)) :: g3) ∧ E 1 = m ∧ E 3 = q ∧ E 41 = (.bool e4)) 3 ?_ (fun e4 U b7 => ?_))
   ·rintro l9 E W ⟨g3, d, s, h0, j8⟩ p
    refine ln (CI p j8 (fun i3 p => ?_) (fun i3 p => ?_))
    ·refine sg (Wa (ln ?_))
     replace d := d.iU (Db St)
     refine jz (jx ?_)
     obtain rfl := sj p
     exact rP d
    refine kS (V (iY um s) (VB d Mh rfl rfl bF (Wi rfl (Wm (LJ p (fun e3 E W => ∃ g4, ST false jD w W (hp w) ((H, Obj.cells a0 57 (0, 0)) :: g4) ∧ E 1 = m ∧ E 3 = q ∧ E 49 = (.bool e3)) 4 ?_ (fun e3 T b6 => ?_))))))
    ·rintro P E W ⟨g4, d, n, d7, j9⟩ i8
     refine Wh j9 (LJ i8 (fun d9 E W => ∃ c9, ST false jD w W (hp w) ((H, Obj.cells a0 57 (0, 0)) :: c9) ∧ E 1 = m ∧ E 69 = (.bool d9)) 19 ?_ (fun d9 K b1 => ?_))
     ·rintro l0 E W ⟨c9, d, h3, h4⟩ J
      refine ln (CI J h4 (fun e8 J => ?_) (fun e8 J => ?_))
      ·refine sg (Wa (ln ?_))
       replace d := d.iU (Db St)
       refine jz (jx ?_)
       obtain rfl := sj J
       exact rP d
      refine kS (V (iY rT h3) (VB d Mh rfl rfl dJ (V (jO bx rfl k) (Wm (ln ?_)))))
      replace d := d.iU (Db St)
      refine jG (fun i E W => ∃ c1, (E 73 = .int .i64 (i : Nat) ∧ E 72 = .int .i64 (a.Kids.length : Nat)) ∧ ST false jD w W (hp w) c1 ∧ E 71 = (.slice A1 a.Kids.length c2) ∧ rD d8 (a.Kids.drop i) = some r) a.Kids.length k.len ⟨_, ⟨rfl, rfl⟩, (d.iU St), rfl, J⟩ dc dc dc (fun _ _ _ h => by obtain ⟨_, ab, _⟩ := h; exact ab) ?_ ?_
      ·rintro j0 E W f0 ⟨c1, ⟨R, eN⟩, d, A, j⟩
       obtain ⟨g, k2, f7, f6, f8⟩ := jB f0
       rw [f7] at j
       refine bg (VQ (uF (i := (j0 : Int)) (x0 := g) ju.out bx aP A R k (ah _) f6) (fun k7 ⟨_, ⟨k9, rfl, c6⟩, f4⟩ => V (iW rfl (jX d.has f4 bG aP)) (VE (jK d cZ (fun k3 k6 d => ?_)))))
       obtain ⟨a9, b0, rfl⟩ := c6.form
       let a2 := (C1 g.Op g.K g.iR.ja g.iR.jt a9 g.Kids.length b0)
       refine VO (jy (.agg a2.toArray) (a2.toArray) d rfl rfl aP oc nb rfl (fun k4 d => lr (VA d Mh a2 bG aP (bS j fun k8 f5 j => VE (Eg d call79 (i9 g (.slice a9 g.Kids.length b0) _ _ (c6.mono ky.mono d.jf) f5) (fun k5 d => V (lj rfl) (ln ?_)))))))
       replace d := d.iU (Db St)
       refine CI j rfl (fun e9 j => ?_) (fun e9 j => ?_)
       ·refine sg (Wa (lt (ko (jx (ko (jx ?_))))))
        obtain rfl := sj j
        exact rP d
       exact jJ (jI (jb ⟨R, _, ⟨rfl, eN⟩, (d.iU St), A, (by rw [f8]; exact j)⟩))
      rintro E W ⟨c1, ⟨R, eN⟩, d, A, j⟩
      rw [ai] at j
      exact jb (sg (Wa (lt (rQ j d))))
     refine bC K (fun u K => ?_) (fun u K => ?_)
     ·refine un u (un u (un u (un u (Vu rfl rfl (Vu rfl rfl (Vu rfl rfl (Vu rfl rfl (Vu rfl rfl (Vu rfl rfl (Vu rfl rfl (Vu rfl rfl (Vu rfl rfl (Vu rfl rfl (Vu rfl rfl ?_))))))))))))))
      refine Vu rfl rfl (Vu rfl rfl (un u (V (jq (cB u) rfl) ?_)))
      obtain rfl := sj K
      exact b1 _ _ ⟨_, (d.iU St), n, rfl⟩
     refine ug u (iY um n) (ug u (iW rfl (jg d.has Mh rfl bF)) (ug u (kd rfl rfl rfl) (ug u (jd rfl) (LJ K (fun e0 E W => ∃ d0, ST false jD w W (hp w) ((H, Obj.cells a0 57 (0, 0)) :: d0) ∧ E 1 = m ∧ E 50 = (.bool P) ∧ E 68 = (.bool e0)) 14 ?_ (fun e0 M b2 => ?_)))))
     ·rintro l1 E W ⟨d0, d, h5, h6, h7⟩ f1
      refine V (jn (h6.trans (cB u)) h7) ?_
      obtain rfl := sj f1
      exact b1 _ _ ⟨_, (d.iU St), h5, rfl⟩
     refine bC M (fun c M => ?_) (fun c M => ?_)
     ·refine ug c (jd d7) (ug c (kd rfl rfl rfl) (ug c (jd rfl) (LJ M (fun e2 E W => ∃ d1, ST false jD w W (hp w) ((H, Obj.cells a0 57 (0, 0)) :: d1) ∧ E 1 = m ∧ E 3 = q ∧ E 50 = (.bool P) ∧ E 54 = (.bool (a.Op == 4)) ∧ E 61 = (.bool e2)) 4 ?_ (fun e2 Q b5 => ?_))))
      ·rintro l2 E W ⟨d1, d, L, h8, d3, a3, h9⟩ f2
       refine Vg rfl (a3.trans (cB c)) (jd h9) (LJ f2 (fun e1 E W => ∃ d2, ST false jD w W (hp w) ((H, Obj.cells a0 57 (0, 0)) :: d2) ∧ E 1 = m ∧ E 50 = (.bool P) ∧ E 54 = (.bool (a.Op == 4)) ∧ E 67 = (.bool e1)) 5 ?_ (fun e1 N b4 => ?_))
       ·rintro l3 E W ⟨d2, d, i0, d4, i1, i2⟩ f3
        refine Vg rfl (d4.trans (cB u)) (jq (i1.trans (cB c)) i2) ?_
        obtain rfl := sj f3
        exact b2 _ _ ⟨_, (d.iU St), i0, d4, rfl⟩
       refine bC N (fun t N => ?_) (fun t N => ?_)
       ·refine un t (un t (un t (un t (Vg rfl (a3.trans (cB c)) (jq (cB t) rfl) ?_))))
        obtain rfl := sj N
        exact b4 _ _ ⟨_, (d.iU St), L, d3, a3, rfl⟩
       refine ug t (iY wM L) (ug t (iW rfl (jg d.has Mh rfl bF)) (ug t (jd h8) (ug t (kd rfl rfl rfl) (Vg rfl (a3.trans (cB c)) (jn (cB t) rfl) ?_))))
       obtain rfl := sj N
       exact b4 _ _ ⟨_, (d.iU St), L, d3, a3, rfl⟩
      refine bC Q (fun y Q => ?_) (fun y Q => ?_)
      ·refine un y (un y (un y (ug c (jq (cB y) rfl) ?_)))
       obtain rfl := sj Q
       exact b5 _ _ ⟨_, (d.iU St), n, d7, rfl, rfl, rfl⟩
      refine ug y (iY wM n) (ug y (iW rfl (jg d.has Mh rfl bF)) (ug y (kd rfl rfl rfl) (ug c (jn (cB y) rfl) ?_)))
      obtain rfl := sj Q
      exact b5 _ _ ⟨_, (d.iU St), n, d7, rfl, rfl, rfl⟩
     refine un c (un c (un c (Vu rfl rfl (Vu rfl rfl (Vu rfl rfl (un c (un c (Vu rfl rfl (Vu rfl rfl (Vu rfl rfl (Vu rfl rfl (un c (ug u (jn (cB c) rfl) ?_)))))))))))))
     obtain rfl := sj M
     exact b2 _ _ ⟨_, (d.iU St), n, rfl, rfl⟩
    refine bC T (fun G T => ?_) (fun G T => ?_)
    ·refine ug G (iY wM s) (ug G (iW rfl (jg d.has Mh rfl bF)) (ug G (kd rfl rfl rfl) (V (jq (cB G) rfl) ?_)))
     obtain rfl := sj T
     exact b6 _ _ ⟨_, (d.iU St), s, h0, rfl⟩
    refine un G (un G (un G (V (jn (cB G) rfl) ?_)))
    obtain rfl := sj T
    exact b6 _ _ ⟨_, (d.iU St), s, h0, rfl⟩
   refine bC U (fun I U => ?_) (fun I U => ?_)
   ·refine un I (un I (V (jq (cB I) rfl) ?_))
    obtain rfl := sj U
    exact b7 _ _ ⟨_, (d.iU St), g9, d6, rfl⟩
   refine ug I (jd d6) (ug I (kd rfl rfl rfl) (V (jn (cB I) rfl) ?_))
   obtain rfl := sj U
   exact b7 _ _ ⟨_, (d.iU St), g9, d6, rfl⟩
  refine bC Y (fun z Y => ?_) (fun z Y => ?_)
  ·refine un z (un z (un z (un z (V (jq (cB z) rfl) ?_))))
   obtain rfl := sj Y
   exact b9 _ _ ⟨_, (d.iU St), d5, g8, rfl⟩
  refine ug z (iY wI d5) (ug z (iW rfl (jc d.has Mh (iT a.iR) rfl an ag)) (ug z (kT (v := (.agg (iT K0).toArray)) uo (ku bo bB (DE _ bB) kr)) (ug z (Eu rfl rfl (kV bT) (zQ (me _ a.iR K0))) (V (jn (cB z) rfl) ?_))))
  obtain rfl := sj Y
  exact b9 _ _ ⟨_, (d.iU St), d5, g8, rfl⟩
 refine bC Z (fun D Z => ?_) (fun D Z => ?_)
 ·refine un D (un D (un D (V (jq (cB D) rfl) ?_)))
  obtain rfl := sj Z
  exact c0 _ _ ⟨_, (d.iU St), rfl, rfl, rfl⟩
 refine ug D (iY um rfl) (ug D (iW rfl (jg d.has Mh rfl bF)) (ug D (kd rfl rfl rfl) (V (jn (cB D) rfl) ?_)))
 obtain rfl := sj Z
 exact c0 _ _ ⟨_, (d.iU St), rfl, rfl, rfl⟩
theorem DX : ∀ (n : Nat) (c : Formula) (a : Value) (r : Bool) (w : World) (g : Sl ju 5 (hp w) a c.Kids) (_ : rh n c = some r),
  jv false pg0 79 [(.agg #[(.int .i64 c.Op), (.int .i64 c.K), (.string c.iR.ja), (.string c.iR.jt), a])] w (.bool r)
 | 0 => by intros; rename_i h; simp only [rh] at h; cases h
 | n + 1 => ED (rh n) (DX n)
theorem H5 (a : Formula) (t : Value) (r : Bool) (w : World) (c : Sl ju 5 (hp w) t a.Kids) (hm : wV a = some r) :
  jv false pg0 29 [(.agg #[(.int .i64 a.Op), (.int .i64 a.K), (.string a.iR.ja), (.string a.iR.jt), t])] w (.bool r) := by
 refine cG 15 func29 rfl (fun d => sg ?_)
 obtain ⟨u, x, rfl⟩ := c.form
 let h : Value := (.slice u a.Kids.length x)
 let a0 := (C1 a.Op a.K a.iR.ja a.iR.jt u a.Kids.length x)
 refine VE (jF d rfl (fun W4 Q d => Wa (lr (VA d Mh a0 bG aP (bS hm fun p Z hm => VE (Eg d call77 ((CM jM) a h _ _ (c.mono ky.mono d.jf) Z) (fun W7 d => Wi rfl (Wm (LJ hm (fun I E W => ∃ B, ST false jD w W (hp w) ((Q, Ol a0 57) :: B) ∧ E 1 = (.pointer (some ⟨Q, 0, none⟩)) ∧ E 2 = (.bool false) ∧ E 10 = (.bool I)) 4 ?_ (fun I j z => ?_))))))))))
 ·rintro n E W ⟨B, d, T, G, U⟩ J
  refine Wh U (LJ J (fun H E W => ∃ D, ST false jD w W (hp w) D ∧ E 2 = (.bool false) ∧ E 14 = (.bool H)) 3 ?_ (fun H i y => ?_))
  ·rintro o E W ⟨D, d, a3, Y⟩ K
   exact Wg Y (lt (rQ K d))
  refine bC i (fun g i => ?_) (fun g i => ?_)
  ·refine ug g (iW T (jc d.has Mh a0 rfl bG aP)) (bS i fun a4 M i => oH g (Eg d call79 ((DX jM) a h _ _ (c.mono ky.mono d.jf) M) (fun m d => V (jq (cB g) rfl) ?_)))
   obtain rfl := sj i
   exact y _ _ ⟨_, (d.iU (Db St)), G, rfl⟩
  refine un g (un g (V (jn (cB g) rfl) ?_))
  obtain rfl := sj i
  exact y _ _ ⟨_, (d.iU (Db St)), G, rfl⟩
 refine bC j (fun k j => ?_) (fun k j => ?_)
 ·refine ug k (iW rfl (jc d.has Mh a0 rfl bG aP)) (bS j fun a5 N j => oH k (Eg d call78 ((Dz jM) a h _ _ (c.mono ky.mono d.jf) N) (fun a2 d => ug k (kd rfl rfl rfl) (V (jq (cB k) rfl) ?_))))
  obtain rfl := sj j
  exact z _ _ ⟨_, (d.iU St), rfl, rfl, rfl⟩
 refine un k (un k (un k (V (jn (cB k) rfl) ?_)))
 obtain rfl := sj j
 exact z _ _ ⟨_, (d.iU St), rfl, rfl, rfl⟩
theorem JW (k : Value) (u : List iR) (g : iR) (r : Bool) (w : World) (j : Sl (Pl iT) 2 (hp w) k u) (hm : yx u g = some r) :
  jv true pg0 105 [k, (.agg (iT g).toArray)] w (.bool r) := by
 refine cG 17 func105 rfl (fun d => sg (VE (jF d rfl (fun Y J d => Wa (lS (Wm (V (jO al rfl j) (Wm (ln ?_)))))))))
 refine jG (fun i E W => ∃ t, (E 9 = .int .i64 (i : Nat) ∧ E 8 = .int .i64 (u.length : Nat)) ∧ ST true jD w W (hp w) ((J, Ol (iT g) 28) :: t) ∧ E 3 = (.pointer (some ⟨J, 0, none⟩)) ∧ E 7 = k ∧ vR g (u.drop i) = some r) u.length j.len ⟨_, ⟨rfl, rfl⟩, (d.iU St), rfl, rfl, hm⟩ dc dc dc (fun _ _ _ h => by obtain ⟨_, n, _⟩ := h; exact n) ?_ ?_
 ·rintro K E W B ⟨t, ⟨m, o⟩, d, x, y, a⟩
  obtain ⟨c, M, H, G, I⟩ := jB B
  rw [H] at a
  refine bg (VQ (kk (enc := iT) (i := (K : Int)) (x0 := c) al ag y m j (ah _) G) (fun U D => V (iW rfl (jX d.has D an ag)) (VE (jK d bo (fun N T d => VO (jy (.agg (iT c).toArray) ((iT c).toArray) d rfl rfl ag (lh c) nb rfl (fun Q d => lr (VA d Mh (iT c) an ag (V (iW x (jc d.has (Mt Mh) (iT g) rfl an ag)) (V (rn rfl rfl (kV bT) (nE (me _ c g))) (jC ?_)))))))))))
  refine jb ?_
  replace d := d.iU (Db St)
  refine CI a rfl (fun z a => ?_) (fun z a => ?_)
  ·refine sg (Wa (ln ?_))
   replace d := d.iU (Db St)
   refine jz (ko (jx (ko (jx ?_))))
   obtain rfl := sj a
   exact rP d
  exact jJ (jI (jb ⟨m, _, ⟨rfl, o⟩, (d.iU St), x, y, (by rw [I]; exact a)⟩))
 rintro E W ⟨t, ⟨m, o⟩, d, x, y, a⟩
 rw [ai] at a
 refine jb ?_
 replace d := d.iU (Db St)
 exact sg (Wa (lt (rQ a d)))
theorem Ey (N : Formula → (List iR) → Option Bool) (a5 : ∀ (g : Formula) (k : Value) (t : Value) (H : List iR) (r : Bool) (w : World) (c : Sl ju 5 (hp w) k g.Kids) (J : Sl (Pl iT) 2 (hp w) t H), N g H = some r → jv false pg0 44 [(.agg #[(.int .i64 g.Op), (.int .i64 g.K), (.string g.iR.ja), (.string g.iR.jt), k]), t] w (.bool r)) (g : Formula) (k t : Value) (H : List iR) (r : Bool) (w : World) (c : Sl ju 5 (hp w) k g.Kids) (J : Sl (Pl iT) 2 (hp w) t H) (hm : wF N g H = some r) :
  jv false pg0 44 [(.agg #[(.int .i64 g.Op), (.int .i64 g.K), (.string g.iR.ja), (.string g.iR.jt), k]), t] w (.bool r) := by
 refine cG 45 func44 rfl (fun d => sg ?_)
 obtain ⟨A1, c2, rfl⟩ := c.form
 refine VE (jF d rfl (fun W4 p d => Wa (lS (Wf um (VB d Mh rfl rfl bF (Wi rfl (ln (CI hm rfl (fun a9 hm => ?_) (fun a9 hm => ?_)))))))))
 ·refine sg (Wm (Wf wI (VA d Mh (iT g.iR) an ag (bS hm fun r6 v hm => VE (Eg d call105 (jv.kw (JW t H g.iR _ _ (J.mono (Pl.mono _) d.jf) v)) (fun W8 d => Wa (ln ?_)))))))
  replace d := d.iU (Db St)
  refine jz (jx ?_)
  obtain rfl := sj hm
  exact rP d
 refine kg (Wa (lS (Wf rT (VB d Mh rfl rfl dJ (V (jO bx rfl c) (Wm (jC ?_)))))))
 refine jb (jG (fun i E W => ∃ y I, (E 18 = .int .i64 (i : Nat) ∧ E 17 = .int .i64 (g.Kids.length : Nat)) ∧ ST false jD w W (hp w) ((p, Ol (C1 g.Op g.K g.iR.ja g.iR.jt A1 g.Kids.length c2) 57) :: I) ∧ E 1 = t ∧ E 2 = (.pointer (some ⟨p, 0, none⟩)) ∧ E 5 = (.int .i64 y) ∧ E 16 = (.slice A1 g.Kids.length c2) ∧ pR N H g (g.Kids.drop i) y = some r) g.Kids.length c.len ⟨0, _, ⟨rfl, rfl⟩, (d.iU St), rfl, rfl, rfl, rfl, hm⟩ dc dc dc (fun _ _ _ h => by obtain ⟨_, _, n, _⟩ := h; exact n) ?_ ?_)
 ·rintro A E W a4 ⟨y, I, ⟨m, o⟩, d, D, u, x, G, a⟩
  obtain ⟨j, c1, s, q, M⟩ := jB a4
  rw [s] at a
  refine bg (VQ (uF (i := (A : Int)) (x0 := j) ju.out bx aP G m c (ah _) q) (fun b7 ⟨_, ⟨c0, rfl, K⟩, Y⟩ => V (iW rfl (jX d.has Y bG aP)) (VE (jK d cZ (fun L b6 d => ?_)))))
  obtain ⟨z, B, rfl⟩ := K.form
  let a0 := (C1 j.Op j.K j.iR.ja j.iR.jt z j.Kids.length B)
  refine VO (jy (.agg a0.toArray) (a0.toArray) d rfl rfl aP oc nb rfl (fun P d => lr (VA d Mh a0 bG aP (Wh D (bS a fun b9 Z a => VE (Eg d call44 (a5 j (.slice z j.Kids.length B) t H _ _ (K.mono ky.mono d.jf) (J.mono (Pl.mono _) d.jf) Z) (fun R d => ln ?_)))))))
  replace d := d.iU (Db St)
  refine CI a rfl (fun Q a => ?_) (fun Q a => ?_)
  ·exact jj (Wh x (Wi rfl (Wa (jC (jI (jb ⟨m, (wi0 .i64 (y + 1)), _, ⟨rfl, o⟩, (d.iU St), D, u, rfl, G, (by rw [M]; exact a)⟩))))))
  exact jJ (jI (jb ⟨m, y, _, ⟨rfl, o⟩, (d.iU St), D, u, x, G, (by rw [M]; exact a)⟩))
 rintro E W ⟨y, I, ⟨m, o⟩, d, D, u, x, G, a⟩
 rw [ai] at a
 refine jb (jm (sg (V (iY um u) (VB d Mh rfl rfl bF (Wi rfl (ln (CI a rfl (fun T a => ?_) (fun T a => ?_))))))))
 ·refine sg (Wh x (V (iY rT u) (VB d Mh rfl rfl dJ (V (jO bx rfl c) (Wi rfl (Wa (ln ?_)))))))
  replace d := d.iU (Db St)
  refine jz (jx ?_)
  obtain rfl := sj a
  exact rP d
 refine kS (V (iY um u) (VB d Mh rfl rfl bF (Wi rfl (ln (CI a rfl (fun U a => ?_) (fun U a => ?_))))))
 ·refine sg (Wh x (Wi rfl (Wa (ln ?_))))
  replace d := d.iU (Db St)
  refine jz (jx ?_)
  obtain rfl := sj a
  exact rP d
 refine kg (Wh x (V (iY wM u) (VB d Mh rfl rfl bF (Wi rfl (Wa (ln ?_))))))
 exact jz (rQ a d)
theorem D2 : ∀ (n : Nat) (c : Formula) (a : Value) (g : Value) (j : List iR) (r : Bool) (w : World) (i : Sl ju 5 (hp w) a c.Kids) (k : Sl (Pl iT) 2 (hp w) g j) (_ : qW n c j = some r),
  jv false pg0 44 [(.agg #[(.int .i64 c.Op), (.int .i64 c.K), (.string c.iR.ja), (.string c.iR.jt), a]), g] w (.bool r)
 | 0 => by intros; rename_i h; simp only [qW] at h; cases h
 | n + 1 => Ey (qW n) (D2 n)
theorem JY (k : Value) (u : List iS) (g : iS) (r : Bool) (w : World) (j : Sl (Pl iX) 9 (hp w) k u) (hm : yB u g = some r) :
  jv true pg0 146 [k, (.agg (iX g).toArray)] w (.bool r) := by
 refine cG 17 func146 rfl (fun d => sg (VE (jF d rfl (fun Y J d => Wa (lS (Wm (V (jO aG rfl j) (Wm (ln ?_)))))))))
 refine jG (fun i E W => ∃ t, (E 9 = .int .i64 (i : Nat) ∧ E 8 = .int .i64 (u.length : Nat)) ∧ ST true jD w W (hp w) ((J, Ol (iX g) 108) :: t) ∧ E 3 = (.pointer (some ⟨J, 0, none⟩)) ∧ E 7 = k ∧ vS g (u.drop i) = some r) u.length j.len ⟨_, ⟨rfl, rfl⟩, (d.iU St), rfl, rfl, hm⟩ dc dc dc (fun _ _ _ h => by obtain ⟨_, n, _⟩ := h; exact n) ?_ ?_
 ·rintro K E W B ⟨t, ⟨m, o⟩, d, x, y, a⟩
  obtain ⟨c, M, H, G, I⟩ := jB B
  rw [H] at a
  refine bg (VQ (kk (enc := iX) (i := (K : Int)) (x0 := c) aG ak y m j (ah _) G) (fun U D => V (iW rfl (jX d.has D aS ak)) (VE (jK d bw (fun N T d => VO (jy (.agg (iX c).toArray) ((iX c).toArray) d rfl rfl ak (mx c) nb rfl (fun Q d => lr (VA d Mh (iX c) aS ak (V (iW x (jc d.has (Mt Mh) (iX g) rfl aS ak)) (V (rn rfl rfl (kV fC) (nE (yt _ c g))) (jC ?_)))))))))))
  refine jb ?_
  replace d := d.iU (Db St)
  refine CI a rfl (fun z a => ?_) (fun z a => ?_)
  ·refine sg (Wa (ln ?_))
   replace d := d.iU (Db St)
   refine jz (ko (jx (ko (jx ?_))))
   obtain rfl := sj a
   exact rP d
  exact jJ (jI (jb ⟨m, _, ⟨rfl, o⟩, (d.iU St), x, y, (by rw [I]; exact a)⟩))
 rintro E W ⟨t, ⟨m, o⟩, d, x, y, a⟩
 rw [ai] at a
 refine jb ?_
 replace d := d.iU (Db St)
 exact sg (Wa (lt (rQ a d)))
theorem za (z : Value) (D : List jk) (r : List iV) (w : World) (y : Sl (Pl ji) 12 (hp w) z D) (hm : th D = some r) :
  jZ true pg0 83 [z] w 38 je 3 r := by
 refine tS 19 func83 rfl (fun d => sg (Wa (lr (Wa (lS (Wm ?_))))))
 refine V (jO au rfl y) (Wm (ln (jG (fun i E W => ∃ j B g t, (E 8 = .int .i64 (i : Nat) ∧ E 7 = .int .i64 (D.length : Nat)) ∧ ST true jD w W (hp w) (g ++ t) ∧ E 3 = j ∧ E 6 = z ∧ jl 38 je 3 j B g ∧ qK (D.drop i) B = some r) D.length y.len ⟨(.slice none 0 0), ([]), [], _, ⟨rfl, rfl⟩, (d.iU St), rfl, rfl, (jl.nil _ _ _), hm⟩ dc dc dc (fun _ _ _ h => by obtain ⟨_, _, _, _, n, _⟩ := h; exact n) ?_ ?_)))
 ·rintro Z E W M ⟨j, B, g, t, ⟨m, o⟩, d, u, x, k, a⟩
  obtain ⟨c, L, Q, N, T⟩ := jB M
  rw [Q] at a
  refine bg (VQ (kk (enc := ji) (i := (Z : Int)) (x0 := c) au aV x m y (ah _) N) (fun A I => V (iW rfl (jX d.has I da aV)) (VE (jK d cu (fun s a5 d => VO (jy (.agg (ji c).toArray) ((ji c).toArray) d rfl rfl aV (qb c) nb rfl (fun a2 d => ln (jj (Wh u (Wf od (VA d Mh (je c.iV) cH bf (VE (jS (cs := (je c.iV).toArray) d (ma rfl) (lV bj bf bW) (fun a3 K d => ?_))))))))))))))
  replace d := d.perm (Nr (Qb (Qb Qz)) Nz)
  refine bS a fun U H a => VE (kX (enc := je) (v := j) (vs := (.slice (some ⟨K, 0, none⟩) 1 1)) (R := g) d lJ dc uW bj pt.1 pt.2.1 rfl pt.2.2.1 pt.2.2.2 rfl rfl k (Sl.lit (enc := je) (l := [c.iV]) lJ rfl nb rfl (d.at_ (Ma Mh))) H (fun a4 Y J d G => Wa (jC (jI (jb ?_)))))
  replace d := d.iU (Kr (Db (Db St)))
  exact ⟨m, Y, U, J, _, ⟨rfl, o⟩, (d.iU St), rfl, x, G, (by rw [T]; exact a)⟩
 rintro E W ⟨j, B, g, t, ⟨m, o⟩, d, u, x, k, a⟩
 rw [ai] at a
 refine jb (sg (Wh u (Wa (lt ?_))))
 obtain rfl := sj a
 exact jR (v := j) rfl rfl ⟨_, g, rfl, d.ly (fun p q => (Ml q)) k.nd, k⟩
theorem Jb (t u : iR) (r : Bool) (w : World) (hm : vA t u = some r) :
  jv true pg0 107 [(.agg (iT t).toArray), (.agg (iT u).toArray)] w (.bool r) := by
 refine cG 24 func107 rfl (fun d => sg (VE (jF d rfl (fun T Y d => VE (jF d rfl (fun U Z d => Wa (lr (Wf nH (VB d (Mt Mh) rfl rfl aH (Wf nH (VB d Mh rfl rfl aH (V (tZ rfl rfl rfl) ?_))))))))))))
 refine Wm (LJ hm (fun z E W => ∃ x, ST true jD w W (hp w) x ∧ E 4 = (.bool false) ∧ E 23 = (.bool z)) 13 ?_ (fun z g j => ?_))
 ·rintro N E W ⟨x, d, M, H⟩ D
  exact Wg H (lt (rQ D d))
 refine bC g (fun a g => ?_) (fun a g => ?_)
 ·refine un a (un a (un a (un a (un a (un a (Vu rfl rfl (Vu rfl rfl (Vu rfl rfl (Vu rfl rfl (Vu rfl rfl (un a (V (jq (cB a) rfl) ?_))))))))))))
  obtain rfl := sj g
  exact j _ _ ⟨_, (d.iU (Db (Db St))), rfl, rfl⟩
 refine ug a (iY nH rfl) (ug a (iW rfl (jg d.has (Mt Mh) rfl aH)) (ug a (iY nH rfl) (ug a (iW rfl (jg d.has Mh rfl aH)) (ug a (tZ rfl rfl rfl) (ug a (jd rfl) (LJ g (fun B E W => ∃ y, ST true jD w W (hp w) y ∧ E 4 = (.bool false) ∧ E 10 = (.bool (nX t.ja u.ja)) ∧ E 22 = (.bool B)) 6 ?_ (fun B i k => ?_)))))))
 ·rintro Q E W ⟨y, d, I, J, K⟩ G
  refine V (jn (J.trans (cB a)) K) ?_
  obtain rfl := sj G
  exact j _ _ ⟨_, (d.iU St), I, rfl⟩
 refine bC i (fun c i => ?_) (fun c i => ?_)
 ·refine ug c (iY tA rfl) (ug c (iW rfl (jg d.has (Mt Mh) rfl aH)) (ug c (iY tA rfl) (ug c (iW rfl (jg d.has Mh rfl aH)) (ug c (tZ rfl rfl rfl) (ug a (jq (cB c) rfl) ?_)))))
  obtain rfl := sj i
  exact k _ _ ⟨_, (d.iU (Db (Db St))), rfl, rfl, rfl⟩
 refine un c (un c (un c (un c (un c (ug a (jn (cB c) rfl) ?_)))))
 obtain rfl := sj i
 exact k _ _ ⟨_, (d.iU (Db (Db St))), rfl, rfl, rfl⟩
theorem H3 (g : iS) (r : Bool) (w : World) (hm : tf g = some r) :
  jv true pg0 68 [(.agg (iX g).toArray)] w (.bool r) := by
 refine cG 93 func68 rfl (fun d => sg (VE (jF d rfl (fun W2 M d => Wa (lr (VE (jK d bo (fun W4 m d => lS ?_))))))))
 refine Wf mY (VA d (Mt Mh) (iT g.Head) an ag (bS hm fun r5 h4 hm => VE (Eg d call88 (wX g.Head _ _  h4) (fun W7 d => V (lj rfl) (ln (CI hm rfl (fun h2 hm => ?_) (fun h2 hm => ?_)))))))
 ·refine sg (Wa (ln ?_))
  replace d := d.iU (Db (Db St))
  refine jz (jx ?_)
  obtain rfl := sj hm
  exact rP d
 refine kS (Wf mT (VB d (Mt Mh) rfl rfl bF (Wi rfl (ln (CI hm rfl (fun h3 hm => ?_) (fun h3 hm => ?_))))))
 ·refine sg (Wf rz (VB d (Mt Mh) rfl rfl aH (bS hm fun i6 f7 hm => VE (Eg d call138 (w5 g.jA _ _  f7) (fun i3 d => Wm (LJ hm (fun e1 E W => ∃ c8, ST true jD w W (hp w) ((m, Ol (iT K0) 28) :: ((M, Ol (iX g) 108) :: c8)) ∧ E 1 = (.pointer (some ⟨M, 0, none⟩)) ∧ E 2 = (.bool false) ∧ E 3 = (.pointer (some ⟨m, 0, none⟩)) ∧ E 19 = (.bool e1)) 5 ?_ (fun e1 T q => ?_)))))))
  ·rintro i8 E W ⟨c8, d, n, d6, f9, g0⟩ f0
   refine Wh g0 (LJ f0 (fun e0 E W => ∃ c9, ST true jD w W (hp w) ((M, Ol (iX g) 108) :: c9) ∧ E 1 = (.pointer (some ⟨M, 0, none⟩)) ∧ E 2 = (.bool false) ∧ E 25 = (.bool e0)) 5 ?_ (fun e0 Q a5 => ?_))
   ·rintro i9 E W ⟨c9, d, g1, d7, g2⟩ f1
    refine Wh g2 (LJ f1 (fun d9 E W => ∃ d0, ST true jD w W (hp w) d0 ∧ E 2 = (.bool false) ∧ E 30 = (.bool d9)) 4 ?_ (fun d9 N a4 => ?_))
    ·rintro j0 E W ⟨d0, d, i5, g3⟩ f2
     refine Wg g3 (lt (jx ?_))
     obtain rfl := sj f2
     exact rP d
    refine bC N (fun x N => ?_) (fun x N => ?_)
    ·refine ug x (iY pZ g1) (ug x (iW rfl (jg d.has Mh rfl aH)) (ug x (tZ rfl rfl rfl) (V (jq (cB x) rfl) ?_)))
     obtain rfl := sj N
     exact a4 _ _ ⟨_, (d.iU (Db St)), d7, rfl⟩
    refine un x (un x (un x (V (jn (cB x) rfl) ?_)))
    obtain rfl := sj N
    exact a4 _ _ ⟨_, (d.iU (Db St)), d7, rfl⟩
   refine bC Q (fun k Q => ?_) (fun k Q => ?_)
   ·refine ug k (iY oh n) (ug k (iW rfl (jc d.has (Mt Mh) (iT g.C) rfl an ag)) (ug k (iW f9 (jc d.has Mh (iT K0) rfl an ag)) (ug k (rn rfl rfl (kV bT) (nE (me _ g.C K0))) (V (jq (cB k) rfl) ?_))))
    obtain rfl := sj Q
    exact a5 _ _ ⟨_, (d.iU (Db St)), n, d6, rfl⟩
   refine un k (un k (un k (un k (V (jn (cB k) rfl) ?_))))
   obtain rfl := sj Q
   exact a5 _ _ ⟨_, (d.iU (Db St)), n, d6, rfl⟩
  refine bC T (fun j T => ?_) (fun j T => ?_)
  ·refine ug j (iY kK rfl) (ug j (iW rfl (jc d.has (Mt Mh) (iT g.B) rfl an ag)) (ug j (iW rfl (jc d.has Mh (iT K0) rfl an ag)) (ug j (rn rfl rfl (kV bT) (nE (me _ g.B K0))) (V (jq (cB j) rfl) ?_))))
   obtain rfl := sj T
   exact q _ _ ⟨_, (d.iU St), rfl, rfl, rfl, rfl⟩
  refine un j (un j (un j (un j (V (jn (cB j) rfl) ?_))))
  obtain rfl := sj T
  exact q _ _ ⟨_, (d.iU St), rfl, rfl, rfl, rfl⟩
 let a0 := ((iX g).toArray : Array Value)
 let h : Value := (.pointer (some ⟨M, 0, none⟩))
 refine kS (Wf rz (VB d (Mt Mh) rfl rfl aH (V (tZ rfl rfl rfl) (Wm (LJ hm (fun c1 E W => ∃ d1, ST true jD w W (hp w) ((m, Ol (iT K0) 28) :: ((M, Obj.cells a0 108 (0, 0)) :: d1)) ∧ E 1 = h ∧ E 3 = (.pointer (some ⟨m, 0, none⟩)) ∧ E 39 = (.bool c1)) 5 ?_ (fun c1 I a3 => ?_))))))
 ·rintro j3 E W ⟨d1, d, u, d8, g4⟩ i
  refine ln (CI i g4 (fun e7 i => ?_) (fun e7 i => ?_))
  ·refine sg (Wa (ln ?_))
   replace d := d.iU (Db (Db St))
   refine jz (jx ?_)
   obtain rfl := sj i
   exact rP d
  refine kS (V (iY mT u) (VB d (Mt Mh) rfl rfl bF (Wi rfl (ln (CI i rfl (fun e8 i => ?_) (fun e8 i => ?_))))))
  ·refine sg (V (iY oh u) (VA d (Mt Mh) (iT g.C) an ag (V (iW d8 (jc d.has Mh (iT K0) rfl an ag)) (V (rn rfl rfl (kV bT) (nE (me _ g.C K0))) (Wm (LJ i (fun e2 E W => ∃ d2, ST true jD w W (hp w) d2 ∧ E 51 = (.bool e2)) 4 ?_ (fun e2 U s => ?_)))))))
   ·rintro j4 E W ⟨d2, d, g7⟩ f3
    refine Wg g7 (lt (jx ?_))
    obtain rfl := sj f3
    exact rP d
   refine bC U (fun y U => ?_) (fun y U => ?_)
   ·refine ug y (iY pZ u) (ug y (iW rfl (jg d.has (Mt Mh) rfl aH)) (ug y (tZ rfl rfl rfl) (V (jq (cB y) rfl) ?_)))
    obtain rfl := sj U
    exact s _ _ ⟨_, (d.iU (Db (Db St))), rfl⟩
   refine un y (un y (un y (V (jn (cB y) rfl) ?_)))
   obtain rfl := sj U
   exact s _ _ ⟨_, (d.iU (Db (Db St))), rfl⟩
  refine kS (V (iY mT u) (VB d (Mt Mh) rfl rfl bF (Wi rfl (ln (CI i rfl (fun e9 i => ?_) (fun e9 i => ?_))))))
  ·refine sg (V (iY oh u) (VA d (Mt Mh) (iT g.C) an ag (V (iW d8 (jc d.has Mh (iT K0) rfl an ag)) (V (rn rfl rfl (kV bT) (nE (me _ g.C K0))) (Wm (LJ i (fun e4 E W => ∃ d3, ST true jD w W (hp w) ((M, Obj.cells a0 108 (0, 0)) :: d3) ∧ E 1 = h ∧ E 67 = (.bool e4)) 8 ?_ (fun e4 Y a9 => ?_)))))))
   ·rintro j5 E W ⟨d3, d, g8, g9⟩ f4
    refine Wh g9 (LJ f4 (fun e3 E W => ∃ d4, ST true jD w W (hp w) d4 ∧ E 72 = (.bool e3)) 4 ?_ (fun e3 J v => ?_))
    ·rintro j6 E W ⟨d4, d, h0⟩ f5
     refine Wg h0 (lt (jx ?_))
     obtain rfl := sj f5
     exact rP d
    refine bC J (fun z J => ?_) (fun z J => ?_)
    ·refine ug z (iY pZ g8) (ug z (iW rfl (jg d.has Mh rfl aH)) (bS J fun i7 f8 J => oH z (Eg d call138 (w5 g.jU _ _  f8) (fun i4 d => V (jq (cB z) rfl) ?_))))
     obtain rfl := sj J
     exact v _ _ ⟨_, (d.iU (Db St)), rfl⟩
    refine un z (un z (un z (V (jn (cB z) rfl) ?_)))
    obtain rfl := sj J
    exact v _ _ ⟨_, (d.iU (Db St)), rfl⟩
   refine bC Y (fun a Y => ?_) (fun a Y => ?_)
   ·refine ug a (iY kK u) (ug a (iY nH rfl) (ug a (iW rfl (jg d.has (Mt Mh) rfl aH)) (ug a (iY mY u) (ug a (iY nH rfl) (ug a (iW rfl (jg d.has (Mt Mh) rfl aH)) (ug a (tZ rfl rfl rfl) (V (jq (cB a) rfl) ?_)))))))
    obtain rfl := sj Y
    exact a9 _ _ ⟨_, (d.iU (Db St)), u, rfl⟩
   refine un a (un a (un a (un a (un a (un a (un a (V (jn (cB a) rfl) ?_)))))))
   obtain rfl := sj Y
   exact a9 _ _ ⟨_, (d.iU (Db St)), u, rfl⟩
  refine kn ?_
  replace d := d.iU (Db St)
  refine sg (V (iY mT u) (VB d Mh rfl rfl bF (Wi rfl (Wm (LJ i (fun c0 E W => ∃ d5, ST true jD w W (hp w) ((M, Obj.cells a0 108 (0, 0)) :: d5) ∧ E 1 = h ∧ E 80 = (.bool c0)) 4 ?_ (fun c0 K a2 => ?_))))))
  ·rintro j7 E W ⟨d5, d, o, h1⟩ f6
   refine Wh h1 (LJ f6 (fun b9 E W => ∃ A, ST true jD w W (hp w) ((M, Obj.cells a0 108 (0, 0)) :: A) ∧ E 1 = h ∧ E 85 = (.bool b9)) 4 ?_ (fun b9 H p => ?_))
   ·rintro i1 E W ⟨A, d, P, e5⟩ c3
    refine Wh e5 (LJ c3 (fun R E W => ∃ L, ST true jD w W (hp w) L ∧ E 92 = (.bool R)) 6 ?_ (fun R G Z => ?_))
    ·rintro i2 E W ⟨L, d, e6⟩ c4
     exact Wg e6 (lt (rQ c4 d))
    refine bC G (fun c G => ?_) (fun c G => ?_)
    ·refine ug c (iY kK P) (ug c (iW rfl (jc d.has Mh (iT g.B) rfl an ag)) (ug c (iY oh P) (ug c (iW rfl (jc d.has Mh (iT g.C) rfl an ag)) (bS G fun h8 c5 G => oH c (Eg d call107 (Jb g.B g.C _ _  c5) (fun h5 d => V (jq (cB c) rfl) ?_))))))
     obtain rfl := sj G
     exact Z _ _ ⟨_, (d.iU (Db St)), rfl⟩
    refine un c (un c (un c (un c (un c (V (jn (cB c) rfl) ?_)))))
    obtain rfl := sj G
    exact Z _ _ ⟨_, (d.iU (Db St)), rfl⟩
   refine bC H (fun D H => ?_) (fun D H => ?_)
   ·refine ug D (iY oh o) (ug D (iW rfl (jc d.has Mh (iT g.C) rfl an ag)) (bS H fun h9 c6 H => oH D (Eg d call88 (wX g.C _ _  c6) (fun h6 d => V (jq (cB D) rfl) ?_))))
    obtain rfl := sj H
    exact p _ _ ⟨_, (d.iU St), o, rfl⟩
   refine un D (un D (un D (V (jn (cB D) rfl) ?_)))
   obtain rfl := sj H
   exact p _ _ ⟨_, (d.iU St), o, rfl⟩
  refine bC K (fun B K => ?_) (fun B K => ?_)
  ·refine ug B (iY pZ u) (ug B (iW rfl (jg d.has Mh rfl aH)) (ug B (tZ rfl rfl rfl) (V (jq (cB B) rfl) ?_)))
   obtain rfl := sj K
   exact a2 _ _ ⟨_, (d.iU St), u, rfl⟩
  refine un B (un B (un B (V (jn (cB B) rfl) ?_)))
  obtain rfl := sj K
  exact a2 _ _ ⟨_, (d.iU St), u, rfl⟩
 refine bC I (fun t I => ?_) (fun t I => ?_)
 ·refine un t (un t (un t (un t (V (jq (cB t) rfl) ?_))))
  obtain rfl := sj I
  exact a3 _ _ ⟨_, (d.iU St), rfl, rfl, rfl⟩
 refine ug t (iY kK rfl) (ug t (iW rfl (jc d.has (Mt Mh) (iT g.B) rfl an ag)) (bS I fun i0 c7 I => oH t (Eg d call88 (wX g.B _ _  c7) (fun h7 d => ug t (lj rfl) (V (jn (cB t) rfl) ?_)))))
 obtain rfl := sj I
 exact a3 _ _ ⟨_, (d.iU St), rfl, rfl, rfl⟩
theorem HY (z : Value) (D : List iV) (r : List ByteArray) (w : World) (y : Sl (Pl je) 3 (hp w) z D) (hm : zl D = some r) :
  jZ true pg0 199 [z] w 9 lE 1 r := by
 refine tS 19 func199 rfl (fun d => sg (Wa (lr (Wa (lS (Wm ?_))))))
 refine V (jO bj rfl y) (Wm (ln (jG (fun i E W => ∃ j B g t, (E 8 = .int .i64 (i : Nat) ∧ E 7 = .int .i64 (D.length : Nat)) ∧ ST true jD w W (hp w) (g ++ t) ∧ E 3 = j ∧ E 6 = z ∧ jl 9 lE 1 j B g ∧ qz (D.drop i) B = some r) D.length y.len ⟨(.slice none 0 0), ([]), [], _, ⟨rfl, rfl⟩, (d.iU St), rfl, rfl, (jl.nil _ _ _), hm⟩ dc dc dc (fun _ _ _ h => by obtain ⟨_, _, _, _, n, _⟩ := h; exact n) ?_ ?_)))
 ·rintro Z E W M ⟨j, B, g, t, ⟨m, o⟩, d, u, x, k, a⟩
  obtain ⟨c, L, Q, N, T⟩ := jB M
  rw [Q] at a
  refine bg (VQ (kk (enc := je) (i := (Z : Int)) (x0 := c) bj bf x m y (ah _) N) (fun A I => V (iW rfl (jX d.has I cH bf)) (VE (jK d bW (fun s a5 d => VO (jy (.agg (je c).toArray) ((je c).toArray) d rfl rfl bf (uW c) nb rfl (fun a2 d => ln (jj (Wh u (Wf pU (VB d Mh rfl rfl aH (VE (jS (cs := [(.string c.jA)].toArray) d (ma rfl) (lV aT cx iE) (fun a3 K d => ?_))))))))))))))
  replace d := d.perm (Nr (Qb (Qb Qz)) Nz)
  refine bS a fun U H a => VE (kX (enc := lE) (v := j) (vs := (.slice (some ⟨K, 0, none⟩) 1 1)) (R := g) d (fun _ => rfl) dc Cs aT w9.1 w9.2.1 rfl w9.2.2.1 w9.2.2.2 rfl rfl k (Sl.lit (enc := lE) (l := [c.jA]) (fun _ => rfl) rfl nb rfl (d.at_ (Ma Mh))) H (fun a4 Y J d G => Wa (jC (jI (jb ?_)))))
  replace d := d.iU (Kr (Db (Db St)))
  exact ⟨m, Y, U, J, _, ⟨rfl, o⟩, (d.iU St), rfl, x, G, (by rw [T]; exact a)⟩
 rintro E W ⟨j, B, g, t, ⟨m, o⟩, d, u, x, k, a⟩
 rw [ai] at a
 refine jb (sg (Wh u (Wa (lt ?_))))
 obtain rfl := sj a
 exact jR (v := j) rfl rfl ⟨_, g, rfl, d.ly (fun p q => (Ml q)) k.nd, k⟩
theorem uy (y : Value) (H : List iV) (z : iR) (J : ByteArray) (r : Bool) (w : World) (G : Sl (Pl je) 3 (hp w) y H) (hm : qO H z J = some r) :
  jv true pg0 63 [y, (.agg (iT z).toArray), (.string J)] w (.bool r) := by
 refine cG 26 func63 rfl (fun d => sg (VE (jF d rfl (fun W2 M d => Wa (lS (Wm (V (jO bj rfl G) (Wm (ln ?_)))))))))
 refine jG (fun i E W => ∃ D, (E 11 = .int .i64 (i : Nat) ∧ E 10 = .int .i64 (H.length : Nat)) ∧ ST true jD w W (hp w) ((M, Ol (iT z) 28) :: D) ∧ E 2 = (.string J) ∧ E 4 = (.pointer (some ⟨M, 0, none⟩)) ∧ E 9 = y ∧ uK z J (H.drop i) = some r) H.length G.len ⟨_, ⟨rfl, rfl⟩, (d.iU St), rfl, rfl, rfl, hm⟩ dc dc dc (fun _ _ _ h => by obtain ⟨_, n, _⟩ := h; exact n) ?_ ?_
 ·rintro T E W p ⟨D, ⟨m, o⟩, d, t, u, x, c⟩
  obtain ⟨k, b6, s, q, a9⟩ := jB p
  rw [s] at c
  refine bg (VQ (kk (enc := je) (i := (T : Int)) (x0 := k) bj bf x m G (ah _) q) (fun P Q => V (iW rfl (jX d.has Q cH bf)) (VE (jK d bW (fun v L d => VO (jy (.agg (je k).toArray) ((je k).toArray) d rfl rfl bf (uW k) nb rfl (fun A d => lr (Wf vB (VA d Mh (iT k.iR) an ag (V (iW u (jc d.has (Mt Mh) (iT z) rfl an ag)) (V (rn rfl rfl (kV bT) (nE (me _ k.iR z))) ?_)))))))))))
  refine Wm (LJ c (fun K E W => ∃ I, ST true jD w W (hp w) ((M, Ol (iT z) 28) :: I) ∧ E 2 = (.string J) ∧ E 4 = (.pointer (some ⟨M, 0, none⟩)) ∧ E 9 = y ∧ E 10 = (.int .i64 (H.length : Int)) ∧ E 11 = (.int .i64 (T : Int)) ∧ E 24 = (.bool K)) 5 ?_ (fun K j B => ?_))
  ·rintro R E W ⟨I, d, U, Y, Z, a3, a4, a5⟩ g
   refine ln (CI g a5 (fun N g => ?_) (fun N g => ?_))
   ·refine sg (Wa (ln ?_))
    replace d := d.iU (Db St)
    refine jz (ko (jx (ko (jx ?_))))
    obtain rfl := sj g
    exact rP d
   exact jJ (jI (jb ⟨a4, _, ⟨rfl, a3⟩, (d.iU St), U, Y, Z, (by rw [a9]; exact g)⟩))
  refine bC j (fun a j => ?_) (fun a j => ?_)
  ·refine ug a (iY pU rfl) (ug a (iW rfl (jg d.has Mh rfl aH)) (ug a (jd t) (ug a (tZ rfl rfl rfl) (V (jq (cB a) rfl) ?_))))
   obtain rfl := sj j
   exact B _ _ ⟨_, (d.iU (Db St)), t, u, x, o, m, rfl⟩
  refine un a (un a (un a (un a (V (jn (cB a) rfl) ?_))))
  obtain rfl := sj j
  exact B _ _ ⟨_, (d.iU (Db St)), t, u, x, o, m, rfl⟩
 rintro E W ⟨D, ⟨m, o⟩, d, t, u, x, c⟩
 rw [ai] at c
 refine jb ?_
 replace d := d.iU (Db St)
 exact sg (Wa (lt (rQ c d)))
end Go.Proofs.YtbnbdigcbldfhaaGreat
