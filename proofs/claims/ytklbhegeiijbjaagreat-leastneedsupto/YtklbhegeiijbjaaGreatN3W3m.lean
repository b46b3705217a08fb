/- a part of a proof of LeastNeeds -/
import Derived.Test.YtklbhegeiijbjaaGreatN3W2m
set_option linter.all false
namespace Go.Proofs.YtklbhegeiijbjaaGreat
open Go.RowKit
set_option maxRecDepth 10000
open Tryz
theorem FX (D : Value) (a0 r : List kF) (w : World) (e3 : Sl (Pl kK) 9 (hp w) D a0) (hm : yK a0 = some r) :
  nA true Tryz.prog 211 [D] w 52 kK 9 r := by
 refine wM 51 func211 rfl (fun d => sg (Wa (lr (Wa (ln (qw (mK (nZ (fun m E W => ∃ x a3 u c5, ST true lU w W (hp w) (u ++ c5) ∧ E 0 = D ∧ E 3 = x ∧ lA 52 kK 9 x a3 u ∧ uH a0 m a3 = some r) lF ⟨(.slice none 0 0), ([]), [], _, (d.kH St), rfl, rfl, (lA.nil _ _ _), hm⟩ ?_))))))))
 rintro m E W ⟨x, a3, u, c5, d, d1, g2, J, a5⟩
 cases m with
 | zero => rw [uH] at a5; cases a5
 | succ j5 =>
  refine bg (VE (lG d cW (fun k0 t d => lr (Wa (lS (Wh d1 ?_))))))
  let b8 : Value := (.pointer (some ⟨t, 0, none⟩))
  refine V (ml aS rfl e3) (Wm (ln (CJ a5 (fun a9 E W => ∃ c6, ST true lU w W (hp w) ((t, Ol (kK a9.2) 52) :: (u ++ c6)) ∧ E 0 = D ∧ E 3 = x ∧ E 4 = b8 ∧ E 5 = (.bool a9.1)) (fun a9 e9 => ?_) ?_)))
  ·refine mf (fun i E W => ∃ G y b1, (E 10 = .int .i64 (i : Nat) ∧ E 9 = .int .i64 (a0.length : Nat)) ∧ ST true lU w W (hp w) ((t, Ol (kK y) 52) :: (u ++ b1)) ∧ E 0 = D ∧ E 3 = x ∧ E 4 = b8 ∧ E 5 = (.bool G) ∧ E 8 = D ∧ sT a3 (a0.drop i) G y = some a9) a0.length e3.len ⟨false, K9, _, ⟨rfl, rfl⟩, (d.kH St), d1, g2, rfl, rfl, rfl, e9⟩ dc dc dc (fun _ _ _ h => by obtain ⟨_, _, _, aa, _⟩ := h; exact aa) ?_ ?_
   ·rintro a2 E W e8 ⟨G, y, b1, ⟨s, P⟩, d, U, M, Y, Z, q, z⟩
    let g5 := ((kK y).toArray : Array Value)
    obtain ⟨c, j9, f9, f8, c4⟩ := lT e8
    let O := ((kK c).toArray : Array Value)
    rw [f9] at z
    refine bg (VQ (oH (enc := kK) (i := (a2 : Int)) (x0 := c) aS aO q s e3 (aH _) f8) (fun k9 f3 => V (kI rfl (lB d.has f3 bX aO)) (VE (lG d cW (fun k3 K d => VO (lh (.agg (kK c).toArray) ((kK c).toArray) d rfl rfl aO (oQ c) nb rfl (fun k4 d => ln (kZ ?_))))))))
    let j2 : Value := (.int .i64 (a2 : Int))
    let j1 : Value := (.int .i64 (a0.length : Int))
    let g6 : Value := (.pointer (some ⟨K, 0, none⟩))
    replace d := d.drew
    have b := d.has.kH (Kb (Kb (Kr Sn)))
    refine mi b lN (XH 0 rfl b (fun _ n => kI rfl (kO n Mh (kK c) rfl bX aO)) (bS z fun j6 f5 z => XE 1 rfl (Eg d call261 (Et c _ _  f5) (fun k5 d => ?_))))
    have b := d.has.kH (Kb (Kb (Kr Sn)))
    refine ⟨b, (X 2 rfl b (kT rfl) (PJ z (fun e0 E W => ∃ c7, ST true lU w W (hp w) ((K, Obj.cells O 52 (0, 0)) :: ((t, Obj.cells g5 52 (0, 0)) :: (u ++ c7))) ∧ E 0 = D ∧ E 3 = x ∧ E 4 = b8 ∧ E 5 = (.bool G) ∧ E 7 = g6 ∧ E 8 = D ∧ E 9 = j1 ∧ E 10 = j2 ∧ E 31 = (.bool e0)) (bm 28 262143) 10 ?_ (fun e0 T c1 => ?_)))⟩
    ·rintro j8 E W ⟨c7, d, b2, b3, A, F, L, b4, b5, b6, g8⟩ f0
     have b := d.has.kH (Kb (Kb (Kr Sn)))
     refine X 18 rfl b (kT g8) (PJ f0 (fun d8 E W => ∃ c8, ST true lU w W (hp w) ((K, Obj.cells O 52 (0, 0)) :: ((t, Obj.cells g5 52 (0, 0)) :: (u ++ c8))) ∧ E 0 = D ∧ E 3 = x ∧ E 4 = b8 ∧ E 5 = (.bool G) ∧ E 7 = g6 ∧ E 8 = D ∧ E 9 = j1 ∧ E 10 = j2 ∧ E 41 = (.bool d8)) (bm 28 268435455) 0 ?_ (fun d8 Q b9 => ?_))
     ·rintro l4 E W ⟨c8, d, d3, d4, b7, g9, h0, d5, d6, d7, h1⟩ N
      refine mu kr (kU (CI N h1 (fun e7 N => ?_) (fun e7 N => ?_)))
      ·refine sg (V (kI h0 (kO d.has Mh (kK c) rfl bX aO)) ?_)
       replace d := d.perm (Nb (Pb Pz) Nz)
       refine VO (lh (.agg (kK c).toArray) ((kK c).toArray) d b7 rfl aO (oQ c) nb rfl (fun k6 d => ln ?_))
       replace d := d.kH (Kb (Db St))
       exact kW (Wa (lH (lL (kU ⟨d7, true, c, _, ⟨rfl, d6⟩, (d.kH St), d3, d4, b7, rfl, d5, (by rw [c4]; exact N)⟩))))
      refine mr (lL (kU ?_))
      replace d := d.kH (Db St)
      exact ⟨d7, G, y, _, ⟨rfl, d6⟩, (d.kH St), d3, d4, b7, g9, d5, (by rw [c4]; exact N)⟩
     refine bC Q (fun j Q => ?_) (fun j Q => ?_)
     ·refine Xg 19 rfl rfl (cB j) b (kT F) (Xg 20 rfl rfl (cB j) b (ol rfl) (Xg 21 rfl rfl (cB j) b (kT rfl) (PJ Q (fun d9 E W => ∃ c9, ST true lU w W (hp w) ((K, Obj.cells O 52 (0, 0)) :: ((t, Obj.cells g5 52 (0, 0)) :: (u ++ c9))) ∧ E 0 = D ∧ E 3 = x ∧ E 4 = b8 ∧ E 5 = (.bool G) ∧ E 7 = g6 ∧ E 8 = D ∧ E 9 = j1 ∧ E 10 = j2 ∧ E 32 = (.bool j8) ∧ E 40 = (.bool d9)) (bm 28 134217727) 1 ?_ (fun d9 I c0 => ?_))))
      ·rintro l5 E W ⟨c9, d, h2, h3, h4, h5, h6, h7, h8, h9, i0, i1⟩ f1
       have b := d.has.kH (Kb (Kb (Kr Sn)))
       refine X 27 rfl b (lj (i0.trans (cB j)) i1) ?_
       obtain rfl := sj f1
       refine nu kr (b9 _ _ ⟨_, (d.kH St), h2, h3, h4, h5, h6, h7, h8, h9, rfl⟩)
      refine bC I (fun k I => ?_) (fun k I => ?_)
      ·refine Xn 22 rfl rfl (cB k) b (Xn 23 rfl rfl (cB k) b (Xn 24 rfl rfl (cB k) b (Xn 25 rfl rfl (cB k) b (Xg 26 rfl rfl (cB j) b (lj (cB k) rfl) ?_))))
       obtain rfl := sj I
       refine nu kr (c0 _ _ ⟨_, (d.kH St), b2, b3, A, F, L, b4, b5, b6, rfl, rfl⟩)
      refine qQ 22 rfl rfl (cB k) b (fun _ n => kI L (kO n Mh (kK c) rfl bX aO)) (qQ 23 rfl rfl (cB k) b (fun _ n => kI A (kO n (Mt Mh) (kK y) rfl bX aO)) (bS I fun l1 f6 I => Af 24 rfl rfl (cB k) (Eg d call262 (Cw c y _ _  f6) (fun k7 d => ?_))))
      have b := d.has.kH (Kb (Kb (Kr Sn)))
      refine ⟨b, (Xg 25 rfl rfl (cB k) b (lR rfl rfl rfl) (Xg 26 rfl rfl (cB j) b (ll (cB k) rfl) ?_))⟩
      obtain rfl := sj I
      refine nu kr (c0 _ _ ⟨_, (d.kH St), b2, b3, A, F, L, b4, b5, b6, rfl, rfl⟩)
     refine Xn 19 rfl rfl (cB j) b (Xn 20 rfl rfl (cB j) b (Xn 21 rfl rfl (cB j) b (Xu 22 rfl rfl rfl b (Xu 23 rfl rfl rfl b (Xu 24 rfl rfl rfl b (Xu 25 rfl rfl rfl b (Xn 26 rfl rfl (cB j) b (X 27 rfl b (ll (cB j) rfl) ?_))))))))
     obtain rfl := sj Q
     refine nu kr (b9 _ _ ⟨_, (d.kH St), b2, b3, A, F, L, b4, b5, b6, rfl⟩)
    refine bC T (fun g T => ?_) (fun g T => ?_)
    ·refine Xg 3 rfl rfl (cB g) b (kT M) (Xg 4 rfl rfl (cB g) b (oq aS rfl J) (Xg 5 rfl rfl (cB g) b (lR rfl rfl rfl) (Xg 6 rfl rfl (cB g) b (kT rfl) (PJ T (fun e1 E W => ∃ d0, ST true lU w W (hp w) ((K, Obj.cells O 52 (0, 0)) :: ((t, Obj.cells g5 52 (0, 0)) :: (u ++ d0))) ∧ E 0 = D ∧ E 3 = x ∧ E 4 = b8 ∧ E 5 = (.bool G) ∧ E 7 = g6 ∧ E 8 = D ∧ E 9 = j1 ∧ E 10 = j2 ∧ E 16 = (.bool j6) ∧ E 30 = (.bool e1)) (bm 28 131071) 11 ?_ (fun e1 B c2 => ?_)))))
     ·rintro l6 E W ⟨d0, d, i2, i3, i4, i5, i6, i7, i8, i9, j0, j3⟩ f2
      have b := d.has.kH (Kb (Kb (Kr Sn)))
      refine X 17 rfl b (lj (j0.trans (cB g)) j3) ?_
      obtain rfl := sj f2
      refine nu kr (c1 _ _ ⟨_, (d.kH St), i2, i3, i4, i5, i6, i7, i8, i9, rfl⟩)
     refine bC B (fun a B => ?_) (fun a B => ?_)
     ·refine Xn 7 rfl rfl (cB a) b (Xn 8 rfl rfl (cB a) b (Xn 9 rfl rfl (cB a) b (Xn 10 rfl rfl (cB a) b (Xn 11 rfl rfl (cB a) b (Xn 12 rfl rfl (cB a) b (Xn 13 rfl rfl (cB a) b (Xn 14 rfl rfl (cB a) b (Xn 15 rfl rfl (cB a) b (Xg 16 rfl rfl (cB g) b (lj (cB a) rfl) ?_)))))))))
      obtain rfl := sj B
      refine nu kr (c2 _ _ ⟨_, (d.kH St), U, M, Y, Z, rfl, q, P, s, rfl, rfl⟩)
     refine Xg 7 rfl rfl (cB a) b (kT M) (Xg 8 rfl rfl (cB a) b (kT M) (Xg 9 rfl rfl (cB a) b (oq aS rfl J) (Xg 10 rfl rfl (cB a) b (lR rfl rfl rfl) (bS B fun e2 b0 B => rX 11 rfl kr (.inr ⟨6, false, 20, rfl, rfl, by decide, (cB a)⟩) rfl dc (fun _ _ h => h) b (pg (i := (IntKind.i64.wrap ((a3.length : Int) - 1))) (x0 := e2) aS aO rfl rfl J (lM b0) (lK b0)) (fun l0 f4 => qQ 12 rfl rfl (cB a) b (fun _ n => kI rfl (uc n (fun p hq => (Mt (Mt (Ml hq)))) J mG f4 (lK b0) bX aO)) (qQ 13 rfl rfl (cB a) b (fun _ n => kI rfl (kO n Mh (kK c) rfl bX aO)) (bS B fun l2 f7 B => Af 14 rfl rfl (cB a) (Eg d call262 (Cw e2 c _ _  f7) (fun k8 d => ?_)))))))))
     have b := d.has.kH (Kb (Kb (Kr Sn)))
     refine ⟨b, (Xg 15 rfl rfl (cB a) b (lR rfl rfl rfl) (Xg 16 rfl rfl (cB g) b (ll (cB a) rfl) ?_))⟩
     obtain rfl := sj B
     refine nu kr (c2 _ _ ⟨_, (d.kH St), U, M, Y, Z, rfl, q, P, s, rfl, rfl⟩)
    refine Xn 3 rfl rfl (cB g) b (Xn 4 rfl rfl (cB g) b (Xn 5 rfl rfl (cB g) b (Xn 6 rfl rfl (cB g) b (Xu 7 rfl rfl rfl b (Xu 8 rfl rfl rfl b (Xu 9 rfl rfl rfl b (Xu 10 rfl rfl rfl b (Xu 11 rfl rfl rfl b (Xu 12 rfl rfl rfl b (Xu 13 rfl rfl rfl b (Xu 14 rfl rfl rfl b (Xu 15 rfl rfl rfl b (Xn 16 rfl rfl (cB g) b (X 17 rfl b (ll (cB g) rfl) ?_))))))))))))))
    obtain rfl := sj T
    refine nu kr (c1 _ _ ⟨_, (d.kH St), U, M, Y, Z, rfl, q, P, s, rfl⟩)
   rintro E W ⟨G, y, b1, ⟨s, P⟩, d, U, M, Y, Z, q, z⟩
   rw [aI] at z
   refine kU ?_
   obtain rfl := sj z
   exact ⟨_, (d.kH St), U, M, Y, Z⟩
  rintro ⟨l3, a4⟩ E W ⟨c6, d, g3, d2, g4, g7⟩ H
  refine kZ (sg (Wh g7 (V (ol rfl) (ln (CI H rfl (fun e5 H => ?_) (fun e5 H => ?_))))))
  ·refine sg (Wh d2 (Wa (ln ?_)))
   replace d := d.kH (Db St)
   refine lC (lJ (nC (lJ (nC (lJ ?_)))))
   obtain rfl := sj H
   exact mD (v := x) rfl rfl ⟨_, u, rfl, d.oR (fun p hq => (Ml hq)) J.nd, J⟩
  refine kn (kW (Wh d2 (V (kI g4 (kO d.has Mh (kK a4) rfl bX aO)) (VE (lD (cs := (kK a4).toArray) d (ni rfl) (nj aS aO cW) (fun k1 g1 d => ?_))))))
  replace d := d.perm (Nr (Qb (Qb Qz)) Nz)
  refine bS H fun j4 e6 H => VE (oG (enc := kK) (v := x) (vs := (.slice (some ⟨g1, 0, none⟩) 1 1)) (R := u) d mG dc oQ aS pc.1 pc.2.1 rfl pc.2.2.1 pc.2.2.2 rfl rfl J (Sl.lit (enc := kK) (l := [a4]) mG rfl nb rfl (d.at_ (Ma Mh))) e6 (fun k2 j7 g0 d e4 => Wa (lH (lL (kU ?_)))))
  replace d := d.kH (Kr (Db (Db St)))
  exact ⟨j5, bF _, j7, j4, g0, _, (d.kH St), g3, rfl, e4, H⟩
theorem Lj (x : Value) (a0 r : List ByteArray) (w : World) (c0 : Sl (Pl uv) 1 (hp w) x a0) (hm : AA a0 = some r) :
  nA true Tryz.prog 263 [x] w 9 uv 1 r := by
 refine wM 48 func263 rfl (fun b => sg (Wa (lr (Wa (ln (qw (mK (nZ (fun m E W => ∃ u a2 j c1, ST true lU w W (hp w) (j ++ c1) ∧ E 0 = x ∧ E 3 = u ∧ lA 9 uv 1 u a2 j ∧ uJ a0 m a2 = some r) lF ⟨(.slice none 0 0), ([]), [], _, (b.kH St), rfl, rfl, (lA.nil _ _ _), hm⟩ ?_))))))))
 rintro m E W ⟨u, a2, j, c1, b, c7, f6, G, Z⟩
 cases m with
 | zero => rw [uJ] at Z; cases Z
 | succ i3 =>
  refine bg (Wa (lS (Wh c7 (V (ml dK rfl c0) (Wm (ln (CJ Z (fun b7 E W => ∃ c2, ST true lU w W (hp w) (j ++ c2) ∧ E 0 = x ∧ E 3 = u ∧ E 4 = (.string b7)) (fun b7 e5 => ?_) ?_)))))))
  ·refine mf (fun i E W => ∃ z s, (E 9 = .int .i64 (i : Nat) ∧ E 8 = .int .i64 (a0.length : Nat)) ∧ ST true lU w W (hp w) (j ++ s) ∧ E 0 = x ∧ E 3 = u ∧ E 4 = (.string z) ∧ E 7 = x ∧ te a2 (a0.drop i) z = some b7) a0.length c0.len ⟨zS, _, ⟨rfl, rfl⟩, (b.kH St), c7, f6, rfl, rfl, e5⟩ dc dc dc (fun _ _ _ h => by obtain ⟨_, _, a6, _⟩ := h; exact a6) ?_ ?_
   ·rintro d E W e4 ⟨z, s, ⟨n, q⟩, b, Q, H, T, U, t⟩
    obtain ⟨I, i7, f3, f2, b9⟩ := lT e4
    rw [f3] at t
    refine bg (VQ (oH (enc := uv) (i := (d : Int)) (x0 := I) dK gJ U n c0 (aH _) f2) (fun j3 e9 => V (kI rfl (tX b.has (y := (.string I)) e9 bW)) (Wa (lr (Wm (bS t fun i4 f1 t => VE (Eg b call265 (wO I _ _  f1) (fun j0 b => Wm (LJ t (fun d7 E W => ∃ c3, ST true lU w W (hp w) (j ++ c3) ∧ E 0 = x ∧ E 3 = u ∧ E 4 = (.string z) ∧ E 6 = (.string I) ∧ E 7 = x ∧ E 8 = (.int .i64 (a0.length : Int)) ∧ E 9 = (.int .i64 (d : Int)) ∧ E 29 = (.bool d7)) 14 ?_ (fun d7 N a9 => ?_))))))))))
    ·rintro i6 E W ⟨c3, b, A, F, Y, a3, L, O, P, f8⟩ e6
     refine Wh f8 (LJ e6 (fun d5 E W => ∃ c4, ST true lU w W (hp w) (j ++ c4) ∧ E 0 = x ∧ E 3 = u ∧ E 4 = (.string z) ∧ E 6 = (.string I) ∧ E 7 = x ∧ E 8 = (.int .i64 (a0.length : Int)) ∧ E 9 = (.int .i64 (d : Int)) ∧ E 38 = (.bool d5)) 8 ?_ (fun d5 K a7 => ?_))
     ·rintro j5 E W ⟨c4, b, d0, d1, f9, g0, d2, d3, d4, g1⟩ J
      refine ln (CI J g1 (fun e3 J => ?_) (fun e3 J => ?_))
      ·exact kW (Wh g0 (Wa (lH (lL (kU ⟨d4, I, _, ⟨rfl, d3⟩, (b.kH St), d0, d1, rfl, d2, (by rw [b9]; exact J)⟩)))))
      exact mr (lL (kU ⟨d4, z, _, ⟨rfl, d3⟩, (b.kH St), d0, d1, f9, d2, (by rw [b9]; exact J)⟩))
     refine bC K (fun g K => ?_) (fun g K => ?_)
     ·refine ug g (kT Y) (ug g (rR rfl rfl rfl) (ug g (kT rfl) (LJ K (fun d6 E W => ∃ c5, ST true lU w W (hp w) (j ++ c5) ∧ E 0 = x ∧ E 3 = u ∧ E 4 = (.string z) ∧ E 6 = (.string I) ∧ E 7 = x ∧ E 8 = (.int .i64 (a0.length : Int)) ∧ E 9 = (.int .i64 (d : Int)) ∧ E 30 = (.bool i6) ∧ E 37 = (.bool d6)) 4 ?_ (fun d6 M a8 => ?_))))
      ·rintro j6 E W ⟨c5, b, g2, g3, g4, g7, g8, g9, h0, h1, h2⟩ e7
       refine V (lj (h1.trans (cB g)) h2) ?_
       obtain rfl := sj e7
       exact a7 _ _ ⟨_, (b.kH St), g2, g3, g4, g7, g8, g9, h0, rfl⟩
      refine bC M (fun k M => ?_) (fun k M => ?_)
      ·refine un k (un k (un k (ug g (lj (cB k) rfl) ?_)))
       obtain rfl := sj M
       exact a8 _ _ ⟨_, (b.kH St), A, F, Y, a3, L, O, P, rfl, rfl⟩
      refine ug k (kT a3) (ug k (kT Y) (ug k (rR rfl rfl rfl) (ug g (ll (cB k) rfl) ?_)))
      obtain rfl := sj M
      exact a8 _ _ ⟨_, (b.kH St), A, F, Y, a3, L, O, P, rfl, rfl⟩
     refine un g (un g (un g (Vu rfl rfl (Vu rfl rfl (Vu rfl rfl (un g (V (ll (cB g) rfl) ?_)))))))
     obtain rfl := sj K
     exact a7 _ _ ⟨_, (b.kH St), A, F, Y, a3, L, O, P, rfl⟩
    refine bC N (fun c N => ?_) (fun c N => ?_)
    ·refine ug c (kT H) (ug c (oq dK rfl G) (ug c (lR rfl rfl rfl) (ug c (kT rfl) (LJ N (fun d8 E W => ∃ c6, ST true lU w W (hp w) (j ++ c6) ∧ E 0 = x ∧ E 3 = u ∧ E 4 = (.string z) ∧ E 6 = (.string I) ∧ E 7 = x ∧ E 8 = (.int .i64 (a0.length : Int)) ∧ E 9 = (.int .i64 (d : Int)) ∧ E 15 = (.bool i4) ∧ E 28 = (.bool d8)) 9 ?_ (fun d8 D b0 => ?_)))))
     ·rintro j7 E W ⟨c6, b, h3, h4, h5, h6, h7, h8, h9, i0, i1⟩ e8
      refine V (lj (i0.trans (cB c)) i1) ?_
      obtain rfl := sj e8
      exact a9 _ _ ⟨_, (b.kH St), h3, h4, h5, h6, h7, h8, h9, rfl⟩
     refine bC D (fun a D => ?_) (fun a D => ?_)
     ·refine un a (un a (un a (un a (un a (un a (un a (un a (ug c (lj (cB a) rfl) ?_))))))))
      obtain rfl := sj D
      exact b0 _ _ ⟨_, (b.kH St), Q, H, T, rfl, U, q, n, rfl, rfl⟩
     refine ug a (kT rfl) (ug a (kT H) (ug a (kT H) (ug a (oq dK rfl G) (ug a (lR rfl rfl rfl) (bS D fun d9 a5 D => Uq a (pg (i := (IntKind.i64.wrap ((a2.length : Int) - 1))) (x0 := d9) dK gJ rfl rfl G (lM a5) (lK a5)) (fun j4 f0 => ug a (kI rfl (DN b.has (fun p hq => (Ml hq)) G (fun _ => rfl) f0 (lK a5) (y := (.string d9)) rfl bW)) (ug a (rR rfl rfl rfl) (ug c (ll (cB a) rfl) ?_))))))))
     obtain rfl := sj D
     exact b0 _ _ ⟨_, (b.kH St), Q, H, T, rfl, U, q, n, rfl, rfl⟩
    refine un c (un c (un c (un c (Vu rfl rfl (Vu rfl rfl (Vu rfl rfl (Vu rfl rfl (Vu rfl rfl (Vu rfl rfl (Vu rfl rfl (Vu rfl rfl (un c (V (ll (cB c) rfl) ?_)))))))))))))
    obtain rfl := sj N
    exact a9 _ _ ⟨_, (b.kH St), Q, H, T, rfl, U, q, n, rfl⟩
   rintro E W ⟨z, s, ⟨n, q⟩, b, Q, H, T, U, t⟩
   rw [aI] at t
   refine kU ?_
   obtain rfl := sj t
   exact ⟨_, (b.kH St), Q, H, T⟩
  rintro a4 E W ⟨c2, b, f7, c8, c9⟩ B
  refine kZ (sg (Wh c9 (V (rR rfl rfl rfl) (ln (CI B rfl (fun e1 B => ?_) (fun e1 B => ?_))))))
  ·refine sg (Wh c8 (Wa (lt (lJ (nC (lJ (nC (lJ ?_))))))))
   obtain rfl := sj B
   exact mD (v := u) rfl rfl ⟨_, j, rfl, b.oR (fun p hq => (Ml hq)) G.nd, G⟩
  refine kn (kW (Wh c8 (Wh c9 (VE (lD (cs := [(.string a4)].toArray) b (ni rfl) (nj dK gJ zeroValue9) (fun i8 f5 b => ?_))))))
  replace b := b.perm (Nr (Qb Qz) Nz)
  refine bS B fun i2 e2 B => VE (oG (enc := uv) (v := u) (vs := (.slice (some ⟨f5, 0, none⟩) 1 1)) (R := j) b (fun _ => rfl) dc Ku dK CK.1 CK.2.1 rfl CK.2.2.1 CK.2.2.2 rfl rfl G (Sl.lit (enc := uv) (l := [a4]) (fun _ => rfl) rfl nb rfl (b.at_ (Ma Mh))) e2 (fun i9 i5 f4 b e0 => Wa (lH (lL (kU ?_)))))
  replace b := b.kH (Kr (Db St))
  exact ⟨i3, bF _, i5, i2, f4, _, (b.kH St), f7, rfl, e0, B⟩
theorem Jj (B : Value) (G : List kF) (r : List ByteArray) (w : World) (y : Sl (Pl kK) 9 (hp w) B G) (hm : yO G = some r) :
  nA true Tryz.prog 212 [B] w 9 uv 1 r := by
 refine wM 29 func212 rfl (fun d => sg (Wa (lr (Wa (lS (Wm ?_))))))
 refine V (ml aS rfl y) (Wm (ln (mf (fun i E W => ∃ g k j t, (E 8 = .int .i64 (i : Nat) ∧ E 7 = .int .i64 (G.length : Nat)) ∧ ST true lU w W (hp w) (j ++ t) ∧ E 3 = g ∧ E 6 = B ∧ lA 9 uv 1 g k j ∧ th (G.drop i) k = some r) G.length y.len ⟨(.slice none 0 0), ([]), [], _, ⟨rfl, rfl⟩, (d.kH St), rfl, rfl, (lA.nil _ _ _), hm⟩ dc dc dc (fun _ _ _ h => by obtain ⟨_, _, _, _, n, _⟩ := h; exact n) ?_ ?_)))
 ·rintro a5 E W T ⟨g, k, j, t, ⟨m, A⟩, d, u, x, z, c⟩
  obtain ⟨a, b4, Y, U, Z⟩ := lT T
  rw [Y] at c
  refine bg (VQ (oH (enc := kK) (i := (a5 : Int)) (x0 := a) aS aO x m y (aH _) U) (fun b2 J => V (kI rfl (lB d.has J bX aO)) (VE (lG d cW (fun L b1 d => VO (lh (.agg (kK a).toArray) ((kK a).toArray) d rfl rfl aO (oQ a) nb rfl (fun O d => ln (kW (Wh u (Wf xH (VB d Mh rfl rfl bW (Wf rJ (Wf qi ?_)))))))))))))
  refine VB d Mh rfl rfl bW (Wf oP (Wf qi (VB d Mh rfl rfl bW (Wf tD (Wf qi (VB d Mh rfl rfl bW (VE (lD (cs := #[(.string a.ma), (.string a.Head.kE), (.string a.B.kE), (.string a.C.kE)]) d (R5 rfl rfl rfl rfl) (nj dK gJ zeroValue9) (fun P Q d => ?_)))))))))
  replace d := d.perm (Nr (Qb (Qb Qz)) Nz)
  refine bS c fun F I c => VE (oG (enc := uv) (v := g) (vs := (.slice (some ⟨Q, 0, none⟩) 4 4)) (R := j) d (fun _ => rfl) dc Ku dK CK.1 CK.2.1 rfl CK.2.2.1 CK.2.2.2 rfl rfl z (Sl.lit (enc := uv) (l := [a.ma, a.Head.kE, a.B.kE, a.C.kE]) (fun _ => rfl) rfl nb rfl (d.at_ (Ma Mh))) I (fun a9 a2 M d H => Wa (lH (lL (kU ?_)))))
  replace d := d.kH (Kr (Db (Db St)))
  exact ⟨m, a2, F, M, _, ⟨rfl, A⟩, (d.kH St), rfl, x, H, (by rw [Z]; exact c)⟩
 rintro E W ⟨g, k, j, t, ⟨m, A⟩, d, u, x, z, c⟩
 rw [aI] at c
 refine kU (sg (Wh u (bS c fun b3 K c => VE (vh d call263 (Lj g k _ _ (z.sl (fun _ => rfl) (fun b o s => d.at_ (Ml s))) K) (fun b0 a3 b5 N d a4 q D => Wa (ln ?_))))))
 replace d := d.kH (Kr (Dr St))
 refine lC ?_
 obtain rfl := sj c
 exact mD (v := a3) rfl rfl ⟨_, N, rfl, d.oR (fun p s => (Ml s)) D.nd, D⟩
theorem xS (y : Value) (H : List lf) (z : kD) (J : ByteArray) (r : Bool) (w : World) (G : Sl (Pl lV) 3 (hp w) y H) (hm : vy H z J = some r) :
  lE true Tryz.prog 213 [y, (.agg (kR z).toArray), (.string J)] w (.bool r) := by
 refine cG 26 func213 rfl (fun b => sg (VE (lI b rfl (fun W2 M b => Wa (lS (Wm (V (ml cU rfl G) (Wm (ln ?_)))))))))
 refine mf (fun i E W => ∃ D, (E 11 = .int .i64 (i : Nat) ∧ E 10 = .int .i64 (H.length : Nat)) ∧ ST true lU w W (hp w) ((M, Ol (kR z) 50) :: D) ∧ E 2 = (.string J) ∧ E 4 = (.pointer (some ⟨M, 0, none⟩)) ∧ E 9 = y ∧ wH z J (H.drop i) = some r) H.length G.len ⟨_, ⟨rfl, rfl⟩, (b.kH St), rfl, rfl, rfl, hm⟩ dc dc dc (fun _ _ _ h => by obtain ⟨_, l, _⟩ := h; exact l) ?_ ?_
 ·rintro T E W n ⟨D, ⟨d, m⟩, b, t, u, x, c⟩
  obtain ⟨k, O, q, p, a9⟩ := lT n
  rw [q] at c
  refine bg (VQ (oH (enc := lV) (i := (T : Int)) (x0 := k) cU dR x d G (aH _) p) (fun F Q => V (kI rfl (lB b.has Q jk dR)) (VE (lG b fR (fun s A b => VO (lh (.agg (lV k).toArray) ((lV k).toArray) b rfl rfl dR (Ak k) nb rfl (fun v b => lr (Wf yk (VA b Mh (kR k.kD) bI aR (V (kI u (kO b.has (Mt Mh) (kR z) rfl bI aR)) (V (uY rfl rfl (nW eL) (ra (qf _ k.kD z))) ?_)))))))))))
  refine Wm (LJ c (fun K E W => ∃ I, ST true lU w W (hp w) ((M, Ol (kR z) 50) :: I) ∧ E 2 = (.string J) ∧ E 4 = (.pointer (some ⟨M, 0, none⟩)) ∧ E 9 = y ∧ E 10 = (.int .i64 (H.length : Int)) ∧ E 11 = (.int .i64 (T : Int)) ∧ E 24 = (.bool K)) 5 ?_ (fun K j B => ?_))
  ·rintro L E W ⟨I, b, U, Y, Z, a3, a4, a5⟩ g
   refine ln (CI g a5 (fun N g => ?_) (fun N g => ?_))
   ·refine sg (Wa (ln ?_))
    replace b := b.kH (Db St)
    refine lC (nC (lJ (nC (lJ ?_))))
    obtain rfl := sj g
    exact rP b
   exact mr (lL (kU ⟨a4, _, ⟨rfl, a3⟩, (b.kH St), U, Y, Z, (by rw [a9]; exact g)⟩))
  refine bC j (fun a j => ?_) (fun a j => ?_)
  ·refine ug a (kP xc rfl) (ug a (kI rfl (lg b.has Mh rfl bW)) (ug a (kT t) (ug a (rR rfl rfl rfl) (V (lj (cB a) rfl) ?_))))
   obtain rfl := sj j
   exact B _ _ ⟨_, (b.kH (Db St)), t, u, x, m, d, rfl⟩
  refine un a (un a (un a (un a (V (ll (cB a) rfl) ?_))))
  obtain rfl := sj j
  exact B _ _ ⟨_, (b.kH (Db St)), t, u, x, m, d, rfl⟩
 rintro E W ⟨D, ⟨d, m⟩, b, t, u, x, c⟩
 rw [aI] at c
 refine kU ?_
 replace b := b.kH (Db St)
 exact sg (Wa (lt (rQ c b)))
theorem Kv (k : Value) (M : List lf) (t : kF) (K : Value) (Y : List ByteArray) (H : ByteArray) (r : Bool) (w : World) (G : Sl (Pl lV) 3 (hp w) k M) (T : Sl (Pl uv) 1 (hp w) K Y) (hm : zQ M t Y H = some r) :
  lE true Tryz.prog 214 [k, (.agg (kK t).toArray), K, (.string H)] w (.bool r) := by
 refine cG 62 func214 rfl (fun b => sg (VE (lI b rfl (fun W2 d b => Wa (lS (Wf rI (VB b Mh rfl rfl cA (Wi rfl (ln ?_)))))))))
 refine CI hm rfl (fun d0 hm => ?_) (fun d0 hm => ?_)
 ·refine sg (Wf xH (VB b Mh rfl rfl bW (Wm (V (rR rfl rfl rfl) (Wa (ln ?_))))))
  replace b := b.kH (Db St)
  refine lC (lJ ?_)
  obtain rfl := sj hm
  exact rP b
 refine kS (Wf rI (VB b Mh rfl rfl cA (Wi rfl (ln (CI hm rfl (fun d1 hm => ?_) (fun d1 hm => ?_))))))
 ·refine sg (Wm (Wf oP (VA b Mh (kR t.B) bI aR (Wm (bS hm fun r5 d3 hm => VE (Eg b call213 (xS k M t.B H _ _ (G.mono (Pl.mono _) b.kM) d3) (fun W7 b => Wa (ln ?_))))))))
  replace b := b.kH (Db St)
  refine lC (lJ ?_)
  obtain rfl := sj hm
  exact rP b
 refine kS (Wf rI (VB b Mh rfl rfl cA (Wi rfl (ln (CI hm rfl (fun d2 hm => ?_) (fun d2 hm => ?_))))))
 ·refine sg (Wm (Wf oP (VA b Mh (kR t.B) bI aR (Wm (bS hm fun r9 c7 hm => VE (Eg b call213 (xS k M t.B H _ _ (G.mono (Pl.mono _) b.kM) c7) (fun e1 b => Wm (LJ hm (fun q E W => ∃ p, ST true lU w W (hp w) p ∧ E 8 = (.bool false) ∧ E 40 = (.bool q)) 6 ?_ (fun q u U => ?_)))))))))
  ·rintro e5 E W ⟨p, b, e3, c9⟩ c6
   refine Wg c9 (lt (lJ ?_))
   obtain rfl := sj c6
   exact rP b
  refine bC u (fun c u => ?_) (fun c u => ?_)
  ·refine ug c (kT rfl) (ug c (kP tD rfl) (ug c (kI rfl (kO b.has Mh (kR t.C) rfl bI aR)) (ug c (kT rfl) (bS u fun e4 c8 u => tm c (Eg b call213 (xS k M t.C H _ _ (G.mono (Pl.mono _) b.kM) c8) (fun e2 b => V (lj (cB c) rfl) ?_))))))
   obtain rfl := sj u
   exact U _ _ ⟨_, (b.kH (Db St)), rfl, rfl⟩
  refine un c (un c (un c (un c (un c (V (ll (cB c) rfl) ?_)))))
  obtain rfl := sj u
  exact U _ _ ⟨_, (b.kH (Db St)), rfl, rfl⟩
 refine kS (Wm (V (ml dK rfl T) (Wm (ln (mf (fun i E W => ∃ Q, (E 43 = .int .i64 (i : Nat) ∧ E 42 = .int .i64 (Y.length : Nat)) ∧ ST true lU w W (hp w) ((d, Ol (kK t) 52) :: Q) ∧ E 0 = k ∧ E 3 = (.string H) ∧ E 5 = (.pointer (some ⟨d, 0, none⟩)) ∧ E 41 = K ∧ vv M t H (Y.drop i) = some r) Y.length T.len ⟨_, ⟨rfl, rfl⟩, (b.kH St), rfl, rfl, rfl, rfl, hm⟩ dc dc dc (fun _ _ _ h => by obtain ⟨_, m, _⟩ := h; exact m) ?_ ?_)))))
 ·rintro a4 E W A ⟨Q, ⟨l, n⟩, b, B, I, D, J, g⟩
  obtain ⟨z, d4, P, O, R⟩ := lT A
  rw [P] at g
  refine bg (VQ (oH (enc := uv) (i := (a4 : Int)) (x0 := z) dK gJ J l T (aH _) O) (fun d7 a9 => V (kI rfl (tX b.has (y := (.string z)) a9 bW)) (Wa (lr (Wh B (V (kP oP D) (VA b Mh (kR t.B) bI aR (Wm (bS g fun d8 F g => ?_)))))))))
  refine VE (Eg b call213 (xS k M t.B z _ _ (G.mono (Pl.mono _) b.kM) F) (fun d5 b => Wm (LJ g (fun a5 E W => ∃ Z, ST true lU w W (hp w) ((d, Ol (kK t) 52) :: Z) ∧ E 0 = k ∧ E 3 = (.string H) ∧ E 5 = (.pointer (some ⟨d, 0, none⟩)) ∧ E 41 = K ∧ E 42 = (.int .i64 (Y.length : Int)) ∧ E 43 = (.int .i64 (a4 : Int)) ∧ E 60 = (.bool a5)) 8 ?_ (fun a5 j N => ?_))))
  ·rintro e0 E W ⟨Z, b, b9, c0, c1, c2, c3, c4, c5⟩ x
   refine ln (CI x c5 (fun s x => ?_) (fun s x => ?_))
   ·refine sg (Wa (ln ?_))
    replace b := b.kH (Db St)
    refine lC (nC (lJ (nC (lJ ?_))))
    obtain rfl := sj x
    exact rP b
   exact mr (lL (kU ⟨c4, _, ⟨rfl, c3⟩, (b.kH St), b9, c0, c1, c2, (by rw [R]; exact x)⟩))
  refine bC j (fun a j => ?_) (fun a j => ?_)
  ·refine ug a (kT B) (ug a (kT rfl) (ug a (kP vA D) (ug a (kI rfl (lg b.has Mh rfl bW)) (ug a (mB (v := (.agg (kR (⟨z, t.mc⟩ : kD)).toArray)) (oJ rfl rfl) (mn fF dQ (J6 _ dQ) kr)) (ug a (kT I) (bS j fun d9 L j => tm a (Eg b call213 (xS k M (⟨z, t.mc⟩ : kD) H _ _ (G.mono (Pl.mono _) b.kM) L) (fun d6 b => V (lj (cB a) rfl) ?_))))))))
   obtain rfl := sj j
   exact N _ _ ⟨_, (b.kH St), B, I, D, J, n, l, rfl⟩
  refine un a (un a (un a (un a (un a (un a (un a (V (ll (cB a) rfl) ?_)))))))
  obtain rfl := sj j
  exact N _ _ ⟨_, (b.kH St), B, I, D, J, n, l, rfl⟩
 rintro E W ⟨Q, ⟨l, n⟩, b, B, I, D, J, g⟩
 rw [aI] at g
 refine kU ?_
 replace b := b.kH (Db St)
 exact sg (Wa (lt (rQ g b)))
theorem EW (j k : lf) (r : Bool) (w : World) (hm : uL j k = some r) :
  lE true Tryz.prog 264 [(.agg (lV j).toArray), (.agg (lV k).toArray)] w (.bool r) := by
 refine cG 24 func264 rfl (fun b => sg (VE (lI b rfl (fun Y d b => VE (lI b rfl (fun Z h b => Wa (lr (Wf yk (VA b (Mt Mh) (kR j.kD) bI aR (Wf yk (VA b Mh (kR k.kD) bI aR (bS hm fun N M hm => ?_))))))))))))
 refine VE (Eg b call297 (EZ j.kD k.kD _ _  M) (fun W7 b => Wm (LJ hm (fun z E W => ∃ x, ST true lU w W (hp w) x ∧ E 4 = (.bool false) ∧ E 23 = (.bool z)) 13 ?_ (fun z g t => ?_))))
 ·rintro T E W ⟨x, b, Q, H⟩ D
  exact Wg H (lt (rQ D b))
 refine bC g (fun a g => ?_) (fun a g => ?_)
 ·refine un a (un a (un a (un a (un a (un a (Vu rfl rfl (Vu rfl rfl (Vu rfl rfl (Vu rfl rfl (Vu rfl rfl (un a (V (lj (cB a) rfl) ?_))))))))))))
  obtain rfl := sj g
  exact t _ _ ⟨_, (b.kH (Db (Db St))), rfl, rfl⟩
 refine ug a (kP yk rfl) (ug a (kI rfl (kO b.has (Mt Mh) (kR j.kD) rfl bI aR)) (ug a (kP yk rfl) (ug a (kI rfl (kO b.has Mh (kR k.kD) rfl bI aR)) (ug a (uY rfl rfl (nW eL) (ra (qf _ j.kD k.kD))) (ug a (kT rfl) (LJ g (fun B E W => ∃ y, ST true lU w W (hp w) y ∧ E 4 = (.bool false) ∧ E 10 = (.bool N) ∧ E 22 = (.bool B)) 6 ?_ (fun B i u => ?_)))))))
 ·rintro U E W ⟨y, b, I, J, K⟩ G
  refine V (ll (J.trans (cB a)) K) ?_
  obtain rfl := sj G
  exact t _ _ ⟨_, (b.kH St), I, rfl⟩
 refine bC i (fun c i => ?_) (fun c i => ?_)
 ·refine ug c (kP xc rfl) (ug c (kI rfl (lg b.has (Mt Mh) rfl bW)) (ug c (kP xc rfl) (ug c (kI rfl (lg b.has Mh rfl bW)) (ug c (rR rfl rfl rfl) (ug a (lj (cB c) rfl) ?_)))))
  obtain rfl := sj i
  exact u _ _ ⟨_, (b.kH (Db (Db St))), rfl, rfl, rfl⟩
 refine un c (un c (un c (un c (un c (ug a (ll (cB c) rfl) ?_)))))
 obtain rfl := sj i
 exact u _ _ ⟨_, (b.kH (Db (Db St))), rfl, rfl, rfl⟩
theorem Iz (I : Value) (Q r : List lf) (w : World) (Y : Sl (Pl lV) 3 (hp w) I Q) (hm : As Q = some r) :
  nA true Tryz.prog 215 [I] w 111 lV 3 r := by
 refine wM 56 func215 rfl (fun d => sg (Wa (lr (Wa (lS (Wm ?_))))))
 refine V (ml cU rfl Y) (Wm (ln (mf (fun i E W => ∃ y N x a9, (E 9 = .int .i64 (i : Nat) ∧ E 8 = .int .i64 (Q.length : Nat)) ∧ ST true lU w W (hp w) (x ++ a9) ∧ E 0 = I ∧ E 3 = y ∧ lA 111 lV 3 y N x ∧ pN Q (Q.drop i) N = some r) Q.length Y.len ⟨(.slice none 0 0), ([]), [], _, ⟨rfl, rfl⟩, (d.kH St), rfl, rfl, (lA.nil _ _ _), hm⟩ dc dc dc (fun _ _ _ h => by obtain ⟨_, _, _, _, n, _⟩ := h; exact n) ?_ ?_)))
 ·rintro a7 E W i6 ⟨y, N, x, a9, ⟨m, s⟩, d, P, b2, z, D⟩
  obtain ⟨l2, l1, i7, k2, e4⟩ := lT i6
  rw [i7] at D
  refine bg (Wa (lS (Wh P (V (ml cU rfl Y) (Wm (ln (CJ D (fun c5 E W => ∃ c9, ST true lU w W (hp w) (x ++ c9) ∧ E 0 = I ∧ E 3 = y ∧ E 4 = (.int .i64 c5) ∧ E 8 = (.int .i64 (Q.length : Int)) ∧ E 9 = (.int .i64 (a7 : Int))) (fun c5 f5 => ?_) ?_)))))))
  ·let g5 : Value := (.int .i64 (a7 : Int))
   let a0 : Value := (.int .i64 (Q.length : Int))
   refine mf (fun i E W => ∃ B O, (E 13 = .int .i64 (i : Nat) ∧ E 12 = .int .i64 (Q.length : Nat)) ∧ ST true lU w W (hp w) (x ++ O) ∧ E 0 = I ∧ E 3 = y ∧ E 4 = (.int .i64 B) ∧ E 8 = a0 ∧ E 9 = g5 ∧ E 11 = I ∧ pQ N Q (Q.drop i) i B = some c5) Q.length Y.len ⟨(-1), _, ⟨rfl, rfl⟩, (d.kH St), P, b2, rfl, s, m, rfl, f5⟩ dc dc dc (fun _ _ _ h => by obtain ⟨_, _, n, _⟩ := h; exact n) ?_ ?_
   ·rintro H E W f4 ⟨B, O, ⟨m, s⟩, d, A, J, a2, a3, a4, a5, G⟩
    let b8 : Value := (.int .i64 (H : Int))
    obtain ⟨j, j5, g7, g4, c7⟩ := lT f4
    rw [g7] at G
    refine bg (Wh m (VQ (oH (enc := lV) (i := (H : Int)) (x0 := j) cU dR a5 m Y (aH _) g4) (fun k4 f9 => V (kI rfl (lB d.has f9 jk dR)) (VE (lG d fR (fun j8 Z d => Wa (VO (lh (.agg (lV j).toArray) ((lV j).toArray) d rfl rfl dR (Ak j) nb rfl (fun j9 d => ln (kZ ?_))))))))))
    replace d := d.drew
    have b := d.has.kH (Kb (Kr Sn))
    refine mi b lN (X 0 rfl b (kT J) (X 1 rfl b (oq cU rfl z) (X 2 rfl b (lR rfl rfl rfl) (X 3 rfl b (kT rfl) (PJ G (fun e7 E W => ∃ d0, ST true lU w W (hp w) ((Z, Ol (lV j) 111) :: (x ++ d0)) ∧ E 0 = I ∧ E 3 = y ∧ E 4 = (.int .i64 B) ∧ E 5 = b8 ∧ E 6 = (.pointer (some ⟨Z, 0, none⟩)) ∧ E 8 = a0 ∧ E 9 = g5 ∧ E 11 = I ∧ E 12 = a0 ∧ E 13 = b8 ∧ E 30 = (.bool e7)) (bm 25 8191) 12 ?_ (fun e7 u c4 => ?_))))))
    ·rintro j3 E W ⟨d0, d, F, b4, T, b5, h0, b6, b7, b9, c0, c1, h1⟩ f6
     have b := d.has.kH (Kb (Kr Sn))
     refine X 13 rfl b (kT h1) (PJ f6 (fun e5 E W => ∃ d1, ST true lU w W (hp w) ((Z, Ol (lV j) 111) :: (x ++ d1)) ∧ E 0 = I ∧ E 3 = y ∧ E 4 = (.int .i64 B) ∧ E 5 = b8 ∧ E 8 = a0 ∧ E 9 = g5 ∧ E 11 = I ∧ E 12 = a0 ∧ E 13 = b8 ∧ E 42 = (.bool e5)) (bm 25 33554431) 0 ?_ (fun e5 M c2 => ?_))
     ·rintro k9 E W ⟨d1, d, d7, d8, h2, h3, d9, e0, e1, e2, e3, h4⟩ K
      refine mu kr (kU ?_)
      replace d := d.kH (Db St)
      refine CI K h4 (fun f3 K => ?_) (fun f3 K => ?_)
      ·exact kW (Wh h3 (Wa (lH (lL (kU ⟨e3, (H : Int), _, ⟨rfl, e2⟩, (d.kH St), d7, d8, rfl, d9, e0, e1, (by rw [c7]; exact K)⟩)))))
      exact mr (lL (kU ⟨e3, B, _, ⟨rfl, e2⟩, (d.kH St), d7, d8, h2, d9, e0, e1, (by rw [c7]; exact K)⟩))
     refine bC M (fun g M => ?_) (fun g M => ?_)
     ·refine Xg 14 rfl rfl (cB g) b (kT T) (Xg 15 rfl rfl (cB g) b (lR rfl rfl rfl) (Xg 16 rfl rfl (cB g) b (kT rfl) (PJ M (fun e6 E W => ∃ d2, ST true lU w W (hp w) ((Z, Ol (lV j) 111) :: (x ++ d2)) ∧ E 0 = I ∧ E 3 = y ∧ E 4 = (.int .i64 B) ∧ E 5 = b8 ∧ E 8 = a0 ∧ E 9 = g5 ∧ E 11 = I ∧ E 12 = a0 ∧ E 13 = b8 ∧ E 31 = (.bool j3) ∧ E 41 = (.bool e6)) (bm 25 16777215) 1 ?_ (fun e6 t c3 => ?_))))
      ·rintro l0 E W ⟨d2, d, h5, h6, h7, h8, h9, i0, i1, i2, i3, i4, i5⟩ f7
       have b := d.has.kH (Kb (Kr Sn))
       refine X 24 rfl b (lj (i4.trans (cB g)) i5) ?_
       obtain rfl := sj f7
       refine nu kr (c2 _ _ ⟨_, (d.kH St), h5, h6, h7, h8, h9, i0, i1, i2, i3, rfl⟩)
      refine bC t (fun c t => ?_) (fun c t => ?_)
      ·refine Xn 17 rfl rfl (cB c) b (Xn 18 rfl rfl (cB c) b (Xn 19 rfl rfl (cB c) b (Xn 20 rfl rfl (cB c) b (Xn 21 rfl rfl (cB c) b (Xn 22 rfl rfl (cB c) b (Xg 23 rfl rfl (cB g) b (lj (cB c) rfl) ?_))))))
       obtain rfl := sj t
       refine nu kr (c3 _ _ ⟨_, (d.kH St), F, b4, T, b5, b6, b7, b9, c0, c1, rfl, rfl⟩)
      refine qQ 17 rfl rfl (cB c) b (fun _ q => kI h0 (kO q Mh (lV j) rfl jk dR)) (Xg 18 rfl rfl (cB c) b (kT F) (Xg 19 rfl rfl (cB c) b (kT T) (bS t fun e8 c8 t => rX 20 rfl kr (.inr ⟨16, false, 34, rfl, rfl, by decide, (cB c)⟩) rfl dc (fun _ _ h => h) b (oH (enc := lV) (i := B) (x0 := e8) cU dR rfl rfl Y (lM c8) (lK c8)) (fun k5 g0 => qQ 21 rfl rfl (cB c) b (fun _ q => kI rfl (lB q g0 jk dR)) (bS t fun k7 g2 t => Af 22 rfl rfl (cB c) (Eg d call264 (EW j e8 _ _  g2) (fun k0 d => ?_)))))))
      have b := d.has.kH (Kb (Kr Sn))
      refine ⟨b, (Xg 23 rfl rfl (cB g) b (ll (cB c) rfl) ?_)⟩
      obtain rfl := sj t
      refine nu kr (c3 _ _ ⟨_, (d.kH St), F, b4, T, b5, b6, b7, b9, c0, c1, rfl, rfl⟩)
     refine Xn 14 rfl rfl (cB g) b (Xn 15 rfl rfl (cB g) b (Xn 16 rfl rfl (cB g) b (Xu 17 rfl rfl rfl b (Xu 18 rfl rfl rfl b (Xu 19 rfl rfl rfl b (Xu 20 rfl rfl rfl b (Xu 21 rfl rfl rfl b (Xu 22 rfl rfl rfl b (Xn 23 rfl rfl (cB g) b (X 24 rfl b (ll (cB g) rfl) ?_))))))))))
     obtain rfl := sj M
     refine nu kr (c2 _ _ ⟨_, (d.kH St), F, b4, T, b5, b6, b7, b9, c0, c1, rfl⟩)
    refine bC u (fun a u => ?_) (fun a u => ?_)
    ·refine Xn 4 rfl rfl (cB a) b (Xn 5 rfl rfl (cB a) b (Xn 6 rfl rfl (cB a) b (Xn 7 rfl rfl (cB a) b (Xn 8 rfl rfl (cB a) b (Xn 9 rfl rfl (cB a) b (Xn 10 rfl rfl (cB a) b (Xn 11 rfl rfl (cB a) b (X 12 rfl b (lj (cB a) rfl) ?_))))))))
     obtain rfl := sj u
     refine nu kr (c4 _ _ ⟨_, (d.kH St), A, J, a2, rfl, rfl, a3, a4, a5, s, m, rfl⟩)
    refine Xg 4 rfl rfl (cB a) b (kT J) (Xg 5 rfl rfl (cB a) b (kT J) (Xg 6 rfl rfl (cB a) b (oq cU rfl z) (Xg 7 rfl rfl (cB a) b (lR rfl rfl rfl) (bS u fun e9 L u => rX 8 rfl kr (.inr ⟨3, false, 21, rfl, rfl, by decide, (cB a)⟩) rfl dc (fun _ _ h => h) b (pg (i := (IntKind.i64.wrap ((N.length : Int) - 1))) (x0 := e9) cU dR rfl rfl z (lM L) (lK L)) (fun k6 g1 => qQ 9 rfl rfl (cB a) b (fun _ q => kI rfl (uc q (fun p hq => (Mt (Ml hq))) z qY g1 (lK L) jk dR)) (qQ 10 rfl rfl (cB a) b (fun _ q => kI rfl (kO q Mh (lV j) rfl jk dR)) (bS u fun k8 g3 u => Af 11 rfl rfl (cB a) (Eg d call264 (EW e9 j _ _  g3) (fun k1 d => ?_)))))))))
    have b := d.has.kH (Kb (Kr Sn))
    refine ⟨b, (X 12 rfl b (ll (cB a) rfl) ?_)⟩
    obtain rfl := sj u
    refine nu kr (c4 _ _ ⟨_, (d.kH St), A, J, a2, rfl, rfl, a3, a4, a5, s, m, rfl⟩)
   rintro E W ⟨B, O, ⟨m, s⟩, d, A, J, a2, a3, a4, a5, G⟩
   rw [aI] at G
   refine kU ?_
   obtain rfl := sj G
   exact ⟨_, (d.kH St), A, J, a2, a3, a4⟩
  rintro j0 E W ⟨c9, d, b3, d3, d4, d5, d6⟩ k
  refine sg (Wh d4 (Wi rfl (ln (CI k rfl (fun f1 k => ?_) (fun f1 k => ?_)))))
  ·refine kW (Wh d3 (Wh b3 (Wh d4 (bS k fun U c6 k => VQ (oH (enc := lV) (i := j0) (x0 := U) cU dR rfl rfl Y (lM c6) (lK c6)) (fun k3 f8 => V (kI rfl (lB d.has f8 jk dR)) (VE (lD (cs := (lV U).toArray) d (ni rfl) (nj cU dR fR) (fun j6 g9 d => ?_))))))))
   replace d := d.perm (Nr (Qb Qz) Nz)
   refine bS k fun i8 f2 k => VE (oG (enc := lV) (v := y) (vs := (.slice (some ⟨g9, 0, none⟩) 1 1)) (R := x) d qY dc Ak cU vn.1 vn.2.1 rfl vn.2.2.1 vn.2.2.2 rfl rfl z (Sl.lit (enc := lV) (l := [U]) qY rfl nb rfl (d.at_ (Ma Mh))) f2 (fun j7 i9 g8 d f0 => Wa (lH (lL (kU ?_)))))
   replace d := d.kH (Kr (Db St))
   exact ⟨d6, i9, i8, g8, _, ⟨rfl, d5⟩, (d.kH St), b3, rfl, f0, (by rw [e4]; exact k)⟩
  exact mr (lL (kU ⟨d6, y, N, x, _, ⟨rfl, d5⟩, (d.kH St), b3, d3, z, (by rw [e4]; exact k)⟩))
 rintro E W ⟨y, N, x, a9, ⟨m, s⟩, d, P, b2, z, D⟩
 rw [aI] at D
 refine kU (sg (Wh b2 (Wa (lt ?_))))
 obtain rfl := sj D
 exact mD (v := y) rfl rfl ⟨_, x, rfl, d.oR (fun p hq => (Ml hq)) z.nd, z⟩
theorem HT (f8 : Value) (a0 : List kF) (r : List lf) (w : World) (k8 : Sl (Pl kK) 9 (hp w) f8 a0) (hm : wx a0 = some r) :
  nA true Tryz.prog 159 [f8] w 111 lV 3 r := by
 refine wM 53 func159 rfl (fun d => sg (Wa (lr (Wm (bS hm fun O m0 hm => VE (vh d call211 (FX f8 a0 _ _ (k8.mono (Pl.mono _) d.kM) m0) (fun W3 v7 ae R8 d n0 ad f3 => Wa (ln (kZ ?_)))))))))
 refine kW (Wm (bS hm fun s l0 hm => VE (vh d call212 (Jj v7 O _ _ (f3.sl mG (fun b o n => d.at_ (Ml n))) l0) (fun n2 q d7 d1 d m9 ab P => Wa (lr (Wa (ln (qw (mK (nZ (fun m E W => ∃ c0 b9 b7 d8, ST true lU w W d7 (b7 ++ (d1 ++ (R8 ++ d8))) ∧ E 3 = v7 ∧ E 4 = q ∧ E 5 = c0 ∧ lA 111 lV 3 c0 b9 b7 ∧ vl s O m b9 = some r) lF ⟨(.slice none 0 0), ([]), [], _, (d.kH St), rfl, rfl, rfl, (lA.nil _ _ _), hm⟩ ?_))))))))))
 rintro m E W ⟨c0, b9, b7, d8, d, e2, i3, i4, k0, Y⟩
 cases m with
 | zero => rw [vl] at Y; cases Y
 | succ k3 =>
  refine bg (Wa (lS (Wh e2 (V (oq aS rfl f3) (Wm (ln (CJ Y (fun b1 E W => ∃ T Z d9, ST true lU w W d7 (Z ++ (d1 ++ (R8 ++ d9))) ∧ E 3 = v7 ∧ E 4 = q ∧ E 5 = T ∧ E 6 = (.bool b1.2) ∧ lA 111 lV 3 T b1.1 Z) (fun b1 g8 => ?_) ?_)))))))
  ·refine mf (fun i E W => ∃ J Q H U c1, (E 17 = .int .i64 (i : Nat) ∧ E 16 = .int .i64 (O.length : Nat)) ∧ ST true lU w W d7 (H ++ (d1 ++ (R8 ++ c1))) ∧ E 3 = v7 ∧ E 4 = q ∧ E 5 = J ∧ E 6 = (.bool U) ∧ E 15 = v7 ∧ lA 111 lV 3 J Q H ∧ wU s (O.drop i) Q U = some b1) O.length f3.len ⟨c0, b9, b7, false, _, ⟨rfl, rfl⟩, (d.kH St), e2, i3, i4, rfl, rfl, k0, g8⟩ dc dc dc (fun _ _ _ h => by obtain ⟨_, _, _, _, _, F, _⟩ := h; exact F) ?_ ?_
   ·rintro b0 E W g4 ⟨J, Q, H, U, c1, ⟨A, L⟩, d, c3, a3, c4, c5, c6, b5, u⟩
    obtain ⟨a, l1, h7, d4, h8⟩ := lT g4
    rw [h7] at u
    refine bg (VQ (pg (i := (b0 : Int)) (x0 := a) aS aO c6 A f3 (aH _) d4) (fun m1 h1 => V (kI rfl (uc d.has (fun p n => (Ma (Ma (Ml n)))) f3 mG h1 d4 bX aO)) (VE (lG d cW (fun l4 a2 d => VO (lh (.agg (kK a).toArray) ((kK a).toArray) d rfl rfl aO (oQ a) nb rfl (fun l5 d => lr (Wh a3 (V (oq dK rfl P) (Wm (lH ?_)))))))))))
    let b8 : Value := (.int .i64 (O.length : Int))
    refine kU (qw (CJ u (fun b2 E W => ∃ b3 a1 e0, ST true lU w W d7 (a1 ++ (d1 ++ (R8 ++ e0))) ∧ E 3 = v7 ∧ E 4 = q ∧ E 5 = b3 ∧ E 6 = (.bool b2.2) ∧ E 15 = v7 ∧ E 16 = b8 ∧ E 17 = (.int .i64 (b0 : Int)) ∧ lA 111 lV 3 b3 b2.1 a1) (fun b2 h0 => ?_) ?_))
    ·refine mf (fun i E W => ∃ k G B K c2, (E 23 = .int .i64 (i : Nat) ∧ E 22 = .int .i64 (s.length : Nat)) ∧ ST true lU w W d7 ((a2, Ol (kK a) 52) :: (B ++ (d1 ++ (R8 ++ c2)))) ∧ E 3 = v7 ∧ E 4 = q ∧ E 5 = k ∧ E 6 = (.bool K) ∧ E 8 = (.pointer (some ⟨a2, 0, none⟩)) ∧ E 15 = v7 ∧ E 16 = b8 ∧ E 17 = (.int .i64 (b0 : Int)) ∧ E 21 = q ∧ lA 111 lV 3 k G B ∧ vp a s (s.drop i) G K = some b2) s.length P.len ⟨J, Q, H, U, _, ⟨rfl, rfl⟩, (d.kH St), c3, a3, c4, c5, rfl, c6, L, A, rfl, b5, h0⟩ dc dc dc (fun _ _ _ h => by obtain ⟨_, _, _, _, _, F, _⟩ := h; exact F) ?_ ?_
     ·rintro f4 E W g7 ⟨k, G, B, K, c2, ⟨A, L⟩, d, a4, M, I, a5, N, a6, a7, a8, a9, D, j⟩
      obtain ⟨g, l2, h9, d5, d6⟩ := lT g7
      rw [h9] at j
      refine bg (VQ (pg (i := (f4 : Int)) (x0 := g) dK gJ a9 A P (aH _) d5) (fun m2 h2 => V (kI rfl (DN d.has (fun p n => (Mt (Ma (Ml n)))) P (fun _ => rfl) h2 d5 (y := (.string g)) rfl bW)) (Wa (lr (Wh I (V (kP rJ N) (VA d Mh (kR a.Head) bI aR (Wm (bS j fun m4 h4 j => ?_)))))))))
      refine VE (Eg d call213 (xS k G a.Head g _ _ (D.sl qY (fun b o n => d.at_ (Mt (Ml n)))) h4) (fun l6 d => V (ol rfl) (Wm (LJ j (fun f7 E W => ∃ e1, ST true lU w W d7 ((a2, Ol (kK a) 52) :: (B ++ (d1 ++ (R8 ++ e1)))) ∧ E 3 = v7 ∧ E 4 = q ∧ E 5 = k ∧ E 6 = (.bool K) ∧ E 8 = (.pointer (some ⟨a2, 0, none⟩)) ∧ E 10 = (.string g) ∧ E 15 = v7 ∧ E 16 = b8 ∧ E 17 = (.int .i64 (b0 : Int)) ∧ E 21 = q ∧ E 22 = (.int .i64 (s.length : Int)) ∧ E 23 = (.int .i64 (f4 : Int)) ∧ E 39 = (.bool f7)) 6 ?_ (fun f7 z c9 => ?_)))))
      ·rintro m7 E W ⟨e1, d, e4, e5, e6, j7, c7, j8, e7, e8, e9, f0, f1, f2, j9⟩ x
       refine ln (CI x j9 (fun g2 x => ?_) (fun g2 x => ?_))
       ·refine sg (Wh e6 (V (kP rJ c7) (VA d Mh (kR a.Head) bI aR (Wh j8 (V (mB (v := (.agg (lV (⟨a.Head, g⟩ : lf)).toArray)) (oJ rfl rfl) (mn fR fS (Nn _ fS) kr)) (VE (lD (cs := (lV (⟨a.Head, g⟩ : lf)).toArray) d (ni rfl) (nj cU dR fR) (fun l7 i2 d => ?_))))))))
        replace d := d.perm (Nr (Qb (Qb Qz)) Nz)
        refine bS x fun k2 g3 x => VE (oG (enc := lV) (v := k) (vs := (.slice (some ⟨i2, 0, none⟩) 1 1)) (R := B) d qY dc Ak cU vn.1 vn.2.1 rfl vn.2.2.1 vn.2.2.2 rfl rfl D (Sl.lit (enc := lV) (l := [(⟨a.Head, g⟩ : lf)]) qY rfl nb rfl (d.at_ (Ma Mh))) g3 (fun l8 k5 i1 d g0 => Wa (ln ?_)))
        replace d := d.kH (Kr (Db St))
        exact kW (Wa (lH (lL (kU ⟨f2, k5, k2, i1, true, _, ⟨rfl, f1⟩, (d.kH (Sb (Pr Pz) St)), e4, e5, rfl, rfl, c7, e7, e8, e9, f0, g0, (by rw [d6]; exact x)⟩))))
       exact mr (lL (kU ⟨f2, k, G, B, K, _, ⟨rfl, f1⟩, (d.kH St), e4, e5, e6, j7, c7, e7, e8, e9, f0, D, (by rw [d6]; exact x)⟩))
      refine bC z (fun c z => ?_) (fun c z => ?_)
      ·refine ug c (kT I) (ug c (kI N (kO d.has Mh (kK a) rfl bX aO)) (ug c (kT M) (ug c (kT rfl) (bS z fun m5 h5 z => tm c (Eg d call214 (Kv k G a q s g _ _ (D.sl qY (fun b o n => d.at_ (Mt (Ml n)))) (P.sl (fun _ => rfl) (fun b o n => d.at_ (Mt (Ma (Ml n))))) h5) (fun l9 d => V (lj (cB c) rfl) ?_))))))
       obtain rfl := sj z
       exact c9 _ _ ⟨_, (d.kH St), a4, M, I, a5, N, rfl, a6, a7, a8, a9, L, A, rfl⟩
      refine un c (un c (un c (un c (un c (V (ll (cB c) rfl) ?_)))))
      obtain rfl := sj z
      exact c9 _ _ ⟨_, (d.kH St), a4, M, I, a5, N, rfl, a6, a7, a8, a9, L, A, rfl⟩
     rintro E W ⟨k, G, B, K, c2, ⟨A, L⟩, d, a4, M, I, a5, N, a6, a7, a8, a9, D, j⟩
     rw [aI] at j
     refine kU ?_
     obtain rfl := sj j
     exact ⟨k, B, _, (d.kH (Db St)), a4, M, I, a5, a6, a7, a8, D⟩
    rintro ⟨k1, k6⟩ E W ⟨b3, a1, e0, d, i8, i9, j0, j3, j4, j5, j6, h6⟩ g9
    exact lL (kU ⟨j6, b3, k1, a1, k6, _, ⟨rfl, j5⟩, (d.kH St), i8, i9, j0, j3, j4, h6, (by rw [h8]; exact g9)⟩)
   rintro E W ⟨J, Q, H, U, c1, ⟨A, L⟩, d, c3, a3, c4, c5, c6, b5, u⟩
   rw [aI] at u
   refine kU ?_
   obtain rfl := sj u
   exact ⟨J, H, _, (d.kH St), c3, a3, c4, c5, b5⟩
  rintro ⟨f5, m6⟩ E W ⟨T, Z, d9, d, i5, i6, e3, i7, d3⟩ t
  refine sg (Wh i7 (V (ol rfl) (ln (CI t rfl (fun g1 t => ?_) (fun g1 t => ?_)))))
  ·refine sg (Wh e3 (bS t fun m3 h3 t => VE (vh d call215 (Iz T f5 _ _ (d3.sl qY (fun b o n => d.at_ (Ml n))) h3) (fun l3 k4 m8 i0 d k9 aa d2 => Wa (ln ?_)))))
   replace d := d.kH (Kr (Dr (Dr (Dr St))))
   refine lC (nC (lJ (nC (lJ ?_))))
   obtain rfl := sj t
   exact mD (v := k4) rfl rfl ⟨_, i0, rfl, d.oR (fun p n => (Ml n)) d2.nd, d2⟩
  exact mr (lL (kU ⟨k3, bF _, T, f5, Z, _, (d.kH St), i5, i6, e3, d3, t⟩))
theorem Em (D : Value) (G : List lf) (I : ByteArray) (r : List kD) (w : World) (B : Sl (Pl lV) 3 (hp w) D G) (hm : tW G I = some r) :
  nA true Tryz.prog 158 [D, (.string I)] w 50 kR 2 r := by
 refine wM 25 func158 rfl (fun b => sg (Wa (lr (Wa (lS (Wm ?_))))))
 refine V (ml cU rfl B) (Wm (ln (mf (fun i E W => ∃ k y g z, (E 10 = .int .i64 (i : Nat) ∧ E 9 = .int .i64 (G.length : Nat)) ∧ ST true lU w W (hp w) (g ++ z) ∧ E 1 = (.string I) ∧ E 5 = k ∧ E 8 = D ∧ lA 50 kR 2 k y g ∧ rD I (G.drop i) y = some r) G.length B.len ⟨(.slice none 0 0), ([]), [], _, ⟨rfl, rfl⟩, (b.kH St), rfl, rfl, rfl, (lA.nil _ _ _), hm⟩ dc dc dc (fun _ _ _ h => by obtain ⟨_, _, _, _, m, _⟩ := h; exact m) ?_ ?_)))
 ·rintro a4 E W U ⟨k, y, g, z, ⟨d, n⟩, b, t, u, x, j, a⟩
  obtain ⟨c, O, Z, Y, H⟩ := lT U
  rw [Z] at a
  refine bg (VQ (oH (enc := lV) (i := (a4 : Int)) (x0 := c) cU dR x d B (aH _) Y) (fun L N => V (kI rfl (lB b.has N jk dR)) (VE (lG b fR (fun a5 a9 b => VO (lh (.agg (lV c).toArray) ((lV c).toArray) b rfl rfl dR (Ak c) nb rfl (fun s b => lr (Wf xc (VB b Mh rfl rfl bW (Wh t (V (rR rfl rfl rfl) ?_)))))))))))
  refine ln (CI a rfl (fun K a => ?_) (fun K a => ?_))
  ·refine kW (Wh u (Wf yk (VA b Mh (kR c.kD) bI aR (VE (lD (cs := (kR c.kD).toArray) b (ni rfl) (nj fD aR fF) (fun A T b => ?_))))))
   replace b := b.perm (Nr (Qb (Qb Qz)) Nz)
   refine bS a fun a2 M a => VE (oG (enc := kR) (v := k) (vs := (.slice (some ⟨T, 0, none⟩) 1 1)) (R := g) b yg dc xd fD wI.1 wI.2.1 rfl wI.2.2.1 wI.2.2.2 rfl rfl j (Sl.lit (enc := kR) (l := [c.kD]) yg rfl nb rfl (b.at_ (Ma Mh))) M (fun F a3 Q b J => Wa (lH (lL (kU ?_)))))
   replace b := b.kH (Kr (Db (Db St)))
   exact ⟨d, a3, a2, Q, _, ⟨rfl, n⟩, (b.kH St), t, rfl, x, J, (by rw [H]; exact a)⟩
  refine mr (lL (kU ?_))
  replace b := b.kH (Db St)
  exact ⟨d, k, y, g, _, ⟨rfl, n⟩, (b.kH St), t, u, x, j, (by rw [H]; exact a)⟩
 rintro E W ⟨k, y, g, z, ⟨d, n⟩, b, t, u, x, j, a⟩
 rw [aI] at a
 refine kU (sg (Wh u (Wa (lt ?_))))
 obtain rfl := sj a
 exact mD (v := k) rfl rfl ⟨_, g, rfl, b.oR (fun p q => (Ml q)) j.nd, j⟩
theorem zw (i : Formula) (g : Value) (x : Int) (r : Bool) (w : World) (c : Sl kG 5 (hp w) g i.Kids) (hm : wj i x = some r) :
  lE true Tryz.prog 327 [(.agg #[(.int .i64 i.Op), (.int .i64 i.K), (.string i.kD.kE), (.string i.kD.kL), g]), (.int .i64 x)] w (.bool r) := by
 refine cG 15 func327 rfl (fun b => sg ?_)
 obtain ⟨B, D, rfl⟩ := c.form
 refine VE (lI b rfl (fun G H b => Wa (lr (Wf oB (VB b Mh rfl rfl cA (Wm (Wi rfl (Wm (LJ hm (fun t E W => ∃ u, ST true lU w W (hp w) u ∧ E 4 = (.bool false) ∧ E 14 = (.bool t)) 5 ?_ (fun t j k => ?_))))))))))
 ·rintro J E W ⟨u, b, I, y⟩ z
  exact Wg y (lt (rQ z b))
 refine bC j (fun a j => ?_) (fun a j => ?_)
 ·refine ug a (kP oA rfl) (ug a (kI rfl (lg b.has Mh rfl eA)) (ug a (ml aD rfl c) (ug a (lR rfl rfl rfl) (V (lj (cB a) rfl) ?_))))
  obtain rfl := sj j
  exact k _ _ ⟨_, (b.kH (Db St)), rfl, rfl⟩
 refine un a (un a (un a (un a (V (ll (cB a) rfl) ?_))))
 obtain rfl := sj j
 exact k _ _ ⟨_, (b.kH (Db St)), rfl, rfl⟩
theorem EE (I : Formula → Option ByteArray) (p : ∀ (a : Formula) (k : Value) (r : ByteArray) (w : World) (c : Sl kG 5 (hp w) k a.Kids), I a = some r → lE false Tryz.prog 359 [(.agg #[(.int .i64 a.Op), (.int .i64 a.K), (.string a.kD.kE), (.string a.kD.kL), k])] w (.string r)) (a : Formula) (k : Value) (r : ByteArray) (w : World) (c : Sl kG 5 (hp w) k a.Kids) (hm : xE I a = some r) :
  lE false Tryz.prog 359 [(.agg #[(.int .i64 a.Op), (.int .i64 a.K), (.string a.kD.kE), (.string a.kD.kL), k])] w (.string r) := by
 refine cG 44 func359 rfl (fun b => sg ?_)
 obtain ⟨A1, c2, rfl⟩ := c.form
 refine VE (lI b rfl (fun W4 m b => Wa (lr (Wf oB (VB b Mh rfl rfl cA (bS hm fun r5 P hm => VE (Eg b call340 (lE.mR (vV a.Op _ _  P)) (fun W7 b => Wa (ln (kZ (kZ ?_)))))))))))
 refine kW (Wf oB (VB b Mh rfl rfl cA (Wi rfl (ln (CI hm rfl (fun O hm => ?_) (fun O hm => ?_))))))
 ·refine sg (Wm (Wf uU (VA b Mh (kR a.kD) bI aR (bS hm fun r9 a4 hm => VE (Eg b call341 (lE.mR (yP a.kD _ _  a4)) (fun d3 b => bS hm fun d6 q hm => V (xR rfl rfl q) (Wa (ln ?_))))))))
  replace b := b.kH (Db St)
  refine lC (lJ ?_)
  obtain rfl := sj hm
  exact rP b
 refine kn (kZ (CJ hm (fun J E W => ∃ Y, ST false lU w W (hp w) ((m, Ol (C2 a.Op a.K a.kD.kE a.kD.kL A1 a.Kids.length c2) 58) :: Y) ∧ E 1 = (.pointer (some ⟨m, 0, none⟩)) ∧ E 3 = (.string J)) (fun J t => ?_) ?_))
 ·refine sg (Wf oB (VB b Mh rfl rfl cA (Wi rfl (ln (CI t rfl (fun K t => ?_) (fun K t => ?_))))))
  ·refine kW (Wm (Wf sK (VB b Mh rfl rfl cA (bS t fun c9 Q t => VE (Eg b call340 (lE.mR (vV a.K _ _  Q)) (fun c5 b => bS t fun d0 U t => V (xR rfl rfl U) (Wa (ln ?_))))))))
   obtain rfl := sj t
   exact ⟨_, (b.kH St), rfl, rfl⟩
  refine kn ?_
  obtain rfl := sj t
  exact ⟨_, (b.kH St), rfl, rfl⟩
 rintro d7 E W ⟨Y, b, Z, L⟩ u
 refine sg (Wh L (V (kP oA Z) (VB b Mh rfl rfl eA (V (ml aD rfl c) (bS u fun d5 a5 u => VE (Eg b call340 (lE.mR (vV (a.Kids.length : Int) _ _  a5)) (fun d4 b => bS u fun c0 s u => V (xR rfl rfl s) (Wa (ln (kZ (kZ ?_)))))))))))
 refine kW (V (kP oA Z) (VB b Mh rfl rfl eA (V (ml aD rfl c) (Wm (ln ?_)))))
 replace b := b.kH (Db St)
 refine mf (fun i E W => ∃ z B, (E 34 = .int .i64 (i : Nat) ∧ E 33 = .int .i64 (a.Kids.length : Nat)) ∧ ST false lU w W (hp w) B ∧ E 3 = (.string z) ∧ E 32 = (.slice A1 a.Kids.length c2) ∧ tf I (a.Kids.drop i) z = some r) a.Kids.length c.len ⟨c0, _, ⟨rfl, rfl⟩, (b.kH St), rfl, rfl, u⟩ dc dc dc (fun _ _ _ h => by obtain ⟨_, _, l, _⟩ := h; exact l) ?_ ?_
 ·rintro R E W a3 ⟨z, B, ⟨d, n⟩, b, D, G, g⟩
  obtain ⟨j, d2, v, a9, A⟩ := lT a3
  rw [v] at g
  refine bg (VQ (mU (i := (R : Int)) (x0 := j) kG.out aD aC G d c (aH _) a9) (fun c7 ⟨_, ⟨d1, rfl, H⟩, M⟩ => V (kI rfl (lB b.has M aK aC)) (VE (lG b aP (fun c1 c6 b => ?_)))))
  obtain ⟨x, y, rfl⟩ := H.form
  let a0 := (C2 j.Op j.K j.kD.kE j.kD.kL x j.Kids.length y)
  refine VO (lh (.agg a0.toArray) (a0.toArray) b rfl rfl aC oc nb rfl (fun c3 b => ln (kW (Wh D (VA b Mh a0 aK aC (bS g fun c8 N g => VE (Eg b call359 (p j (.slice x j.Kids.length y) _ _ (H.mono kN.mono b.kM) N) (fun c4 b => bS g fun F T g => V (xR rfl rfl T) (Wa (lH (lL (kU ?_))))))))))))
  replace b := b.kH (Db St)
  exact ⟨d, F, _, ⟨rfl, n⟩, (b.kH St), rfl, G, (by rw [A]; exact g)⟩
 rintro E W ⟨z, B, ⟨d, n⟩, b, D, G, g⟩
 rw [aI] at g
 exact kU (sg (Wh D (Wa (lt (rQ g b)))))
theorem Bj : ∀ (n : Nat) (c : Formula) (a : Value) (r : ByteArray) (w : World) (g : Sl kG 5 (hp w) a c.Kids) (_ : qu n c = some r),
  lE false Tryz.prog 359 [(.agg #[(.int .i64 c.Op), (.int .i64 c.K), (.string c.kD.kE), (.string c.kD.kL), a])] w (.string r)
 | 0 => by intros; rename_i h; simp only [qu] at h; cases h
 | n + 1 => EE (qu n) (Bj n)
theorem G4 (c : Formula) (u : Value) (a : Formula) (x : Value) (r : Int) (w : World) (k : Sl kG 5 (hp w) u c.Kids) (t : Sl kG 5 (hp w) x a.Kids) (hm : xl c a = some r) :
  lE false Tryz.prog 343 [(.agg #[(.int .i64 c.Op), (.int .i64 c.K), (.string c.kD.kE), (.string c.kD.kL), u]), (.agg #[(.int .i64 a.Op), (.int .i64 a.K), (.string a.kD.kE), (.string a.kD.kL), x])] w (.int .i64 r) := by
 refine cG 21 func343 rfl (fun b => sg ?_)
 obtain ⟨B, D, rfl⟩ := k.form
 let d := (C2 c.Op c.K c.kD.kE c.kD.kL B c.Kids.length D)
 refine VE (lI b rfl (fun W4 s b => ?_))
 obtain ⟨y, z, rfl⟩ := t.form
 let a0 := (C2 a.Op a.K a.kD.kE a.kD.kL y a.Kids.length z)
 refine VE (lI b rfl (fun W8 h b => Wa (lr (Wa (lr (Wa (ln (kZ ?_))))))))
 refine CJ hm (fun Q E W => ∃ G, ST false lU w W (hp w) ((h, Ol a0 58) :: G) ∧ E 3 = (.pointer (some ⟨h, 0, none⟩)) ∧ E 5 = (.string Q) ∧ E 6 = (.string zS)) (fun Q j => ?_) ?_
 ·refine sg (VA b (Mt Mh) d aK aC (bS j fun L a5 j => VE (Eg b call92 (wW c (.slice B c.Kids.length D) _ _ (k.mono kN.mono b.kM) a5) (fun q b => ln (CI j rfl (fun Z j => ?_) (fun Z j => ?_))))))
  ·refine kW (VA b (Mt Mh) d aK aC (bS j fun O l j => VE (Eg b call359 ((Bj lF) c (.slice B c.Kids.length D) _ _ (k.mono kN.mono b.kM) l) (fun v b => Wa (ln ?_)))))
   obtain rfl := sj j
   exact ⟨_, (b.kH (Kb (Db St))), rfl, rfl, rfl⟩
  refine kn ?_
  obtain rfl := sj j
  exact ⟨_, (b.kH (Kb (Db St))), rfl, rfl, rfl⟩
 rintro a9 E W ⟨G, b, I, J, m⟩ a2
 refine kZ (CJ a2 (fun N E W => ∃ H, ST false lU w W (hp w) H ∧ E 5 = (.string a9) ∧ E 6 = (.string N)) (fun N i => ?_) ?_)
 ·refine sg (V (kI I (kO b.has Mh a0 rfl aK aC)) (bS i fun A a3 i => VE (Eg b call92 (wW a (.slice y a.Kids.length z) _ _ (t.mono kN.mono b.kM) a3) (fun n b => ln (CI i rfl (fun Y i => ?_) (fun Y i => ?_))))))
  ·refine kW (V (kI I (kO b.has Mh a0 rfl aK aC)) (bS i fun F a4 i => VE (Eg b call359 ((Bj lF) a (.slice y a.Kids.length z) _ _ (t.mono kN.mono b.kM) a4) (fun p b => Wa (ln ?_)))))
   obtain rfl := sj i
   exact ⟨_, (b.kH (Db St)), J, rfl⟩
  refine kn ?_
  obtain rfl := sj i
  exact ⟨_, (b.kH (Db St)), J, m⟩
 rintro c1 E W ⟨H, b, K, M⟩ g
 refine kZ (sg (Wh K (Wh M (V (rR rfl rfl rfl) (ln (CI g rfl (fun T g => ?_) (fun T g => ?_)))))))
 ·refine sg (Wa (lt (lJ ?_)))
  obtain rfl := sj g
  exact rP b
 refine kS (Wh K (Wh M (V (rR rfl rfl rfl) (ln (CI g rfl (fun U g => ?_) (fun U g => ?_))))))
 ·refine sg (Wa (lt (lJ ?_)))
  obtain rfl := sj g
  exact rP b
 exact kg (Wa (lt (rQ g b)))
theorem FR (s : Formula → Formula → Option Bool) (d8 : ∀ (a : Formula) (u : Value) (c : Formula) (x : Value) (r : Bool) (w : World) (k : Sl kG 5 (hp w) u a.Kids) (y : Sl kG 5 (hp w) x c.Kids), s a c = some r → lE false Tryz.prog 167 [(.agg #[(.int .i64 a.Op), (.int .i64 a.K), (.string a.kD.kE), (.string a.kD.kL), u]), (.agg #[(.int .i64 c.Op), (.int .i64 c.K), (.string c.kD.kE), (.string c.kD.kL), x])] w (.bool r)) (a : Formula) (u : Value) (c : Formula) (x : Value) (r : Bool) (w : World) (k : Sl kG 5 (hp w) u a.Kids) (y : Sl kG 5 (hp w) x c.Kids) (hm : yv s a c = some r) :
  lE false Tryz.prog 167 [(.agg #[(.int .i64 a.Op), (.int .i64 a.K), (.string a.kD.kE), (.string a.kD.kL), u]), (.agg #[(.int .i64 c.Op), (.int .i64 c.K), (.string c.kD.kE), (.string c.kD.kL), x])] w (.bool r) := by
 refine cG 53 func167 rfl (fun b => sg ?_)
 obtain ⟨Z, c2, rfl⟩ := k.form
 let m := (C2 a.Op a.K a.kD.kE a.kD.kL Z a.Kids.length c2)
 refine VE (lI b rfl (fun W4 I b => ?_))
 obtain ⟨A5, c6, rfl⟩ := y.form
 let a0 := (C2 c.Op c.K c.kD.kE c.kD.kL A5 c.Kids.length c6)
 refine VE (lI b rfl (fun W8 J b => Wa (lS (Wf oB (VB b (Mt Mh) rfl rfl cA (Wf oB (VB b Mh rfl rfl cA (Wi rfl (Wm (LJ hm (fun O E W => ∃ d1, ST false lU w W (hp w) ((J, Ol a0 58) :: ((I, Ol m 58) :: d1)) ∧ E 2 = (.pointer (some ⟨I, 0, none⟩)) ∧ E 3 = (.pointer (some ⟨J, 0, none⟩)) ∧ E 17 = (.bool O)) 6 ?_ (fun O G N => ?_)))))))))))
 ·let a3 : Value := (.pointer (some ⟨J, 0, none⟩))
  let a2 : Value := (.pointer (some ⟨I, 0, none⟩))
  rintro f1 E W ⟨d1, b, a5, n, e1⟩ d6
  refine Wh e1 (LJ d6 (fun L E W => ∃ d2, ST false lU w W (hp w) ((J, Ol a0 58) :: ((I, Ol m 58) :: d2)) ∧ E 2 = a2 ∧ E 3 = a3 ∧ E 24 = (.bool L)) 6 ?_ (fun L D M => ?_))
  ·rintro f2 E W ⟨d2, b, p, q, e2⟩ d7
   refine Wh e2 (LJ d7 (fun F E W => ∃ d3, ST false lU w W (hp w) ((J, Ol a0 58) :: ((I, Ol m 58) :: d3)) ∧ E 2 = a2 ∧ E 3 = a3 ∧ E 33 = (.bool F)) 8 ?_ (fun F B K => ?_))
   ·rintro f3 E W ⟨d3, b, d4, e3, e4⟩ H
    refine ln (CI H e4 (fun d5 H => ?_) (fun d5 H => ?_))
    ·refine sg (Wa (ln ?_))
     replace b := b.kH (Db (Db St))
     refine lC (lJ ?_)
     obtain rfl := sj H
     exact rP b
    refine kS (V (kP oA d4) (VB b (Mt Mh) rfl rfl eA (V (ml aD rfl k) (Wm (ln (mf (fun i E W => ∃ Q, (E 37 = .int .i64 (i : Nat) ∧ E 36 = .int .i64 (a.Kids.length : Nat)) ∧ ST false lU w W (hp w) ((J, Ol a0 58) :: ((I, Ol m 58) :: Q)) ∧ E 2 = a2 ∧ E 3 = a3 ∧ tS c s (a.Kids.drop i) i = some r) a.Kids.length k.len ⟨_, ⟨rfl, rfl⟩, (b.kH St), d4, e3, H⟩ dc dc dc (fun _ _ _ h => by obtain ⟨_, A, _⟩ := h; exact A) ?_ ?_))))))
    ·rintro a9 E W c0 ⟨Q, ⟨v, eN⟩, b, T, U, g⟩
     obtain ⟨P, e5, c9, c8, d0⟩ := lT c0
     rw [c9] at g
     refine bg (Wh v (Wa (ln (kZ ?_))))
     replace b := b.drew
     have d := b.has.kH (Kb (Kb Sn))
     refine mi d lN (X 0 rfl d (kP oA T) (XH 1 rfl d (fun _ l => kI rfl (lg l (Mt Mh) rfl eA)) (X 2 rfl d (kT rfl) (XQ 3 rfl d (mU (i := (a9 : Int)) (x0 := P) kG.out aD aC rfl rfl k (aH _) c8) (fun e7 ⟨_, ⟨d9, rfl, c5⟩, c1⟩ => XH 4 rfl d (fun _ l => kI rfl (lB l c1 aK aC)) (X 5 rfl d (kP oA U) (XH 6 rfl d (fun _ l => kI rfl (lg l Mh rfl eA)) (X 7 rfl d (kT rfl) (bS g fun R Y g => XQ 8 rfl d (mU (i := (a9 : Int)) (x0 := R) kG.out aD aC rfl rfl y (lM Y) (lK Y)) (fun e8 ⟨_, ⟨e0, rfl, c7⟩, c3⟩ => XH 9 rfl d (fun _ l => kI rfl (lB l c3 aK aC)) (bS g fun e9 c4 g => XE 10 rfl (Eg b call167 (d8 P d9 R e0 _ _ (c5.mono kN.mono b.kM) (c7.mono kN.mono b.kM) c4) (fun e6 b => ?_)))))))))))))
     have d := b.has.kH (Kb (Kb Sn))
     refine ⟨d, (X 11 rfl d (ol rfl) (mu kr (kU (CI g rfl (fun b9 g => ?_) (fun b9 g => ?_)))))⟩
     ·refine sg (Wa (ln ?_))
      replace b := b.kH (Db (Db St))
      refine lC (nC (lJ (nC (lJ ?_))))
      obtain rfl := sj g
      exact rP b
     exact mr (lL (kU ⟨v, _, ⟨rfl, eN⟩, (b.kH St), T, U, (by rw [d0]; exact g)⟩))
    rintro E W ⟨Q, ⟨v, eN⟩, b, T, U, g⟩
    rw [aI] at g
    refine kU ?_
    replace b := b.kH (Db (Db St))
    exact sg (Wa (lt (rQ g b)))
   refine bC B (fun j B => ?_) (fun j B => ?_)
   ·refine un j (un j (un j (un j (un j (un j (un j (V (lj (cB j) rfl) ?_)))))))
    obtain rfl := sj B
    exact K _ _ ⟨_, (b.kH St), p, q, rfl⟩
   refine ug j (kP oA p) (ug j (kI rfl (lg b.has (Mt Mh) rfl eA)) (ug j (ml aD rfl k) (ug j (kP oA q) (ug j (kI rfl (lg b.has Mh rfl eA)) (ug j (ml aD rfl y) (ug j (lR rfl rfl rfl) (V (ll (cB j) rfl) ?_)))))))
   obtain rfl := sj B
   exact K _ _ ⟨_, (b.kH St), p, q, rfl⟩
  refine bC D (fun t D => ?_) (fun t D => ?_)
  ·refine un t (un t (un t (un t (un t (V (lj (cB t) rfl) ?_)))))
   obtain rfl := sj D
   exact M _ _ ⟨_, (b.kH St), a5, n, rfl⟩
  refine ug t (kP uU a5) (ug t (kI rfl (kO b.has (Mt Mh) (kR a.kD) rfl bI aR)) (ug t (kP uU n) (ug t (kI rfl (kO b.has Mh (kR c.kD) rfl bI aR)) (ug t (Ed rfl rfl (nW eL) (Al (qf _ a.kD c.kD))) (V (ll (cB t) rfl) ?_)))))
  obtain rfl := sj D
  exact M _ _ ⟨_, (b.kH St), a5, n, rfl⟩
 refine bC G (fun z G => ?_) (fun z G => ?_)
 ·refine un z (un z (un z (un z (un z (V (lj (cB z) rfl) ?_)))))
  obtain rfl := sj G
  exact N _ _ ⟨_, (b.kH St), rfl, rfl, rfl⟩
 refine ug z (kP sK rfl) (ug z (kI rfl (lg b.has (Mt Mh) rfl cA)) (ug z (kP sK rfl) (ug z (kI rfl (lg b.has Mh rfl cA)) (ug z (lR rfl rfl rfl) (V (ll (cB z) rfl) ?_)))))
 obtain rfl := sj G
 exact N _ _ ⟨_, (b.kH St), rfl, rfl, rfl⟩
theorem zU : ∀ (n : Nat) (g : Formula) (a : Value) (i : Formula) (c : Value) (r : Bool) (w : World) (j : Sl kG 5 (hp w) a g.Kids) (k : Sl kG 5 (hp w) c i.Kids) (_ : ql n g i = some r),
  lE false Tryz.prog 167 [(.agg #[(.int .i64 g.Op), (.int .i64 g.K), (.string g.kD.kE), (.string g.kD.kL), a]), (.agg #[(.int .i64 i.Op), (.int .i64 i.K), (.string i.kD.kE), (.string i.kD.kL), c])] w (.bool r)
 | 0 => by intros; rename_i h; simp only [ql] at h; cases h
 | n + 1 => FR (ql n) (zU n)
theorem Dw (T : Value) (a0 : List Formula) (A : Bool) (r : List Formula) (w : World) {μ0 : lQ} (h0 : oC μ0 [] w) (c9 : Sl kG 5 μ0 T a0) (hm : vS a0 A = some r) :
  ms false Tryz.prog 328 [T, (.bool A)] w μ0 [] (fun v L1 μ1 => ∃ y1, v = y1 ∧ L1 = [] ∧ Sl kG 5 μ1 y1 (r)) := by
 refine tp h0 62 func328 rfl (fun d => sg (Wa (lr (Wa (lS (Wm ?_))))))
 refine V (ml aD rfl c9) (Wm (ln (mf (fun i E W => ∃ u M D x b1, (E 12 = .int .i64 (i : Nat) ∧ E 11 = .int .i64 (a0.length : Nat)) ∧ lu μ0 x ∧ Lo (keys []) w μ0 x ∧ ST false (keys []) w W x (D ++ b1) ∧ E 1 = (.bool A) ∧ E 5 = u ∧ E 10 = T ∧ lY 58 kG 5 x u M D ∧ nK A (a0.drop i) M = some r) a0.length c9.len ⟨(.slice none 0 0), ([]), [], μ0, _, ⟨rfl, rfl⟩, (lu.refl _), Lo.refl, (d.kH St), rfl, rfl, rfl, (lY.nil _ _ _ _), hm⟩ dc dc dc (fun _ _ _ h => by obtain ⟨_, _, _, _, _, aa, _⟩ := h; exact aa) ?_ ?_)))
 ·rintro U E W h7 ⟨u, M, D, x, b1, ⟨eI, eN⟩, K, q, d, d5, a4, b3, H, J⟩
  obtain ⟨a, l4, j5, j4, c6⟩ := lT h7
  rw [j5] at J
  refine bg (VQ (mU (i := (U : Int)) (x0 := a) kG.out aD aC b3 eI (c9.mono kN.mono K) (aH _) j4) (fun m8 ⟨_, ⟨n3, rfl, a2⟩, i1⟩ => V (kI rfl (lB d.has i1 aK aC)) (VE (lG d aP (fun l6 G d => ?_)))))
  let g5 : Value := (.int .i64 (U : Int))
  let b8 : Value := (.int .i64 (a0.length : Int))
  let P : Value := (.pointer (some ⟨G, 0, none⟩))
  obtain ⟨k, t, rfl⟩ := a2.form
  let g6 : Value := (.slice k a.Kids.length t)
  let s := (C2 a.Op a.K a.kD.kE a.kD.kL k a.Kids.length t)
  refine VO (lh (.agg s.toArray) (s.toArray) d rfl rfl aC oc nb rfl (fun l7 d => lr (Wh a4 (V (qX aD rfl H) (Wa (ln (kZ (CJ J (fun c3 E W => ∃ d0, ST false (keys []) w W x ((G, Ol s 58) :: (D ++ d0)) ∧ E 1 = (.bool A) ∧ E 5 = u ∧ E 7 = P ∧ E 8 = (.int .i64 c3) ∧ E 10 = T ∧ E 11 = b8 ∧ E 12 = g5) (fun c3 i0 => ?_) ?_))))))))
  ·refine mK (nZ (fun m E W => ∃ Y d3, ST false (keys []) w W x ((G, Ol s 58) :: (D ++ d3)) ∧ E 1 = (.bool A) ∧ E 5 = u ∧ E 7 = P ∧ E 8 = (.int .i64 Y) ∧ E 10 = T ∧ E 11 = b8 ∧ E 12 = g5 ∧ qM M a m Y = some c3) lF ⟨(M.length : Int), _, (d.kH St), d5, a4, rfl, rfl, b3, eN, eI, i0⟩ ?_)
   rintro m E W ⟨Y, d3, d, f0, c1, c2, a5, f1, f2, f3, Z⟩
   cases m with
   | zero => rw [qM] at Z; cases Z
   | succ k5 =>
    refine kZ (kZ ?_)
    replace d := d.drew
    have n := d.has.kH (Kb (Kr Sn))
    refine mi n lN (X 0 rfl n (kT a5) (X 1 rfl n (lR rfl rfl rfl) (X 2 rfl n (kT rfl) (PJ Z (fun g3 E W => ∃ d4, ST false (keys []) w W x ((G, Ol s 58) :: (D ++ d4)) ∧ E 1 = (.bool A) ∧ E 5 = u ∧ E 7 = P ∧ E 8 = (.int .i64 Y) ∧ E 10 = T ∧ E 11 = b8 ∧ E 12 = g5 ∧ E 29 = (.bool g3)) (bm 12 4095) 0 ?_ (fun g3 z b0 => ?_)))))
    ·rintro o0 E W ⟨d4, d, f4, f5, f6, f7, f8, f9, g0, k3⟩ Q
     refine mu kr (kU (CI Q k3 (fun h6 Q => ?_) (fun h6 Q => ?_)))
     ·exact kn (mK (kW (Wh f7 (Wi rfl (Wa (lH (lL (kU ⟨k5, bF _, (IntKind.i64.wrap (Y - 1)), _, (d.kH St), f4, f5, f6, rfl, f8, f9, g0, Q⟩))))))))
     refine nT (nJ (nJ (qE (kU ?_))))
     obtain rfl := sj Q
     exact ⟨_, (d.kH St), f4, f5, f6, f7, f8, f9, g0⟩
    refine bC z (fun c z => ?_) (fun c z => ?_)
    ·refine Xg 3 rfl rfl (cB c) n (kT c1) (Xg 4 rfl rfl (cB c) n (kT a5) (Xg 5 rfl rfl (cB c) n (lR rfl rfl rfl) (bS z fun l0 c8 z => rX 6 rfl kr (.inr ⟨2, true, 20, rfl, rfl, by decide, (cB c)⟩) rfl dc (fun _ _ h => h) n (mL (i := (IntKind.i64.wrap (Y - 1))) kG.out aD aC rfl rfl H (lM c8) (lK c8)) (fun n0 ⟨_, ⟨k8, rfl, j0⟩, i3, l3⟩ => qQ 7 rfl rfl (cB c) n (fun _ O => kI rfl (lB (oD.hp _) (i3.mono (nn (fun b o R => O.2 b o (Mt (Ml R))))) aK aC)) (qQ 8 rfl rfl (cB c) n (fun _ O => kI c2 (kO O Mh s rfl aK aC)) (bS z fun n2 i5 z => Af 9 rfl rfl (cB c) (Eg d call343 (G4 l0 k8 a g6 _ _ (j0.mono kN.mono d.kM) (a2.mono kN.mono d.kM) i5) (fun m4 d => ?_))))))))
     have n := d.has.kH (Kb (Kr Sn))
     refine ⟨n, (Xg 10 rfl rfl (cB c) n (lR rfl rfl rfl) (X 11 rfl n (lj (cB c) rfl) ?_))⟩
     obtain rfl := sj z
     refine nu kr (b0 _ _ ⟨_, (d.kH St), f0, c1, c2, a5, f1, f2, f3, rfl⟩)
    refine Xn 3 rfl rfl (cB c) n (Xn 4 rfl rfl (cB c) n (Xn 5 rfl rfl (cB c) n (Xn 6 rfl rfl (cB c) n (Xn 7 rfl rfl (cB c) n (Xn 8 rfl rfl (cB c) n (Xn 9 rfl rfl (cB c) n (Xn 10 rfl rfl (cB c) n (X 11 rfl n (ll (cB c) rfl) ?_))))))))
    obtain rfl := sj z
    refine nu kr (b0 _ _ ⟨_, (d.kH St), f0, c1, c2, a5, f1, f2, f3, rfl⟩)
  rintro a3 E W ⟨d0, d, b4, d6, d7, b5, d8, d9, e0⟩ h8
  refine kZ (kZ ?_)
  replace d := d.drew
  have n := d.has.kH (Kb (Kr Sn))
  refine mi n lN (X 0 rfl n (kT b4) (X 1 rfl n (kT rfl) (PJ h8 (fun g2 E W => ∃ d1, ST false (keys []) w W x ((G, Ol s 58) :: (D ++ d1)) ∧ E 1 = (.bool A) ∧ E 5 = u ∧ E 7 = P ∧ E 8 = (.int .i64 a3) ∧ E 10 = T ∧ E 11 = b8 ∧ E 12 = g5 ∧ E 36 = (.bool g2)) (bm 14 31) 9 ?_ (fun g2 N a9 => ?_))))
  ·rintro n8 E W ⟨d1, d, e1, b6, b7, b9, e2, e3, e4, k0⟩ h9
   have n := d.has.kH (Kb (Kr Sn))
   refine X 5 rfl n (kT k0) (PJ h9 (fun g1 E W => ∃ d2, ST false (keys []) w W x ((G, Ol s 58) :: (D ++ d2)) ∧ E 1 = (.bool A) ∧ E 5 = u ∧ E 7 = P ∧ E 8 = (.int .i64 a3) ∧ E 10 = T ∧ E 11 = b8 ∧ E 12 = g5 ∧ E 45 = (.bool g1)) (bm 14 16383) 0 ?_ (fun g1 y a8 => ?_))
   ·rintro n9 E W ⟨d2, d, e5, c0, k1, e6, e7, e8, e9, k2⟩ j
    refine mu kr (kU (CI j k2 (fun h2 j => ?_) (fun h2 j => ?_)))
    ·refine nT (nJ (qE (kU ?_)))
     replace d := d.kH (Db St)
     exact ⟨e9, u, M, D, x, _, ⟨rfl, e8⟩, K, q, (d.kH St), e5, c0, e7, H, (by rw [c6]; exact j)⟩
    refine kg (VE (lD (cs := #[]) d rp (Ax [] aD aC aP dc rfl (by simp) rfl rfl) (fun l8 j9 d => Wh c0 (Wh e6 (bS j fun _ c4 j => VQ (Bu (i := a3) aD aC rfl rfl H (vG c4) (vw c4)) (fun n4 i6 => bS j fun m6 h3 j => VE (pS (B := [(j9, Ob #[] 58)]) kN d dc aD na.1 na.2.1 rfl na.2.2.1 na.2.2.2 rfl rfl (lY.lit kN (l := []) .nil rfl nb rfl) (xL.row i6 d (fun p R => (Mt (Mt (Ml R))))) h3 (fun l9 n5 j6 d g8 => Wa (ln (kZ ?_))))))))))
    refine kW (Wm (V (kI k1 (kO d.has (Ma Mh) s rfl aK aC)) (VE (lD (cs := s.toArray) d (ni rfl) (nj aD aC aP) (fun m0 m5 d => ?_)))))
    replace d := d.perm (Nr (Qb Qz) Nz)
    refine bS j fun m7 h4 j => VE (pS (B := j6) kN d dc aD na.1 na.2.1 rfl na.2.2.1 na.2.2.2 rfl rfl g8 (xL.lit kN (l := [a]) (.cons (ys := C2 a.Op a.K a.kD.kE a.kD.kL k a.Kids.length t) (kG.mk ⟨g6, rfl, a2⟩) .nil) rfl nb (d.at_ (Ma Mh))) h4 (fun m1 n6 j7 d g9 => Wa (ln ?_)))
    replace d := d.kH (Kr (Db (Db St)))
    refine kW (Wm (Wh c0 (Wh e6 ?_)))
    replace d := d.perm (Nr (Qr Qz) Nz)
    obtain ⟨l1, d, a7, F, i8⟩ := ST.tJ kN d H
    exact bS j fun _ c5 j => VQ (Dc (i := a3) aD aC rfl rfl i8 (vG c5) (vw c5)) (fun n7 i7 => bS j fun k4 h5 j => VE (pS (B := j7) kN d dc aD na.1 na.2.1 rfl na.2.2.1 na.2.2.2 rfl rfl (g9.mono kN a7) (xL.sl kN i7.1 d.kM) h5 (fun m2 k6 j8 d h1 => Wa (lH (lL (kU ⟨e9, k6, k4, j8, l1, _, ⟨rfl, e8⟩, (K.trans a7), (q.trans F), (d.kH St), e5, rfl, e7, h1, (by rw [c6]; exact j)⟩))))))
   refine bC y (fun g y => ?_) (fun g y => ?_)
   ·refine Xg 6 rfl rfl (cB g) n (kT b6) (Xg 7 rfl rfl (cB g) n (kT b9) (Xg 8 rfl rfl (cB g) n (lR rfl rfl rfl) (bS y fun k9 c7 y => rX 9 rfl kr (.inr ⟨5, true, 37, rfl, rfl, by decide, (cB g)⟩) rfl dc (fun _ _ h => h) n (mL (i := (IntKind.i64.wrap (a3 - 1))) kG.out aD aC rfl rfl H (lM c7) (lK c7)) (fun m9 ⟨_, ⟨k7, rfl, i9⟩, i2, l2⟩ => qQ 10 rfl rfl (cB g) n (fun _ O => kI rfl (lB (oD.hp _) (i2.mono (nn (fun b o R => O.2 b o (Mt (Ml R))))) aK aC)) (qQ 11 rfl rfl (cB g) n (fun _ O => kI b7 (kO O Mh s rfl aK aC)) (bS y fun n1 i4 y => Af 12 rfl rfl (cB g) (Eg d call167 ((zU lF) k9 k7 a g6 _ _ (i9.mono kN.mono d.kM) (a2.mono kN.mono d.kM) i4) (fun m3 d => ?_))))))))
    have n := d.has.kH (Kb (Kr Sn))
    refine ⟨n, (X 13 rfl n (lj (cB g) rfl) ?_)⟩
    obtain rfl := sj y
    refine nu kr (a8 _ _ ⟨_, (d.kH St), e1, b6, b7, b9, e2, e3, e4, rfl⟩)
   refine Xn 6 rfl rfl (cB g) n (Xn 7 rfl rfl (cB g) n (Xn 8 rfl rfl (cB g) n (Xn 9 rfl rfl (cB g) n (Xn 10 rfl rfl (cB g) n (Xn 11 rfl rfl (cB g) n (Xn 12 rfl rfl (cB g) n (X 13 rfl n (ll (cB g) rfl) ?_)))))))
   obtain rfl := sj y
   refine nu kr (a8 _ _ ⟨_, (d.kH St), e1, b6, b7, b9, e2, e3, e4, rfl⟩)
  refine bC N (fun I N => ?_) (fun I N => ?_)
  ·refine Xg 2 rfl rfl (cB I) n (kT b5) (Xg 3 rfl rfl (cB I) n (lR rfl rfl rfl) (X 4 rfl n (lj (cB I) rfl) ?_))
   obtain rfl := sj N
   refine nu kr (a9 _ _ ⟨_, (d.kH St), b4, d6, d7, b5, d8, d9, e0, rfl⟩)
  refine Xn 2 rfl rfl (cB I) n (Xn 3 rfl rfl (cB I) n (X 4 rfl n (ll (cB I) rfl) ?_))
  obtain rfl := sj N
  refine nu kr (a9 _ _ ⟨_, (d.kH St), b4, d6, d7, b5, d8, d9, e0, rfl⟩)
 rintro E W ⟨u, M, D, x, b1, ⟨eI, eN⟩, K, q, d, d5, a4, b3, H, J⟩
 rw [aI] at J
 refine kU (sg (Wh a4 (Wa (lt ?_))))
 obtain rfl := sj J
 refine mD (v := u) rfl rfl ?_
 obtain ⟨o1, d, g4, L, j3⟩ := ST.tJ kN d H
 exact ⟨_, _, _, rfl, (d.mX Sn), (K.trans g4), (q.trans L), (ST.lX d (nq.mem Sn)), u, rfl, rfl, j3⟩
set_option maxHeartbeats 1000000 in
theorem vW (t : Nat) (T : mA) (u : Int) (d0 : Value) (a2 : List Formula) (r : (Formula × mA)) (w : World) {μ0 : lQ} (h0 : oC μ0 ((t, Ol (nE T) 332) :: []) w) (c9 : Sl kG 5 μ0 d0 a2) (hm : qb T u a2 = some r) :
  ms false Tryz.prog 326 [(.pointer (some ⟨t, 0, none⟩)), (.int .i64 u), d0] w μ0 ((t, Ol (nE T) 332) :: []) (fun v L1 μ1 => ∃ y1, v = (.agg #[(.int .i64 ((r.1).Op)), (.int .i64 ((r.1).K)), (.string (((r.1).kD).kE)), (.string (((r.1).kD).kL)), y1]) ∧ L1 = ((t, Ol (nE (r.2)) 332) :: []) ∧ Sl kG 5 μ1 y1 ((r.1).Kids)) := by
 let g6 : Value := (.pointer (some ⟨t, 0, none⟩))
 let a0 := ((nE T).toArray : Array Value)
 let e5 := ((t, Obj.cells a0 332 (0, 0)) :: [])
 refine tp h0 75 func326 rfl (fun d => sg (VE (lG d aP (fun W2 R d => lr (Wa (lS (Wm ?_)))))))
 let g5 : Value := (.pointer (some ⟨R, 0, none⟩))
 refine V (ml aD rfl c9) (Wm (ln (mf (fun i E W => ∃ J I H c3, (E 14 = .int .i64 (i : Nat) ∧ E 13 = .int .i64 (a2.length : Nat)) ∧ ST false (keys e5) w W μ0 ((R, Ol C5 58) :: ((t, Obj.cells a0 332 (0, 0)) :: (H ++ c3))) ∧ E 0 = g6 ∧ E 1 = (.int .i64 u) ∧ E 6 = g5 ∧ E 7 = J ∧ E 12 = d0 ∧ lY 58 kG 5 μ0 J I H ∧ oh u T (a2.drop i) I = some r) a2.length c9.len ⟨(.slice none 0 0), ([]), [], _, ⟨rfl, rfl⟩, (d.kH St), rfl, rfl, rfl, rfl, rfl, (lY.nil _ _ _ _), hm⟩ dc dc dc (fun _ _ _ h => by obtain ⟨_, _, _, _, q, _⟩ := h; exact q) ?_ ?_)))
 ·rintro h8 E W f4 ⟨J, I, H, c3, ⟨p, A⟩, d, b2, N, Z, L, b3, G, c⟩
  obtain ⟨a, i8, g7, g4, d5⟩ := lT f4
  rw [g7] at c
  refine bg (VQ (mU (i := (h8 : Int)) (x0 := a) kG.out aD aC b3 p c9 (aH _) g4) (fun l3 ⟨_, ⟨l8, rfl, a3⟩, f7⟩ => V (kI rfl (lB d.has f7 aK aC)) (VE (lG d aP (fun j4 k9 d => ?_)))))
  obtain ⟨y, z, rfl⟩ := a3.form
  let F := (C2 a.Op a.K a.kD.kE a.kD.kL y a.Kids.length z)
  refine VO (lh (.agg F.toArray) (F.toArray) d rfl rfl aC oc nb rfl (fun j5 d => lS (Wf oB (VB d Mh rfl rfl cA (Wh N (Wi rfl (ln (CI c rfl (fun e8 c => ?_) (fun e8 c => ?_)))))))))
  ·refine sg (Wh L (Wf oA (VB d Mh rfl rfl eA ?_)))
   replace d := d.perm (Nr (Qb (Qb (Qb Qz))) Nz)
   refine bS c fun i0 e9 c => VE (pS (B := H) kN d dc aD na.1 na.2.1 rfl na.2.2.1 na.2.2.2 rfl rfl G (xL.sl kN a3 d.kM) e9 (fun j6 i2 h2 d e6 => Wa (ln ?_)))
   replace d := d.kH (Kr (Db St))
   exact nT (nJ (qE (kU ⟨p, i2, i0, h2, _, ⟨rfl, A⟩, (d.kH (Sb (Pr Pz) (Sb (Pr Pz) St))), b2, N, Z, rfl, b3, e6, (by rw [d5]; exact c)⟩)))
  refine kS (VA d Mh F aK aC (Wh N (Wi rfl (bS c fun l6 g0 c => VE (Eg d call327 (lE.mR (zw a (.slice y a.Kids.length z) (IntKind.i64.wrap (5 - u)) _ _ (a3.mono kN.mono d.kM) g0)) (fun j7 d => ln (CI c rfl (fun f0 c => ?_) (fun f0 c => ?_))))))))
  ·let d2 := (Hm (IntKind.i64.wrap (5 - u)))
   refine sg (Wh N (Wi rfl (V (mB (v := (.agg d2.toArray)) (ni rfl) (mn aP bH (uM _ bH) kr)) ?_)))
   replace d := d.perm (Nb (Pb Pz) Nz)
   refine VO (lh (.agg d2.toArray) (d2.toArray) d Z rfl aC oc nb rfl (fun j8 d => ln ?_))
   replace d := d.kH (Kb (Db (Kb (Dr St))))
   refine lC (lJ (nC (lJ (nC (lJ ?_)))))
   obtain rfl := sj c
   exact nw (v := (.agg d2.toArray)) rfl Z (kO d.has Mh d2 rfl aK aC) ⟨_, _, _, rfl, (d.mX (Db (Kb Sn))), (lu.refl _), Lo.refl, (ST.lX d (nq.mem (Db (Kb Sn)))), (.slice none 0 0), rfl, rfl, (Sl.nil _ _ _)⟩
  refine kn (kW (Wh L (VA d Mh F aK aC (VE (lD (cs := F.toArray) d (ni rfl) (nj aD aC aP) (fun j9 l0 d => ?_))))))
  replace d := d.perm (Nr (Qb (Qb (Qb (Qb Qz)))) Nz)
  refine bS c fun i1 f1 c => VE (pS (B := H) kN d dc aD na.1 na.2.1 rfl na.2.2.1 na.2.2.2 rfl rfl G (xL.lit kN (l := [a]) (.cons (ys := C2 a.Op a.K a.kD.kE a.kD.kL y a.Kids.length z) (kG.mk ⟨(.slice y a.Kids.length z), rfl, a3⟩) .nil) rfl nb (d.at_ (Ma Mh))) f1 (fun k0 i3 h3 d e7 => Wa (lH (lL (kU ?_)))))
  replace d := d.kH (Kr (Db (Db St)))
  exact ⟨p, i3, i1, h3, _, ⟨rfl, A⟩, (d.kH (Sb (Pr Pz) (Sb (Pr Pz) St))), b2, N, Z, rfl, b3, e7, (by rw [d5]; exact c)⟩
 rintro E W ⟨J, I, H, c3, ⟨p, A⟩, d, b2, N, Z, L, b3, G, c⟩
 rw [aI] at c
 refine kU (kZ (sg (Wh L (V (qX aD rfl G) (Wm (ln (Sp c (fun e4 E W => ∃ d7, ST false (keys e5) w W μ0 ((R, Ol C5 58) :: ((t, Obj.cells a0 332 (0, 0)) :: (H ++ d7))) ∧ E 0 = g6 ∧ E 1 = (.int .i64 u) ∧ E 6 = g5 ∧ E 7 = J) (fun e4 f6 b6 => ?_) ?_)))))))
 ·refine mf (fun i E W => ∃ c4, (E 40 = .int .i64 (i : Nat) ∧ E 39 = .int .i64 (I.length : Nat)) ∧ ST false (keys e5) w W μ0 ((R, Ol C5 58) :: ((t, Obj.cells a0 332 (0, 0)) :: (H ++ c4))) ∧ E 0 = g6 ∧ E 1 = (.int .i64 u) ∧ E 6 = g5 ∧ E 7 = J ∧ E 38 = J ∧ qj u T (I.drop i) = some e4) I.length G.len ⟨_, ⟨rfl, rfl⟩, (d.kH St), b2, N, Z, L, rfl, f6⟩ dc dc dc (fun _ _ _ h => by obtain ⟨_, q, _⟩ := h; exact q) ?_ ?_
  ·rintro h9 E W f5 ⟨c4, ⟨p, A⟩, d, c6, O, P, c7, c8, k⟩
   obtain ⟨j, i9, g9, g8, h1⟩ := lT f5
   rw [g9] at k
   refine bg (VQ (mL (i := (h9 : Int)) kG.out aD aC c8 p G (aH _) g8) (fun l5 ⟨_, ⟨m1, rfl, d4⟩, f9, i7⟩ => V (kI rfl (lB (oD.hp _) (f9.mono (nn (fun b o hq => d.has.2 b o (Mt (Mt (Ml hq)))))) aK aC)) (VE (lG d aP (fun k5 l1 d => ?_)))))
   obtain ⟨a9, b0, rfl⟩ := d4.form
   let d9 := (C2 j.Op j.K j.kD.kE j.kD.kL a9 j.Kids.length b0)
   let s := (IntKind.i64.wrap (5 - u))
   refine VO (lh (.agg d9.toArray) (d9.toArray) d rfl rfl aC oc nb rfl (fun k6 d => lr (VA d Mh d9 aK aC (Wh O (Wi rfl (bS k fun l7 g2 k => VE (Eg d call327 (lE.mR (zw j (.slice a9 j.Kids.length b0) s _ _ (d4.mono kN.mono d.kM) g2)) (fun k7 d => ln ?_))))))))
   replace d := d.kH (Db St)
   refine CI k rfl (fun f3 k => ?_) (fun f3 k => ?_)
   ·refine sg (Wh O (Wi rfl (V (mB (v := (.agg (Hm s).toArray)) (ni rfl) (mn aP bH (uM _ bH) kr)) (VO (lh (.agg (Hm s).toArray) ((Hm s).toArray) d P rfl aC oc nb rfl (fun k8 d => ln ?_))))))
    replace d := d.kH (Kb (Kb (Dr St)))
    refine lC (nC (lJ (nC (lJ ?_))))
    obtain rfl := sj k
    replace b6 : some ((⟨(IntKind.i64.wrap (5 - u)), 0, K0, []⟩ : Formula), T) = some r := b6
    obtain rfl := sj b6
    exact nw (v := (.agg (Hm s).toArray)) rfl P (kO d.has Mh (Hm s) rfl aK aC) ⟨_, _, _, rfl, (d.mX (Db (Kb Sn))), (lu.refl _), Lo.refl, (ST.lX d (nq.mem (Db (Kb Sn)))), (.slice none 0 0), rfl, rfl, (Sl.nil _ _ _)⟩
   exact mr (lL (kU ⟨p, _, ⟨rfl, A⟩, (d.kH St), c6, O, P, c7, c8, (by rw [h1]; exact k)⟩))
  rintro E W ⟨c4, ⟨p, A⟩, d, c6, O, P, c7, c8, k⟩
  rw [aI] at k
  refine kU ?_
  obtain rfl := sj k
  exact ⟨_, rfl, _, (d.kH St), c6, O, P, c7⟩
 rintro ⟨⟩ E W ⟨d7, d, e0, e1, e2, h4⟩ b5
 refine sg (Wh h4 ?_)
 replace d := d.perm (Nr (Qb (Qb Qz)) Nz)
 obtain ⟨m4, d, c0, m, g3⟩ := ST.tJ kN d G
 refine bS b5 fun Q g1 b5 => ?_
 refine VE (eD d (aY _) call328 (fun hh => (Dw J I true _ _ hh (g3.mono kN.mono (lu.refl _)) g1)) ?_ (L0 := []))
 rintro _ l9 i5 j3 d c1 n ⟨i4, b7, rfl, Y⟩
 obtain rfl := b7.symm
 refine Wa (lr (Wh e0 (Wh e0 (Wn (Wf Iw (VB d (Mt Mh) rfl rfl isAgg4 (Wm (LJ b5 (fun e3 E W => ∃ d8, ST false (keys e5) w W i5 ((R, Ol C5 58) :: ((t, Obj.cells a0 332 (0, 0)) :: d8)) ∧ E 1 = (.int .i64 u) ∧ E 6 = g5 ∧ E 7 = i4 ∧ E 54 = g6 ∧ E 63 = (.bool e3)) 4 ?_ (fun e3 U c2 => ?_)))))))))
 ·rintro d1 E W ⟨d8, d, h5, b4, c5, h6, h7⟩ D
  refine V (nz h6) (Wf Iw ?_)
  replace d := d.perm (Nb (Pb Pz) Nz)
  refine VO (lh (.bool d1) ((nE (⟨d1⟩ : mA)).toArray) d rfl h7 sizeOf4 (TV d1) nb rfl (fun k2 d => lS (Wh c5 (V (ml aD rfl Y) (Wi rfl (ln (CI D rfl (fun f2 D => ?_) (fun f2 D => ?_))))))))
  ·refine sg (Wh c5 (bS D fun g d6 D => VQ (mU (i := 0) (x0 := g) kG.out aD aC rfl rfl Y (lM d6) (lK d6)) (fun l4 ⟨_, ⟨m0, rfl, d3⟩, f8⟩ => V (kI rfl (lB d.has f8 aK aC)) ?_)))
   obtain ⟨a4, a5, rfl⟩ := d3.form
   let b8 := (C2 g.Op g.K g.kD.kE g.kD.kL a4 g.Kids.length a5)
   replace d := d.perm (Nb (Pb Pz) Nz)
   refine VO (lh (.agg b8.toArray) (b8.toArray) d b4 rfl aC oc nb rfl (fun k3 d => lt (lJ ?_)))
   obtain rfl := sj D
   exact nw (v := (.agg b8.toArray)) rfl b4 (kO d.has Mh b8 rfl aK aC) ⟨_, _, _, rfl, (d.mX (Db (Kb Sn))), (c0.trans c1), (m.trans n), (ST.lX d (nq.mem (Db (Kb Sn)))), (.slice a4 g.Kids.length a5), rfl, rfl, d3⟩
  refine kg (Wh h5 (Wh c5 ?_))
  obtain ⟨K, M, rfl⟩ := Y.form
  let i6 := (TE u K Q.length M)
  refine V (mB (v := (.agg i6.toArray)) (oJ rfl rfl) (mn aP bH (uM _ bH) kr)) ?_
  replace d := d.perm (Nb (Pb Pz) Nz)
  refine VO (lh (.agg i6.toArray) (i6.toArray) d b4 rfl aC oc nb rfl (fun k4 d => lt ?_))
  obtain rfl := sj D
  exact nw (v := (.agg i6.toArray)) rfl b4 (kO d.has Mh i6 rfl aK aC) ⟨_, _, _, rfl, (d.mX (Db (Kb Sn))), (c0.trans c1), (m.trans n), (ST.lX d (nq.mem (Db (Kb Sn)))), (.slice K Q.length M), rfl, rfl, Y⟩
 refine bC U (fun x U => ?_) (fun x U => ?_)
 ·refine un x (un x (un x (V (lj (cB x) rfl) ?_)))
  obtain rfl := sj U
  exact c2 _ _ ⟨_, (d.kH St), e1, e2, rfl, rfl, rfl⟩
 refine ug x (kT rfl) (ug x (ml aD rfl Y) (ug x (lR rfl rfl rfl) (V (ll (cB x) rfl) ?_)))
 obtain rfl := sj U
 exact c2 _ _ ⟨_, (d.kH St), e1, e2, rfl, rfl, rfl⟩
set_option maxHeartbeats 1000000 in
theorem A0 (h6 : mA → Formula → Option (Formula × mA)) (m0 : ∀ (k : Nat) (a0 : mA) (g : Formula) (I : Value) (r : (Formula × mA)) (w : World) {μ0 : lQ} (h0 : oC μ0 ((k, Ol (nE a0) 332) :: []) w) (G : Sl kG 5 μ0 I g.Kids), h6 a0 g = some r → ms false Tryz.prog 299 [(.pointer (some ⟨k, 0, none⟩)), (.agg #[(.int .i64 g.Op), (.int .i64 g.K), (.string g.kD.kE), (.string g.kD.kL), I])] w μ0 ((k, Ol (nE a0) 332) :: []) (fun v L1 μ1 => ∃ y1, v = (.agg #[(.int .i64 ((r.1).Op)), (.int .i64 ((r.1).K)), (.string (((r.1).kD).kE)), (.string (((r.1).kD).kL)), y1]) ∧ L1 = ((k, Ol (nE (r.2)) 332) :: []) ∧ Sl kG 5 μ1 y1 ((r.1).Kids))) (k : Nat) (a0 : mA) (g : Formula) (I : Value) (r : (Formula × mA)) (w : World) {μ0 : lQ} (h0 : oC μ0 ((k, Ol (nE a0) 332) :: []) w) (G : Sl kG 5 μ0 I g.Kids) (hm : tF h6 a0 g = some r) :
  ms false Tryz.prog 299 [(.pointer (some ⟨k, 0, none⟩)), (.agg #[(.int .i64 g.Op), (.int .i64 g.K), (.string g.kD.kE), (.string g.kD.kL), I])] w μ0 ((k, Ol (nE a0) 332) :: []) (fun v L1 μ1 => ∃ y1, v = (.agg #[(.int .i64 ((r.1).Op)), (.int .i64 ((r.1).K)), (.string (((r.1).kD).kE)), (.string (((r.1).kD).kL)), y1]) ∧ L1 = ((k, Ol (nE (r.2)) 332) :: []) ∧ Sl kG 5 μ1 y1 ((r.1).Kids)) := by
 let i0 : Value := (.pointer (some ⟨k, 0, none⟩))
 let b8 := ((k, Ol (nE a0) 332) :: [])
 refine tp h0 82 func299 rfl (fun d => sg ?_)
 obtain ⟨A1, c2, rfl⟩ := G.form
 let a1 := (C2 g.Op g.K g.kD.kE g.kD.kL A1 g.Kids.length c2)
 refine VE (lI d rfl (fun W4 b3 d => VE (lG d aP (fun W6 b5 d => lS (Wf oB (VB d (Mt Mh) rfl rfl cA (Wi rfl (ln (CI hm rfl (fun n1 hm => ?_) (fun n1 hm => ?_))))))))))
 ·refine sg (VA d (Mt Mh) a1 aK aC (VO (lh (.agg a1.toArray) (a1.toArray) d rfl rfl aC oc nb rfl (fun W8 d => ln ?_))))
  replace d := d.kH (Kb (Db St))
  refine lC (lJ ?_)
  obtain rfl := sj hm
  exact nw (v := (.agg a1.toArray)) rfl rfl (kO d.has Mh a1 rfl aK aC) ⟨_, _, _, rfl, (d.mX (Db (Kb Sn))), (lu.refl _), Lo.refl, (ST.lX d (nq.mem (Db (Kb Sn)))), (.slice A1 g.Kids.length c2), rfl, rfl, G⟩
 refine kg (Wa (lS (Wf oA (VB d (Mt Mh) rfl rfl eA (V (ml aD rfl G) (Wm (lH ?_)))))))
 let h9 : Value := (.pointer (some ⟨b5, 0, none⟩))
 refine kU (mf (fun i E W => ∃ b0 U a8 N Q f1, (E 19 = .int .i64 (i : Nat) ∧ E 18 = .int .i64 (g.Kids.length : Nat)) ∧ lu μ0 Q ∧ Lo (keys b8) w μ0 Q ∧ ST false (keys b8) w W Q ((k, Ol (nE N) 332) :: ((b5, Ol C5 58) :: ((b3, Ol a1 58) :: (a8 ++ f1)))) ∧ E 0 = i0 ∧ E 3 = (.pointer (some ⟨b3, 0, none⟩)) ∧ E 4 = h9 ∧ E 5 = b0 ∧ E 17 = (.slice A1 g.Kids.length c2) ∧ lY 58 kG 5 Q b0 U a8 ∧ oz h6 g (g.Kids.drop i) U N = some r) g.Kids.length G.len ⟨(.slice none 0 0), ([]), [], a0, μ0, _, ⟨rfl, rfl⟩, (lu.refl _), Lo.refl, (d.kH (Sb (Pb (Pb Pz)) St)), rfl, rfl, rfl, rfl, rfl, (lY.nil _ _ _ _), hm⟩ dc dc dc (fun _ _ _ h => by obtain ⟨_, _, _, _, _, _, q, _⟩ := h; exact q) ?_ ?_)
 ·rintro m1 E W j6 ⟨b0, U, a8, N, Q, f1, ⟨n, s⟩, H, m, d, c7, c8, c9, e2, f4, Y, u⟩
  obtain ⟨D, n3, l3, l2, l4⟩ := lT j6
  rw [l3] at u
  refine bg (VQ (mU (i := (m1 : Int)) (x0 := D) kG.out aD aC f4 n (G.mono kN.mono H) (aH _) l2) (fun q5 ⟨_, ⟨q9, rfl, f6⟩, j9⟩ => V (kI rfl (lB d.has j9 aK aC)) (VE (lG d aP (fun o0 q1 d => ?_)))))
  obtain ⟨d9, e1, rfl⟩ := f6.form
  let g2 := (C2 D.Op D.K D.kD.kE D.kD.kL d9 D.Kids.length e1)
  refine VO (lh (.agg g2.toArray) (g2.toArray) d rfl rfl aC oc nb rfl (fun o1 d => ln (kW (Wh e2 (Wh c7 (VA d Mh g2 aK aC (bS u fun t k1 u => ?_)))))))
  refine VE (eD d (Cb (Pb Pz) Cn) call299 (fun p => (m0 k N D (.slice d9 D.Kids.length e1) _ _ p (f6.mono kN.mono (lu.refl _)) k1)) ?_)
  rintro _ r0 m8 n5 d f0 A ⟨r6, e3, rfl, f7⟩
  obtain rfl := e3.symm
  replace d := d.perm (Tb Tn)
  obtain ⟨b7, c3, rfl⟩ := f7.form
  let i1 : Value := (.slice b7 ((t.1).Kids).length c3)
  refine VE (lD (cs := #[(.int .i64 ((t.1).Op)), (.int .i64 ((t.1).K)), (.string (((t.1).kD).kE)), (.string (((t.1).kD).kL)), i1]) d (ni rfl) (nj aD aC aP) (fun o3 q2 d => ?_))
  replace d := d.perm (Nr (Qb (Qb (Qb (Qb (Qb Qz))))) Nz)
  refine bS u fun m3 i5 u => VE (pS (B := a8) kN d dc aD na.1 na.2.1 rfl na.2.2.1 na.2.2.2 rfl rfl (Y.mono kN f0) (xL.lit kN (l := [t.1]) (.cons (ys := [(.int .i64 ((t.1).Op)), (.int .i64 ((t.1).K)), (.string (((t.1).kD).kE)), (.string (((t.1).kD).kL)), i1]) (kG.mk ⟨i1, rfl, f7⟩) .nil) rfl nb (d.at_ (Ma Mh))) i5 (fun o4 m5 l8 d i3 => Wa (lH (lL (kU ?_)))))
  replace d := d.kH (Kr (Db (Kb (Db St))))
  exact ⟨n, m5, m3, l8, t.2, m8, _, ⟨rfl, s⟩, (H.trans f0), (m.trans A), (d.kH (Sb (Pr Pz) (Sb (Pr Pz) (Sb (Pr Pz) St)))), c7, c8, c9, rfl, f4, i3, (by rw [l4]; exact u)⟩
 rintro E W ⟨b0, U, a8, N, Q, f1, ⟨n, s⟩, H, m, d, c7, c8, c9, e2, f4, Y, u⟩
 rw [aI] at u
 refine kU (kZ (sg (V (kP oB c8) (VB d (Mt (Mt Mh)) rfl rfl cA (Wi rfl (ln (CI u rfl (fun i6 u => ?_) (fun i6 u => ?_))))))))
 ·refine sg (Wh c7 (V (kP oB c8) (VB d (Mt (Mt Mh)) rfl rfl cA (Wh e2 ?_))))
  replace d := d.perm (Nr (Qb (Qb (Qb Qz))) Nz)
  obtain ⟨s1, d, g7, F, k8⟩ := ST.tJ kN d Y
  refine bS u fun x k2 u => ?_
  let l7 : Value := (.string (((x.1).kD).kL))
  let i2 : Value := (.string (((x.1).kD).kE))
  refine VE (eD d (Cb Pz Cn) call326 (fun p => (vW k N g.Op b0 U _ _ p (k8.mono kN.mono (lu.refl _)) k2)) ?_)
  rintro _ r1 s2 n6 d g8 L ⟨r7, e4, rfl, f8⟩
  obtain rfl := e4.symm
  replace d := d.perm (Tb Tn)
  obtain ⟨b9, c4, rfl⟩ := f8.form
  let g5 : Value := (.slice b9 ((x.1).Kids).length c4)
  let d7 : Value := (.agg #[(.int .i64 ((x.1).Op)), (.int .i64 ((x.1).K)), i2, l7, g5])
  replace d := d.perm (Nb (Pb Pz) Nz)
  refine VO (lh d7 (#[(.int .i64 ((x.1).Op)), (.int .i64 ((x.1).K)), i2, l7, g5]) d c9 rfl aC oc nb rfl (fun o6 d => ln ?_))
  replace d := d.kH (Kb (Kb (Db St)))
  refine lC (lJ ?_)
  obtain rfl := sj u
  exact nw (v := d7) rfl c9 (kO d.has Mh [(.int .i64 ((x.1).Op)), (.int .i64 ((x.1).K)), i2, l7, g5] rfl aK aC) ⟨_, _, _, rfl, (d.mX (Db (Kb Sn))), ((H.trans g7).trans g8), ((m.trans F).trans L), (ST.lX d (nq.mem (Db (Kb Sn)))), g5, rfl, rfl, f8⟩
 refine kg (V (kP sK c8) (VB d (Mt (Mt Mh)) rfl rfl cA (Wa (ln ?_))))
 replace d := d.kH (Kb (Kb (Db St)))
 let o2 := ((nE N).toArray : Array Value)
 refine sg (Wa (lS (Wh e2 (V (qX aD rfl Y) (Wm (ln (CJ u (fun e9 E W => ∃ b1 f3 g3, ST false (keys b8) w W Q ((k, Obj.cells o2 332 (0, 0)) :: ((b5, Ol C5 58) :: (f3 ++ g3))) ∧ E 0 = i0 ∧ E 4 = h9 ∧ E 8 = (.int .i64 e9.1) ∧ E 9 = b1 ∧ lY 58 kG 5 Q b1 e9.2 f3) (fun e9 j8 => ?_) ?_)))))))
 ·refine mf (fun i E W => ∃ a5 a4 a9 T f2, (E 42 = .int .i64 (i : Nat) ∧ E 41 = .int .i64 (U.length : Nat)) ∧ ST false (keys b8) w W Q ((k, Obj.cells o2 332 (0, 0)) :: ((b5, Ol C5 58) :: (T ++ (a8 ++ f2)))) ∧ E 0 = i0 ∧ E 4 = h9 ∧ E 8 = (.int .i64 a5) ∧ E 9 = a4 ∧ E 40 = b0 ∧ lY 58 kG 5 Q a4 a9 T ∧ ob (U.drop i) a5 a9 = some e9) U.length Y.len ⟨g.K, (.slice none 0 0), ([]), [], _, ⟨rfl, rfl⟩, (d.kH St), c7, c9, rfl, rfl, rfl, (lY.nil _ _ _ _), j8⟩ dc dc dc (fun _ _ _ h => by obtain ⟨_, _, _, _, _, q, _⟩ := h; exact q) ?_ ?_
  ·rintro m2 E W j7 ⟨a5, a4, a9, T, f2, ⟨n, s⟩, d, d2, d3, d4, d5, d6, a7, j⟩
   obtain ⟨a, n4, l6, l5, e8⟩ := lT j7
   rw [l6] at j
   refine bg (VQ (mL (i := (m2 : Int)) kG.out aD aC d6 n Y (aH _) l5) (fun q6 ⟨_, ⟨r5, rfl, b6⟩, k0, n2⟩ => V (kI rfl (lB (oD.hp _) (k0.mono (nn (fun b o hq => d.has.2 b o (Mt (Mt (Ma (Ml hq))))))) aK aC)) (VE (lG d aP (fun p5 q3 d => ?_)))))
   obtain ⟨J, K, rfl⟩ := b6.form
   let n0 : Value := (.slice J a.Kids.length K)
   let b4 := (C2 a.Op a.K a.kD.kE a.kD.kL J a.Kids.length K)
   refine VO (lh (.agg b4.toArray) (b4.toArray) d rfl rfl aC oc nb rfl (fun p6 d => lr (VA d Mh b4 aK aC (bS j fun q7 k6 j => VE (Eg d call327 (lE.mR (zw a n0 2 _ _ (b6.mono kN.mono d.kM) k6)) (fun p7 d => ln (CI j rfl (fun j3 j => ?_) (fun j3 j => ?_))))))))
   ·refine kW (Wh d4 (Wi rfl (Wa (lH (lL (kU ?_))))))
    replace d := d.kH (Db St)
    exact ⟨n, (IntKind.i64.wrap (a5 - 1)), a4, a9, T, _, ⟨rfl, s⟩, (d.kH St), d2, d3, rfl, d5, d6, a7, (by rw [e8]; exact j)⟩
   refine sg (VA d Mh b4 aK aC (bS j fun q8 k7 j => VE (Eg d call327 (lE.mR (zw a n0 3 _ _ (b6.mono kN.mono d.kM) k7)) (fun p8 d => V (ol rfl) (ln (CI j rfl (fun j4 j => ?_) (fun j4 j => ?_)))))))
   ·refine kW (Wh d5 (VA d Mh b4 aK aC (VE (lD (cs := b4.toArray) d (ni rfl) (nj aD aC aP) (fun p9 q4 d => ?_)))))
    replace d := d.perm (Nr (Qb (Qb (Qb (Qb Qz)))) Nz)
    refine bS j fun m4 j5 j => VE (pS (B := T) kN d dc aD na.1 na.2.1 rfl na.2.2.1 na.2.2.2 rfl rfl a7 (xL.lit kN (l := [a]) (.cons (ys := C2 a.Op a.K a.kD.kE a.kD.kL J a.Kids.length K) (kG.mk ⟨n0, rfl, b6⟩) .nil) rfl nb (d.at_ (Ma Mh))) j5 (fun q0 m6 l9 d i4 => Wa (lH (lL (kU ?_)))))
    replace d := d.kH (Kr (Db (Db St)))
    exact ⟨n, a5, m6, m4, l9, _, ⟨rfl, s⟩, (d.kH (Sb (Pr Pz) (Sb (Pr Pz) St))), d2, d3, d4, rfl, d6, i4, (by rw [e8]; exact j)⟩
   refine mr (lL (kU ?_))
   replace d := d.kH (Db St)
   exact ⟨n, a5, a4, a9, T, _, ⟨rfl, s⟩, (d.kH St), d2, d3, d4, d5, d6, a7, (by rw [e8]; exact j)⟩
  rintro E W ⟨a5, a4, a9, T, f2, ⟨n, s⟩, d, d2, d3, d4, d5, d6, a7, j⟩
  rw [aI] at j
  refine kU ?_
  obtain rfl := sj j
  exact ⟨a4, T, _, (d.kH (Kb (Kb (Kr (Dr St))))), d2, d3, d4, d5, a7⟩
 rintro ⟨b2, f5⟩ E W ⟨b1, f3, g3, d, g4, M, d0, d1, a6⟩ c
 refine kZ (sg (Wh d0 (Wi rfl (ln (CI c rfl (fun i7 c => ?_) (fun i7 c => ?_))))))
 ·refine sg (V (mB (v := (.agg EG.toArray)) (ni rfl) (mn aP bH (uM _ bH) kr)) ?_)
  replace d := d.perm (Nb (Pb Pz) Nz)
  refine VO (lh (.agg EG.toArray) (EG.toArray) d M rfl aC oc nb rfl (fun o7 d => ln ?_))
  replace d := d.kH (Kb (Kb (Dr St)))
  refine lC (lJ ?_)
  obtain rfl := sj c
  exact nw (v := (.agg EG.toArray)) rfl M (kO d.has Mh EG rfl aK aC) ⟨_, _, _, rfl, (d.mX (Db (Kb Sn))), H, m, (ST.lX d (nq.mem (Db (Kb Sn)))), (.slice none 0 0), rfl, rfl, (Sl.nil _ _ _)⟩
 refine kS (Wh d0 (Wh d1 (V (qX aD rfl a6) (Wi rfl (ln (CI c rfl (fun i8 c => ?_) (fun i8 c => ?_)))))))
 ·refine sg (V (mB (v := (.agg Ga.toArray)) (ni rfl) (mn aP bH (uM _ bH) kr)) ?_)
  replace d := d.perm (Nb (Pb Pz) Nz)
  refine VO (lh (.agg Ga.toArray) (Ga.toArray) d M rfl aC oc nb rfl (fun o8 d => ln ?_))
  replace d := d.kH (Kb (Kb (Dr St)))
  refine lC (lJ ?_)
  obtain rfl := sj c
  exact nw (v := (.agg Ga.toArray)) rfl M (kO d.has Mh Ga rfl aK aC) ⟨_, _, _, rfl, (d.mX (Db (Kb Sn))), H, m, (ST.lX d (nq.mem (Db (Kb Sn)))), (.slice none 0 0), rfl, rfl, (Sl.nil _ _ _)⟩
 refine kS (Wh d0 (Wh d1 (V (qX aD rfl a6) (Wi rfl (ln (CI c rfl (fun i9 c => ?_) (fun i9 c => ?_)))))))
 ·refine sg (Wh g4 (Wh d1 ?_))
  replace d := d.perm (Nr (Qb (Qb Qz)) Nz)
  obtain ⟨s3, d, g9, O, k9⟩ := ST.tJ kN d a6
  refine bS c fun y k3 c => ?_
  let m7 : Value := (.string (((y.1).kD).kL))
  let j1 : Value := (.string (((y.1).kD).kE))
  refine VE (eD d (Cb Pz Cn) call326 (fun p => (vW k N 2 b1 f5 _ _ p (k9.mono kN.mono (lu.refl _)) k3)) ?_)
  rintro _ r2 s4 n7 d h1 P ⟨r8, e5, rfl, f9⟩
  obtain rfl := e5.symm
  replace d := d.perm (Tb Tn)
  obtain ⟨c0, c5, rfl⟩ := f9.form
  let g6 : Value := (.slice c0 ((y.1).Kids).length c5)
  let d8 : Value := (.agg #[(.int .i64 ((y.1).Op)), (.int .i64 ((y.1).K)), j1, m7, g6])
  replace d := d.perm (Nb (Pb Pz) Nz)
  refine VO (lh d8 (#[(.int .i64 ((y.1).Op)), (.int .i64 ((y.1).K)), j1, m7, g6]) d M rfl aC oc nb rfl (fun p0 d => lt (lJ ?_)))
  obtain rfl := sj c
  exact nw (v := d8) rfl M (kO d.has Mh [(.int .i64 ((y.1).Op)), (.int .i64 ((y.1).K)), j1, m7, g6] rfl aK aC) ⟨_, _, _, rfl, (d.mX (Db (Kb Sn))), ((H.trans g9).trans h1), ((m.trans O).trans P), (ST.lX d (nq.mem (Db (Kb Sn)))), g6, rfl, rfl, f9⟩
 refine kS (Wh d0 (Wi rfl (ln (CI c rfl (fun j0 c => ?_) (fun j0 c => ?_)))))
 ·refine sg (Wh g4 (Wh d1 ?_))
  replace d := d.perm (Nr (Qb (Qb Qz)) Nz)
  obtain ⟨s5, d, h2, R, l0⟩ := ST.tJ kN d a6
  refine bS c fun z k4 c => ?_
  let m9 : Value := (.string (((z.1).kD).kL))
  let j2 : Value := (.string (((z.1).kD).kE))
  refine VE (eD d (Cb Pz Cn) call326 (fun p => (vW k N 3 b1 f5 _ _ p (l0.mono kN.mono (lu.refl _)) k4)) ?_)
  rintro _ r3 s6 n8 d h3 aa ⟨r9, e6, rfl, g0⟩
  obtain rfl := e6.symm
  replace d := d.perm (Tb Tn)
  obtain ⟨c1, c6, rfl⟩ := g0.form
  let h7 : Value := (.slice c1 ((z.1).Kids).length c6)
  let e0 : Value := (.agg #[(.int .i64 ((z.1).Op)), (.int .i64 ((z.1).K)), j2, m9, h7])
  replace d := d.perm (Nb (Pb Pz) Nz)
  refine VO (lh e0 (#[(.int .i64 ((z.1).Op)), (.int .i64 ((z.1).K)), j2, m9, h7]) d M rfl aC oc nb rfl (fun p2 d => lt (lJ ?_)))
  obtain rfl := sj c
  exact nw (v := e0) rfl M (kO d.has Mh [(.int .i64 ((z.1).Op)), (.int .i64 ((z.1).K)), j2, m9, h7] rfl aK aC) ⟨_, _, _, rfl, (d.mX (Db (Kb Sn))), ((H.trans h2).trans h3), ((m.trans R).trans aa), (ST.lX d (nq.mem (Db (Kb Sn)))), h7, rfl, rfl, g0⟩
 refine kg (Wh d0 (Wh d1 ?_))
 replace d := d.perm (Nr (Qb (Qb Qz)) Nz)
 obtain ⟨s7, d, h4, ab, l1⟩ := ST.tJ kN d a6
 refine bS c fun a3 k5 c => ?_
 refine VE (eD d (aY _) call328 (fun p => (Dw b1 f5 false _ _ p (l1.mono kN.mono (lu.refl _)) k5)) ?_ (L0 := []))
 rintro _ r4 s8 n9 d h5 ad ⟨s0, e7, rfl, g1⟩
 obtain rfl := e7.symm
 obtain ⟨Z, a2, rfl⟩ := g1.form
 let h8 := (TF b2 Z a3.length a2)
 refine V (mB (v := (.agg h8.toArray)) (A8 rfl rfl rfl) (mn aP bH (uM _ bH) kr)) ?_
 replace d := d.perm (Nb (Pb Pz) Nz)
 refine VO (lh (.agg h8.toArray) (h8.toArray) d M rfl aC oc nb rfl (fun p4 d => lt ?_))
 obtain rfl := sj c
 exact nw (v := (.agg h8.toArray)) rfl M (kO d.has Mh h8 rfl aK aC) ⟨_, _, _, rfl, (d.mX (Db (Kb Sn))), ((H.trans h4).trans h5), ((m.trans ab).trans ad), (ST.lX d (nq.mem (Db (Kb Sn)))), (.slice Z a3.length a2), rfl, rfl, g1⟩
theorem yF : ∀ (n : Nat) (c : Nat) (j : mA) (g : Formula) (a : Value) (r : (Formula × mA)) (w : World) {k : lQ} (y : oC k ((c, Ol (nE j) 332) :: []) w) (i : Sl kG 5 k a g.Kids) (_ : og n j g = some r),
  ms false Tryz.prog 299 [(.pointer (some ⟨c, 0, none⟩)), (.agg #[(.int .i64 g.Op), (.int .i64 g.K), (.string g.kD.kE), (.string g.kD.kL), a])] w k ((c, Ol (nE j) 332) :: []) (fun v u x => ∃ t, v = (.agg #[(.int .i64 ((r.1).Op)), (.int .i64 ((r.1).K)), (.string (((r.1).kD).kE)), (.string (((r.1).kD).kL)), t]) ∧ u = ((c, Ol (nE (r.2)) 332) :: []) ∧ Sl kG 5 x t ((r.1).Kids))
 | 0 => by intros; rename_i h; simp only [og] at h; cases h
 | n + 1 => A0 (og n) (yF n)
theorem HJ (c : Formula) (u : Value) (r : (Formula × Int)) (w : World) {Z : lQ} (A : oC Z [] w) (k : Sl kG 5 Z u c.Kids) (hm : zy c = some r) :
  ms false Tryz.prog 266 [(.agg #[(.int .i64 c.Op), (.int .i64 c.K), (.string c.kD.kE), (.string c.kD.kL), u])] w Z [] (fun v L1 μ1 => ∃ q, v = (.tuple #[(.agg #[(.int .i64 ((r.1).Op)), (.int .i64 ((r.1).K)), (.string (((r.1).kD).kE)), (.string (((r.1).kD).kL)), q]), (.int .i64 (r.2))]) ∧ L1 = [] ∧ Sl kG 5 μ1 q ((r.1).Kids)) := by
 refine tp A 26 func266 rfl (fun b => sg ?_)
 obtain ⟨H, I, rfl⟩ := k.form
 let n := (C2 c.Op c.K c.kD.kE c.kD.kL H c.Kids.length I)
 refine VE (lI b rfl (fun W4 L b => VE (lG b aP (fun W6 p b => Wa (lS (VA b (Mt Mh) n aK aC (bS hm fun r7 a5 hm => VE (Eg b call92 (wW c (.slice H c.Kids.length I) _ _ (k.mono kN.mono b.kM) a5) (fun W9 b => V (ol rfl) (ln (CI hm rfl (fun Q hm => ?_) (fun Q hm => ?_))))))))))))
 ·refine sg (V (mB (v := (.agg C5.toArray)) rp (mn aP bH (uM _ bH) kr)) (VO (lh (.agg C5.toArray) (C5.toArray) b rfl rfl aC oc nb rfl (fun P b => Wa (ln ?_)))))
  replace b := b.kH (Kb (Db St))
  refine lC (lJ ?_)
  obtain rfl := sj hm
  exact qZ (v0 := (.agg C5.toArray)) (v1 := (.int .i64 11)) rfl rfl (kO b.has Mh C5 rfl aK aC) rfl ⟨_, _, _, rfl, (b.mX Sn), (lu.refl _), Lo.refl, (ST.lX b (nq.mem Sn)), (.slice none 0 0), rfl, rfl, (Sl.nil _ _ _)⟩
 refine kg (V (mB (v := (.agg (nE (⟨false⟩ : mA)).toArray)) rp (mn zeroValue332 kc (SU _ kc) kr)) (VE (lI b rfl (fun R s b => Wa (lr (Wm (VA b (Mt (Mt Mh)) n aK aC (bS hm fun a U hm => ?_))))))))
 let m : Value := (.int .i64 ((a.1).K))
 let l : Value := (.int .i64 ((a.1).Op))
 let h : Value := (.string (((a.1).kD).kL))
 let a2 : Value := (.string (((a.1).kD).kE))
 refine VE (eD b (Cb Pz Cn) call299 (fun F => ((yF lF) s (⟨false⟩ : mA) c (.slice H c.Kids.length I) _ _ F (k.mono kN.mono (lu.refl _)) U)) ?_)
 rintro _ c7 a9 O b D d ⟨c9, y, rfl, z⟩
 obtain rfl := y.symm
 replace b := b.perm (Tb Tn)
 refine VE (lG b aP (fun c0 K b => ?_))
 obtain ⟨i, j, rfl⟩ := z.form
 let a0 : Value := (.slice i ((a.1).Kids).length j)
 let N : Value := (.agg #[l, m, a2, h, a0])
 refine VO (lh N (#[l, m, a2, h, a0]) b rfl rfl aC oc nb rfl (fun c1 b => ln ?_))
 replace b := b.kH (Kb (Kb (Kb (Db St))))
 refine kZ (sg (Wm (Wn (Wf Iw (VB b (Mt Mh) rfl rfl isAgg4 (Wm (LJ hm (fun M E W => ∃ J, ST false (keys []) w W a9 ((K, Ob #[l, m, a2, h, a0] 58) :: ((p, Ol C5 58) :: J)) ∧ E 2 = (.pointer (some ⟨p, 0, none⟩)) ∧ E 5 = (.pointer (some ⟨K, 0, none⟩)) ∧ E 23 = (.bool M)) 4 ?_ (fun M t G => ?_))))))))
 ·rintro c8 E W ⟨J, b, B, a3, a4⟩ x
  refine ln (CI x a4 (fun T x => ?_) (fun T x => ?_))
  ·refine sg (V (mB (v := (.agg C5.toArray)) rp (mn aP bH (uM _ bH) kr)) ?_)
   replace b := b.perm (Nb (Pb Pz) Nz)
   refine VO (lh (.agg C5.toArray) (C5.toArray) b B rfl aC oc nb rfl (fun c3 b => Wa (ln ?_)))
   replace b := b.kH (Kb (Db St))
   refine lC (lJ ?_)
   obtain rfl := sj x
   exact qZ (v0 := (.agg C5.toArray)) (v1 := (.int .i64 12)) rfl B (kO b.has Mh C5 rfl aK aC) rfl ⟨_, _, _, rfl, (b.mX Sn), D, d, (ST.lX b (nq.mem Sn)), (.slice none 0 0), rfl, rfl, (Sl.nil _ _ _)⟩
  refine kg (V (kI a3 (kO b.has Mh [l, m, a2, h, a0] rfl aK aC)) ?_)
  replace b := b.perm (Nb (Pb Pz) Nz)
  refine VO (lh N (#[l, m, a2, h, a0]) b B rfl aC oc nb rfl (fun c4 b => Wa (ln ?_)))
  replace b := b.kH (Kb (Db St))
  refine lC ?_
  obtain rfl := sj x
  exact qZ (v0 := N) (v1 := (.int .i64 0)) rfl B (kO b.has Mh [l, m, a2, h, a0] rfl aK aC) rfl ⟨_, _, _, rfl, (b.mX Sn), D, d, (ST.lX b (nq.mem Sn)), a0, rfl, rfl, z⟩
 refine bC t (fun g t => ?_) (fun g t => ?_)
 ·refine un g (un g (un g (V (lj (cB g) rfl) ?_)))
  obtain rfl := sj t
  exact G _ _ ⟨_, (b.kH (Kb (Db St))), rfl, rfl, rfl⟩
 refine ug g (kI rfl (kO b.has Mh [l, m, a2, h, a0] rfl aK aC)) (bS t fun c6 Y t => tm g (Eg b call92 (wW a.1 a0 _ _ (z.mono kN.mono b.kM) Y) (fun c5 b => ug g (ol rfl) (V (ll (cB g) rfl) ?_))))
 obtain rfl := sj t
 exact G _ _ ⟨_, (b.kH (Kb (Db St))), rfl, rfl, rfl⟩
theorem Lc (k : Value) (u : List kF) (g : kF) (r : Bool) (w : World) (j : Sl (Pl kK) 9 (hp w) k u) (hm : AK u g = some r) :
  lE true Tryz.prog 30 [k, (.agg (kK g).toArray)] w (.bool r) := by
 refine cG 17 func30 rfl (fun b => sg (VE (lI b rfl (fun Y J b => Wa (lS (Wm (V (ml aS rfl j) (Wm (ln ?_)))))))))
 refine mf (fun i E W => ∃ t, (E 9 = .int .i64 (i : Nat) ∧ E 8 = .int .i64 (u.length : Nat)) ∧ ST true lU w W (hp w) ((J, Ol (kK g) 52) :: t) ∧ E 3 = (.pointer (some ⟨J, 0, none⟩)) ∧ E 7 = k ∧ xY g (u.drop i) = some r) u.length j.len ⟨_, ⟨rfl, rfl⟩, (b.kH St), rfl, rfl, hm⟩ dc dc dc (fun _ _ _ h => by obtain ⟨_, l, _⟩ := h; exact l) ?_ ?_
 ·rintro K E W B ⟨t, ⟨d, m⟩, b, x, y, a⟩
  obtain ⟨c, M, H, G, I⟩ := lT B
  rw [H] at a
  refine bg (VQ (oH (enc := kK) (i := (K : Int)) (x0 := c) aS aO y d j (aH _) G) (fun U D => V (kI rfl (lB b.has D bX aO)) (VE (lG b cW (fun N T b => VO (lh (.agg (kK c).toArray) ((kK c).toArray) b rfl rfl aO (oQ c) nb rfl (fun Q b => lr (VA b Mh (kK c) bX aO (V (kI x (kO b.has (Mt Mh) (kK g) rfl bX aO)) (V (uY rfl rfl (nW fK) (ra (vN _ c g))) (lH ?_)))))))))))
  refine kU ?_
  replace b := b.kH (Db St)
  refine CI a rfl (fun z a => ?_) (fun z a => ?_)
  ·refine sg (Wa (ln ?_))
   replace b := b.kH (Db St)
   refine lC (nC (lJ (nC (lJ ?_))))
   obtain rfl := sj a
   exact rP b
  exact mr (lL (kU ⟨d, _, ⟨rfl, m⟩, (b.kH St), x, y, (by rw [I]; exact a)⟩))
 rintro E W ⟨t, ⟨d, m⟩, b, x, y, a⟩
 rw [aI] at a
 refine kU ?_
 replace b := b.kH (Db St)
 exact sg (Wa (lt (rQ a b)))
set_option maxHeartbeats 1000000 in
theorem MG (Y : lW) (b3 c5 : Value) (p : kF) (r : (Formula × Int)) (w : World) {μ0 : lQ} (h0 : oC μ0 [] w) (I : Sl kY 15 μ0 b3 Y.kQ) (Q : Sl lO 8 μ0 c5 Y.li) (hm : BB Y p = some r) :
  ms false Tryz.prog 217 [(.agg #[(.string Y.Name), b3, c5]), (.agg (kK p).toArray)] w μ0 [] (fun v L1 μ1 => ∃ y1, v = (.tuple #[(.agg #[(.int .i64 ((r.1).Op)), (.int .i64 ((r.1).K)), (.string (((r.1).kD).kE)), (.string (((r.1).kD).kL)), y1]), (.int .i64 (r.2))]) ∧ L1 = [] ∧ Sl kG 5 μ1 y1 ((r.1).Kids)) := by
 refine tp h0 62 func217 rfl (fun b => sg ?_)
 obtain ⟨A1, c2, rfl⟩ := I.form
 obtain ⟨A3, c4, rfl⟩ := Q.form
 refine VE (lI b rfl (fun W6 b5 b => VE (lI b rfl (fun W8 O b => VE (lG b aP (fun p4 P b => Wa (lS (Wf oU (VB b (Mt (Mt Mh)) rfl rfl eX (V (ml bK rfl I) (Wm (ln ?_))))))))))))
 refine mf (fun i E W => ∃ e6, (E 15 = .int .i64 (i : Nat) ∧ E 14 = .int .i64 (Y.kQ.length : Nat)) ∧ ST false (keys []) w W μ0 ((P, Ol C5 58) :: ((O, Ol (kK p) 52) :: ((b5, Ol (C4 Y.Name A1 Y.kQ.length c2 A3 Y.li.length c4) 25) :: e6))) ∧ E 2 = (.pointer (some ⟨b5, 0, none⟩)) ∧ E 3 = (.pointer (some ⟨O, 0, none⟩)) ∧ E 4 = (.pointer (some ⟨P, 0, none⟩)) ∧ E 13 = (.slice A1 Y.kQ.length c2) ∧ wT p Y (Y.kQ.drop i) = some r) Y.kQ.length I.len ⟨_, ⟨rfl, rfl⟩, (b.kH St), rfl, rfl, rfl, rfl, hm⟩ dc dc dc (fun _ _ _ h => by obtain ⟨_, F, _⟩ := h; exact F) ?_ ?_
 ·let f2 : Value := (.pointer (some ⟨P, 0, none⟩))
  rintro k8 E W i4 ⟨e6, ⟨A, R⟩, b, f0, d2, b0, f1, t⟩
  obtain ⟨c, l6, j7, j6, j8⟩ := lT i4
  rw [j7] at t
  refine bg (VQ (mU (i := (k8 : Int)) (x0 := c) kY.out bK cR f1 A I (aH _) j6) (fun n6 ⟨_, ⟨n9, o0, rfl, j4, f3⟩, i7⟩ => V (kI rfl (lB b.has i7 iX cR)) (VE (lG b eG (fun m1 n5 b => ?_)))))
  obtain ⟨g0, g4, rfl⟩ := j4.form
  obtain ⟨c7, d0, rfl⟩ := f3.form
  let a0 := (C3 c.Signed.kF.Kind c.Signed.kF.Head.kE c.Signed.kF.Head.kL c.Signed.kF.ma c.Signed.kF.B.kE c.Signed.kF.B.kL c.Signed.kF.C.kE c.Signed.kF.C.kL c.Signed.kF.mc g0 c.Signed.Tag.length g4 c.kJ.Op c.kJ.K c.kJ.kD.kE c.kJ.kD.kL c7 c.kJ.Kids.length d0)
  refine VO (lh (.agg a0.toArray) (a0.toArray) b rfl rfl cR oc nb rfl (fun m2 b => lS (Wf wP (Wf yB (VA b Mh (kK c.Signed.kF) bX aO (V (kI d2 (kO b.has (Mt (Mt Mh)) (kK p) rfl bX aO)) (V (Ed rfl rfl (nW fK) (Al (vN _ c.Signed.kF p))) (ln (CI t rfl (fun i1 t => ?_) (fun i1 t => ?_))))))))))
  ·refine nT (nJ (qE (kU ?_)))
   replace b := b.kH (Db St)
   exact ⟨A, _, ⟨rfl, R⟩, (b.kH St), f0, d2, b0, f1, (by rw [j8]; exact t)⟩
  refine kg (Wf Fc (VA b Mh (C2 c.kJ.Op c.kJ.K c.kJ.kD.kE c.kJ.kD.kL c7 c.kJ.Kids.length d0) aK aC (bS t fun j i9 t => ?_)))
  refine VE (eD b (aY _) call266 (fun hh => (HJ c.kJ (.slice c7 c.kJ.Kids.length d0) _ _ hh (f3.mono kN.mono (lu.refl _)) i9)) ?_ (L0 := []))
  rintro _ o1 c0 l9 b c3 m ⟨o6, e0, rfl, f8⟩
  obtain rfl := e0.symm
  refine Wm (Wx rfl (Wx rfl (VE (lG b aP (fun m4 a5 b => ?_)))))
  let g5 : Value := (.pointer (some ⟨a5, 0, none⟩))
  obtain ⟨e4, e8, rfl⟩ := f8.form
  let g6 : Value := (.slice e4 ((j.1).Kids).length e8)
  refine VO (lh (.agg #[(.int .i64 ((j.1).Op)), (.int .i64 ((j.1).K)), (.string (((j.1).kD).kE)), (.string (((j.1).kD).kL)), g6]) (#[(.int .i64 ((j.1).Op)), (.int .i64 ((j.1).K)), (.string (((j.1).kD).kE)), (.string (((j.1).kD).kL)), g6]) b rfl rfl aC oc nb rfl (fun m5 b => Wa (ln ?_)))
  replace b := b.kH (Kb (Db St))
  refine kZ (sg (V (kP AX f0) (VB b (Mt (Mt (Mt Mh))) rfl rfl kl (V (ml cX rfl Q) (Wm (ln ?_))))))
  replace b := b.kH (Kb (Kb (Kb (Db St))))
  refine CJ t (fun T E W => ∃ d9 c1 g1, lu c0 c1 ∧ Lo (keys []) w c0 c1 ∧ ST false (keys []) w W c1 ((a5, Ob #[(.int .i64 T.2.1), (.int .i64 T.2.2.1), (.string T.2.2.2.1.kE), (.string T.2.2.2.1.kL), d9] 58) :: ((P, Ol C5 58) :: g1)) ∧ E 4 = f2 ∧ E 8 = g5 ∧ E 9 = (.int .i64 T.1) ∧ Sl kG 5 c1 d9 T.2.2.2.2) (fun T i6 => ?_) ?_
  ·refine mf (fun i E W => ∃ L u x g U z J e7, (E 33 = .int .i64 (i : Nat) ∧ E 32 = .int .i64 (Y.li.length : Nat)) ∧ lu c0 J ∧ Lo (keys []) w c0 J ∧ ST false (keys []) w W J ((a5, Ob #[(.int .i64 u), (.int .i64 x), (.string g.kE), (.string g.kL), U] 58) :: ((P, Ol C5 58) :: ((O, Ol (kK p) 52) :: e7))) ∧ E 3 = (.pointer (some ⟨O, 0, none⟩)) ∧ E 4 = f2 ∧ E 8 = g5 ∧ E 9 = (.int .i64 L) ∧ E 31 = (.slice A3 Y.li.length c4) ∧ Sl kG 5 J U z ∧ tY p (Y.li.drop i) L u x g z = some T) Y.li.length Q.len ⟨j.2, ((j.1).Op), ((j.1).K), ((j.1).kD), g6, ((j.1).Kids), c0, _, ⟨rfl, rfl⟩, (lu.refl _), Lo.refl, (b.kH St), d2, b0, rfl, rfl, rfl, f8, i6⟩ dc dc dc (fun _ _ _ h => by obtain ⟨_, _, _, _, _, _, _, _, F, _⟩ := h; exact F) ?_ ?_
   ·rintro h4 E W i5 ⟨L, u, x, g, U, z, J, e7, ⟨A, R⟩, Z, d, b, d4, d5, d6, b1, d7, a3, K⟩
    obtain ⟨a, l7, k0, j9, f7⟩ := lT i5
    rw [k0] at K
    refine bg (VQ (mU (i := (h4 : Int)) (x0 := a) lO.out cX dX d7 A (Q.mono me.mono (c3.trans Z)) (aH _) j9) (fun n7 ⟨_, ⟨o2, o3, rfl, f5, f6⟩, i8⟩ => V (kI rfl (lB b.has i8 jU dX)) (VE (lG b iI (fun m8 g3 b => ?_)))))
    obtain ⟨D, G, rfl⟩ := f5.form
    let h6 : Value := (.slice D a.kJ.Kids.length G)
    obtain ⟨c8, d1, rfl⟩ := f6.form
    let b8 := (C7 a.kD.kE a.kD.kL a.kJ.Op a.kJ.K a.kJ.kD.kE a.kJ.kD.kL D a.kJ.Kids.length G c8 a.nf.length d1)
    refine VO (lh (.agg b8.toArray) (b8.toArray) b rfl rfl dX oc nb rfl (fun m9 b => lr (Wh b1 (Wi rfl (Wm (LJ K (fun h5 E W => ∃ g2, ST false (keys []) w W J ((g3, Ol b8 87) :: ((a5, Ob #[(.int .i64 u), (.int .i64 x), (.string g.kE), (.string g.kL), U] 58) :: ((P, Ol C5 58) :: ((O, Ol (kK p) 52) :: g2)))) ∧ E 3 = (.pointer (some ⟨O, 0, none⟩)) ∧ E 4 = f2 ∧ E 8 = g5 ∧ E 9 = (.int .i64 L) ∧ E 11 = (.pointer (some ⟨g3, 0, none⟩)) ∧ E 31 = (.slice A3 Y.li.length c4) ∧ E 32 = (.int .i64 (Y.li.length : Int)) ∧ E 33 = (.int .i64 (h4 : Int)) ∧ E 44 = (.bool h5)) 5 ?_ (fun h5 N e3 => ?_)))))))
    ·rintro o5 E W ⟨g2, b, g8, g9, d8, k5, k6, h1, h2, h3, k7⟩ M
     refine ln (CI M k7 (fun i3 M => ?_) (fun i3 M => ?_))
     ·refine kW (V (kI d8 (kO b.has (Mt Mh) [(.int .i64 u), (.int .i64 x), (.string g.kE), (.string g.kL), U] rfl aK aC)) (V (kP Ft k6) (VA b Mh (C2 a.kJ.Op a.kJ.K a.kJ.kD.kE a.kJ.kD.kL D a.kJ.Kids.length G) aK aC ?_)))
      obtain ⟨a4, a6, rfl⟩ := a3.form
      refine VE (lD (cs := #[(.int .i64 u), (.int .i64 x), (.string g.kE), (.string g.kL), (.slice a4 z.length a6), (.int .i64 a.kJ.Op), (.int .i64 a.kJ.K), (.string a.kJ.kD.kE), (.string a.kJ.kD.kL), h6]) b (oJ rfl rfl) (nj aD aC aP) (fun n0 c9 b => V (mB (v := (.agg #[(.int .i64 2), (.int .i64 0), (.string zS), (.string zS), (.slice (some ⟨c9, 0, none⟩) 2 2)])) (oJ rfl rfl) (mn aP bH (uM _ bH) kr)) ?_))
      obtain ⟨o8, b, h7, q, j5⟩ := ST.tJ (B := [(c9, Ob #[(.int .i64 u), (.int .i64 x), (.string g.kE), (.string g.kL), (.slice a4 z.length a6), (.int .i64 a.kJ.Op), (.int .i64 a.kJ.K), (.string a.kJ.kD.kE), (.string a.kJ.kD.kL), h6] 58)]) kN b (lY.lit kN (l := [(⟨u, x, g, z⟩ : Formula), a.kJ]) (.cons (ys := C2 u x g.kE g.kL a4 z.length a6) (kG.mk ⟨(.slice a4 z.length a6), rfl, a3⟩) (.cons (ys := C2 a.kJ.Op a.kJ.K a.kJ.kD.kE a.kJ.kD.kL D a.kJ.Kids.length G) (kG.mk ⟨h6, rfl, f5⟩) .nil)) rfl nb rfl)
      refine bS M fun k j0 M => ?_
      refine VE (eD b (aY _) call266 (fun hh => (HJ (⟨2, 0, K0, [(⟨u, x, g, z⟩ : Formula), a.kJ]⟩ : Formula) (.slice (some ⟨c9, 0, none⟩) 2 2) _ _ hh (j5.mono kN.mono (lu.refl _)) j0)) ?_ (L0 := []))
      rintro _ o4 l0 m0 b h8 s ⟨o7, e1, rfl, f9⟩
      obtain rfl := e1.symm
      refine Wm (Wx rfl (Wx rfl ?_))
      obtain ⟨e5, e9, rfl⟩ := f9.form
      let h9 : Value := (.slice e5 ((k.1).Kids).length e9)
      replace b := b.perm (Nb (Pb Pz) Nz)
      refine VO (lh (.agg #[(.int .i64 ((k.1).Op)), (.int .i64 ((k.1).K)), (.string (((k.1).kD).kE)), (.string (((k.1).kD).kL)), h9]) (#[(.int .i64 ((k.1).Op)), (.int .i64 ((k.1).K)), (.string (((k.1).kD).kE)), (.string (((k.1).kD).kL)), h9]) b d8 rfl aC oc nb rfl (fun n2 b => Wa (lH (lL (kU ?_)))))
      replace b := b.kH (Kb (Db St))
      exact ⟨h3, k.2, ((k.1).Op), ((k.1).K), ((k.1).kD), h9, ((k.1).Kids), l0, _, ⟨rfl, h2⟩, ((Z.trans h7).trans h8), ((d.trans q).trans s), (b.kH St), g8, g9, d8, rfl, h1, f9, (by rw [f7]; exact M)⟩
     refine mr (lL (kU ?_))
     replace b := b.kH (Db St)
     exact ⟨h3, L, u, x, g, U, z, J, _, ⟨rfl, h2⟩, Z, d, (b.kH St), g8, g9, d8, k5, h1, a3, (by rw [f7]; exact M)⟩
    refine bC N (fun y N => ?_) (fun y N => ?_)
    ·refine ug y (kP Fv rfl) (ug y (kI rfl (lg b.has Mh rfl kC)) (ug y (kI d4 (kO b.has (Mt (Mt (Mt Mh))) (kK p) rfl bX aO)) (bS N fun n8 j3 N => tm y (Eg b call30 (lE.mR (Lc (.slice c8 a.nf.length d1) a.nf p _ _ (f6.mono (Pl.mono _) b.kM) j3)) (fun n3 b => V (lj (cB y) rfl) ?_)))))
     obtain rfl := sj N
     exact e3 _ _ ⟨_, (b.kH St), d4, d5, d6, b1, rfl, d7, R, A, rfl⟩
    refine un y (un y (un y (un y (V (ll (cB y) rfl) ?_))))
    obtain rfl := sj N
    exact e3 _ _ ⟨_, (b.kH St), d4, d5, d6, b1, rfl, d7, R, A, rfl⟩
   rintro E W ⟨L, u, x, g, U, z, J, e7, ⟨A, R⟩, Z, d, b, d4, d5, d6, b1, d7, a3, K⟩
   rw [aI] at K
   refine kU ?_
   obtain rfl := sj K
   exact ⟨U, J, _, Z, d, (b.kH (Kb (Kb (Db St)))), d5, d6, b1, a3⟩
  rintro ⟨k9, b4, b6, H, b2⟩ E W ⟨d9, c1, g1, e2, n, b, d3, k4, g7, f4⟩ a2
  refine kZ (sg (Wh g7 (Wi rfl (ln (CI a2 rfl (fun i2 a2 => ?_) (fun i2 a2 => ?_))))))
  ·refine sg (V (mB (v := (.agg C5.toArray)) rp (mn aP bH (uM _ bH) kr)) (Wh g7 ?_))
   replace b := b.perm (Nb (Pb Pz) Nz)
   refine VO (lh (.agg C5.toArray) (C5.toArray) b d3 rfl aC oc nb rfl (fun m6 b => Wa (ln ?_)))
   replace b := b.kH (Kb (Db St))
   refine lC (lJ (nC (lJ (nC (lJ ?_)))))
   obtain rfl := sj a2
   exact qZ (v0 := (.agg C5.toArray)) (v1 := (.int .i64 k9)) rfl d3 (kO b.has Mh C5 rfl aK aC) rfl ⟨_, _, _, rfl, (b.mX Sn), (c3.trans e2), (m.trans n), (ST.lX b (nq.mem Sn)), (.slice none 0 0), rfl, rfl, (Sl.nil _ _ _)⟩
  refine kg (V (kI k4 (kO b.has Mh [(.int .i64 b4), (.int .i64 b6), (.string H.kE), (.string H.kL), d9] rfl aK aC)) ?_)
  obtain ⟨a8, a9, rfl⟩ := f4.form
  let c6 := (C2 b4 b6 H.kE H.kL a8 b2.length a9)
  replace b := b.perm (Nb (Pb Pz) Nz)
  refine VO (lh (.agg c6.toArray) (c6.toArray) b d3 rfl aC oc nb rfl (fun m7 b => Wa (ln ?_)))
  replace b := b.kH (Kb (Db St))
  refine lC (nC (lJ (nC (lJ ?_))))
  obtain rfl := sj a2
  exact qZ (v0 := (.agg c6.toArray)) (v1 := (.int .i64 0)) rfl d3 (kO b.has Mh c6 rfl aK aC) rfl ⟨_, _, _, rfl, (b.mX Sn), (c3.trans e2), (m.trans n), (ST.lX b (nq.mem Sn)), (.slice a8 b2.length a9), rfl, rfl, f4⟩
 rintro E W ⟨e6, ⟨A, R⟩, b, f0, d2, b0, f1, t⟩
 rw [aI] at t
 refine kU ?_
 replace b := b.kH (Kb (Db (Db St)))
 refine sg (V (mB (v := (.agg C5.toArray)) rp (mn aP bH (uM _ bH) kr)) (VO (lh (.agg C5.toArray) (C5.toArray) b b0 rfl aC oc nb rfl (fun n4 b => Wa (lt ?_)))))
 obtain rfl := sj t
 exact qZ (v0 := (.agg C5.toArray)) (v1 := (.int .i64 42)) rfl b0 (kO b.has Mh C5 rfl aK aC) rfl ⟨_, _, _, rfl, (b.mX Sn), (lu.refl _), Lo.refl, (ST.lX b (nq.mem Sn)), (.slice none 0 0), rfl, rfl, (Sl.nil _ _ _)⟩
theorem Lb (k : Value) (u : List kD) (g : kD) (r : Bool) (w : World) (j : Sl (Pl kR) 2 (hp w) k u) (hm : AE u g = some r) :
  lE true Tryz.prog 163 [k, (.agg (kR g).toArray)] w (.bool r) := by
 refine cG 17 func163 rfl (fun b => sg (VE (lI b rfl (fun Y J b => Wa (lS (Wm (V (ml fD rfl j) (Wm (ln ?_)))))))))
 refine mf (fun i E W => ∃ t, (E 9 = .int .i64 (i : Nat) ∧ E 8 = .int .i64 (u.length : Nat)) ∧ ST true lU w W (hp w) ((J, Ol (kR g) 50) :: t) ∧ E 3 = (.pointer (some ⟨J, 0, none⟩)) ∧ E 7 = k ∧ xX g (u.drop i) = some r) u.length j.len ⟨_, ⟨rfl, rfl⟩, (b.kH St), rfl, rfl, hm⟩ dc dc dc (fun _ _ _ h => by obtain ⟨_, l, _⟩ := h; exact l) ?_ ?_
 ·rintro K E W B ⟨t, ⟨d, m⟩, b, x, y, a⟩
  obtain ⟨c, M, H, G, I⟩ := lT B
  rw [H] at a
  refine bg (VQ (oH (enc := kR) (i := (K : Int)) (x0 := c) fD aR y d j (aH _) G) (fun U D => V (kI rfl (lB b.has D bI aR)) (VE (lG b fF (fun N T b => VO (lh (.agg (kR c).toArray) ((kR c).toArray) b rfl rfl aR (xd c) nb rfl (fun Q b => lr (VA b Mh (kR c) bI aR (V (kI x (kO b.has (Mt Mh) (kR g) rfl bI aR)) (V (uY rfl rfl (nW eL) (ra (qf _ c g))) (lH ?_)))))))))))
  refine kU ?_
  replace b := b.kH (Db St)
  refine CI a rfl (fun z a => ?_) (fun z a => ?_)
  ·refine sg (Wa (ln ?_))
   replace b := b.kH (Db St)
   refine lC (nC (lJ (nC (lJ ?_))))
   obtain rfl := sj a
   exact rP b
  exact mr (lL (kU ⟨d, _, ⟨rfl, m⟩, (b.kH St), x, y, (by rw [I]; exact a)⟩))
 rintro E W ⟨t, ⟨d, m⟩, b, x, y, a⟩
 rw [aI] at a
 refine kU ?_
 replace b := b.kH (Db St)
 exact sg (Wa (lt (rQ a b)))
theorem FO (N : Formula → (List kD) → Option Bool) (a5 : ∀ (g : Formula) (k : Value) (t : Value) (H : List kD) (r : Bool) (w : World) (c : Sl kG 5 (hp w) k g.Kids) (J : Sl (Pl kR) 2 (hp w) t H), N g H = some r → lE false Tryz.prog 93 [(.agg #[(.int .i64 g.Op), (.int .i64 g.K), (.string g.kD.kE), (.string g.kD.kL), k]), t] w (.bool r)) (g : Formula) (k t : Value) (H : List kD) (r : Bool) (w : World) (c : Sl kG 5 (hp w) k g.Kids) (J : Sl (Pl kR) 2 (hp w) t H) (hm : yw N g H = some r) :
  lE false Tryz.prog 93 [(.agg #[(.int .i64 g.Op), (.int .i64 g.K), (.string g.kD.kE), (.string g.kD.kL), k]), t] w (.bool r) := by
 refine cG 45 func93 rfl (fun b => sg ?_)
 obtain ⟨A1, c2, rfl⟩ := c.form
 refine VE (lI b rfl (fun W4 n b => Wa (lS (Wf oB (VB b Mh rfl rfl cA (Wi rfl (ln (CI hm rfl (fun a9 hm => ?_) (fun a9 hm => ?_)))))))))
 ·refine sg (Wm (Wf uU (VA b Mh (kR g.kD) bI aR (bS hm fun r6 s hm => VE (Eg b call163 (lE.mR (Lb t H g.kD _ _ (J.mono (Pl.mono _) b.kM) s)) (fun W8 b => Wa (ln ?_)))))))
  replace b := b.kH (Db St)
  refine lC (lJ ?_)
  obtain rfl := sj hm
  exact rP b
 refine kg (Wa (lS (Wf oA (VB b Mh rfl rfl eA (V (ml aD rfl c) (Wm (lH ?_)))))))
 refine kU (mf (fun i E W => ∃ y I, (E 18 = .int .i64 (i : Nat) ∧ E 17 = .int .i64 (g.Kids.length : Nat)) ∧ ST false lU w W (hp w) ((n, Ol (C2 g.Op g.K g.kD.kE g.kD.kL A1 g.Kids.length c2) 58) :: I) ∧ E 1 = t ∧ E 2 = (.pointer (some ⟨n, 0, none⟩)) ∧ E 5 = (.int .i64 y) ∧ E 16 = (.slice A1 g.Kids.length c2) ∧ so N H g (g.Kids.drop i) y = some r) g.Kids.length c.len ⟨0, _, ⟨rfl, rfl⟩, (b.kH St), rfl, rfl, rfl, rfl, hm⟩ dc dc dc (fun _ _ _ h => by obtain ⟨_, _, l, _⟩ := h; exact l) ?_ ?_)
 ·rintro v E W a4 ⟨y, I, ⟨d, m⟩, b, D, u, x, G, a⟩
  obtain ⟨j, c1, q, p, M⟩ := lT a4
  rw [q] at a
  refine bg (VQ (mU (i := (v : Int)) (x0 := j) kG.out aD aC G d c (aH _) p) (fun P ⟨_, ⟨c0, rfl, K⟩, Y⟩ => V (kI rfl (lB b.has Y aK aC)) (VE (lG b aP (fun A O b => ?_)))))
  obtain ⟨z, B, rfl⟩ := K.form
  let a0 := (C2 j.Op j.K j.kD.kE j.kD.kL z j.Kids.length B)
  refine VO (lh (.agg a0.toArray) (a0.toArray) b rfl rfl aC oc nb rfl (fun F b => lr (VA b Mh a0 aK aC (Wh D (bS a fun R Z a => VE (Eg b call93 (a5 j (.slice z j.Kids.length B) t H _ _ (K.mono kN.mono b.kM) (J.mono (Pl.mono _) b.kM) Z) (fun L b => ln ?_)))))))
  replace b := b.kH (Db St)
  refine CI a rfl (fun Q a => ?_) (fun Q a => ?_)
  ·exact kW (Wh x (Wi rfl (Wa (lH (lL (kU ⟨d, (IntKind.i64.wrap (y + 1)), _, ⟨rfl, m⟩, (b.kH St), D, u, rfl, G, (by rw [M]; exact a)⟩))))))
  exact mr (lL (kU ⟨d, y, _, ⟨rfl, m⟩, (b.kH St), D, u, x, G, (by rw [M]; exact a)⟩))
 rintro E W ⟨y, I, ⟨d, m⟩, b, D, u, x, G, a⟩
 rw [aI] at a
 refine kU (kZ (sg (V (kP oB u) (VB b Mh rfl rfl cA (Wi rfl (ln (CI a rfl (fun T a => ?_) (fun T a => ?_))))))))
 ·refine sg (Wh x (V (kP oA u) (VB b Mh rfl rfl eA (V (ml aD rfl c) (Wi rfl (Wa (ln ?_)))))))
  replace b := b.kH (Db St)
  refine lC (lJ ?_)
  obtain rfl := sj a
  exact rP b
 refine kS (V (kP oB u) (VB b Mh rfl rfl cA (Wi rfl (ln (CI a rfl (fun U a => ?_) (fun U a => ?_))))))
 ·refine sg (Wh x (Wi rfl (Wa (ln ?_))))
  replace b := b.kH (Db St)
  refine lC (lJ ?_)
  obtain rfl := sj a
  exact rP b
 refine kg (Wh x (V (kP sK u) (VB b Mh rfl rfl cA (Wi rfl (Wa (ln ?_))))))
 exact lC (rQ a b)
theorem Ca : ∀ (n : Nat) (c : Formula) (a : Value) (g : Value) (j : List kD) (r : Bool) (w : World) (i : Sl kG 5 (hp w) a c.Kids) (k : Sl (Pl kR) 2 (hp w) g j) (_ : rW n c j = some r),
  lE false Tryz.prog 93 [(.agg #[(.int .i64 c.Op), (.int .i64 c.K), (.string c.kD.kE), (.string c.kD.kL), a]), g] w (.bool r)
 | 0 => by intros; rename_i h; simp only [rW] at h; cases h
 | n + 1 => FO (rW n) (Ca n)
theorem ES (k : lW) (D I O : Value) (A : List kF) (a2 : ByteArray) (r : List kF) (w : World) (g : Sl kY 15 (hp w) D k.kQ) (H : Sl lO 8 (hp w) I k.li) (g2 : Sl (Pl kK) 9 (hp w) O A) (hm : xO k A a2 = some r) :
  nA false Tryz.prog 168 [(.agg #[(.string k.Name), D, I]), O, (.string a2)] w 52 kK 9 r := by
 refine wM 48 func168 rfl (fun d => sg ?_)
 obtain ⟨A1, c2, rfl⟩ := g.form
 let b8 : Value := (.slice A1 k.kQ.length c2)
 obtain ⟨A3, c4, rfl⟩ := H.form
 let F := (C4 k.Name A1 k.kQ.length c2 A3 k.li.length c4)
 refine VE (lI d rfl (fun W6 q d => Wa (lr (Wm (bS hm fun r7 h0 hm => VE (vh d call159 (nA.mR (HT O A _ _ (g2.mono (Pl.mono _) d.kM) h0)) (fun W9 h1 j8 j6 d Y ae g0 => Wm (bS hm fun f1 g3 hm => VE (vh d call158 (nA.mR (Em h1 r7 a2 _ _ (g0.sl qY (fun b o m => d.at_ (Ml m))) g3)) (fun j7 d5 f2 f0 d Z af g1 => Wa (ln ?_)))))))))))
 replace d := d.kH (Kr (Dr St))
 refine sg (Wa (lS (Wf oU (VB d (Ma Mh) rfl rfl eX (V (ml bK rfl g) (Wm (ln (mf (fun i E W => ∃ z G B a4 L, (E 20 = .int .i64 (i : Nat) ∧ E 19 = .int .i64 (k.kQ.length : Nat)) ∧ lu f2 a4 ∧ ST false lU w W a4 ((q, Ol F 25) :: (B ++ (f0 ++ L))) ∧ E 3 = (.pointer (some ⟨q, 0, none⟩)) ∧ E 7 = d5 ∧ E 8 = z ∧ E 18 = b8 ∧ lA 52 kK 9 z G B ∧ sk k f1 (k.kQ.drop i) G = some r) k.kQ.length g.len ⟨(.slice none 0 0), ([]), [], f2, _, ⟨rfl, rfl⟩, (lu.refl _), (d.kH (Sb (Pr Pz) St)), rfl, rfl, rfl, rfl, (lA.nil _ _ _), hm⟩ dc dc dc (fun _ _ _ h => by obtain ⟨_, _, _, _, _, aa, _⟩ := h; exact aa) ?_ ?_))))))))
 ·rintro d3 E W e1 ⟨z, G, B, a4, L, ⟨s, eN⟩, u, d, N, Q, T, U, J, j⟩
  obtain ⟨a, h2, e9, e8, b9⟩ := lT e1
  rw [e9] at j
  refine bg (VQ (mU (i := (d3 : Int)) (x0 := a) kY.out bK cR U s (g.mono kX.mono ((Y.trans Z).trans u)) (aH _) e8) (fun i4 ⟨_, ⟨i8, i9, rfl, e6, e7⟩, e2⟩ => V (kI rfl (lB d.has e2 iX cR)) (VE (lG d eG (fun h4 c5 d => ?_)))))
  obtain ⟨a8, b2, rfl⟩ := e6.form
  obtain ⟨a9, b3, rfl⟩ := e7.form
  let a0 := (C3 a.Signed.kF.Kind a.Signed.kF.Head.kE a.Signed.kF.Head.kL a.Signed.kF.ma a.Signed.kF.B.kE a.Signed.kF.B.kL a.Signed.kF.C.kE a.Signed.kF.C.kL a.Signed.kF.mc a8 a.Signed.Tag.length b2 a.kJ.Op a.kJ.K a.kJ.kD.kE a.kJ.kD.kL a9 a.kJ.Kids.length b3)
  refine VO (lh (.agg a0.toArray) (a0.toArray) d rfl rfl cR oc nb rfl (fun h5 d => lr (V (kI N (kO d.has (Mt Mh) F rfl eC dC)) (Wf wP (Wf yB (VA d Mh (kK a.Signed.kF) bX aO (bS j fun c e3 j => ?_)))))))
  let c6 : Value := (.string (((c.1).kD).kL))
  let c1 : Value := (.string (((c.1).kD).kE))
  refine VE (eD d (aY _) call217 (fun hh => (MG k b8 (.slice A3 k.li.length c4) a.Signed.kF _ _ hh (g.mono kX.mono ((Y.trans Z).trans u)) (H.mono me.mono ((Y.trans Z).trans u)) e3)) ?_ (L0 := []))
  rintro _ j0 P h3 d a5 ab ⟨j4, a3, rfl, c0⟩
  obtain rfl := a3.symm
  refine Wm (Wx rfl (Wx rfl (VE (lG d aP (fun h7 i3 d => ?_)))))
  obtain ⟨K, M, rfl⟩ := c0.form
  let n : Value := (.slice K ((c.1).Kids).length M)
  refine VO (lh (.agg #[(.int .i64 ((c.1).Op)), (.int .i64 ((c.1).K)), c1, c6, n]) (#[(.int .i64 ((c.1).Op)), (.int .i64 ((c.1).K)), c1, c6, n]) d rfl rfl aC oc nb rfl (fun h8 d => Wa (lr (Wm (Wi rfl (Wm (LJ j (fun d4 E W => ∃ c3, ST false lU w W P ((c5, Ol a0 60) :: ((q, Ol F 25) :: (B ++ (f0 ++ c3)))) ∧ E 3 = (.pointer (some ⟨q, 0, none⟩)) ∧ E 7 = d5 ∧ E 8 = z ∧ E 10 = (.pointer (some ⟨c5, 0, none⟩)) ∧ E 18 = b8 ∧ E 19 = (.int .i64 (k.kQ.length : Int)) ∧ E 20 = (.int .i64 (d3 : Int)) ∧ E 38 = (.bool d4)) 4 ?_ (fun d4 y a6 => ?_))))))))
  ·rintro j3 E W ⟨c3, d, c7, c8, c9, f8, d0, d1, d2, f9⟩ x
   refine ln (CI x f9 (fun d9 x => ?_) (fun d9 x => ?_))
   ·refine kW (Wh c9 (V (kP wP f8) (Wf yB (VA d Mh (kK a.Signed.kF) bX aO (VE (lD (cs := (kK a.Signed.kF).toArray) d (ni rfl) (nj aS aO cW) (fun h9 f7 d => ?_)))))))
    replace d := d.perm (Nr (Qb (Qb (Qb Qz))) Nz)
    refine bS x fun g4 e0 x => VE (oG (enc := kK) (v := z) (vs := (.slice (some ⟨f7, 0, none⟩) 1 1)) (R := B) d mG dc oQ aS pc.1 pc.2.1 rfl pc.2.2.1 pc.2.2.2 rfl rfl J (Sl.lit (enc := kK) (l := [a.Signed.kF]) mG rfl nb rfl (d.at_ (Ma Mh))) e0 (fun i0 g7 f3 d d8 => Wa (lH (lL (kU ?_)))))
    replace d := d.kH (Kr (Db (Db St)))
    exact ⟨d2, g7, g4, f3, P, _, ⟨rfl, d1⟩, (u.trans a5), (d.kH (Sb (Pr Pz) St)), c7, c8, rfl, d0, d8, (by rw [b9]; exact x)⟩
   refine mr (lL (kU ?_))
   replace d := d.kH (Db St)
   exact ⟨d2, z, G, B, P, _, ⟨rfl, d1⟩, (u.trans a5), (d.kH St), c7, c8, c9, d0, J, (by rw [b9]; exact x)⟩
  refine bC y (fun t y => ?_) (fun t y => ?_)
  ·refine ug t (kI rfl (kO d.has Mh [(.int .i64 ((c.1).Op)), (.int .i64 ((c.1).K)), c1, c6, n] rfl aK aC)) (ug t (kT Q) (bS y fun i5 e4 y => tm t (Eg d call93 ((Ca lF) c.1 n d5 f1 _ _ (c0.mono kN.mono d.kM) (g1.sl yg (fun b o m => d.at_ (Mt (Mt (Mt (Ma (Ml m))))))) e4) (fun i1 d => V (lj (cB t) rfl) ?_))))
   obtain rfl := sj y
   exact a6 _ _ ⟨_, (d.kH (Db St)), N, Q, T, rfl, U, eN, s, rfl⟩
  refine un t (un t (un t (V (ll (cB t) rfl) ?_)))
  obtain rfl := sj y
  exact a6 _ _ ⟨_, (d.kH (Db St)), N, Q, T, rfl, U, eN, s, rfl⟩
 rintro E W ⟨z, G, B, a4, L, ⟨s, eN⟩, u, d, N, Q, T, U, J, j⟩
 rw [aI] at j
 refine kU ?_
 replace d := d.kH (Db (Kr (Dr St)))
 refine sg (Wh T (bS j fun i6 e5 j => VE (vh d call211 (nA.mR (FX z G _ _ (J.sl mG (fun b o m => d.at_ (Ml m))) e5)) (fun i2 g8 j5 f4 d g9 ad b7 => Wa (ln ?_)))))
 replace d := d.kH (Kr (Dr St))
 refine lC ?_
 obtain rfl := sj j
 exact mD (v := g8) rfl rfl ⟨_, f4, rfl, d.oR (fun p m => (Ml m)) b7.nd, b7⟩
theorem B7 (t : Value) (y : List kF) (u : Value) (K : List kF) (r : Bool) (w : World) (c : Sl (Pl kK) 9 (hp w) t y) (z : Sl (Pl kK) 9 (hp w) u K) (hm : sa y K = some r) :
  lE true Tryz.prog 12 [t, u] w (.bool r) := by
 refine cG 26 func12 rfl (fun d => sg (Wa (lS (Wm (V (ml aS rfl c) (Wm (V (ml aS rfl z) (Wi rfl (lH ?_)))))))))
 refine kU (CI hm rfl (fun U hm => ?_) (fun U hm => ?_))
 ·refine sg (Wa (lt (lJ ?_)))
  obtain rfl := sj hm
  exact rP d
 refine kS (Wm (V (ml aS rfl c) (Wm (ln (mf (fun i E W => ∃ g, (E 13 = .int .i64 (i : Nat) ∧ E 12 = .int .i64 (y.length : Nat)) ∧ ST true lU w W (hp w) g ∧ E 0 = t ∧ E 1 = u ∧ qS K (y.drop i) i = some r) y.length c.len ⟨_, ⟨rfl, rfl⟩, (d.kH St), rfl, rfl, hm⟩ dc dc dc (fun _ _ _ h => by obtain ⟨_, m, _⟩ := h; exact m) ?_ ?_)))))
 ·rintro I E W M ⟨g, ⟨l, p⟩, d, j, k, a⟩
  obtain ⟨J, a3, Q, N, T⟩ := lT M
  rw [Q] at a
  refine bg (Wh l (Wa (ln (kZ ?_))))
  replace d := d.drew
  have b := d.has.kH Sn
  refine mi b lN (X 0 rfl b (kT j) (X 1 rfl b (kT rfl) (XQ 2 rfl b (oH (enc := kK) (i := (I : Int)) (x0 := J) aS aO rfl rfl c (aH _) N) (fun Y G => XH 3 rfl b (fun _ n => kI rfl (lB n G bX aO)) (X 4 rfl b (kT k) (X 5 rfl b (kT rfl) (bS a fun B x a => XQ 6 rfl b (oH (enc := kK) (i := (I : Int)) (x0 := B) aS aO rfl rfl z (lM x) (lK x)) (fun Z H => XH 7 rfl b (fun _ n => kI rfl (lB n H bX aO)) (X 8 rfl b (Ed rfl rfl (nW fK) (Al (vN _ J B))) (mu kr (kU (CI a rfl (fun D a => ?_) (fun D a => ?_)))))))))))))
  ·refine sg (Wa (lt (nC (lJ (nC (lJ ?_))))))
   obtain rfl := sj a
   exact rP d
  exact mr (lL (kU ⟨l, _, ⟨rfl, p⟩, (d.kH St), j, k, (by rw [T]; exact a)⟩))
 rintro E W ⟨g, ⟨l, p⟩, d, j, k, a⟩
 rw [aI] at a
 exact kU (sg (Wa (lt (rQ a d))))
theorem GY (g : lW) (B J : Value) (i : lW) (D K : Value) (r : ((List kF) × (List kF) × Int)) (w : World) (x : Sl kY 15 (hp w) B g.kQ) (H : Sl lO 8 (hp w) J g.li) (y : Sl kY 15 (hp w) D i.kQ) (I : Sl lO 8 (hp w) K i.li) (hm : Bs g i = some r) :
  mZ false Tryz.prog 102 [(.agg #[(.string g.Name), B, J]), (.agg #[(.string i.Name), D, K])] w [] (fun v L1 W' => ∃ y1 S2 y4 S5, v = (.tuple #[y1, y4, (.int .i64 (r.2.2))]) ∧ L1 = (S2 ++ (S5 ++ [])) ∧ lA 52 kK 9 y1 r.1 S2 ∧ lA 52 kK 9 y4 r.2.1 S5) := by
 refine wM 37 func102 rfl (fun d => sg ?_)
 obtain ⟨A1, c2, rfl⟩ := x.form
 obtain ⟨A3, c4, rfl⟩ := H.form
 let p := (C4 g.Name A1 g.kQ.length c2 A3 g.li.length c4)
 refine VE (lI d rfl (fun W6 n d => ?_))
 obtain ⟨A7, c8, rfl⟩ := y.form
 obtain ⟨A9, L, rfl⟩ := I.form
 let a0 := (C4 i.Name A7 i.kQ.length c8 A9 i.li.length L)
 refine VE (lI d rfl (fun g4 l d => Wa (Wa (Wa (lr (Wa (Wa (lr (Wa ?_)))))))))
 refine ln (qw (mK (nZ (fun m E W => ∃ t T M u U N G s c0, lu (hp w) s ∧ ST false lU w W s ((l, Ol a0 25) :: ((n, Ol p 25) :: (N ++ (M ++ c0)))) ∧ E 2 = (.pointer (some ⟨n, 0, none⟩)) ∧ E 3 = (.pointer (some ⟨l, 0, none⟩)) ∧ E 7 = t ∧ E 8 = u ∧ E 9 = (.int .i64 G) ∧ lA 52 kK 9 t T M ∧ lA 52 kK 9 u U N ∧ uf g i m T U G = some r) lF ⟨(.slice none 0 0), ([]), [], (.slice none 0 0), ([]), [], 0, (hp w), _, (lu.refl _), (d.kH St), rfl, rfl, rfl, rfl, rfl, (lA.nil _ _ _), (lA.nil _ _ _), hm⟩ ?_)))
 rintro m E W ⟨t, T, M, u, U, N, G, s, c0, k, d, Y, Z, a2, a3, d0, a4, a5, a⟩
 cases m with
 | zero => rw [uf] at a; cases a
 | succ f0 =>
  refine bg (V (kI Y (kO d.has (Mt Mh) p rfl eC dC)) (Wh a3 (V (kP zN Z) (VB d Mh rfl rfl bW (bS a fun d3 d9 a => VE (vh d call168 (ES g (.slice A1 g.kQ.length c2) (.slice A3 g.li.length c4) u U i.Name _ _ (x.mono kX.mono (k.trans d.kM)) (H.mono me.mono (k.trans d.kM)) (a5.sl mG (fun b o h => d.at_ (Mt (Mt (Ml h))))) d9) (fun f6 q g3 c3 d Q A P => Wa (lr (V (kI Z (kO d.has (Ma Mh) a0 rfl eC dC)) ?_)))))))))
  refine Wh a2 (V (kP zN Y) (VB d (Ma (Mt Mh)) rfl rfl bW (bS a fun d4 e0 a => VE (vh d call168 (ES i (.slice A7 i.kQ.length c8) (.slice A9 i.li.length L) t T g.Name _ _ (y.mono kX.mono ((k.trans Q).trans d.kM)) (I.mono me.mono ((k.trans Q).trans d.kM)) (a4.sl mG (fun b o h => d.at_ (Ma (Mt (Mt (Ma (Ml h))))))) e0) (fun f7 a9 d6 c5 d d2 F R => Wa (lS (Wm (Wh a2 (bS a fun g0 e1 a => VE (Eg d call12 (lE.mR (B7 q d3 t T _ _ (P.sl mG (fun b o h => d.at_ (Ma (Ml h)))) (a4.sl mG (fun b o h => d.at_ (Ma (Ma (Mt (Mt (Ma (Ml h)))))))) e1)) (fun f8 d => ?_)))))))))))
  refine Wm (LJ a (fun d5 E W => ∃ c1, ST false lU w W d6 ((l, Ol a0 25) :: ((n, Ol p 25) :: (c5 ++ (c3 ++ (N ++ (M ++ c1)))))) ∧ E 2 = (.pointer (some ⟨n, 0, none⟩)) ∧ E 3 = (.pointer (some ⟨l, 0, none⟩)) ∧ E 7 = t ∧ E 8 = u ∧ E 9 = (.int .i64 G) ∧ E 10 = q ∧ E 11 = a9 ∧ E 29 = (.bool d5)) 4 ?_ (fun d5 j O => ?_))
  ·rintro g2 E W ⟨c1, d, e3, e4, e5, e6, d1, e7, e8, e9⟩ z
   refine ln (CI z e9 (fun d8 z => ?_) (fun d8 z => ?_))
   ·refine sg (Wh e5 (Wh e6 (Wh d1 (Wa (Wa (Wa (ln ?_)))))))
    replace d := d.kH (Db (Db (Dr (Dr St))))
    refine lC (lJ (nC (lJ (nC (lJ ?_)))))
    obtain rfl := sj z
    exact KM (v0 := t) (v1 := u) (v2 := (.int .i64 G)) rfl rfl rfl rfl ⟨_, _, rfl, (d.LR (Sr (Qr Qz) (Kr Sn))), t, M, u, N, rfl, rfl, a4, a5⟩
   refine kn ?_
   replace d := d.kH (Kb (Kb (Kr (Kr (Dr (Dr St))))))
   refine sg (Wh e7 (Wa (lr (Wh e8 (Wa (ln (kW (Wh d1 (Wi rfl ?_)))))))))
   exact Wa (lH (lL (kU ⟨f0, bF _, q, d3, c3, a9, d4, c5, (IntKind.i64.wrap (G + 1)), d6, _, ((k.trans Q).trans d2), (d.kH St), e3, e4, rfl, rfl, rfl, P, R, z⟩)))
  refine bC j (fun c j => ?_) (fun c j => ?_)
  ·refine ug c (kT rfl) (ug c (kT a3) (bS j fun g1 e2 j => tm c (Eg d call12 (lE.mR (B7 a9 d4 u U _ _ (R.sl mG (fun b o h => d.at_ (Ml h))) (a5.sl mG (fun b o h => d.at_ (Ma (Ma (Mt (Mt (Ml h))))))) e2)) (fun f9 d => V (lj (cB c) rfl) ?_))))
   obtain rfl := sj j
   exact O _ _ ⟨_, (d.kH (Sb (Pr (Pr Pz)) (Sb (Pr (Pr Pz)) St))), Y, Z, a2, a3, d0, rfl, rfl, rfl⟩
  refine un c (un c (un c (V (ll (cB c) rfl) ?_)))
  obtain rfl := sj j
  exact O _ _ ⟨_, (d.kH (Sb (Pr (Pr Pz)) (Sb (Pr (Pr Pz)) St))), Y, Z, a2, a3, d0, rfl, rfl, rfl⟩
theorem Jb (k : lW) (i x : Value) (a : lW) (j y : Value) (r : List kD) (w : World) (c : Sl kY 15 (hp w) i k.kQ) (t : Sl lO 8 (hp w) x k.li) (g : Sl kY 15 (hp w) j a.kQ) (u : Sl lO 8 (hp w) y a.li) (hm : Be k a = some r) :
  nA false Tryz.prog 165 [(.agg #[(.string k.Name), i, x]), (.agg #[(.string a.Name), j, y])] w 50 kR 2 r := by
 refine wM 20 func165 rfl (fun d => sg ?_)
 obtain ⟨I, N, rfl⟩ := c.form
 obtain ⟨J, Q, rfl⟩ := t.form
 refine VE (lI d rfl (fun W6 b5 d => ?_))
 obtain ⟨K, T, rfl⟩ := g.form
 obtain ⟨M, D, rfl⟩ := u.form
 refine VE (lI d rfl (fun b9 c5 d => Wa (lr (VA d (Mt Mh) (C4 k.Name I k.kQ.length N J k.li.length Q) eC dC (VA d Mh (C4 a.Name K a.kQ.length T M a.li.length D) eC dC (bS hm fun A Z hm => ?_))))))
 refine VE (F7 d (aY _) call102 (fun _ _ _ _ => (GY k (.slice I k.kQ.length N) (.slice J k.li.length Q) a (.slice K a.kQ.length T) (.slice M a.li.length D) _ _ (c.mono kX.mono d.kM) (t.mono me.mono d.kM) (g.mono kX.mono d.kM) (u.mono me.mono d.kM) Z)) (fun c0 c7 d0 W d P n m U => ?_) (L0 := []))
 obtain ⟨c9, b6, L, b7, z, rfl, R, a4⟩ := U
 replace z := z.symm; subst z
 replace d := d.perm (Tr (Tr Tn))
 refine Wm (Wx rfl (Wx rfl (Wx rfl (Wa (Wa (Wa (ln ?_)))))))
 replace d := d.kH (Dr (Kr (Kb (Db St))))
 refine kZ ?_
 replace d := d.drew
 have h := d.has.kH (Dr (Kb Sn))
 refine mi h lN (X 0 rfl h (kT rfl) (X 2 rfl h (kP zN rfl) (XH 3 rfl h (fun _ O => kI rfl (lg O Mh rfl bW)) (bS hm fun E a2 hm => XE 1 rfl (vh d call159 (nA.mR (HT L A.2.1 _ _ (a4.sl mG (fun b o l => d.at_ (Ml l))) a2)) (fun c1 F d1 b4 d B q Y => ?_))))))
 have h := d.has.pZ B (Dr (Dr (Kb Sn)))
 refine ⟨h, (bS hm fun c6 a3 hm => XE 4 rfl (vh d call158 (nA.mR (Em F E a.Name _ _ (Y.sl qY (fun b o l => d.at_ (Ml l))) a3)) (fun c3 a9 d2 a5 d H s G => ?_)))⟩
 have h := d.has.pZ (B.trans H) (Dr (Dr (Dr (Kb Sn))))
 refine ⟨h, (X 5 rfl h (od rfl) (mu kr (kU ?_)))⟩
 replace d := d.kH (Kr (Dr (Dr (Db St))))
 refine lC ?_
 obtain rfl := sj hm
 exact mD (v := a9) rfl rfl ⟨_, a5, rfl, d.oR (fun p l => (Ml l)) G.nd, G⟩
theorem Iu (j : lW) (y G : Value) (k : lW) (z H : Value) (a : Formula) (I : Value) (r : Bool) (w : World) (t : Sl kY 15 (hp w) y j.kQ) (B : Sl lO 8 (hp w) G j.li) (u : Sl kY 15 (hp w) z k.kQ) (D : Sl lO 8 (hp w) H k.li) (i : Sl kG 5 (hp w) I a.Kids) (hm : yc j k a = some r) :
  lE false Tryz.prog 100 [(.agg #[(.string j.Name), y, G]), (.agg #[(.string k.Name), z, H]), (.agg #[(.int .i64 a.Op), (.int .i64 a.K), (.string a.kD.kE), (.string a.kD.kL), I])] w (.bool r) := by
 refine cG 16 func100 rfl (fun d => sg ?_)
 obtain ⟨Z, c2, rfl⟩ := t.form
 obtain ⟨A3, p, rfl⟩ := B.form
 let a2 := (C4 j.Name Z j.kQ.length c2 A3 j.li.length p)
 refine VE (lI d rfl (fun W6 O d => ?_))
 obtain ⟨A7, q, rfl⟩ := u.form
 obtain ⟨A9, Q, rfl⟩ := D.form
 let n := (C4 k.Name A7 k.kQ.length q A9 k.li.length Q)
 refine VE (lI d rfl (fun d2 c0 d => ?_))
 obtain ⟨J, K, rfl⟩ := i.form
 let a0 := (C2 a.Op a.K a.kD.kE a.kD.kL J a.Kids.length K)
 refine VE (lI d rfl (fun d3 c1 d => Wa (ln (kZ ?_))))
 replace d := d.drew
 have h := d.has.kH (Kb (Kb (Kb Sn)))
 refine mi h lN (XH 0 rfl h (fun _ l => kI rfl (kO l Mh a0 rfl aK aC)) (bS hm fun d5 L hm => XE 1 rfl (Eg d call92 (wW a (.slice J a.Kids.length K) _ _ (i.mono kN.mono d.kM) L) (fun d4 d => ?_))))
 have h := d.has.kH (Kb (Kb (Kb Sn)))
 refine ⟨h, (X 2 rfl h (kT rfl) (PJ hm (fun Y E W => ∃ N T, lu (hp w) N ∧ ST false lU w W N ((c1, Ol a0 58) :: ((c0, Ol n 25) :: ((O, Ol a2 25) :: T))) ∧ E 6 = (.bool false) ∧ E 15 = (.bool Y)) (bm 10 511) 1 ?_ (fun Y g M => ?_)))⟩
 ·rintro d1 E W ⟨N, T, U, d, c9, F⟩ s
  have h := d.has.pZ U (Kb (Kb (Kb Sn)))
  refine X 9 rfl h (od F) (mu kr (kU ?_))
  exact lC (rQ s d)
 refine bC g (fun c g => ?_) (fun c g => ?_)
 ·refine qQ 3 rfl rfl (cB c) h (fun _ l => kI rfl (kO l Mh a0 rfl aK aC)) (qQ 4 rfl rfl (cB c) h (fun _ l => kI rfl (kO l (Mt (Mt Mh)) a2 rfl eC dC)) (qQ 5 rfl rfl (cB c) h (fun _ l => kI rfl (kO l (Mt Mh) n rfl eC dC)) (bS g fun P v g => Af 6 rfl rfl (cB c) (vh d call165 (Jb j (.slice Z j.kQ.length c2) (.slice A3 j.li.length p) k (.slice A7 k.kQ.length q) (.slice A9 k.li.length Q) _ _ (t.mono kX.mono d.kM) (B.mono me.mono d.kM) (u.mono kX.mono d.kM) (D.mono me.mono d.kM) v) (fun c5 R b9 c3 d x m a9 => ?_)))))
  have h := d.has.pZ x (Dr (Kb (Kb (Kb Sn))))
  refine ⟨h, (bS g fun d0 A g => Af 7 rfl rfl (cB c) (Eg d call93 ((Ca lF) a (.slice J a.Kids.length K) R P _ _ (i.mono kN.mono (x.trans d.kM)) (a9.sl yg (fun b o hq => d.at_ (Ml hq))) A) (fun c6 d => ?_)))⟩
  have h := d.has.pZ x (Dr (Kb (Kb (Kb Sn))))
  refine ⟨h, (X 8 rfl h (lj (cB c) rfl) ?_)⟩
  obtain rfl := sj g
  refine nu kr (M _ _ ⟨b9, _, x, (d.kH (Dr St)), rfl, rfl⟩)
 refine Xn 3 rfl rfl (cB c) h (Xn 4 rfl rfl (cB c) h (Xn 5 rfl rfl (cB c) h (Xn 6 rfl rfl (cB c) h (Xn 7 rfl rfl (cB c) h (X 8 rfl h (ll (cB c) rfl) ?_)))))
 obtain rfl := sj g
 refine nu kr (M _ _ ⟨(hp w), _, (lu.refl _), (d.kH St), rfl, rfl⟩)
theorem Ay (a : mI) (x z i u j B : Value) (r : Bool) (w : World) (t : Sl kY 15 (hp w) x a.kE.kQ) (y : Sl lO 8 (hp w) z a.kE.li) (c : Sl kY 15 (hp w) i a.Client.kQ) (k : Sl lO 8 (hp w) u a.Client.li) (g : Sl kG 5 (hp w) j a.Formula.Kids) (D : Sl ou 2 (hp w) B a.Keys) (hm : uG a = some r) :
  lE false Tryz.prog 37 [(.agg #[(.string a.kE.Name), x, z, (.string a.Client.Name), i, u, (.int .i64 a.Formula.Op), (.int .i64 a.Formula.K), (.string a.Formula.kD.kE), (.string a.Formula.kD.kL), j, (.int .i64 a.oN), (.int .i64 a.mw.pD), (.int .i64 a.mw.pE), (.int .i64 a.mW), (.int .i64 a.nU), (.int .i64 a.ny), B])] w (.bool r) := by
 refine cG 10 func37 rfl (fun b => sg ?_)
 obtain ⟨H, N, rfl⟩ := t.form
 obtain ⟨I, Q, rfl⟩ := y.form
 obtain ⟨J, T, rfl⟩ := c.form
 obtain ⟨K, U, rfl⟩ := k.form
 obtain ⟨M, G, rfl⟩ := g.form
 obtain ⟨Z, d, rfl⟩ := D.form
 refine VE (lI b rfl (fun a2 a4 b => Wa (lr (Wf xK (VA b Mh (C4 a.kE.Name H a.kE.kQ.length N I a.kE.li.length Q) eC dC (Wf vT (VA b Mh (C4 a.Client.Name J a.Client.kQ.length T K a.Client.li.length U) eC dC (Wf Kt (VA b Mh (C2 a.Formula.Op a.Formula.K a.Formula.kD.kE a.Formula.kD.kL M a.Formula.Kids.length G) aK aC (bS hm fun a5 Y hm => VE (Eg b call100 (Iu a.kE (.slice H a.kE.kQ.length N) (.slice I a.kE.li.length Q) a.Client (.slice J a.Client.kQ.length T) (.slice K a.Client.li.length U) a.Formula (.slice M a.Formula.Kids.length G) _ _ (t.mono kX.mono b.kM) (y.mono me.mono b.kM) (c.mono kX.mono b.kM) (k.mono me.mono b.kM) (g.mono kN.mono b.kM) Y) (fun a3 b => Wa ?_))))))))))))
 refine ln ?_
 exact lC (rQ hm b)
theorem F4 (K : Value) (Q : List lm) (Z : Int) (r : List lm) (w : World) {Y : lQ} (h0 : oC Y [] w) (J : Sl kY 15 Y K Q) (hm : yI Q Z = some r) :
  ms true Tryz.prog 105 [K, (.int .i64 Z)] w Y [] (fun v L1 μ1 => ∃ q, v = q ∧ L1 = [] ∧ Sl kY 15 μ1 q (r)) := by
 refine tp h0 24 func105 rfl (fun b => sg (Wa (lr (Wa (lS (Wm ?_))))))
 refine V (ml bK rfl J) (Wm (ln (mf (fun i E W => ∃ u z x I, (E 10 = .int .i64 (i : Nat) ∧ E 9 = .int .i64 (Q.length : Nat)) ∧ ST true (keys []) w W Y (x ++ I) ∧ E 1 = (.int .i64 Z) ∧ E 5 = u ∧ E 8 = K ∧ lY 60 kY 15 Y u z x ∧ sX Z (Q.drop i) i z = some r) Q.length J.len ⟨(.slice none 0 0), ([]), [], _, ⟨rfl, rfl⟩, (b.kH St), rfl, rfl, rfl, (lY.nil _ _ _ _), hm⟩ dc dc dc (fun _ _ _ h => by obtain ⟨_, _, _, _, n, _⟩ := h; exact n) ?_ ?_)))
 ·rintro R E W F ⟨u, z, x, I, ⟨m, p⟩, b, D, G, H, y, c⟩
  obtain ⟨a, c7, L, a9, U⟩ := lT F
  rw [L] at c
  refine bg (Wh m (VQ (mU (i := (R : Int)) (x0 := a) kY.out bK cR H m J (aH _) a9) (fun c4 ⟨_, ⟨c5, c6, rfl, M, N⟩, a5⟩ => V (kI rfl (lB b.has a5 iX cR)) (VE (lG b eG (fun b6 c1 b => Wa ?_))))))
  obtain ⟨g, k, rfl⟩ := M.form
  obtain ⟨j, t, rfl⟩ := N.form
  let a0 := (C3 a.Signed.kF.Kind a.Signed.kF.Head.kE a.Signed.kF.Head.kL a.Signed.kF.ma a.Signed.kF.B.kE a.Signed.kF.B.kL a.Signed.kF.C.kE a.Signed.kF.C.kL a.Signed.kF.mc g a.Signed.Tag.length k a.kJ.Op a.kJ.K a.kJ.kD.kE a.kJ.kD.kL j a.kJ.Kids.length t)
  refine VO (lh (.agg a0.toArray) (a0.toArray) b rfl rfl cR oc nb rfl (fun b7 b => lr (Wm (Wh D (Wi rfl (ln (CI c rfl (fun a3 c => ?_) (fun a3 c => ?_))))))))
  ·refine kW (Wh G (VA b Mh a0 iX cR (VE (lD (cs := a0.toArray) b (ni rfl) (nj bK cR eG) (fun b9 c2 b => ?_)))))
   replace b := b.perm (Nr (Qb (Qb Qz)) Nz)
   refine bS c fun O a4 c => VE (pS (B := x) kX b dc bK yH.1 yH.2.1 rfl yH.2.2.1 yH.2.2.2 rfl rfl y (xL.lit kX (l := [a]) (.cons (ys := C3 a.Signed.kF.Kind a.Signed.kF.Head.kE a.Signed.kF.Head.kL a.Signed.kF.ma a.Signed.kF.B.kE a.Signed.kF.B.kL a.Signed.kF.C.kE a.Signed.kF.C.kL a.Signed.kF.mc g a.Signed.Tag.length k a.kJ.Op a.kJ.K a.kJ.kD.kE a.kJ.kD.kL j a.kJ.Kids.length t) (kY.mk ⟨(.slice g a.Signed.Tag.length k), (.slice j a.kJ.Kids.length t), rfl, M, N⟩) .nil) rfl nb (b.at_ (Ma Mh))) a4 (fun c0 P A b a2 => Wa (lH (lL (kU ?_)))))
   replace b := b.kH (Kr (Db (Db St)))
   exact ⟨m, P, O, A, _, ⟨rfl, p⟩, (b.kH St), D, rfl, H, a2, (by rw [U]; exact c)⟩
  refine mr (lL (kU ?_))
  replace b := b.kH (Db St)
  exact ⟨m, u, z, x, _, ⟨rfl, p⟩, (b.kH St), D, G, H, y, (by rw [U]; exact c)⟩
 rintro E W ⟨u, z, x, I, ⟨m, p⟩, b, D, G, H, y, c⟩
 rw [aI] at c
 refine kU (sg (Wh G (Wa (lt ?_))))
 obtain rfl := sj c
 refine mD (v := u) rfl rfl ?_
 obtain ⟨c9, b, T, d, s⟩ := ST.tJ kX b y
 exact ⟨_, _, _, rfl, (b.mX Sn), T, d, (ST.lX b (nq.mem Sn)), u, rfl, rfl, s⟩
theorem BQ (a : mI) (x z j u k N : Value) (P a2 : Int) (r : mI) (w : World) {μ0 : lQ} (h0 : oC μ0 [] w) (g : Sl kY 15 μ0 x a.kE.kQ) (y : Sl lO 8 μ0 z a.kE.li) (c : Sl kY 15 μ0 j a.Client.kQ) (t : Sl lO 8 μ0 u a.Client.li) (i : Sl kG 5 μ0 k a.Formula.Kids) (M : Sl ou 2 μ0 N a.Keys) (hm : wh a P a2 = some r) :
  ms true Tryz.prog 45 [(.agg #[(.string a.kE.Name), x, z, (.string a.Client.Name), j, u, (.int .i64 a.Formula.Op), (.int .i64 a.Formula.K), (.string a.Formula.kD.kE), (.string a.Formula.kD.kL), k, (.int .i64 a.oN), (.int .i64 a.mw.pD), (.int .i64 a.mw.pE), (.int .i64 a.mW), (.int .i64 a.nU), (.int .i64 a.ny), N]), (.int .i64 P), (.int .i64 a2)] w μ0 [] (fun v L1 μ1 => ∃ y1 y3 y5 y7 y9 e8, v = (.agg #[(.string (((r).kE).Name)), y1, y3, (.string (((r).Client).Name)), y5, y7, (.int .i64 (((r).Formula).Op)), (.int .i64 (((r).Formula).K)), (.string ((((r).Formula).kD).kE)), (.string ((((r).Formula).kD).kL)), y9, (.int .i64 ((r).oN)), (.int .i64 (((r).mw).pD)), (.int .i64 (((r).mw).pE)), (.int .i64 ((r).mW)), (.int .i64 ((r).nU)), (.int .i64 ((r).ny)), e8]) ∧ L1 = [] ∧ Sl kY 15 μ1 y1 (((r).kE).kQ) ∧ Sl lO 8 μ1 y3 (((r).kE).li) ∧ Sl kY 15 μ1 y5 (((r).Client).kQ) ∧ Sl lO 8 μ1 y7 (((r).Client).li) ∧ Sl kG 5 μ1 y9 (((r).Formula).Kids) ∧ Sl ou 2 μ1 e8 ((r).Keys)) := by
 let g5 : Value := (.int .i64 a.oN)
 let g4 : Value := (.int .i64 a.nU)
 let g3 : Value := (.int .i64 a.ny)
 let g2 : Value := (.int .i64 a.mW)
 let f2 : Value := (.string a.kE.Name)
 let f1 : Value := (.int .i64 a.mw.pE)
 let f0 : Value := (.int .i64 a.mw.pD)
 let O : Value := (.int .i64 a.Formula.K)
 let d9 : Value := (.string a.Client.Name)
 let d2 : Value := (.int .i64 a.Formula.Op)
 let L : Value := (.string a.Formula.kD.kL)
 let F : Value := (.string a.Formula.kD.kE)
 refine tp h0 26 func45 rfl (fun b => sg ?_)
 obtain ⟨A1, c2, rfl⟩ := g.form
 obtain ⟨T, Z, rfl⟩ := y.form
 let b8 : Value := (.slice T a.kE.li.length Z)
 obtain ⟨A5, c6, rfl⟩ := c.form
 let d1 : Value := (.slice A5 a.Client.kQ.length c6)
 obtain ⟨U, c8, rfl⟩ := t.form
 let a3 : Value := (.slice U a.Client.li.length c8)
 obtain ⟨Y, G, rfl⟩ := i.form
 let a4 : Value := (.slice Y a.Formula.Kids.length G)
 obtain ⟨D, H, rfl⟩ := M.form
 let l : Value := (.slice D a.Keys.length H)
 refine VE (lI b rfl (fun i0 q b => VE (lG b fA (fun i1 s b => ln (kZ (CJ hm (fun e7 E W => ∃ a5 Q e2, lu μ0 Q ∧ Lo (keys []) w μ0 Q ∧ ST true (keys []) w W Q ((s, Ol C6 93) :: ((q, Ob #[f2, a5, b8, d9, d1, a3, d2, O, F, L, a4, g5, f0, f1, g2, g4, g3, l] 93) :: e2)) ∧ E 1 = (.int .i64 P) ∧ E 2 = (.int .i64 a2) ∧ E 3 = (.pointer (some ⟨q, 0, none⟩)) ∧ E 6 = (.pointer (some ⟨s, 0, none⟩)) ∧ Sl kY 15 Q a5 e7) (fun e7 K => ?_) ?_))))))
 ·refine sg (Wm (Wi rfl (ln (CI K rfl (fun f4 K => ?_) (fun f4 K => ?_)))))
  ·refine kW (Wf xK (Wf oU (VB b (Mt Mh) rfl rfl eX (Wm (bS K fun b7 e1 K => ?_)))))
   refine VE (eD b (aY _) call105 (fun hh => (F4 (.slice A1 a.kE.kQ.length c2) a.kE.kQ a2 _ _ hh (g.mono kX.mono (lu.refl _)) e1)) ?_ (L0 := []))
   rintro _ h7 f8 h3 b d4 d ⟨h8, a6, rfl, c3⟩
   obtain rfl := a6.symm
   refine Wf xK (Wf oU ?_)
   obtain ⟨R, b5, rfl⟩ := c3.form
   replace b := b.perm (Nb (Pb Pz) Nz)
   refine VO (lh (.slice R b7.length b5) ((C1 a.kE.Name R b7.length b5 T a.kE.li.length Z a.Client.Name A5 a.Client.kQ.length c6 U a.Client.li.length c8 a.Formula.Op a.Formula.K a.Formula.kD.kE a.Formula.kD.kL Y a.Formula.Kids.length G a.oN a.mw.pD a.mw.pE a.mW a.nU a.ny D a.Keys.length H).toArray) b rfl rfl sizeOf22 oc nb rfl (fun h5 b => ln ?_))
   obtain rfl := sj K
   exact ⟨(.slice R b7.length b5), f8, _, d4, d, (b.kH (Sb (Pb Pz) St)), rfl, rfl, rfl, rfl, c3⟩
  refine kn ?_
  obtain rfl := sj K
  exact ⟨(.slice A1 a.kE.kQ.length c2), μ0, _, (lu.refl _), Lo.refl, (b.kH St), rfl, rfl, rfl, rfl, g⟩
 rintro b1 E W ⟨a5, Q, e2, B, m, b, f9, g0, c1, e4, d5⟩ f5
 refine kZ (CJ f5 (fun e6 E W => ∃ A h e3, lu Q h ∧ Lo (keys []) w Q h ∧ ST true (keys []) w W h ((s, Ol C6 93) :: ((q, Ob #[f2, a5, b8, d9, A, a3, d2, O, F, L, a4, g5, f0, f1, g2, g4, g3, l] 93) :: e3)) ∧ E 3 = (.pointer (some ⟨q, 0, none⟩)) ∧ E 6 = (.pointer (some ⟨s, 0, none⟩)) ∧ Sl kY 15 h A e6) (fun e6 J => ?_) ?_)
 ·refine sg (Wh f9 (Wi rfl (ln (CI J rfl (fun f3 J => ?_) (fun f3 J => ?_)))))
  ·refine kW (V (kP vT c1) (Wf oU (VB b (Mt Mh) rfl rfl eX (Wh g0 (bS J fun d8 f7 J => ?_)))))
   refine VE (eD b (aY _) call105 (fun hh => (F4 d1 a.Client.kQ a2 _ _ hh (c.mono kX.mono B) f7)) ?_ (L0 := []))
   rintro _ i5 g9 h9 b e0 p ⟨i6, b6, rfl, d7⟩
   obtain rfl := b6.symm
   refine V (kP vT c1) (Wf oU ?_)
   obtain ⟨d0, d3, rfl⟩ := d7.form
   let g6 : Value := (.slice d0 d8.length d3)
   replace b := b.perm (Nb (Pb Pz) Nz)
   refine VO (lh g6 (#[f2, a5, b8, d9, g6, a3, d2, O, F, L, a4, g5, f0, f1, g2, g4, g3, l]) b rfl rfl sizeOf22 oc nb rfl (fun i4 b => ln ?_))
   obtain rfl := sj J
   exact ⟨g6, g9, _, e0, p, (b.kH (Sb (Pb Pz) St)), c1, e4, d7⟩
  refine kn ?_
  obtain rfl := sj J
  exact ⟨d1, Q, _, (lu.refl _), Lo.refl, (b.kH St), c1, e4, (c.mono kX.mono B)⟩
 rintro b2 E W ⟨A, h, e3, I, n, b, g1, e5, d6⟩ f6
 refine sg (V (kI g1 (kO b.has (Mt Mh) [f2, a5, b8, d9, A, a3, d2, O, F, L, a4, g5, f0, f1, g2, g4, g3, l] rfl dA cF)) ?_)
 obtain ⟨a7, a9, rfl⟩ := d5.form
 obtain ⟨a8, b0, rfl⟩ := d6.form
 let a0 := (C1 a.kE.Name a7 b1.length a9 T a.kE.li.length Z a.Client.Name a8 b2.length b0 U a.Client.li.length c8 a.Formula.Op a.Formula.K a.Formula.kD.kE a.Formula.kD.kL Y a.Formula.Kids.length G a.oN a.mw.pD a.mw.pE a.mW a.nU a.ny D a.Keys.length H)
 refine VO (lh (.agg a0.toArray) (a0.toArray) b e5 rfl cF oc nb rfl (fun i2 b => ln ?_))
 replace b := b.kH (Kb (Db St))
 refine lC ?_
 obtain rfl := sj f6
 exact nw (v := (.agg a0.toArray)) rfl e5 (kO b.has Mh a0 rfl dA cF) ⟨_, _, _, rfl, (b.mX Sn), (B.trans I), (m.trans n), (ST.lX b (nq.mem Sn)), (.slice a7 b1.length a9), b8, (.slice a8 b2.length b0), a3, a4, l, rfl, rfl, (d5.mono kX.mono I), (y.mono me.mono (B.trans I)), d6, (t.mono me.mono (B.trans I)), (i.mono kN.mono (B.trans I)), (M.mono oY.mono (B.trans I))⟩
theorem It (a : mI) (H J B G D a5 : Value) (r : List mj) (w : World) (g : Sl kY 15 (hp w) H a.kE.kQ) (y : Sl lO 8 (hp w) J a.kE.li) (c : Sl kY 15 (hp w) B a.Client.kQ) (x : Sl lO 8 (hp w) G a.Client.li) (u : Sl kG 5 (hp w) D a.Formula.Kids) (I : Sl ou 2 (hp w) a5 a.Keys) (hm : ye a = some r) :
  nA false Tryz.prog 41 [(.agg #[(.string a.kE.Name), H, J, (.string a.Client.Name), B, G, (.int .i64 a.Formula.Op), (.int .i64 a.Formula.K), (.string a.Formula.kD.kE), (.string a.Formula.kD.kL), D, (.int .i64 a.oN), (.int .i64 a.mw.pD), (.int .i64 a.mw.pE), (.int .i64 a.mW), (.int .i64 a.nU), (.int .i64 a.ny), a5])] w 91 mE 2 r := by
 refine wM 46 func41 rfl (fun b => sg ?_)
 obtain ⟨A1, c2, rfl⟩ := g.form
 let b2 : Value := (.slice A1 a.kE.kQ.length c2)
 obtain ⟨A3, c4, rfl⟩ := y.form
 let b4 : Value := (.slice A3 a.kE.li.length c4)
 obtain ⟨A5, c6, rfl⟩ := c.form
 let P : Value := (.slice A5 a.Client.kQ.length c6)
 obtain ⟨A7, c8, rfl⟩ := x.form
 let b3 : Value := (.slice A7 a.Client.li.length c8)
 obtain ⟨A9, a1, rfl⟩ := u.form
 let b1 : Value := (.slice A9 a.Formula.Kids.length a1)
 obtain ⟨Z, a2, rfl⟩ := I.form
 let b8 : Value := (.slice Z a.Keys.length a2)
 let a0 := (C1 a.kE.Name A1 a.kE.kQ.length c2 A3 a.kE.li.length c4 a.Client.Name A5 a.Client.kQ.length c6 A7 a.Client.li.length c8 a.Formula.Op a.Formula.K a.Formula.kD.kE a.Formula.kD.kL A9 a.Formula.Kids.length a1 a.oN a.mw.pD a.mw.pE a.mW a.nU a.ny Z a.Keys.length a2)
 refine VE (lI b rfl (fun m6 d7 b => Wa (lr (Wa (lS (VA b Mh a0 dA cF (bS hm fun m8 i2 hm => VE (Eg b call37 (Ay a b2 b4 P b3 b1 b8 _ _ (g.mono kX.mono b.kM) (y.mono me.mono b.kM) (c.mono kX.mono b.kM) (x.mono me.mono b.kM) (u.mono kN.mono b.kM) (I.mono oY.mono b.kM) i2) (fun m7 b => ?_)))))))))
 refine V (ol rfl) (ln (CI hm rfl (fun i1 hm => ?_) (fun i1 hm => ?_)))
 ·refine sg (Wa (ln ?_))
  replace b := b.kH (Db St)
  refine lC (lJ ?_)
  obtain rfl := sj hm
  exact mD (v := (.slice none 0 0)) rfl rfl ⟨_, [], rfl, b.oR (fun p hq => by cases hq) (by simp), lA.nil _ _ _⟩
 refine kS (Wf xK (Wf oU (VB b Mh rfl rfl eX (V (ml bK rfl g) (Wm (ln (mf (fun i E W => ∃ T a4 K Y d3, (E 13 = .int .i64 (i : Nat) ∧ E 12 = .int .i64 (a.kE.kQ.length : Nat)) ∧ lu (hp w) Y ∧ ST false lU w W Y ((d7, Ol a0 93) :: (K ++ d3)) ∧ E 1 = (.pointer (some ⟨d7, 0, none⟩)) ∧ E 3 = T ∧ lA 91 mE 2 T a4 K ∧ qI a (a.kE.kQ.drop i) i a4 = some r) a.kE.kQ.length g.len ⟨(.slice none 0 0), ([]), [], (hp w), _, ⟨rfl, rfl⟩, (lu.refl _), (b.kH St), rfl, rfl, (lA.nil _ _ _), hm⟩ dc dc dc (fun _ _ _ h => by obtain ⟨_, _, _, _, _, m, _⟩ := h; exact m) ?_ ?_)))))))
 ·rintro N E W f2 ⟨T, a4, K, Y, d3, ⟨d, n⟩, j, b, a3, c1, s, k⟩
  obtain ⟨m4, k6, g0, k4, d9⟩ := lT f2
  rw [g0] at k
  refine bg (Wh d (Wa (lr (V (kI a3 (kO b.has Mh a0 rfl dA cF)) (Wm (bS k fun i5 f6 k => ?_))))))
  refine VE (eD b (aY _) call45 (fun hh => ms.mR (BQ a b2 b4 P b3 b1 b8 0 (N : Int) _ _ hh (g.mono kX.mono j) (y.mono me.mono j) (c.mono kX.mono j) (x.mono me.mono j) (u.mono kN.mono j) (I.mono oY.mono j) f6)) ?_ (L0 := []))
  let b6 := (⟨0, (N : Int)⟩ : mj)
  rintro _ m2 e2 k9 b d1 aa ⟨i9, j0, j3, j4, j5, j6, c7, rfl, g2, g3, g4, g7, g8, g9⟩
  obtain rfl := c7.symm
  refine bS k fun m0 f7 k => VE (Eg b call37 (Ay i5 i9 j0 j3 j4 j5 j6 _ _ (g2.mono kX.mono b.kM) (g3.mono me.mono b.kM) (g4.mono kX.mono b.kM) (g7.mono me.mono b.kM) (g8.mono kN.mono b.kM) (g9.mono oY.mono b.kM) f7) (fun l2 b => V (ol rfl) (ln (CI k rfl (fun e8 k => ?_) (fun e8 k => ?_)))))
  ·refine kW (Wh c1 (Wm (V (mB (v := (.agg (mE (b6)).toArray)) (oJ rfl rfl) (zG gQ fQ fP kr)) (VE (lD (cs := (mE (b6)).toArray) b (ni rfl) (nj dW jl gQ) (fun l3 h8 b => ?_))))))
   replace b := b.perm (Nr (Qb (Qb Qz)) Nz)
   refine bS k fun i3 e9 k => VE (oG (enc := mE) (v := T) (vs := (.slice (some ⟨h8, 0, none⟩) 1 1)) (R := K) b si dc Bw dW ui.1 ui.2.1 rfl ui.2.2.1 ui.2.2.2 rfl rfl s (Sl.lit (enc := mE) (l := [b6]) si rfl nb rfl (b.at_ (Ma Mh))) e9 (fun l4 i7 h6 b e6 => Wa (lH (lL (kU ?_)))))
   replace b := b.kH (Kr (Db St))
   exact ⟨d, i7, i3, h6, e2, _, ⟨rfl, n⟩, (j.trans d1), (b.kH (Sb (Pr Pz) St)), a3, rfl, e6, (by rw [d9]; exact k)⟩
  exact mr (lL (kU ⟨d, T, a4, K, e2, _, ⟨rfl, n⟩, (j.trans d1), (b.kH St), a3, c1, s, (by rw [d9]; exact k)⟩))
 rintro E W ⟨T, a4, K, Y, d3, ⟨d, n⟩, j, b, a3, c1, s, k⟩
 rw [aI] at k
 refine kU (kZ (sg (V (kP vT a3) (Wf oU (VB b Mh rfl rfl eX (V (ml bK rfl c) (Wm (ln (CJ k (fun d5 E W => ∃ d0 F d6 e1, lu Y d6 ∧ ST false lU w W d6 (F ++ e1) ∧ E 3 = d0 ∧ lA 91 mE 2 d0 d5 F) (fun d5 f5 => ?_) ?_)))))))))
 ·refine mf (fun i E W => ∃ U q M a9 d4, (E 31 = .int .i64 (i : Nat) ∧ E 30 = .int .i64 (a.Client.kQ.length : Nat)) ∧ lu Y a9 ∧ ST false lU w W a9 ((d7, Ol a0 93) :: (M ++ d4)) ∧ E 1 = (.pointer (some ⟨d7, 0, none⟩)) ∧ E 3 = U ∧ lA 91 mE 2 U q M ∧ qF a (a.Client.kQ.drop i) i q = some d5) a.Client.kQ.length c.len ⟨T, a4, K, Y, _, ⟨rfl, rfl⟩, (lu.refl _), (b.kH St), a3, c1, s, f5⟩ dc dc dc (fun _ _ _ h => by obtain ⟨_, _, _, _, _, m, _⟩ := h; exact m) ?_ ?_
  ·rintro Q E W f3 ⟨U, q, M, a9, d4, ⟨d, n⟩, z, b, L, O, A, t⟩
   let b7 := (⟨1, (Q : Int)⟩ : mj)
   obtain ⟨m5, k7, g1, k5, e0⟩ := lT f3
   rw [g1] at t
   refine bg (Wh d (Wa (lr (V (kI L (kO b.has Mh a0 rfl dA cF)) (Wm (bS t fun i6 f8 t => ?_))))))
   refine VE (eD b (aY _) call45 (fun hh => ms.mR (BQ a b2 b4 P b3 b1 b8 1 (Q : Int) _ _ hh (g.mono kX.mono (j.trans z)) (y.mono me.mono (j.trans z)) (c.mono kX.mono (j.trans z)) (x.mono me.mono (j.trans z)) (u.mono kN.mono (j.trans z)) (I.mono oY.mono (j.trans z)) f8)) ?_ (L0 := []))
   rintro _ m3 e3 l0 b d2 ab ⟨j7, j8, j9, k0, k1, k2, c9, rfl, h0, h1, h2, h3, h4, h5⟩
   obtain rfl := c9.symm
   refine bS t fun m1 f9 t => VE (Eg b call37 (Ay i6 j7 j8 j9 k0 k1 k2 _ _ (h0.mono kX.mono b.kM) (h1.mono me.mono b.kM) (h2.mono kX.mono b.kM) (h3.mono me.mono b.kM) (h4.mono kN.mono b.kM) (h5.mono oY.mono b.kM) f9) (fun l6 b => V (ol rfl) (ln (CI t rfl (fun f0 t => ?_) (fun f0 t => ?_)))))
   ·refine kW (Wh O (Wm (V (mB (v := (.agg (mE (b7)).toArray)) (oJ rfl rfl) (zG gQ fQ fP kr)) (VE (lD (cs := (mE (b7)).toArray) b (ni rfl) (nj dW jl gQ) (fun l7 h9 b => ?_))))))
    replace b := b.perm (Nr (Qb (Qb Qz)) Nz)
    refine bS t fun i4 f1 t => VE (oG (enc := mE) (v := U) (vs := (.slice (some ⟨h9, 0, none⟩) 1 1)) (R := M) b si dc Bw dW ui.1 ui.2.1 rfl ui.2.2.1 ui.2.2.2 rfl rfl A (Sl.lit (enc := mE) (l := [b7]) si rfl nb rfl (b.at_ (Ma Mh))) f1 (fun l8 i8 h7 b e7 => Wa (lH (lL (kU ?_)))))
    replace b := b.kH (Kr (Db St))
    exact ⟨d, i8, i4, h7, e3, _, ⟨rfl, n⟩, (z.trans d2), (b.kH (Sb (Pr Pz) St)), L, rfl, e7, (by rw [e0]; exact t)⟩
   exact mr (lL (kU ⟨d, U, q, M, e3, _, ⟨rfl, n⟩, (z.trans d2), (b.kH St), L, O, A, (by rw [e0]; exact t)⟩))
  rintro E W ⟨U, q, M, a9, d4, ⟨d, n⟩, z, b, L, O, A, t⟩
  rw [aI] at t
  refine kU ?_
  obtain rfl := sj t
  exact ⟨U, M, a9, _, z, (b.kH (Db St)), O, A⟩
 rintro l9 E W ⟨d0, F, d6, e1, k3, b, i0, d8⟩ f4
 refine sg (Wh i0 (Wa (lt ?_)))
 obtain rfl := sj f4
 exact mD (v := d0) rfl rfl ⟨_, F, rfl, b.oR (fun p hq => (Ml hq)) d8.nd, d8⟩
theorem Jq (a : mI) (u y g t i B : Value) (r : Int) (w : World) (k : Sl kY 15 (hp w) u a.kE.kQ) (x : Sl lO 8 (hp w) y a.kE.li) (c : Sl kY 15 (hp w) g a.Client.kQ) (j : Sl lO 8 (hp w) t a.Client.li) (z : Sl kG 5 (hp w) i a.Formula.Kids) (D : Sl ou 2 (hp w) B a.Keys) (hm : yN a = some r) :
  lE false Tryz.prog 43 [(.agg #[(.string a.kE.Name), u, y, (.string a.Client.Name), g, t, (.int .i64 a.Formula.Op), (.int .i64 a.Formula.K), (.string a.Formula.kD.kE), (.string a.Formula.kD.kL), i, (.int .i64 a.oN), (.int .i64 a.mw.pD), (.int .i64 a.mw.pE), (.int .i64 a.mW), (.int .i64 a.nU), (.int .i64 a.ny), B])] w (.int .i64 r) := by
 refine cG 20 func43 rfl (fun b => sg ?_)
 obtain ⟨H, M, rfl⟩ := k.form
 obtain ⟨I, N, rfl⟩ := x.form
 obtain ⟨J, Q, rfl⟩ := c.form
 obtain ⟨K, T, rfl⟩ := j.form
 obtain ⟨A9, a3, rfl⟩ := z.form
 obtain ⟨a2, a4, rfl⟩ := D.form
 refine VE (lI b rfl (fun p s b => Wa (lr (Wf xK (VA b Mh (C4 a.kE.Name H a.kE.kQ.length M I a.kE.li.length N) eC dC (Wf vT (VA b Mh (C4 a.Client.Name J a.Client.kQ.length Q K a.Client.li.length T) eC dC (bS hm fun v Y hm => ?_))))))))
 refine VE (F7 b (aY _) call102 (fun _ _ _ _ => (GY a.kE (.slice H a.kE.kQ.length M) (.slice I a.kE.li.length N) a.Client (.slice J a.Client.kQ.length Q) (.slice K a.Client.li.length T) _ _ (k.mono kX.mono b.kM) (x.mono me.mono b.kM) (c.mono kX.mono b.kM) (j.mono me.mono b.kM) Y)) (fun q A L m b a5 h d U => ?_) (L0 := []))
 obtain ⟨E, n, F, a9, G, rfl, Z, l⟩ := U
 replace G := G.symm; subst G
 replace b := b.perm (Tr (Tr Tn))
 refine Wm (Wx rfl (Wx rfl (Wx rfl (Wa (Wa (Wa (ln ?_)))))))
 replace b := b.kH (Kr (Kr (Db St)))
 refine sg (Wm (V (oq aS rfl Z) (Wm (V (oq aS rfl l) (Wi rfl (Wa (ln ?_)))))))
 exact lC (rQ hm b)
theorem KC (a : lm) (z t : Value) (c : lm) (B u : Value) (r : Bool) (w : World) (x : Sl (Pl (mM .u8)) 1 (hp w) z a.Signed.Tag) (j : Sl kG 5 (hp w) t a.kJ.Kids) (y : Sl (Pl (mM .u8)) 1 (hp w) B c.Signed.Tag) (k : Sl kG 5 (hp w) u c.kJ.Kids) (hm : zV a c = some r) :
  lE false Tryz.prog 166 [(.agg #[(.int .i64 a.Signed.kF.Kind), (.string a.Signed.kF.Head.kE), (.string a.Signed.kF.Head.kL), (.string a.Signed.kF.ma), (.string a.Signed.kF.B.kE), (.string a.Signed.kF.B.kL), (.string a.Signed.kF.C.kE), (.string a.Signed.kF.C.kL), (.string a.Signed.kF.mc), z, (.int .i64 a.kJ.Op), (.int .i64 a.kJ.K), (.string a.kJ.kD.kE), (.string a.kJ.kD.kL), t]), (.agg #[(.int .i64 c.Signed.kF.Kind), (.string c.Signed.kF.Head.kE), (.string c.Signed.kF.Head.kL), (.string c.Signed.kF.ma), (.string c.Signed.kF.B.kE), (.string c.Signed.kF.B.kL), (.string c.Signed.kF.C.kE), (.string c.Signed.kF.C.kL), (.string c.Signed.kF.mc), B, (.int .i64 c.kJ.Op), (.int .i64 c.kJ.K), (.string c.kJ.kD.kE), (.string c.kJ.kD.kL), u])] w (.bool r) := by
 refine cG 30 func166 rfl (fun b => sg ?_)
 obtain ⟨A1, c2, rfl⟩ := x.form
 obtain ⟨K, N, rfl⟩ := j.form
 refine VE (lI b rfl (fun W6 d b => ?_))
 obtain ⟨A7, p, rfl⟩ := y.form
 obtain ⟨M, H, rfl⟩ := k.form
 refine VE (lI b rfl (fun q U b => Wa (lr (Wf wP (Wf yB (VA b (Mt Mh) (kK a.Signed.kF) bX aO (Wf wP (Wf yB (VA b Mh (kK c.Signed.kF) bX aO (V (uY rfl rfl (nW fK) (ra (vN _ a.Signed.kF c.Signed.kF))) (Wm (LJ hm (fun a2 E W => ∃ Q, ST false lU w W (hp w) ((U, Ol (C3 c.Signed.kF.Kind c.Signed.kF.Head.kE c.Signed.kF.Head.kL c.Signed.kF.ma c.Signed.kF.B.kE c.Signed.kF.B.kL c.Signed.kF.C.kE c.Signed.kF.C.kL c.Signed.kF.mc A7 c.Signed.Tag.length p c.kJ.Op c.kJ.K c.kJ.kD.kE c.kJ.kD.kL M c.kJ.Kids.length H) 60) :: ((d, Ol (C3 a.Signed.kF.Kind a.Signed.kF.Head.kE a.Signed.kF.Head.kL a.Signed.kF.ma a.Signed.kF.B.kE a.Signed.kF.B.kL a.Signed.kF.C.kE a.Signed.kF.C.kL a.Signed.kF.mc A1 a.Signed.Tag.length c2 a.kJ.Op a.kJ.K a.kJ.kD.kE a.kJ.kD.kL K a.kJ.Kids.length N) 60) :: Q)) ∧ E 2 = (.pointer (some ⟨d, 0, none⟩)) ∧ E 3 = (.pointer (some ⟨U, 0, none⟩)) ∧ E 4 = (.bool false) ∧ E 22 = (.bool a2)) 10 ?_ (fun a2 G J => ?_)))))))))))))
 ·rintro c1 E W ⟨Q, b, h, l, Y, m⟩ a3
  refine Wh m (LJ a3 (fun Z E W => ∃ T, ST false lU w W (hp w) T ∧ E 4 = (.bool false) ∧ E 29 = (.bool Z)) 6 ?_ (fun Z D I => ?_))
  ·rintro F E W ⟨T, b, v, n⟩ a4
   exact Wg n (lt (rQ a4 b))
  refine bC D (fun i D => ?_) (fun i D => ?_)
  ·refine ug i (kP Fc h) (ug i (kI rfl (kO b.has (Mt Mh) (C2 a.kJ.Op a.kJ.K a.kJ.kD.kE a.kJ.kD.kL K a.kJ.Kids.length N) rfl aK aC)) (ug i (kP Fc l) (ug i (kI rfl (kO b.has Mh (C2 c.kJ.Op c.kJ.K c.kJ.kD.kE c.kJ.kD.kL M c.kJ.Kids.length H) rfl aK aC)) (bS D fun A a5 D => tm i (Eg b call167 ((zU lF) a.kJ (.slice K a.kJ.Kids.length N) c.kJ (.slice M c.kJ.Kids.length H) _ _ (j.mono kN.mono b.kM) (k.mono kN.mono b.kM) a5) (fun s b => V (lj (cB i) rfl) ?_))))))
   obtain rfl := sj D
   exact I _ _ ⟨_, (b.kH (Db (Db St))), Y, rfl⟩
  refine un i (un i (un i (un i (un i (V (ll (cB i) rfl) ?_)))))
  obtain rfl := sj D
  exact I _ _ ⟨_, (b.kH (Db (Db St))), Y, rfl⟩
 refine bC G (fun g G => ?_) (fun g G => ?_)
 ·refine ug g (kP wP rfl) (ug g (kP J9 rfl) (ug g (kI rfl (lg b.has (Mt Mh) rfl km)) (ug g (FI cV gK cD rfl (x.mono (Pl.mono _) b.kM)) (ug g (kP wP rfl) (ug g (kP J9 rfl) (ug g (kI rfl (lg b.has Mh rfl km)) (ug g (FI cV gK cD rfl (y.mono (Pl.mono _) b.kM)) (ug g (rR rfl rfl rfl) (V (lj (cB g) rfl) ?_)))))))))
  obtain rfl := sj G
  exact J _ _ ⟨_, (b.kH St), rfl, rfl, rfl, rfl⟩
 refine un g (un g (un g (un g (un g (un g (un g (un g (un g (V (ll (cB g) rfl) ?_)))))))))
 obtain rfl := sj G
 exact J _ _ ⟨_, (b.kH St), rfl, rfl, rfl, rfl⟩
set_option maxHeartbeats 1000000 in
theorem Fa (x : lW) (a2 a4 : Value) (B : lW) (a3 a5 : Value) (r : Bool) (w : World) (y : Sl kY 15 (hp w) a2 x.kQ) (D : Sl lO 8 (hp w) a4 x.li) (I : Sl kY 15 (hp w) a3 B.kQ) (K : Sl lO 8 (hp w) a5 B.li) (hm : xz x B = some r) :
  lE false Tryz.prog 101 [(.agg #[(.string x.Name), a2, a4]), (.agg #[(.string B.Name), a3, a5])] w (.bool r) := by
 refine cG 89 func101 rfl (fun b => sg ?_)
 obtain ⟨A1, c2, rfl⟩ := y.form
 obtain ⟨A3, c4, rfl⟩ := D.form
 let d7 := (C4 x.Name A1 x.kQ.length c2 A3 x.li.length c4)
 refine VE (lI b rfl (fun W6 m b => ?_))
 obtain ⟨A7, c8, rfl⟩ := I.form
 obtain ⟨A9, b3, rfl⟩ := K.form
 let d6 := (C4 B.Name A7 B.kQ.length c8 A9 B.li.length b3)
 refine VE (lI b rfl (fun n2 J b => Wa (lS (Wf zN (VB b (Mt Mh) rfl rfl bW (Wf zN (VB b Mh rfl rfl bW (V (rR rfl rfl rfl) (Wm (LJ hm (fun f4 E W => ∃ j8, ST false lU w W (hp w) ((J, Ol d6 25) :: ((m, Ol d7 25) :: j8)) ∧ E 2 = (.pointer (some ⟨m, 0, none⟩)) ∧ E 3 = (.pointer (some ⟨J, 0, none⟩)) ∧ E 22 = (.bool f4)) 8 ?_ (fun f4 Q c1 => ?_)))))))))))
 ·let d5 : Value := (.pointer (some ⟨J, 0, none⟩))
  let d4 : Value := (.pointer (some ⟨m, 0, none⟩))
  let s := (d7.toArray : Array Value)
  let a0 := (d6.toArray : Array Value)
  rintro n3 E W ⟨j8, b, f6, f7, k8⟩ k2
  refine Wh k8 (LJ k2 (fun f3 E W => ∃ j9, ST false lU w W (hp w) ((J, Obj.cells a0 25 (0, 0)) :: ((m, Obj.cells s 25 (0, 0)) :: j9)) ∧ E 2 = d4 ∧ E 3 = d5 ∧ E 31 = (.bool f3)) 8 ?_ (fun f3 N c0 => ?_))
  ·rintro n4 E W ⟨j9, b, k0, k9, l0⟩ A
   refine ln (CI A l0 (fun k1 A => ?_) (fun k1 A => ?_))
   ·refine sg (Wa (ln ?_))
    replace b := b.kH (Db (Db St))
    refine lC (lJ ?_)
    obtain rfl := sj A
    exact rP b
   refine kS (V (kP oU k0) (VB b (Mt Mh) rfl rfl eX (V (ml bK rfl y) (Wm (ln (mf (fun i E W => ∃ d8, (E 35 = .int .i64 (i : Nat) ∧ E 34 = .int .i64 (x.kQ.length : Nat)) ∧ ST false lU w W (hp w) ((J, Obj.cells a0 25 (0, 0)) :: ((m, Obj.cells s 25 (0, 0)) :: d8)) ∧ E 2 = d4 ∧ E 3 = d5 ∧ tN B x (x.kQ.drop i) i = some r) x.kQ.length y.len ⟨_, ⟨rfl, rfl⟩, (b.kH St), k0, k9, A⟩ dc dc dc (fun _ _ _ h => by obtain ⟨_, p, _⟩ := h; exact p) ?_ ?_))))))
   ·rintro g4 E W h9 ⟨d8, ⟨n, q⟩, b, v, P, k⟩
    obtain ⟨g8, m6, j3, j0, j4⟩ := lT h9
    rw [j3] at k
    refine bg (Wh n (Wa (ln (kZ ?_))))
    replace b := b.drew
    have d := b.has.kH (Kb (Kb Sn))
    refine mi d lN (X 0 rfl d (kP oU v) (XH 1 rfl d (fun _ l => kI rfl (lg l (Mt Mh) rfl eX)) (X 2 rfl d (kT rfl) (XQ 3 rfl d (mU (i := (g4 : Int)) (x0 := g8) kY.out bK cR rfl rfl y (aH _) j0) (fun m9 ⟨_, ⟨k3, k4, rfl, i6, i7⟩, i3⟩ => XH 4 rfl d (fun _ l => kI rfl (lB l i3 iX cR)) (X 5 rfl d (kP oU P) (XH 6 rfl d (fun _ l => kI rfl (lg l Mh rfl eX)) (X 7 rfl d (kT rfl) (bS k fun g9 f0 k => XQ 8 rfl d (mU (i := (g4 : Int)) (x0 := g9) kY.out bK cR rfl rfl I (lM f0) (lK f0)) (fun n0 ⟨_, ⟨k5, k6, rfl, i8, i9⟩, i4⟩ => XH 9 rfl d (fun _ l => kI rfl (lB l i4 iX cR)) (bS k fun n1 i5 k => XE 10 rfl (Eg b call166 (KC g8 k3 k4 g9 k5 k6 _ _ (i6.mono (Pl.mono _) b.kM) (i7.mono kN.mono b.kM) (i8.mono (Pl.mono _) b.kM) (i9.mono kN.mono b.kM) i5) (fun m8 b => ?_)))))))))))))
    have d := b.has.kH (Kb (Kb Sn))
    refine ⟨d, (X 11 rfl d (ol rfl) (mu kr (kU (CI k rfl (fun h8 k => ?_) (fun h8 k => ?_)))))⟩
    ·refine sg (Wa (ln ?_))
     replace b := b.kH (Db (Db St))
     refine lC (nC (lJ (nC (lJ ?_))))
     obtain rfl := sj k
     exact rP b
    exact mr (lL (kU ⟨n, _, ⟨rfl, q⟩, (b.kH St), v, P, (by rw [j4]; exact k)⟩))
   rintro E W ⟨d8, ⟨n, q⟩, b, v, P, k⟩
   rw [aI] at k
   refine kU (kZ (sg (V (kP AX v) (VB b (Mt Mh) rfl rfl kl (V (ml cX rfl D) (Wm (ln (Sp k (fun g7 E W => ∃ f5, ST false lU w W (hp w) f5) (fun g7 i2 c6 => ?_) ?_))))))))
   ·refine mf (fun i E W => ∃ c3, (E 54 = .int .i64 (i : Nat) ∧ E 53 = .int .i64 (x.li.length : Nat)) ∧ ST false lU w W (hp w) ((J, Obj.cells a0 25 (0, 0)) :: ((m, Obj.cells s 25 (0, 0)) :: c3)) ∧ E 2 = d4 ∧ E 3 = d5 ∧ tV B (x.li.drop i) i = some g7) x.li.length D.len ⟨_, ⟨rfl, rfl⟩, (b.kH St), v, P, i2⟩ dc dc dc (fun _ _ _ h => by obtain ⟨_, p, _⟩ := h; exact p) ?_ ?_
    ·rintro R E W i0 ⟨c3, ⟨n, q⟩, b, L, O, z⟩
     obtain ⟨c, m7, j6, j5, j7⟩ := lT i0
     rw [j6] at z
     refine bg (Wh n (Wa (ln (kZ ?_))))
     replace b := b.drew
     have d := b.has.kH (Kb (Kb Sn))
     refine mi d lN (X 0 rfl d (kP AX L) (XH 1 rfl d (fun _ l => kI rfl (lg l (Mt Mh) rfl kl)) (X 2 rfl d (kT rfl) (XQ 3 rfl d (mU (i := (R : Int)) (x0 := c) lO.out cX dX rfl rfl D (aH _) j5) (fun l6 ⟨_, ⟨m0, m1, rfl, c9, d0⟩, g0⟩ => XH 4 rfl d (fun _ l => kI rfl (lB l g0 jU dX)) (X 5 rfl d (kP AX O) (XH 6 rfl d (fun _ l => kI rfl (lg l Mh rfl kl)) (X 7 rfl d (kT rfl) (bS z fun a d3 z => XQ 8 rfl d (mU (i := (R : Int)) (x0 := a) lO.out cX dX rfl rfl K (lM d3) (lK d3)) (fun l7 ⟨_, ⟨m2, m3, rfl, d1, d2⟩, g1⟩ => XH 9 rfl d (fun _ l => kI rfl (lB l g1 jU dX)) (NK 10 11 rfl rfl kr kr kr dc dc rfl rfl b iI iI (fun W F => (F.kH (Kb (Kb Sn)))) (fun W F => (F.kH (Kb (Kb Sn)))) (fun W F => (F.kH (Kb (Kb Sn)))) (fun l1 e4 e5 b => ?_))))))))))))
     obtain ⟨T, Y, rfl⟩ := c9.form
     obtain ⟨a7, a9, rfl⟩ := d0.form
     let a6 := (C7 c.kD.kE c.kD.kL c.kJ.Op c.kJ.K c.kJ.kD.kE c.kJ.kD.kL T c.kJ.Kids.length Y a7 c.nf.length a9)
     refine XO 12 rfl (lh (.agg a6.toArray) (a6.toArray) b rfl rfl dX oc nb rfl (fun l2 b => ?_))
     have d := b.has.kH (Db (Db (Kb (Kb Sn))))
     refine ⟨d, ?_⟩
     obtain ⟨U, Z, rfl⟩ := d1.form
     obtain ⟨a8, b0, rfl⟩ := d2.form
     let b8 := (C7 a.kD.kE a.kD.kL a.kJ.Op a.kJ.K a.kJ.kD.kE a.kJ.kD.kL U a.kJ.Kids.length Z a8 a.nf.length b0)
     replace b := b.perm (Nb (Pb Pz) Nz)
     refine XO 13 rfl (lh (.agg b8.toArray) (b8.toArray) b rfl rfl dX oc nb rfl (fun l3 b => ?_))
     have d := b.has.kH (Db (Db (Kb (Kb Sn))))
     refine ⟨d, (mu kr (kU (sg (Wf G7 (VA b (Mt Mh) (kR c.kD) bI aR (Wf G7 (VA b Mh (kR a.kD) bI aR (V (Ed rfl rfl (nW eL) (Al (qf _ c.kD a.kD))) (Wm (LJ z (fun f2 E W => ∃ e2, ST false lU w W (hp w) ((e5, Ol b8 87) :: ((e4, Ol a6 87) :: ((J, Obj.cells a0 25 (0, 0)) :: ((m, Obj.cells s 25 (0, 0)) :: e2)))) ∧ E 2 = d4 ∧ E 3 = d5 ∧ E 7 = (.pointer (some ⟨e4, 0, none⟩)) ∧ E 8 = (.pointer (some ⟨e5, 0, none⟩)) ∧ E 53 = (.int .i64 (x.li.length : Int)) ∧ E 54 = (.int .i64 (R : Int)) ∧ E 79 = (.bool f2)) 7 ?_ (fun f2 H b9 => ?_)))))))))))⟩
     ·rintro m4 E W ⟨e2, b, e6, e7, h0, h1, e8, e9, h2⟩ f9
      refine Wh h2 (LJ f9 (fun f1 E W => ∃ e3, ST false lU w W (hp w) ((J, Obj.cells a0 25 (0, 0)) :: ((m, Obj.cells s 25 (0, 0)) :: e3)) ∧ E 2 = d4 ∧ E 3 = d5 ∧ E 53 = (.int .i64 (x.li.length : Int)) ∧ E 54 = (.int .i64 (R : Int)) ∧ E 87 = (.bool f1)) 7 ?_ (fun f1 G b7 => ?_))
      ·rintro m5 E W ⟨e3, b, h3, h4, h5, h6, h7⟩ M
       refine ln (CI M h7 (fun f8 M => ?_) (fun f8 M => ?_))
       ·refine sg (Wa (ln ?_))
        replace b := b.kH (Db (Db St))
        refine lC (nC (lJ (nC (lJ ?_))))
        obtain rfl := sj M
        replace c6 : some false = some r := c6
        obtain rfl := sj c6
        exact rP b
       exact mr (lL (kU ⟨h6, _, ⟨rfl, h5⟩, (b.kH St), h3, h4, (by rw [j7]; exact M)⟩))
      refine bC G (fun j G => ?_) (fun j G => ?_)
      ·refine un j (un j (un j (un j (un j (un j (V (lj (cB j) rfl) ?_))))))
       obtain rfl := sj G
       exact b7 _ _ ⟨_, (b.kH (Db (Db St))), e6, e7, e8, e9, rfl⟩
      refine ug j (kP Fv h0) (ug j (kI rfl (lg b.has (Mt Mh) rfl kC)) (ug j (kP Fv h1) (ug j (kI rfl (lg b.has Mh rfl kC)) (bS G fun l8 g2 G => tm j (Eg b call12 (lE.mR (B7 (.slice a7 c.nf.length a9) c.nf (.slice a8 a.nf.length b0) a.nf _ _ (d0.mono (Pl.mono _) b.kM) (d2.mono (Pl.mono _) b.kM) g2)) (fun l4 b => ug j (ol rfl) (V (ll (cB j) rfl) ?_)))))))
      obtain rfl := sj G
      exact b7 _ _ ⟨_, (b.kH (Db (Db St))), e6, e7, e8, e9, rfl⟩
     refine bC H (fun g H => ?_) (fun g H => ?_)
     ·refine un g (un g (un g (un g (un g (un g (V (lj (cB g) rfl) ?_))))))
      obtain rfl := sj H
      exact b9 _ _ ⟨_, (b.kH St), L, O, rfl, rfl, q, n, rfl⟩
     refine ug g (kP Ft rfl) (ug g (kI rfl (kO b.has (Mt Mh) (C2 c.kJ.Op c.kJ.K c.kJ.kD.kE c.kJ.kD.kL T c.kJ.Kids.length Y) rfl aK aC)) (ug g (kP Ft rfl) (ug g (kI rfl (kO b.has Mh (C2 a.kJ.Op a.kJ.K a.kJ.kD.kE a.kJ.kD.kL U a.kJ.Kids.length Z) rfl aK aC)) (bS H fun l9 g3 H => tm g (Eg b call167 ((zU lF) c.kJ (.slice T c.kJ.Kids.length Y) a.kJ (.slice U a.kJ.Kids.length Z) _ _ (c9.mono kN.mono b.kM) (d1.mono kN.mono b.kM) g3) (fun l5 b => ug g (ol rfl) (V (ll (cB g) rfl) ?_)))))))
     obtain rfl := sj H
     exact b9 _ _ ⟨_, (b.kH St), L, O, rfl, rfl, q, n, rfl⟩
    rintro E W ⟨c3, ⟨n, q⟩, b, L, O, z⟩
    rw [aI] at z
    refine kU ?_
    obtain rfl := sj z
    exact ⟨_, rfl, _, (b.kH (Db (Db St)))⟩
   rintro ⟨⟩ E W ⟨f5, b⟩ i1
   exact sg (Wa (lt (rQ i1 b)))
  refine bC N (fun u N => ?_) (fun u N => ?_)
  ·refine un u (un u (un u (un u (un u (un u (un u (V (lj (cB u) rfl) ?_)))))))
   obtain rfl := sj N
   exact c0 _ _ ⟨_, (b.kH St), f6, f7, rfl⟩
  refine ug u (kP AX f6) (ug u (kI rfl (lg b.has (Mt Mh) rfl kl)) (ug u (ml cX rfl D) (ug u (kP AX f7) (ug u (kI rfl (lg b.has Mh rfl kl)) (ug u (ml cX rfl K) (ug u (lR rfl rfl rfl) (V (ll (cB u) rfl) ?_)))))))
  obtain rfl := sj N
  exact c0 _ _ ⟨_, (b.kH St), f6, f7, rfl⟩
 refine bC Q (fun t Q => ?_) (fun t Q => ?_)
 ·refine un t (un t (un t (un t (un t (un t (un t (V (lj (cB t) rfl) ?_)))))))
  obtain rfl := sj Q
  exact c1 _ _ ⟨_, (b.kH St), rfl, rfl, rfl⟩
 refine ug t (kP oU rfl) (ug t (kI rfl (lg b.has (Mt Mh) rfl eX)) (ug t (ml bK rfl y) (ug t (kP oU rfl) (ug t (kI rfl (lg b.has Mh rfl eX)) (ug t (ml bK rfl I) (ug t (lR rfl rfl rfl) (V (ll (cB t) rfl) ?_)))))))
 obtain rfl := sj Q
 exact c1 _ _ ⟨_, (b.kH St), rfl, rfl, rfl⟩
theorem JP (a : mI) (H N k G t Z : Value) (c : mI) (J Q u I x a2 : Value) (r : Bool) (w : World) (z : Sl kY 15 (hp w) H a.kE.kQ) (K : Sl lO 8 (hp w) N a.kE.li) (i : Sl kY 15 (hp w) k a.Client.kQ) (y : Sl lO 8 (hp w) G a.Client.li) (T : Sl kG 5 (hp w) t a.Formula.Kids) (a3 : Sl ou 2 (hp w) Z a.Keys) (D : Sl kY 15 (hp w) J c.kE.kQ) (M : Sl lO 8 (hp w) Q c.kE.li) (j : Sl kY 15 (hp w) u c.Client.kQ) (B : Sl lO 8 (hp w) I c.Client.li) (U : Sl kG 5 (hp w) x c.Formula.Kids) (a4 : Sl ou 2 (hp w) a2 c.Keys) (hm : zW a c = some r) :
  lE false Tryz.prog 38 [(.agg #[(.string a.kE.Name), H, N, (.string a.Client.Name), k, G, (.int .i64 a.Formula.Op), (.int .i64 a.Formula.K), (.string a.Formula.kD.kE), (.string a.Formula.kD.kL), t, (.int .i64 a.oN), (.int .i64 a.mw.pD), (.int .i64 a.mw.pE), (.int .i64 a.mW), (.int .i64 a.nU), (.int .i64 a.ny), Z]), (.agg #[(.string c.kE.Name), J, Q, (.string c.Client.Name), u, I, (.int .i64 c.Formula.Op), (.int .i64 c.Formula.K), (.string c.Formula.kD.kE), (.string c.Formula.kD.kL), x, (.int .i64 c.oN), (.int .i64 c.mw.pD), (.int .i64 c.mw.pE), (.int .i64 c.mW), (.int .i64 c.nU), (.int .i64 c.ny), a2])] w (.bool r) := by
 refine cG 17 func38 rfl (fun b => sg ?_)
 obtain ⟨A1, c2, rfl⟩ := z.form
 obtain ⟨A3, A, rfl⟩ := K.form
 obtain ⟨A5, F, rfl⟩ := i.form
 obtain ⟨A7, L, rfl⟩ := y.form
 obtain ⟨A9, d5, rfl⟩ := T.form
 obtain ⟨d2, d6, rfl⟩ := a3.form
 refine VE (lI b rfl (fun P e5 b => ?_))
 obtain ⟨d, m, rfl⟩ := D.form
 obtain ⟨h, n, rfl⟩ := M.form
 obtain ⟨l, p, rfl⟩ := j.form
 obtain ⟨a9, q, rfl⟩ := B.form
 obtain ⟨d3, d7, rfl⟩ := U.form
 obtain ⟨d4, d8, rfl⟩ := a4.form
 refine VE (lI b rfl (fun R e6 b => Wa (lr (Wf xK (VA b (Mt Mh) (C4 a.kE.Name A1 a.kE.kQ.length c2 A3 a.kE.li.length A) eC dC (Wf xK (VA b Mh (C4 c.kE.Name d c.kE.kQ.length m h c.kE.li.length n) eC dC (bS hm fun e8 d0 hm => VE (Eg b call101 (Fa a.kE (.slice A1 a.kE.kQ.length c2) (.slice A3 a.kE.li.length A) c.kE (.slice d c.kE.kQ.length m) (.slice h c.kE.li.length n) _ _ (z.mono kX.mono b.kM) (K.mono me.mono b.kM) (D.mono kX.mono b.kM) (M.mono me.mono b.kM) d0) (fun e3 b => Wm (LJ hm (fun v E W => ∃ s, ST false lU w W (hp w) s ∧ E 4 = (.bool false) ∧ E 16 = (.bool v)) 6 ?_ (fun v Y a5 => ?_))))))))))))
 ·rintro f0 E W ⟨s, b, e7, d9⟩ O
  exact Wg d9 (lt (rQ O b))
 refine bC Y (fun g Y => ?_) (fun g Y => ?_)
 ·refine ug g (kP vT rfl) (ug g (kI rfl (kO b.has (Mt Mh) (C4 a.Client.Name A5 a.Client.kQ.length F A7 a.Client.li.length L) rfl eC dC)) (ug g (kP vT rfl) (ug g (kI rfl (kO b.has Mh (C4 c.Client.Name l c.Client.kQ.length p a9 c.Client.li.length q) rfl eC dC)) (bS Y fun e9 d1 Y => tm g (Eg b call101 (Fa a.Client (.slice A5 a.Client.kQ.length F) (.slice A7 a.Client.li.length L) c.Client (.slice l c.Client.kQ.length p) (.slice a9 c.Client.li.length q) _ _ (i.mono kX.mono b.kM) (y.mono me.mono b.kM) (j.mono kX.mono b.kM) (B.mono me.mono b.kM) d1) (fun e4 b => V (lj (cB g) rfl) ?_))))))
  obtain rfl := sj Y
  exact a5 _ _ ⟨_, (b.kH (Db (Db St))), rfl, rfl⟩
 refine un g (un g (un g (un g (un g (V (ll (cB g) rfl) ?_)))))
 obtain rfl := sj Y
 exact a5 _ _ ⟨_, (b.kH (Db (Db St))), rfl, rfl⟩
set_option maxHeartbeats 1000000 in
theorem Fo (a : mI) (T U M Q N b1 : Value) (m : mj) (r : Bool) (w : World) (u : Sl kY 15 (hp w) T a.kE.kQ) (x : Sl lO 8 (hp w) U a.kE.li) (g : Sl kY 15 (hp w) M a.Client.kQ) (t : Sl lO 8 (hp w) Q a.Client.li) (j : Sl kG 5 (hp w) N a.Formula.Kids) (B : Sl ou 2 (hp w) b1 a.Keys) (hm : vE a m = some r) :
  lE false Tryz.prog 8 [(.agg #[(.string a.kE.Name), T, U, (.string a.Client.Name), M, Q, (.int .i64 a.Formula.Op), (.int .i64 a.Formula.K), (.string a.Formula.kD.kE), (.string a.Formula.kD.kL), N, (.int .i64 a.oN), (.int .i64 a.mw.pD), (.int .i64 a.mw.pE), (.int .i64 a.mW), (.int .i64 a.nU), (.int .i64 a.ny), b1]), (.agg (mE m).toArray)] w (.bool r) := by
 refine cG 57 func8 rfl (fun b => sg ?_)
 obtain ⟨Y, c2, rfl⟩ := u.form
 let a5 : Value := (.slice Y a.kE.kQ.length c2)
 obtain ⟨Z, c4, rfl⟩ := x.form
 let n : Value := (.slice Z a.kE.li.length c4)
 obtain ⟨A5, c6, rfl⟩ := g.form
 let a2 : Value := (.slice A5 a.Client.kQ.length c6)
 obtain ⟨A7, c8, rfl⟩ := t.form
 let a3 : Value := (.slice A7 a.Client.li.length c8)
 obtain ⟨A9, J, rfl⟩ := j.form
 let a4 : Value := (.slice A9 a.Formula.Kids.length J)
 obtain ⟨I, K, rfl⟩ := B.form
 let q : Value := (.slice I a.Keys.length K)
 let a0 := (C1 a.kE.Name Y a.kE.kQ.length c2 Z a.kE.li.length c4 a.Client.Name A5 a.Client.kQ.length c6 A7 a.Client.li.length c8 a.Formula.Op a.Formula.K a.Formula.kD.kE a.Formula.kD.kL A9 a.Formula.Kids.length J a.oN a.mw.pD a.mw.pE a.mW a.nU a.ny I a.Keys.length K)
 refine VE (lI b rfl (fun l6 d0 b => VE (lI b rfl (fun l7 d1 b => Wa (lS (bS hm fun m2 h1 hm => VE (Eg b call34 (Jk  _ _  h1) (fun l8 b => V (ol rfl) (ln (CI hm rfl (fun g8 hm => ?_) (fun g8 hm => ?_)))))))))))
 ·refine sg (Wa (ln ?_))
  replace b := b.kH (Db (Db St))
  refine lC (lJ ?_)
  obtain rfl := sj hm
  exact rP b
 refine kS (VA b (Mt Mh) a0 dA cF (bS hm fun m3 h2 hm => VE (Eg b call35 (Jo a a5 n a2 a3 a4 q _ _ (u.mono kX.mono b.kM) (x.mono me.mono b.kM) (g.mono kX.mono b.kM) (t.mono me.mono b.kM) (j.mono kN.mono b.kM) (B.mono oY.mono b.kM) h2) (fun l9 b => Wi rfl (ln (CI hm rfl (fun g9 hm => ?_) (fun g9 hm => ?_)))))))
 ·refine sg (Wa (ln ?_))
  replace b := b.kH (Db (Db St))
  refine lC (lJ ?_)
  obtain rfl := sj hm
  exact rP b
 refine kn (kZ ?_)
 replace b := b.drew
 have d := b.has.kH (Db (Kb Sn))
 refine mi d lN (XH 0 rfl d (fun _ l => kI rfl (kO l Mh a0 rfl dA cF)) (XH 2 rfl d (fun _ l => kI rfl (kO l Mh a0 rfl dA cF)) (bS hm fun d4 h3 hm => XE 1 rfl (vh b call40 (Dl a a5 n a2 a3 a4 q _ _ (u.mono kX.mono b.kM) (x.mono me.mono b.kM) (g.mono kX.mono b.kM) (t.mono me.mono b.kM) (j.mono kN.mono b.kM) (B.mono oY.mono b.kM) h3) (fun m0 j5 m4 j0 b c ad v => ?_)))))
 have d := b.has.pZ c (Dr (Db (Kb Sn)))
 refine ⟨d, (bS hm fun j4 h4 hm => XE 3 rfl (vh b call41 (It a a5 n a2 a3 a4 q _ _ (u.mono kX.mono (c.trans b.kM)) (x.mono me.mono (c.trans b.kM)) (g.mono kX.mono (c.trans b.kM)) (t.mono me.mono (c.trans b.kM)) (j.mono kN.mono (c.trans b.kM)) (B.mono oY.mono (c.trans b.kM)) h4) (fun m1 j6 d8 j3 b y ae O => ?_)))⟩
 have d := b.has.pZ (c.trans y) (Dr (Dr (Db (Kb Sn))))
 refine ⟨d, (X 4 rfl d (od rfl) (X 5 rfl d (od rfl) (mu kr (kU (kZ (sg (Wm (V (oq dW rfl v) (Wm (V (oq dW rfl O) (Wi rfl (ln ?_))))))))))))⟩
 refine CI hm rfl (fun h0 hm => ?_) (fun h0 hm => ?_)
 ·refine sg (Wa (ln ?_))
  replace b := b.kH (Dr (Dr (Db (Db St))))
  refine lC (lJ ?_)
  obtain rfl := sj hm
  exact rP b
 refine kS (Wm (V (oq dW rfl v) (Wm (ln (mf (fun i E W => ∃ F, (E 24 = .int .i64 (i : Nat) ∧ E 23 = .int .i64 (d4.length : Nat)) ∧ ST false lU w W d8 ((d1, Ol (mE m) 91) :: ((d0, Ol a0 93) :: (j3 ++ (j0 ++ F)))) ∧ E 2 = (.pointer (some ⟨d0, 0, none⟩)) ∧ E 3 = (.pointer (some ⟨d1, 0, none⟩)) ∧ E 5 = j5 ∧ E 6 = j6 ∧ qc j4 a m (d4.drop i) i = some r) d4.length v.len ⟨_, ⟨rfl, rfl⟩, (b.kH (Sb (Pr (Pr Pz)) (Sb (Pr (Pr Pz)) St))), rfl, rfl, rfl, rfl, hm⟩ dc dc dc (fun _ _ _ h => by obtain ⟨_, a8, _⟩ := h; exact a8) ?_ ?_)))))
 ·rintro d3 E W e2 ⟨F, ⟨R, eN⟩, b, a9, s, L, c1, z⟩
  obtain ⟨d6, j7, f1, c7, f2⟩ := lT e2
  rw [f1] at z
  refine bg (Wh R (Wa (ln (kZ ?_))))
  replace b := b.drew
  have d := b.has.kH (Db (Db (Kr (Kr Sn))))
  refine mi d lN (X 0 rfl d (kT L) (X 1 rfl d (kT rfl) (XQ 2 rfl d (pg (i := (d3 : Int)) (x0 := d6) dW jl rfl rfl v (aH _) c7) (fun k6 e4 => XH 3 rfl d (fun _ l => kI rfl (uc l (fun p hq => (Ma (Ml hq))) v si e4 c7 isAgg91 jl)) (X 4 rfl d (kT c1) (X 5 rfl d (kT rfl) (bS z fun d7 A z => XQ 6 rfl d (pg (i := (d3 : Int)) (x0 := d7) dW jl rfl rfl O (lM A) (lK A)) (fun k7 e5 => XH 7 rfl d (fun _ l => kI rfl (uc l (fun p hq => (Ml hq)) O si e5 (lK A) isAgg91 jl)) (X 8 rfl d (Ed rfl rfl (nW eqGuardType91) (Al (Gh _ d6 d7))) (mu kr (kU (CI z rfl (fun e1 z => ?_) (fun e1 z => ?_)))))))))))))
  ·refine sg (Wa (ln ?_))
   replace b := b.kH (Db (Db (Dr (Dr St))))
   refine lC (nC (lJ (nC (lJ ?_))))
   obtain rfl := sj z
   exact rP b
  exact mr (lL (kU ⟨R, _, ⟨rfl, eN⟩, (b.kH St), a9, s, L, c1, (by rw [f2]; exact z)⟩))
 rintro E W ⟨F, ⟨R, eN⟩, b, a9, s, L, c1, z⟩
 rw [aI] at z
 refine kU ?_
 replace b := b.kH (Kb (Kb (Dr (Dr St))))
 refine kZ ?_
 replace b := b.drew
 have d := b.has.kH (Kb (Kb Sn))
 refine mi d lN (XH 0 rfl d (fun _ l => kI a9 (kO l (Mt Mh) a0 rfl dA cF)) (XH 2 rfl d (fun _ l => kI a9 (kO l (Mt Mh) a0 rfl dA cF)) (bS z fun k8 e6 z => XE 1 rfl (Eg b call42 (Bn a a5 n a2 a3 a4 q _ _ (u.mono kX.mono ((c.trans y).trans b.kM)) (x.mono me.mono ((c.trans y).trans b.kM)) (g.mono kX.mono ((c.trans y).trans b.kM)) (t.mono me.mono ((c.trans y).trans b.kM)) (j.mono kN.mono ((c.trans y).trans b.kM)) (B.mono oY.mono ((c.trans y).trans b.kM)) e6) (fun k1 b => ?_)))))
 have d := b.has.kH (Kb (Kb Sn))
 refine ⟨d, (bS z fun k9 e7 z => XE 3 rfl (Eg b call43 (Jq a a5 n a2 a3 a4 q _ _ (u.mono kX.mono ((c.trans y).trans b.kM)) (x.mono me.mono ((c.trans y).trans b.kM)) (g.mono kX.mono ((c.trans y).trans b.kM)) (t.mono me.mono ((c.trans y).trans b.kM)) (j.mono kN.mono ((c.trans y).trans b.kM)) (B.mono oY.mono ((c.trans y).trans b.kM)) e7) (fun k2 b => ?_)))⟩
 have d := b.has.kH (Kb (Kb Sn))
 refine ⟨d, (X 4 rfl d (lR rfl rfl rfl) (X 5 rfl d (kT rfl) (PJ z (fun d5 E W => ∃ P c9, lu d8 P ∧ ST false lU w W P ((d1, Ol (mE m) 91) :: ((d0, Ol a0 93) :: c9)) ∧ E 56 = (.bool d5)) (bm 21 1048575) 1 ?_ (fun d5 H b7 => ?_))))⟩
 ·rintro l4 E W ⟨P, c9, d2, b, g7⟩ e3
  have d := b.has.pZ d2 (Kb (Kb Sn))
  refine X 20 rfl d (od g7) (mu kr (kU ?_))
  exact lC (rQ e3 b)
 refine bC H (fun k H => ?_) (fun k H => ?_)
 ·refine qQ 6 rfl rfl (cB k) d (fun _ l => kI a9 (kO l (Mt Mh) a0 rfl dA cF)) (Xg 7 rfl rfl (cB k) d (Bx (i := 0) fQ fP s rfl dc dc) (qQ 8 rfl rfl (cB k) d (fun _ l => kI rfl (lg l Mh rfl cA)) (Xg 9 rfl rfl (cB k) d (Bx (i := 1) fQ fP s rfl dc dc) (qQ 10 rfl rfl (cB k) d (fun _ l => kI rfl (lg l Mh rfl cA)) (qQ 12 rfl rfl (cB k) d (fun _ l => kI a9 (kO l (Mt Mh) a0 rfl dA cF)) (Xg 13 rfl rfl (cB k) d (Bx (i := 0) fQ fP s rfl dc dc) (qQ 14 rfl rfl (cB k) d (fun _ l => kI rfl (lg l Mh rfl cA)) (Xg 15 rfl rfl (cB k) d (Bx (i := 1) fQ fP s rfl dc dc) (qQ 16 rfl rfl (cB k) d (fun _ l => kI rfl (lg l Mh rfl cA)) (bS H fun h5 e8 H => ?_))))))))))
  refine Af 11 rfl rfl (cB k) (eD b (aY _) call44 (fun hh => ms.mR (vR a a5 n a2 a3 a4 q m.pD m.pE _ _ hh (u.mono kX.mono (c.trans y)) (x.mono me.mono (c.trans y)) (g.mono kX.mono (c.trans y)) (t.mono me.mono (c.trans y)) (j.mono kN.mono (c.trans y)) (B.mono oY.mono (c.trans y)) e8)) ?_ (L0 := []))
  rintro _ l1 l5 j9 b D aa ⟨h7, h8, h9, i0, i1, i2, b4, rfl, f3, f4, f5, f6, f7, f8⟩
  obtain rfl := b4.symm
  have d := b.has.pZ D (Kb (Kb Sn))
  refine ⟨d, (bS H fun h6 e9 H => ?_)⟩
  refine Af 17 rfl rfl (cB k) (eD b (aY _) call45 (fun hh => ms.mR (BQ a a5 n a2 a3 a4 q m.pD m.pE _ _ hh (u.mono kX.mono ((c.trans y).trans D)) (x.mono me.mono ((c.trans y).trans D)) (g.mono kX.mono ((c.trans y).trans D)) (t.mono me.mono ((c.trans y).trans D)) (j.mono kN.mono ((c.trans y).trans D)) (B.mono oY.mono ((c.trans y).trans D)) e9)) ?_ (L0 := []))
  rintro _ l2 i9 k0 b G ab ⟨i3, i4, i5, i6, i7, i8, b5, rfl, f9, g0, g1, g2, g3, g4⟩
  obtain rfl := b5.symm
  have d := b.has.pZ (D.trans G) (Kb (Kb Sn))
  refine ⟨d, (bS H fun l0 f0 H => Af 18 rfl rfl (cB k) (Eg b call38 (JP h5 h7 h8 h9 i0 i1 i2 h6 i3 i4 i5 i6 i7 i8 _ _ (f3.mono kX.mono (G.trans b.kM)) (f4.mono me.mono (G.trans b.kM)) (f5.mono kX.mono (G.trans b.kM)) (f6.mono me.mono (G.trans b.kM)) (f7.mono kN.mono (G.trans b.kM)) (f8.mono oY.mono (G.trans b.kM)) (f9.mono kX.mono b.kM) (g0.mono me.mono b.kM) (g1.mono kX.mono b.kM) (g2.mono me.mono b.kM) (g3.mono kN.mono b.kM) (g4.mono oY.mono b.kM) f0) (fun k5 b => ?_)))⟩
  have d := b.has.pZ (D.trans G) (Kb (Kb Sn))
  refine ⟨d, (X 19 rfl d (lj (cB k) rfl) ?_)⟩
  obtain rfl := sj H
  refine nu kr (b7 _ _ ⟨i9, _, (D.trans G), (b.kH St), rfl⟩)
 refine Xn 6 rfl rfl (cB k) d (Xn 7 rfl rfl (cB k) d (Xn 8 rfl rfl (cB k) d (Xn 9 rfl rfl (cB k) d (Xn 10 rfl rfl (cB k) d (Xn 11 rfl rfl (cB k) d (Xn 12 rfl rfl (cB k) d (Xn 13 rfl rfl (cB k) d (Xn 14 rfl rfl (cB k) d (Xn 15 rfl rfl (cB k) d (Xn 16 rfl rfl (cB k) d (Xn 17 rfl rfl (cB k) d (Xn 18 rfl rfl (cB k) d (X 19 rfl d (ll (cB k) rfl) ?_)))))))))))))
 obtain rfl := sj H
 refine nu kr (b7 _ _ ⟨d8, _, (lu.refl _), (b.kH St), rfl⟩)
end Go.Proofs.YtklbhegeiijbjaaGreat
