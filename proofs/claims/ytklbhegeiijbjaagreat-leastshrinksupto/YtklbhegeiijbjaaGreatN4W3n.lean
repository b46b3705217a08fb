/- a part of a proof of LeastShrinks -/
import Derived.Test.YtklbhegeiijbjaaGreatN4W2n
set_option linter.all false
namespace Go.Proofs.YtklbhegeiijbjaaGreat
open Go.RowKit
set_option maxRecDepth 10000
open Tryz
theorem FR (D : Value) (a0 r : List kE) (w : World) (e3 : Sl (Pl kK) 9 (hp w) D a0) (hm : yG a0 = some r) :
  nC true Tryz.prog 211 [D] w 52 kK 9 r := by
 refine xg 51 func211 rfl (fun d => sg (Wa (lr (Wa (ln (qt (mB (nS (fun m E W => ∃ x a3 u c5, ST true lT w W (hp w) (u ++ c5) ∧ E 0 = D ∧ E 3 = x ∧ lA 52 kK 9 x a3 u ∧ uB a0 m a3 = some r) lB ⟨(.slice none 0 0), ([]), [], _, (d.kG St), rfl, rfl, (lA.nil _ _ _), hm⟩ ?_))))))))
 rintro m E W ⟨x, a3, u, c5, d, d1, g2, J, a5⟩
 cases m with
 | zero => rw [uB] at a5; cases a5
 | succ j5 =>
  refine bg (VE (lG d cW (fun k0 t d => lr (Wa (lS (Wh d1 ?_))))))
  let b8 : Value := (.pointer (some ⟨t, 0, none⟩))
  refine V (mi aT rfl e3) (Wm (ln (CJ a5 (fun a9 E W => ∃ c6, ST true lT w W (hp w) ((t, Ol (kK a9.2) 52) :: (u ++ c6)) ∧ E 0 = D ∧ E 3 = x ∧ E 4 = b8 ∧ E 5 = (.bool a9.1)) (fun a9 e9 => ?_) ?_)))
  ·refine mf (fun i E W => ∃ G y b1, (E 10 = .int .i64 (i : Nat) ∧ E 9 = .int .i64 (a0.length : Nat)) ∧ ST true lT w W (hp w) ((t, Ol (kK y) 52) :: (u ++ b1)) ∧ E 0 = D ∧ E 3 = x ∧ E 4 = b8 ∧ E 5 = (.bool G) ∧ E 8 = D ∧ sQ a3 (a0.drop i) G y = some a9) a0.length e3.len ⟨false, K9, _, ⟨rfl, rfl⟩, (d.kG St), d1, g2, rfl, rfl, rfl, e9⟩ dc dc dc (fun _ _ _ h => by obtain ⟨_, _, _, aa, _⟩ := h; exact aa) ?_ ?_
   ·rintro a2 E W e8 ⟨G, y, b1, ⟨s, P⟩, d, U, M, Y, Z, q, z⟩
    let g5 := ((kK y).toArray : Array Value)
    obtain ⟨c, j9, f9, f8, c4⟩ := lX e8
    let O := ((kK c).toArray : Array Value)
    rw [f9] at z
    refine bg (VQ (oF (enc := kK) (i := (a2 : Int)) (x0 := c) aT aO q s e3 (aH _) f8) (fun k9 f3 => V (kI rfl (lz d.has f3 bW aO)) (VE (lG d cW (fun k3 K d => VO (lf (.agg (kK c).toArray) ((kK c).toArray) d rfl rfl aO (oP c) nb rfl (fun k4 d => ln (kY ?_))))))))
    let j2 : Value := (.int .i64 (a2 : Int))
    let j1 : Value := (.int .i64 (a0.length : Int))
    let g6 : Value := (.pointer (some ⟨K, 0, none⟩))
    replace d := d.drew
    have b := d.has.kG (Kb (Kb (Kr Sn)))
    refine mj b lQ (XH 0 rfl b (fun _ n => kI rfl (kM n Mh (kK c) rfl bW aO)) (bS z fun j6 f5 z => XE 1 rfl (Eg d call261 (El c _ _  f5) (fun k5 d => ?_))))
    have b := d.has.kG (Kb (Kb (Kr Sn)))
    refine ⟨b, (X 2 rfl b (kR rfl) (PJ z (fun e0 E W => ∃ c7, ST true lT w W (hp w) ((K, Obj.cells O 52 (0, 0)) :: ((t, Obj.cells g5 52 (0, 0)) :: (u ++ c7))) ∧ E 0 = D ∧ E 3 = x ∧ E 4 = b8 ∧ E 5 = (.bool G) ∧ E 7 = g6 ∧ E 8 = D ∧ E 9 = j1 ∧ E 10 = j2 ∧ E 31 = (.bool e0)) (bm 28 262143) 10 ?_ (fun e0 T c1 => ?_)))⟩
    ·rintro j8 E W ⟨c7, d, b2, b3, A, F, L, b4, b5, b6, g8⟩ f0
     have b := d.has.kG (Kb (Kb (Kr Sn)))
     refine X 18 rfl b (kR g8) (PJ f0 (fun d8 E W => ∃ c8, ST true lT w W (hp w) ((K, Obj.cells O 52 (0, 0)) :: ((t, Obj.cells g5 52 (0, 0)) :: (u ++ c8))) ∧ E 0 = D ∧ E 3 = x ∧ E 4 = b8 ∧ E 5 = (.bool G) ∧ E 7 = g6 ∧ E 8 = D ∧ E 9 = j1 ∧ E 10 = j2 ∧ E 41 = (.bool d8)) (bm 28 268435455) 0 ?_ (fun d8 Q b9 => ?_))
     ·rintro l4 E W ⟨c8, d, d3, d4, b7, g9, h0, d5, d6, d7, h1⟩ N
      refine ms kr (kT (CI N h1 (fun e7 N => ?_) (fun e7 N => ?_)))
      ·refine sg (V (kI h0 (kM d.has Mh (kK c) rfl bW aO)) ?_)
       replace d := d.perm (Nb (Pb Pz) Nz)
       refine VO (lf (.agg (kK c).toArray) ((kK c).toArray) d b7 rfl aO (oP c) nb rfl (fun k6 d => ln ?_))
       replace d := d.kG (Kb (Db St))
       exact kV (Wa (lH (lK (kT ⟨d7, true, c, _, ⟨rfl, d6⟩, (d.kG St), d3, d4, b7, rfl, d5, (by rw [c4]; exact N)⟩))))
      refine mr (lK (kT ?_))
      replace d := d.kG (Db St)
      exact ⟨d7, G, y, _, ⟨rfl, d6⟩, (d.kG St), d3, d4, b7, g9, d5, (by rw [c4]; exact N)⟩
     refine bC Q (fun j Q => ?_) (fun j Q => ?_)
     ·refine Xg 19 rfl rfl (cB j) b (kR F) (Xg 20 rfl rfl (cB j) b (ot rfl) (Xg 21 rfl rfl (cB j) b (kR rfl) (PJ Q (fun d9 E W => ∃ c9, ST true lT w W (hp w) ((K, Obj.cells O 52 (0, 0)) :: ((t, Obj.cells g5 52 (0, 0)) :: (u ++ c9))) ∧ E 0 = D ∧ E 3 = x ∧ E 4 = b8 ∧ E 5 = (.bool G) ∧ E 7 = g6 ∧ E 8 = D ∧ E 9 = j1 ∧ E 10 = j2 ∧ E 32 = (.bool j8) ∧ E 40 = (.bool d9)) (bm 28 134217727) 1 ?_ (fun d9 I c0 => ?_))))
      ·rintro l5 E W ⟨c9, d, h2, h3, h4, h5, h6, h7, h8, h9, i0, i1⟩ f1
       have b := d.has.kG (Kb (Kb (Kr Sn)))
       refine X 27 rfl b (li (i0.trans (cB j)) i1) ?_
       obtain rfl := sj f1
       refine nu kr (b9 _ _ ⟨_, (d.kG St), h2, h3, h4, h5, h6, h7, h8, h9, rfl⟩)
      refine bC I (fun k I => ?_) (fun k I => ?_)
      ·refine Xn 22 rfl rfl (cB k) b (Xn 23 rfl rfl (cB k) b (Xn 24 rfl rfl (cB k) b (Xn 25 rfl rfl (cB k) b (Xg 26 rfl rfl (cB j) b (li (cB k) rfl) ?_))))
       obtain rfl := sj I
       refine nu kr (c0 _ _ ⟨_, (d.kG St), b2, b3, A, F, L, b4, b5, b6, rfl, rfl⟩)
      refine rM 22 rfl rfl (cB k) b (fun _ n => kI L (kM n Mh (kK c) rfl bW aO)) (rM 23 rfl rfl (cB k) b (fun _ n => kI A (kM n (Mt Mh) (kK y) rfl bW aO)) (bS I fun l1 f6 I => AV 24 rfl rfl (cB k) (Eg d call262 (Cm c y _ _  f6) (fun k7 d => ?_))))
      have b := d.has.kG (Kb (Kb (Kr Sn)))
      refine ⟨b, (Xg 25 rfl rfl (cB k) b (lR rfl rfl rfl) (Xg 26 rfl rfl (cB j) b (lj (cB k) rfl) ?_))⟩
      obtain rfl := sj I
      refine nu kr (c0 _ _ ⟨_, (d.kG St), b2, b3, A, F, L, b4, b5, b6, rfl, rfl⟩)
     refine Xn 19 rfl rfl (cB j) b (Xn 20 rfl rfl (cB j) b (Xn 21 rfl rfl (cB j) b (Xu 22 rfl rfl rfl b (Xu 23 rfl rfl rfl b (Xu 24 rfl rfl rfl b (Xu 25 rfl rfl rfl b (Xn 26 rfl rfl (cB j) b (X 27 rfl b (lj (cB j) rfl) ?_))))))))
     obtain rfl := sj Q
     refine nu kr (b9 _ _ ⟨_, (d.kG St), b2, b3, A, F, L, b4, b5, b6, rfl⟩)
    refine bC T (fun g T => ?_) (fun g T => ?_)
    ·refine Xg 3 rfl rfl (cB g) b (kR M) (Xg 4 rfl rfl (cB g) b (po aT rfl J) (Xg 5 rfl rfl (cB g) b (lR rfl rfl rfl) (Xg 6 rfl rfl (cB g) b (kR rfl) (PJ T (fun e1 E W => ∃ d0, ST true lT w W (hp w) ((K, Obj.cells O 52 (0, 0)) :: ((t, Obj.cells g5 52 (0, 0)) :: (u ++ d0))) ∧ E 0 = D ∧ E 3 = x ∧ E 4 = b8 ∧ E 5 = (.bool G) ∧ E 7 = g6 ∧ E 8 = D ∧ E 9 = j1 ∧ E 10 = j2 ∧ E 16 = (.bool j6) ∧ E 30 = (.bool e1)) (bm 28 131071) 11 ?_ (fun e1 B c2 => ?_)))))
     ·rintro l6 E W ⟨d0, d, i2, i3, i4, i5, i6, i7, i8, i9, j0, j3⟩ f2
      have b := d.has.kG (Kb (Kb (Kr Sn)))
      refine X 17 rfl b (li (j0.trans (cB g)) j3) ?_
      obtain rfl := sj f2
      refine nu kr (c1 _ _ ⟨_, (d.kG St), i2, i3, i4, i5, i6, i7, i8, i9, rfl⟩)
     refine bC B (fun a B => ?_) (fun a B => ?_)
     ·refine Xn 7 rfl rfl (cB a) b (Xn 8 rfl rfl (cB a) b (Xn 9 rfl rfl (cB a) b (Xn 10 rfl rfl (cB a) b (Xn 11 rfl rfl (cB a) b (Xn 12 rfl rfl (cB a) b (Xn 13 rfl rfl (cB a) b (Xn 14 rfl rfl (cB a) b (Xn 15 rfl rfl (cB a) b (Xg 16 rfl rfl (cB g) b (li (cB a) rfl) ?_)))))))))
      obtain rfl := sj B
      refine nu kr (c2 _ _ ⟨_, (d.kG St), U, M, Y, Z, rfl, q, P, s, rfl, rfl⟩)
     refine Xg 7 rfl rfl (cB a) b (kR M) (Xg 8 rfl rfl (cB a) b (kR M) (Xg 9 rfl rfl (cB a) b (po aT rfl J) (Xg 10 rfl rfl (cB a) b (lR rfl rfl rfl) (bS B fun e2 b0 B => rT 11 rfl kr (.inr ⟨6, false, 20, rfl, rfl, by decide, (cB a)⟩) rfl dc (fun _ _ h => h) b (pS (i := (IntKind.i64.wrap ((a3.length : Int) - 1))) (x0 := e2) aT aO rfl rfl J (lN b0) (lM b0)) (fun l0 f4 => rM 12 rfl rfl (cB a) b (fun _ n => kI rfl (vC n (fun p hq => (Mt (Mt (Ml hq)))) J mE f4 (lM b0) bW aO)) (rM 13 rfl rfl (cB a) b (fun _ n => kI rfl (kM n Mh (kK c) rfl bW aO)) (bS B fun l2 f7 B => AV 14 rfl rfl (cB a) (Eg d call262 (Cm e2 c _ _  f7) (fun k8 d => ?_)))))))))
     have b := d.has.kG (Kb (Kb (Kr Sn)))
     refine ⟨b, (Xg 15 rfl rfl (cB a) b (lR rfl rfl rfl) (Xg 16 rfl rfl (cB g) b (lj (cB a) rfl) ?_))⟩
     obtain rfl := sj B
     refine nu kr (c2 _ _ ⟨_, (d.kG St), U, M, Y, Z, rfl, q, P, s, rfl, rfl⟩)
    refine Xn 3 rfl rfl (cB g) b (Xn 4 rfl rfl (cB g) b (Xn 5 rfl rfl (cB g) b (Xn 6 rfl rfl (cB g) b (Xu 7 rfl rfl rfl b (Xu 8 rfl rfl rfl b (Xu 9 rfl rfl rfl b (Xu 10 rfl rfl rfl b (Xu 11 rfl rfl rfl b (Xu 12 rfl rfl rfl b (Xu 13 rfl rfl rfl b (Xu 14 rfl rfl rfl b (Xu 15 rfl rfl rfl b (Xn 16 rfl rfl (cB g) b (X 17 rfl b (lj (cB g) rfl) ?_))))))))))))))
    obtain rfl := sj T
    refine nu kr (c1 _ _ ⟨_, (d.kG St), U, M, Y, Z, rfl, q, P, s, rfl⟩)
   rintro E W ⟨G, y, b1, ⟨s, P⟩, d, U, M, Y, Z, q, z⟩
   rw [aI] at z
   refine kT ?_
   obtain rfl := sj z
   exact ⟨_, (d.kG St), U, M, Y, Z⟩
  rintro ⟨l3, a4⟩ E W ⟨c6, d, g3, d2, g4, g7⟩ H
  refine kY (sg (Wh g7 (V (ot rfl) (ln (CI H rfl (fun e5 H => ?_) (fun e5 H => ?_))))))
  ·refine sg (Wh d2 (Wa (ln ?_)))
   replace d := d.kG (Db St)
   refine lC (lL (nD (lL (nD (lL ?_)))))
   obtain rfl := sj H
   exact mI (v := x) rfl rfl ⟨_, u, rfl, d.pn (fun p hq => (Ml hq)) J.nd, J⟩
  refine kn (kV (Wh d2 (V (kI g4 (kM d.has Mh (kK a4) rfl bW aO)) (VE (lE (cs := (kK a4).toArray) d (np rfl) (nq aT aO cW) (fun k1 g1 d => ?_))))))
  replace d := d.perm (Nr (Qb (Qb Qz)) Nz)
  refine bS H fun j4 e6 H => VE (oW (enc := kK) (v := x) (vs := (.slice (some ⟨g1, 0, none⟩) 1 1)) (R := u) d mE dc oP aT pb.1 pb.2.1 rfl pb.2.2.1 pb.2.2.2 rfl rfl J (Sl.lit (enc := kK) (l := [a4]) mE rfl nb rfl (d.at_ (Ma Mh))) e6 (fun k2 j7 g0 d e4 => Wa (lH (lK (kT ?_)))))
  replace d := d.kG (Kr (Db (Db St)))
  exact ⟨j5, bB _, j7, j4, g0, _, (d.kG St), g3, rfl, e4, H⟩
theorem KY (x : Value) (a0 r : List ByteArray) (w : World) (c0 : Sl (Pl ul) 1 (hp w) x a0) (hm : Au a0 = some r) :
  nC true Tryz.prog 263 [x] w 9 ul 1 r := by
 refine xg 48 func263 rfl (fun b => sg (Wa (lr (Wa (ln (qt (mB (nS (fun m E W => ∃ u a2 j c1, ST true lT w W (hp w) (j ++ c1) ∧ E 0 = x ∧ E 3 = u ∧ lA 9 ul 1 u a2 j ∧ uD a0 m a2 = some r) lB ⟨(.slice none 0 0), ([]), [], _, (b.kG St), rfl, rfl, (lA.nil _ _ _), hm⟩ ?_))))))))
 rintro m E W ⟨u, a2, j, c1, b, c7, f6, G, Z⟩
 cases m with
 | zero => rw [uD] at Z; cases Z
 | succ i3 =>
  refine bg (Wa (lS (Wh c7 (V (mi dI rfl c0) (Wm (ln (CJ Z (fun b7 E W => ∃ c2, ST true lT w W (hp w) (j ++ c2) ∧ E 0 = x ∧ E 3 = u ∧ E 4 = (.string b7)) (fun b7 e5 => ?_) ?_)))))))
  ·refine mf (fun i E W => ∃ z s, (E 9 = .int .i64 (i : Nat) ∧ E 8 = .int .i64 (a0.length : Nat)) ∧ ST true lT w W (hp w) (j ++ s) ∧ E 0 = x ∧ E 3 = u ∧ E 4 = (.string z) ∧ E 7 = x ∧ sX a2 (a0.drop i) z = some b7) a0.length c0.len ⟨zS, _, ⟨rfl, rfl⟩, (b.kG St), c7, f6, rfl, rfl, e5⟩ dc dc dc (fun _ _ _ h => by obtain ⟨_, _, a6, _⟩ := h; exact a6) ?_ ?_
   ·rintro d E W e4 ⟨z, s, ⟨n, q⟩, b, Q, H, T, U, t⟩
    obtain ⟨I, i7, f3, f2, b9⟩ := lX e4
    rw [f3] at t
    refine bg (VQ (oF (enc := ul) (i := (d : Int)) (x0 := I) dI gG U n c0 (aH _) f2) (fun j3 e9 => V (kI rfl (tS b.has (y := (.string I)) e9 bV)) (Wa (lr (Wm (bS t fun i4 f1 t => VE (Eg b call265 (wI I _ _  f1) (fun j0 b => Wm (LJ t (fun d7 E W => ∃ c3, ST true lT w W (hp w) (j ++ c3) ∧ E 0 = x ∧ E 3 = u ∧ E 4 = (.string z) ∧ E 6 = (.string I) ∧ E 7 = x ∧ E 8 = (.int .i64 (a0.length : Int)) ∧ E 9 = (.int .i64 (d : Int)) ∧ E 29 = (.bool d7)) 14 ?_ (fun d7 N a9 => ?_))))))))))
    ·rintro i6 E W ⟨c3, b, A, F, Y, a3, L, O, P, f8⟩ e6
     refine Wh f8 (LJ e6 (fun d5 E W => ∃ c4, ST true lT w W (hp w) (j ++ c4) ∧ E 0 = x ∧ E 3 = u ∧ E 4 = (.string z) ∧ E 6 = (.string I) ∧ E 7 = x ∧ E 8 = (.int .i64 (a0.length : Int)) ∧ E 9 = (.int .i64 (d : Int)) ∧ E 38 = (.bool d5)) 8 ?_ (fun d5 K a7 => ?_))
     ·rintro j5 E W ⟨c4, b, d0, d1, f9, g0, d2, d3, d4, g1⟩ J
      refine ln (CI J g1 (fun e3 J => ?_) (fun e3 J => ?_))
      ·exact kV (Wh g0 (Wa (lH (lK (kT ⟨d4, I, _, ⟨rfl, d3⟩, (b.kG St), d0, d1, rfl, d2, (by rw [b9]; exact J)⟩)))))
      exact mr (lK (kT ⟨d4, z, _, ⟨rfl, d3⟩, (b.kG St), d0, d1, f9, d2, (by rw [b9]; exact J)⟩))
     refine bC K (fun g K => ?_) (fun g K => ?_)
     ·refine ug g (kR Y) (ug g (rK rfl rfl rfl) (ug g (kR rfl) (LJ K (fun d6 E W => ∃ c5, ST true lT w W (hp w) (j ++ c5) ∧ E 0 = x ∧ E 3 = u ∧ E 4 = (.string z) ∧ E 6 = (.string I) ∧ E 7 = x ∧ E 8 = (.int .i64 (a0.length : Int)) ∧ E 9 = (.int .i64 (d : Int)) ∧ E 30 = (.bool i6) ∧ E 37 = (.bool d6)) 4 ?_ (fun d6 M a8 => ?_))))
      ·rintro j6 E W ⟨c5, b, g2, g3, g4, g7, g8, g9, h0, h1, h2⟩ e7
       refine V (li (h1.trans (cB g)) h2) ?_
       obtain rfl := sj e7
       exact a7 _ _ ⟨_, (b.kG St), g2, g3, g4, g7, g8, g9, h0, rfl⟩
      refine bC M (fun k M => ?_) (fun k M => ?_)
      ·refine un k (un k (un k (ug g (li (cB k) rfl) ?_)))
       obtain rfl := sj M
       exact a8 _ _ ⟨_, (b.kG St), A, F, Y, a3, L, O, P, rfl, rfl⟩
      refine ug k (kR a3) (ug k (kR Y) (ug k (rK rfl rfl rfl) (ug g (lj (cB k) rfl) ?_)))
      obtain rfl := sj M
      exact a8 _ _ ⟨_, (b.kG St), A, F, Y, a3, L, O, P, rfl, rfl⟩
     refine un g (un g (un g (Vu rfl rfl (Vu rfl rfl (Vu rfl rfl (un g (V (lj (cB g) rfl) ?_)))))))
     obtain rfl := sj K
     exact a7 _ _ ⟨_, (b.kG St), A, F, Y, a3, L, O, P, rfl⟩
    refine bC N (fun c N => ?_) (fun c N => ?_)
    ·refine ug c (kR H) (ug c (po dI rfl G) (ug c (lR rfl rfl rfl) (ug c (kR rfl) (LJ N (fun d8 E W => ∃ c6, ST true lT w W (hp w) (j ++ c6) ∧ E 0 = x ∧ E 3 = u ∧ E 4 = (.string z) ∧ E 6 = (.string I) ∧ E 7 = x ∧ E 8 = (.int .i64 (a0.length : Int)) ∧ E 9 = (.int .i64 (d : Int)) ∧ E 15 = (.bool i4) ∧ E 28 = (.bool d8)) 9 ?_ (fun d8 D b0 => ?_)))))
     ·rintro j7 E W ⟨c6, b, h3, h4, h5, h6, h7, h8, h9, i0, i1⟩ e8
      refine V (li (i0.trans (cB c)) i1) ?_
      obtain rfl := sj e8
      exact a9 _ _ ⟨_, (b.kG St), h3, h4, h5, h6, h7, h8, h9, rfl⟩
     refine bC D (fun a D => ?_) (fun a D => ?_)
     ·refine un a (un a (un a (un a (un a (un a (un a (un a (ug c (li (cB a) rfl) ?_))))))))
      obtain rfl := sj D
      exact b0 _ _ ⟨_, (b.kG St), Q, H, T, rfl, U, q, n, rfl, rfl⟩
     refine ug a (kR rfl) (ug a (kR H) (ug a (kR H) (ug a (po dI rfl G) (ug a (lR rfl rfl rfl) (bS D fun d9 a5 D => Uj a (pS (i := (IntKind.i64.wrap ((a2.length : Int) - 1))) (x0 := d9) dI gG rfl rfl G (lN a5) (lM a5)) (fun j4 f0 => ug a (kI rfl (DE b.has (fun p hq => (Ml hq)) G (fun _ => rfl) f0 (lM a5) (y := (.string d9)) rfl bV)) (ug a (rK rfl rfl rfl) (ug c (lj (cB a) rfl) ?_))))))))
     obtain rfl := sj D
     exact b0 _ _ ⟨_, (b.kG St), Q, H, T, rfl, U, q, n, rfl, rfl⟩
    refine un c (un c (un c (un c (Vu rfl rfl (Vu rfl rfl (Vu rfl rfl (Vu rfl rfl (Vu rfl rfl (Vu rfl rfl (Vu rfl rfl (Vu rfl rfl (un c (V (lj (cB c) rfl) ?_)))))))))))))
    obtain rfl := sj N
    exact a9 _ _ ⟨_, (b.kG St), Q, H, T, rfl, U, q, n, rfl⟩
   rintro E W ⟨z, s, ⟨n, q⟩, b, Q, H, T, U, t⟩
   rw [aI] at t
   refine kT ?_
   obtain rfl := sj t
   exact ⟨_, (b.kG St), Q, H, T⟩
  rintro a4 E W ⟨c2, b, f7, c8, c9⟩ B
  refine kY (sg (Wh c9 (V (rK rfl rfl rfl) (ln (CI B rfl (fun e1 B => ?_) (fun e1 B => ?_))))))
  ·refine sg (Wh c8 (Wa (lt (lL (nD (lL (nD (lL ?_))))))))
   obtain rfl := sj B
   exact mI (v := u) rfl rfl ⟨_, j, rfl, b.pn (fun p hq => (Ml hq)) G.nd, G⟩
  refine kn (kV (Wh c8 (Wh c9 (VE (lE (cs := [(.string a4)].toArray) b (np rfl) (nq dI gG zeroValue9) (fun i8 f5 b => ?_))))))
  replace b := b.perm (Nr (Qb Qz) Nz)
  refine bS B fun i2 e2 B => VE (oW (enc := ul) (v := u) (vs := (.slice (some ⟨f5, 0, none⟩) 1 1)) (R := j) b (fun _ => rfl) dc Ki dI CA.1 CA.2.1 rfl CA.2.2.1 CA.2.2.2 rfl rfl G (Sl.lit (enc := ul) (l := [a4]) (fun _ => rfl) rfl nb rfl (b.at_ (Ma Mh))) e2 (fun i9 i5 f4 b e0 => Wa (lH (lK (kT ?_)))))
  replace b := b.kG (Kr (Db St))
  exact ⟨i3, bB _, i5, i2, f4, _, (b.kG St), f7, rfl, e0, B⟩
theorem Je (B : Value) (G : List kE) (r : List ByteArray) (w : World) (y : Sl (Pl kK) 9 (hp w) B G) (hm : yJ G = some r) :
  nC true Tryz.prog 212 [B] w 9 ul 1 r := by
 refine xg 29 func212 rfl (fun d => sg (Wa (lr (Wa (lS (Wm ?_))))))
 refine V (mi aT rfl y) (Wm (ln (mf (fun i E W => ∃ g k j t, (E 8 = .int .i64 (i : Nat) ∧ E 7 = .int .i64 (G.length : Nat)) ∧ ST true lT w W (hp w) (j ++ t) ∧ E 3 = g ∧ E 6 = B ∧ lA 9 ul 1 g k j ∧ te (G.drop i) k = some r) G.length y.len ⟨(.slice none 0 0), ([]), [], _, ⟨rfl, rfl⟩, (d.kG St), rfl, rfl, (lA.nil _ _ _), hm⟩ dc dc dc (fun _ _ _ h => by obtain ⟨_, _, _, _, n, _⟩ := h; exact n) ?_ ?_)))
 ·rintro a5 E W T ⟨g, k, j, t, ⟨m, A⟩, d, u, x, z, c⟩
  obtain ⟨a, b4, Y, U, Z⟩ := lX T
  rw [Y] at c
  refine bg (VQ (oF (enc := kK) (i := (a5 : Int)) (x0 := a) aT aO x m y (aH _) U) (fun b2 J => V (kI rfl (lz d.has J bW aO)) (VE (lG d cW (fun L b1 d => VO (lf (.agg (kK a).toArray) ((kK a).toArray) d rfl rfl aO (oP a) nb rfl (fun O d => ln (kV (Wh u (Wf xD (VB d Mh rfl rfl bV (Wf rE (Wf qg ?_)))))))))))))
  refine VB d Mh rfl rfl bV (Wf oN (Wf qg (VB d Mh rfl rfl bV (Wf tq (Wf qg (VB d Mh rfl rfl bV (VE (lE (cs := #[(.string a.lZ), (.string a.Head.kD), (.string a.B.kD), (.string a.C.kD)]) d (RX rfl rfl rfl rfl) (nq dI gG zeroValue9) (fun P Q d => ?_)))))))))
  replace d := d.perm (Nr (Qb (Qb Qz)) Nz)
  refine bS c fun F I c => VE (oW (enc := ul) (v := g) (vs := (.slice (some ⟨Q, 0, none⟩) 4 4)) (R := j) d (fun _ => rfl) dc Ki dI CA.1 CA.2.1 rfl CA.2.2.1 CA.2.2.2 rfl rfl z (Sl.lit (enc := ul) (l := [a.lZ, a.Head.kD, a.B.kD, a.C.kD]) (fun _ => rfl) rfl nb rfl (d.at_ (Ma Mh))) I (fun a9 a2 M d H => Wa (lH (lK (kT ?_)))))
  replace d := d.kG (Kr (Db (Db St)))
  exact ⟨m, a2, F, M, _, ⟨rfl, A⟩, (d.kG St), rfl, x, H, (by rw [Z]; exact c)⟩
 rintro E W ⟨g, k, j, t, ⟨m, A⟩, d, u, x, z, c⟩
 rw [aI] at c
 refine kT (sg (Wh u (bS c fun b3 K c => VE (vK d call263 (KY g k _ _ (z.sl (fun _ => rfl) (fun b o s => d.at_ (Ml s))) K) (fun b0 a3 b5 N d a4 q D => Wa (ln ?_))))))
 replace d := d.kG (Kr (Dr St))
 refine lC ?_
 obtain rfl := sj c
 exact mI (v := a3) rfl rfl ⟨_, N, rfl, d.pn (fun p s => (Ml s)) D.nd, D⟩
theorem xO (y : Value) (H : List kZ) (z : kC) (J : ByteArray) (r : Bool) (w : World) (G : Sl (Pl lV) 3 (hp w) y H) (hm : vt H z J = some r) :
  lD true Tryz.prog 213 [y, (.agg (kQ z).toArray), (.string J)] w (.bool r) := by
 refine cG 26 func213 rfl (fun b => sg (VE (lJ b rfl (fun W2 M b => Wa (lS (Wm (V (mi cU rfl G) (Wm (ln ?_)))))))))
 refine mf (fun i E W => ∃ D, (E 11 = .int .i64 (i : Nat) ∧ E 10 = .int .i64 (H.length : Nat)) ∧ ST true lT w W (hp w) ((M, Ol (kQ z) 50) :: D) ∧ E 2 = (.string J) ∧ E 4 = (.pointer (some ⟨M, 0, none⟩)) ∧ E 9 = y ∧ wB z J (H.drop i) = some r) H.length G.len ⟨_, ⟨rfl, rfl⟩, (b.kG St), rfl, rfl, rfl, hm⟩ dc dc dc (fun _ _ _ h => by obtain ⟨_, l, _⟩ := h; exact l) ?_ ?_
 ·rintro T E W n ⟨D, ⟨d, m⟩, b, t, u, x, c⟩
  obtain ⟨k, O, q, p, a9⟩ := lX n
  rw [q] at c
  refine bg (VQ (oF (enc := lV) (i := (T : Int)) (x0 := k) cU dR x d G (aH _) p) (fun F Q => V (kI rfl (lz b.has Q ji dR)) (VE (lG b fO (fun s A b => VO (lf (.agg (lV k).toArray) ((lV k).toArray) b rfl rfl dR (Ae k) nb rfl (fun v b => lr (Wf yf (VA b Mh (kQ k.kC) bG aR (V (kI u (kM b.has (Mt Mh) (kQ z) rfl bG aR)) (V (uU rfl rfl (ob eL) (qW (qb _ k.kC z))) ?_)))))))))))
  refine Wm (LJ c (fun K E W => ∃ I, ST true lT w W (hp w) ((M, Ol (kQ z) 50) :: I) ∧ E 2 = (.string J) ∧ E 4 = (.pointer (some ⟨M, 0, none⟩)) ∧ E 9 = y ∧ E 10 = (.int .i64 (H.length : Int)) ∧ E 11 = (.int .i64 (T : Int)) ∧ E 24 = (.bool K)) 5 ?_ (fun K j B => ?_))
  ·rintro L E W ⟨I, b, U, Y, Z, a3, a4, a5⟩ g
   refine ln (CI g a5 (fun N g => ?_) (fun N g => ?_))
   ·refine sg (Wa (ln ?_))
    replace b := b.kG (Db St)
    refine lC (nD (lL (nD (lL ?_))))
    obtain rfl := sj g
    exact rP b
   exact mr (lK (kT ⟨a4, _, ⟨rfl, a3⟩, (b.kG St), U, Y, Z, (by rw [a9]; exact g)⟩))
  refine bC j (fun a j => ?_) (fun a j => ?_)
  ·refine ug a (kP wW rfl) (ug a (kI rfl (lh b.has Mh rfl bV)) (ug a (kR t) (ug a (rK rfl rfl rfl) (V (li (cB a) rfl) ?_))))
   obtain rfl := sj j
   exact B _ _ ⟨_, (b.kG (Db St)), t, u, x, m, d, rfl⟩
  refine un a (un a (un a (un a (V (lj (cB a) rfl) ?_))))
  obtain rfl := sj j
  exact B _ _ ⟨_, (b.kG (Db St)), t, u, x, m, d, rfl⟩
 rintro E W ⟨D, ⟨d, m⟩, b, t, u, x, c⟩
 rw [aI] at c
 refine kT ?_
 replace b := b.kG (Db St)
 exact sg (Wa (lt (rQ c b)))
theorem Kj (k : Value) (M : List kZ) (t : kE) (K : Value) (Y : List ByteArray) (H : ByteArray) (r : Bool) (w : World) (G : Sl (Pl lV) 3 (hp w) k M) (T : Sl (Pl ul) 1 (hp w) K Y) (hm : zM M t Y H = some r) :
  lD true Tryz.prog 214 [k, (.agg (kK t).toArray), K, (.string H)] w (.bool r) := by
 refine cG 62 func214 rfl (fun b => sg (VE (lJ b rfl (fun W2 d b => Wa (lS (Wf rD (VB b Mh rfl rfl cD (Wi rfl (ln ?_)))))))))
 refine CI hm rfl (fun d0 hm => ?_) (fun d0 hm => ?_)
 ·refine sg (Wf xD (VB b Mh rfl rfl bV (Wm (V (rK rfl rfl rfl) (Wa (ln ?_))))))
  replace b := b.kG (Db St)
  refine lC (lL ?_)
  obtain rfl := sj hm
  exact rP b
 refine kS (Wf rD (VB b Mh rfl rfl cD (Wi rfl (ln (CI hm rfl (fun d1 hm => ?_) (fun d1 hm => ?_))))))
 ·refine sg (Wm (Wf oN (VA b Mh (kQ t.B) bG aR (Wm (bS hm fun r5 d3 hm => VE (Eg b call213 (xO k M t.B H _ _ (G.mono (Pl.mono _) b.kN) d3) (fun W7 b => Wa (ln ?_))))))))
  replace b := b.kG (Db St)
  refine lC (lL ?_)
  obtain rfl := sj hm
  exact rP b
 refine kS (Wf rD (VB b Mh rfl rfl cD (Wi rfl (ln (CI hm rfl (fun d2 hm => ?_) (fun d2 hm => ?_))))))
 ·refine sg (Wm (Wf oN (VA b Mh (kQ t.B) bG aR (Wm (bS hm fun r9 c7 hm => VE (Eg b call213 (xO k M t.B H _ _ (G.mono (Pl.mono _) b.kN) c7) (fun e1 b => Wm (LJ hm (fun q E W => ∃ p, ST true lT w W (hp w) p ∧ E 8 = (.bool false) ∧ E 40 = (.bool q)) 6 ?_ (fun q u U => ?_)))))))))
  ·rintro e5 E W ⟨p, b, e3, c9⟩ c6
   refine Wg c9 (lt (lL ?_))
   obtain rfl := sj c6
   exact rP b
  refine bC u (fun c u => ?_) (fun c u => ?_)
  ·refine ug c (kR rfl) (ug c (kP tq rfl) (ug c (kI rfl (kM b.has Mh (kQ t.C) rfl bG aR)) (ug c (kR rfl) (bS u fun e4 c8 u => sE c (Eg b call213 (xO k M t.C H _ _ (G.mono (Pl.mono _) b.kN) c8) (fun e2 b => V (li (cB c) rfl) ?_))))))
   obtain rfl := sj u
   exact U _ _ ⟨_, (b.kG (Db St)), rfl, rfl⟩
  refine un c (un c (un c (un c (un c (V (lj (cB c) rfl) ?_)))))
  obtain rfl := sj u
  exact U _ _ ⟨_, (b.kG (Db St)), rfl, rfl⟩
 refine kS (Wm (V (mi dI rfl T) (Wm (ln (mf (fun i E W => ∃ Q, (E 43 = .int .i64 (i : Nat) ∧ E 42 = .int .i64 (Y.length : Nat)) ∧ ST true lT w W (hp w) ((d, Ol (kK t) 52) :: Q) ∧ E 0 = k ∧ E 3 = (.string H) ∧ E 5 = (.pointer (some ⟨d, 0, none⟩)) ∧ E 41 = K ∧ vp M t H (Y.drop i) = some r) Y.length T.len ⟨_, ⟨rfl, rfl⟩, (b.kG St), rfl, rfl, rfl, rfl, hm⟩ dc dc dc (fun _ _ _ h => by obtain ⟨_, m, _⟩ := h; exact m) ?_ ?_)))))
 ·rintro a4 E W A ⟨Q, ⟨l, n⟩, b, B, I, D, J, g⟩
  obtain ⟨z, d4, P, O, R⟩ := lX A
  rw [P] at g
  refine bg (VQ (oF (enc := ul) (i := (a4 : Int)) (x0 := z) dI gG J l T (aH _) O) (fun d7 a9 => V (kI rfl (tS b.has (y := (.string z)) a9 bV)) (Wa (lr (Wh B (V (kP oN D) (VA b Mh (kQ t.B) bG aR (Wm (bS g fun d8 F g => ?_)))))))))
  refine VE (Eg b call213 (xO k M t.B z _ _ (G.mono (Pl.mono _) b.kN) F) (fun d5 b => Wm (LJ g (fun a5 E W => ∃ Z, ST true lT w W (hp w) ((d, Ol (kK t) 52) :: Z) ∧ E 0 = k ∧ E 3 = (.string H) ∧ E 5 = (.pointer (some ⟨d, 0, none⟩)) ∧ E 41 = K ∧ E 42 = (.int .i64 (Y.length : Int)) ∧ E 43 = (.int .i64 (a4 : Int)) ∧ E 60 = (.bool a5)) 8 ?_ (fun a5 j N => ?_))))
  ·rintro e0 E W ⟨Z, b, b9, c0, c1, c2, c3, c4, c5⟩ x
   refine ln (CI x c5 (fun s x => ?_) (fun s x => ?_))
   ·refine sg (Wa (ln ?_))
    replace b := b.kG (Db St)
    refine lC (nD (lL (nD (lL ?_))))
    obtain rfl := sj x
    exact rP b
   exact mr (lK (kT ⟨c4, _, ⟨rfl, c3⟩, (b.kG St), b9, c0, c1, c2, (by rw [R]; exact x)⟩))
  refine bC j (fun a j => ?_) (fun a j => ?_)
  ·refine ug a (kR B) (ug a (kR rfl) (ug a (kP vv D) (ug a (kI rfl (lh b.has Mh rfl bV)) (ug a (mH (v := (.agg (kQ (⟨z, t.mc⟩ : kC)).toArray)) (oU rfl rfl) (ml fE dQ (JX _ dQ) kr)) (ug a (kR I) (bS j fun d9 L j => sE a (Eg b call213 (xO k M (⟨z, t.mc⟩ : kC) H _ _ (G.mono (Pl.mono _) b.kN) L) (fun d6 b => V (li (cB a) rfl) ?_))))))))
   obtain rfl := sj j
   exact N _ _ ⟨_, (b.kG St), B, I, D, J, n, l, rfl⟩
  refine un a (un a (un a (un a (un a (un a (un a (V (lj (cB a) rfl) ?_)))))))
  obtain rfl := sj j
  exact N _ _ ⟨_, (b.kG St), B, I, D, J, n, l, rfl⟩
 rintro E W ⟨Q, ⟨l, n⟩, b, B, I, D, J, g⟩
 rw [aI] at g
 refine kT ?_
 replace b := b.kG (Db St)
 exact sg (Wa (lt (rQ g b)))
theorem ER (j k : kZ) (r : Bool) (w : World) (hm : uG j k = some r) :
  lD true Tryz.prog 264 [(.agg (lV j).toArray), (.agg (lV k).toArray)] w (.bool r) := by
 refine cG 24 func264 rfl (fun b => sg (VE (lJ b rfl (fun Y d b => VE (lJ b rfl (fun Z h b => Wa (lr (Wf yf (VA b (Mt Mh) (kQ j.kC) bG aR (Wf yf (VA b Mh (kQ k.kC) bG aR (bS hm fun N M hm => ?_))))))))))))
 refine VE (Eg b call297 (EU j.kC k.kC _ _  M) (fun W7 b => Wm (LJ hm (fun z E W => ∃ x, ST true lT w W (hp w) x ∧ E 4 = (.bool false) ∧ E 23 = (.bool z)) 13 ?_ (fun z g t => ?_))))
 ·rintro T E W ⟨x, b, Q, H⟩ D
  exact Wg H (lt (rQ D b))
 refine bC g (fun a g => ?_) (fun a g => ?_)
 ·refine un a (un a (un a (un a (un a (un a (Vu rfl rfl (Vu rfl rfl (Vu rfl rfl (Vu rfl rfl (Vu rfl rfl (un a (V (li (cB a) rfl) ?_))))))))))))
  obtain rfl := sj g
  exact t _ _ ⟨_, (b.kG (Db (Db St))), rfl, rfl⟩
 refine ug a (kP yf rfl) (ug a (kI rfl (kM b.has (Mt Mh) (kQ j.kC) rfl bG aR)) (ug a (kP yf rfl) (ug a (kI rfl (kM b.has Mh (kQ k.kC) rfl bG aR)) (ug a (uU rfl rfl (ob eL) (qW (qb _ j.kC k.kC))) (ug a (kR rfl) (LJ g (fun B E W => ∃ y, ST true lT w W (hp w) y ∧ E 4 = (.bool false) ∧ E 10 = (.bool N) ∧ E 22 = (.bool B)) 6 ?_ (fun B i u => ?_)))))))
 ·rintro U E W ⟨y, b, I, J, K⟩ G
  refine V (lj (J.trans (cB a)) K) ?_
  obtain rfl := sj G
  exact t _ _ ⟨_, (b.kG St), I, rfl⟩
 refine bC i (fun c i => ?_) (fun c i => ?_)
 ·refine ug c (kP wW rfl) (ug c (kI rfl (lh b.has (Mt Mh) rfl bV)) (ug c (kP wW rfl) (ug c (kI rfl (lh b.has Mh rfl bV)) (ug c (rK rfl rfl rfl) (ug a (li (cB c) rfl) ?_)))))
  obtain rfl := sj i
  exact u _ _ ⟨_, (b.kG (Db (Db St))), rfl, rfl, rfl⟩
 refine un c (un c (un c (un c (un c (ug a (lj (cB c) rfl) ?_)))))
 obtain rfl := sj i
 exact u _ _ ⟨_, (b.kG (Db (Db St))), rfl, rfl, rfl⟩
theorem It (I : Value) (Q r : List kZ) (w : World) (Y : Sl (Pl lV) 3 (hp w) I Q) (hm : Am Q = some r) :
  nC true Tryz.prog 215 [I] w 111 lV 3 r := by
 refine xg 56 func215 rfl (fun d => sg (Wa (lr (Wa (lS (Wm ?_))))))
 refine V (mi cU rfl Y) (Wm (ln (mf (fun i E W => ∃ y N x a9, (E 9 = .int .i64 (i : Nat) ∧ E 8 = .int .i64 (Q.length : Nat)) ∧ ST true lT w W (hp w) (x ++ a9) ∧ E 0 = I ∧ E 3 = y ∧ lA 111 lV 3 y N x ∧ pL Q (Q.drop i) N = some r) Q.length Y.len ⟨(.slice none 0 0), ([]), [], _, ⟨rfl, rfl⟩, (d.kG St), rfl, rfl, (lA.nil _ _ _), hm⟩ dc dc dc (fun _ _ _ h => by obtain ⟨_, _, _, _, n, _⟩ := h; exact n) ?_ ?_)))
 ·rintro a7 E W i6 ⟨y, N, x, a9, ⟨m, s⟩, d, P, b2, z, D⟩
  obtain ⟨l2, l1, i7, k2, e4⟩ := lX i6
  rw [i7] at D
  refine bg (Wa (lS (Wh P (V (mi cU rfl Y) (Wm (ln (CJ D (fun c5 E W => ∃ c9, ST true lT w W (hp w) (x ++ c9) ∧ E 0 = I ∧ E 3 = y ∧ E 4 = (.int .i64 c5) ∧ E 8 = (.int .i64 (Q.length : Int)) ∧ E 9 = (.int .i64 (a7 : Int))) (fun c5 f5 => ?_) ?_)))))))
  ·let g5 : Value := (.int .i64 (a7 : Int))
   let a0 : Value := (.int .i64 (Q.length : Int))
   refine mf (fun i E W => ∃ B O, (E 13 = .int .i64 (i : Nat) ∧ E 12 = .int .i64 (Q.length : Nat)) ∧ ST true lT w W (hp w) (x ++ O) ∧ E 0 = I ∧ E 3 = y ∧ E 4 = (.int .i64 B) ∧ E 8 = a0 ∧ E 9 = g5 ∧ E 11 = I ∧ pO N Q (Q.drop i) i B = some c5) Q.length Y.len ⟨(-1), _, ⟨rfl, rfl⟩, (d.kG St), P, b2, rfl, s, m, rfl, f5⟩ dc dc dc (fun _ _ _ h => by obtain ⟨_, _, n, _⟩ := h; exact n) ?_ ?_
   ·rintro H E W f4 ⟨B, O, ⟨m, s⟩, d, A, J, a2, a3, a4, a5, G⟩
    let b8 : Value := (.int .i64 (H : Int))
    obtain ⟨j, j5, g7, g4, c7⟩ := lX f4
    rw [g7] at G
    refine bg (Wh m (VQ (oF (enc := lV) (i := (H : Int)) (x0 := j) cU dR a5 m Y (aH _) g4) (fun k4 f9 => V (kI rfl (lz d.has f9 ji dR)) (VE (lG d fO (fun j8 Z d => Wa (VO (lf (.agg (lV j).toArray) ((lV j).toArray) d rfl rfl dR (Ae j) nb rfl (fun j9 d => ln (kY ?_))))))))))
    replace d := d.drew
    have b := d.has.kG (Kb (Kr Sn))
    refine mj b lQ (X 0 rfl b (kR J) (X 1 rfl b (po cU rfl z) (X 2 rfl b (lR rfl rfl rfl) (X 3 rfl b (kR rfl) (PJ G (fun e7 E W => ∃ d0, ST true lT w W (hp w) ((Z, Ol (lV j) 111) :: (x ++ d0)) ∧ E 0 = I ∧ E 3 = y ∧ E 4 = (.int .i64 B) ∧ E 5 = b8 ∧ E 6 = (.pointer (some ⟨Z, 0, none⟩)) ∧ E 8 = a0 ∧ E 9 = g5 ∧ E 11 = I ∧ E 12 = a0 ∧ E 13 = b8 ∧ E 30 = (.bool e7)) (bm 25 8191) 12 ?_ (fun e7 u c4 => ?_))))))
    ·rintro j3 E W ⟨d0, d, F, b4, T, b5, h0, b6, b7, b9, c0, c1, h1⟩ f6
     have b := d.has.kG (Kb (Kr Sn))
     refine X 13 rfl b (kR h1) (PJ f6 (fun e5 E W => ∃ d1, ST true lT w W (hp w) ((Z, Ol (lV j) 111) :: (x ++ d1)) ∧ E 0 = I ∧ E 3 = y ∧ E 4 = (.int .i64 B) ∧ E 5 = b8 ∧ E 8 = a0 ∧ E 9 = g5 ∧ E 11 = I ∧ E 12 = a0 ∧ E 13 = b8 ∧ E 42 = (.bool e5)) (bm 25 33554431) 0 ?_ (fun e5 M c2 => ?_))
     ·rintro k9 E W ⟨d1, d, d7, d8, h2, h3, d9, e0, e1, e2, e3, h4⟩ K
      refine ms kr (kT ?_)
      replace d := d.kG (Db St)
      refine CI K h4 (fun f3 K => ?_) (fun f3 K => ?_)
      ·exact kV (Wh h3 (Wa (lH (lK (kT ⟨e3, (H : Int), _, ⟨rfl, e2⟩, (d.kG St), d7, d8, rfl, d9, e0, e1, (by rw [c7]; exact K)⟩)))))
      exact mr (lK (kT ⟨e3, B, _, ⟨rfl, e2⟩, (d.kG St), d7, d8, h2, d9, e0, e1, (by rw [c7]; exact K)⟩))
     refine bC M (fun g M => ?_) (fun g M => ?_)
     ·refine Xg 14 rfl rfl (cB g) b (kR T) (Xg 15 rfl rfl (cB g) b (lR rfl rfl rfl) (Xg 16 rfl rfl (cB g) b (kR rfl) (PJ M (fun e6 E W => ∃ d2, ST true lT w W (hp w) ((Z, Ol (lV j) 111) :: (x ++ d2)) ∧ E 0 = I ∧ E 3 = y ∧ E 4 = (.int .i64 B) ∧ E 5 = b8 ∧ E 8 = a0 ∧ E 9 = g5 ∧ E 11 = I ∧ E 12 = a0 ∧ E 13 = b8 ∧ E 31 = (.bool j3) ∧ E 41 = (.bool e6)) (bm 25 16777215) 1 ?_ (fun e6 t c3 => ?_))))
      ·rintro l0 E W ⟨d2, d, h5, h6, h7, h8, h9, i0, i1, i2, i3, i4, i5⟩ f7
       have b := d.has.kG (Kb (Kr Sn))
       refine X 24 rfl b (li (i4.trans (cB g)) i5) ?_
       obtain rfl := sj f7
       refine nu kr (c2 _ _ ⟨_, (d.kG St), h5, h6, h7, h8, h9, i0, i1, i2, i3, rfl⟩)
      refine bC t (fun c t => ?_) (fun c t => ?_)
      ·refine Xn 17 rfl rfl (cB c) b (Xn 18 rfl rfl (cB c) b (Xn 19 rfl rfl (cB c) b (Xn 20 rfl rfl (cB c) b (Xn 21 rfl rfl (cB c) b (Xn 22 rfl rfl (cB c) b (Xg 23 rfl rfl (cB g) b (li (cB c) rfl) ?_))))))
       obtain rfl := sj t
       refine nu kr (c3 _ _ ⟨_, (d.kG St), F, b4, T, b5, b6, b7, b9, c0, c1, rfl, rfl⟩)
      refine rM 17 rfl rfl (cB c) b (fun _ q => kI h0 (kM q Mh (lV j) rfl ji dR)) (Xg 18 rfl rfl (cB c) b (kR F) (Xg 19 rfl rfl (cB c) b (kR T) (bS t fun e8 c8 t => rT 20 rfl kr (.inr ⟨16, false, 34, rfl, rfl, by decide, (cB c)⟩) rfl dc (fun _ _ h => h) b (oF (enc := lV) (i := B) (x0 := e8) cU dR rfl rfl Y (lN c8) (lM c8)) (fun k5 g0 => rM 21 rfl rfl (cB c) b (fun _ q => kI rfl (lz q g0 ji dR)) (bS t fun k7 g2 t => AV 22 rfl rfl (cB c) (Eg d call264 (ER j e8 _ _  g2) (fun k0 d => ?_)))))))
      have b := d.has.kG (Kb (Kr Sn))
      refine ⟨b, (Xg 23 rfl rfl (cB g) b (lj (cB c) rfl) ?_)⟩
      obtain rfl := sj t
      refine nu kr (c3 _ _ ⟨_, (d.kG St), F, b4, T, b5, b6, b7, b9, c0, c1, rfl, rfl⟩)
     refine Xn 14 rfl rfl (cB g) b (Xn 15 rfl rfl (cB g) b (Xn 16 rfl rfl (cB g) b (Xu 17 rfl rfl rfl b (Xu 18 rfl rfl rfl b (Xu 19 rfl rfl rfl b (Xu 20 rfl rfl rfl b (Xu 21 rfl rfl rfl b (Xu 22 rfl rfl rfl b (Xn 23 rfl rfl (cB g) b (X 24 rfl b (lj (cB g) rfl) ?_))))))))))
     obtain rfl := sj M
     refine nu kr (c2 _ _ ⟨_, (d.kG St), F, b4, T, b5, b6, b7, b9, c0, c1, rfl⟩)
    refine bC u (fun a u => ?_) (fun a u => ?_)
    ·refine Xn 4 rfl rfl (cB a) b (Xn 5 rfl rfl (cB a) b (Xn 6 rfl rfl (cB a) b (Xn 7 rfl rfl (cB a) b (Xn 8 rfl rfl (cB a) b (Xn 9 rfl rfl (cB a) b (Xn 10 rfl rfl (cB a) b (Xn 11 rfl rfl (cB a) b (X 12 rfl b (li (cB a) rfl) ?_))))))))
     obtain rfl := sj u
     refine nu kr (c4 _ _ ⟨_, (d.kG St), A, J, a2, rfl, rfl, a3, a4, a5, s, m, rfl⟩)
    refine Xg 4 rfl rfl (cB a) b (kR J) (Xg 5 rfl rfl (cB a) b (kR J) (Xg 6 rfl rfl (cB a) b (po cU rfl z) (Xg 7 rfl rfl (cB a) b (lR rfl rfl rfl) (bS u fun e9 L u => rT 8 rfl kr (.inr ⟨3, false, 21, rfl, rfl, by decide, (cB a)⟩) rfl dc (fun _ _ h => h) b (pS (i := (IntKind.i64.wrap ((N.length : Int) - 1))) (x0 := e9) cU dR rfl rfl z (lN L) (lM L)) (fun k6 g1 => rM 9 rfl rfl (cB a) b (fun _ q => kI rfl (vC q (fun p hq => (Mt (Ml hq))) z qU g1 (lM L) ji dR)) (rM 10 rfl rfl (cB a) b (fun _ q => kI rfl (kM q Mh (lV j) rfl ji dR)) (bS u fun k8 g3 u => AV 11 rfl rfl (cB a) (Eg d call264 (ER e9 j _ _  g3) (fun k1 d => ?_)))))))))
    have b := d.has.kG (Kb (Kr Sn))
    refine ⟨b, (X 12 rfl b (lj (cB a) rfl) ?_)⟩
    obtain rfl := sj u
    refine nu kr (c4 _ _ ⟨_, (d.kG St), A, J, a2, rfl, rfl, a3, a4, a5, s, m, rfl⟩)
   rintro E W ⟨B, O, ⟨m, s⟩, d, A, J, a2, a3, a4, a5, G⟩
   rw [aI] at G
   refine kT ?_
   obtain rfl := sj G
   exact ⟨_, (d.kG St), A, J, a2, a3, a4⟩
  rintro j0 E W ⟨c9, d, b3, d3, d4, d5, d6⟩ k
  refine sg (Wh d4 (Wi rfl (ln (CI k rfl (fun f1 k => ?_) (fun f1 k => ?_)))))
  ·refine kV (Wh d3 (Wh b3 (Wh d4 (bS k fun U c6 k => VQ (oF (enc := lV) (i := j0) (x0 := U) cU dR rfl rfl Y (lN c6) (lM c6)) (fun k3 f8 => V (kI rfl (lz d.has f8 ji dR)) (VE (lE (cs := (lV U).toArray) d (np rfl) (nq cU dR fO) (fun j6 g9 d => ?_))))))))
   replace d := d.perm (Nr (Qb Qz) Nz)
   refine bS k fun i8 f2 k => VE (oW (enc := lV) (v := y) (vs := (.slice (some ⟨g9, 0, none⟩) 1 1)) (R := x) d qU dc Ae cU vi.1 vi.2.1 rfl vi.2.2.1 vi.2.2.2 rfl rfl z (Sl.lit (enc := lV) (l := [U]) qU rfl nb rfl (d.at_ (Ma Mh))) f2 (fun j7 i9 g8 d f0 => Wa (lH (lK (kT ?_)))))
   replace d := d.kG (Kr (Db St))
   exact ⟨d6, i9, i8, g8, _, ⟨rfl, d5⟩, (d.kG St), b3, rfl, f0, (by rw [e4]; exact k)⟩
  exact mr (lK (kT ⟨d6, y, N, x, _, ⟨rfl, d5⟩, (d.kG St), b3, d3, z, (by rw [e4]; exact k)⟩))
 rintro E W ⟨y, N, x, a9, ⟨m, s⟩, d, P, b2, z, D⟩
 rw [aI] at D
 refine kT (sg (Wh b2 (Wa (lt ?_))))
 obtain rfl := sj D
 exact mI (v := y) rfl rfl ⟨_, x, rfl, d.pn (fun p hq => (Ml hq)) z.nd, z⟩
theorem HM (f8 : Value) (a0 : List kE) (r : List kZ) (w : World) (k8 : Sl (Pl kK) 9 (hp w) f8 a0) (hm : wj a0 = some r) :
  nC true Tryz.prog 159 [f8] w 111 lV 3 r := by
 refine xg 53 func159 rfl (fun d => sg (Wa (lr (Wm (bS hm fun O m0 hm => VE (vK d call211 (FR f8 a0 _ _ (k8.mono (Pl.mono _) d.kN) m0) (fun W3 v7 ae R8 d n0 ad f3 => Wa (ln (kY ?_)))))))))
 refine kV (Wm (bS hm fun s l0 hm => VE (vK d call212 (Je v7 O _ _ (f3.sl mE (fun b o n => d.at_ (Ml n))) l0) (fun n2 q d7 d1 d m9 ab P => Wa (lr (Wa (ln (qt (mB (nS (fun m E W => ∃ c0 b9 b7 d8, ST true lT w W d7 (b7 ++ (d1 ++ (R8 ++ d8))) ∧ E 3 = v7 ∧ E 4 = q ∧ E 5 = c0 ∧ lA 111 lV 3 c0 b9 b7 ∧ vg s O m b9 = some r) lB ⟨(.slice none 0 0), ([]), [], _, (d.kG St), rfl, rfl, rfl, (lA.nil _ _ _), hm⟩ ?_))))))))))
 rintro m E W ⟨c0, b9, b7, d8, d, e2, i3, i4, k0, Y⟩
 cases m with
 | zero => rw [vg] at Y; cases Y
 | succ k3 =>
  refine bg (Wa (lS (Wh e2 (V (po aT rfl f3) (Wm (ln (CJ Y (fun b1 E W => ∃ T Z d9, ST true lT w W d7 (Z ++ (d1 ++ (R8 ++ d9))) ∧ E 3 = v7 ∧ E 4 = q ∧ E 5 = T ∧ E 6 = (.bool b1.2) ∧ lA 111 lV 3 T b1.1 Z) (fun b1 g8 => ?_) ?_)))))))
  ·refine mf (fun i E W => ∃ J Q H U c1, (E 17 = .int .i64 (i : Nat) ∧ E 16 = .int .i64 (O.length : Nat)) ∧ ST true lT w W d7 (H ++ (d1 ++ (R8 ++ c1))) ∧ E 3 = v7 ∧ E 4 = q ∧ E 5 = J ∧ E 6 = (.bool U) ∧ E 15 = v7 ∧ lA 111 lV 3 J Q H ∧ wO s (O.drop i) Q U = some b1) O.length f3.len ⟨c0, b9, b7, false, _, ⟨rfl, rfl⟩, (d.kG St), e2, i3, i4, rfl, rfl, k0, g8⟩ dc dc dc (fun _ _ _ h => by obtain ⟨_, _, _, _, _, F, _⟩ := h; exact F) ?_ ?_
   ·rintro b0 E W g4 ⟨J, Q, H, U, c1, ⟨A, L⟩, d, c3, a3, c4, c5, c6, b5, u⟩
    obtain ⟨a, l1, h7, d4, h8⟩ := lX g4
    rw [h7] at u
    refine bg (VQ (pS (i := (b0 : Int)) (x0 := a) aT aO c6 A f3 (aH _) d4) (fun m1 h1 => V (kI rfl (vC d.has (fun p n => (Ma (Ma (Ml n)))) f3 mE h1 d4 bW aO)) (VE (lG d cW (fun l4 a2 d => VO (lf (.agg (kK a).toArray) ((kK a).toArray) d rfl rfl aO (oP a) nb rfl (fun l5 d => lr (Wh a3 (V (po dI rfl P) (Wm (lH ?_)))))))))))
    let b8 : Value := (.int .i64 (O.length : Int))
    refine kT (qt (CJ u (fun b2 E W => ∃ b3 a1 e0, ST true lT w W d7 (a1 ++ (d1 ++ (R8 ++ e0))) ∧ E 3 = v7 ∧ E 4 = q ∧ E 5 = b3 ∧ E 6 = (.bool b2.2) ∧ E 15 = v7 ∧ E 16 = b8 ∧ E 17 = (.int .i64 (b0 : Int)) ∧ lA 111 lV 3 b3 b2.1 a1) (fun b2 h0 => ?_) ?_))
    ·refine mf (fun i E W => ∃ k G B K c2, (E 23 = .int .i64 (i : Nat) ∧ E 22 = .int .i64 (s.length : Nat)) ∧ ST true lT w W d7 ((a2, Ol (kK a) 52) :: (B ++ (d1 ++ (R8 ++ c2)))) ∧ E 3 = v7 ∧ E 4 = q ∧ E 5 = k ∧ E 6 = (.bool K) ∧ E 8 = (.pointer (some ⟨a2, 0, none⟩)) ∧ E 15 = v7 ∧ E 16 = b8 ∧ E 17 = (.int .i64 (b0 : Int)) ∧ E 21 = q ∧ lA 111 lV 3 k G B ∧ vk a s (s.drop i) G K = some b2) s.length P.len ⟨J, Q, H, U, _, ⟨rfl, rfl⟩, (d.kG St), c3, a3, c4, c5, rfl, c6, L, A, rfl, b5, h0⟩ dc dc dc (fun _ _ _ h => by obtain ⟨_, _, _, _, _, F, _⟩ := h; exact F) ?_ ?_
     ·rintro f4 E W g7 ⟨k, G, B, K, c2, ⟨A, L⟩, d, a4, M, I, a5, N, a6, a7, a8, a9, D, j⟩
      obtain ⟨g, l2, h9, d5, d6⟩ := lX g7
      rw [h9] at j
      refine bg (VQ (pS (i := (f4 : Int)) (x0 := g) dI gG a9 A P (aH _) d5) (fun m2 h2 => V (kI rfl (DE d.has (fun p n => (Mt (Ma (Ml n)))) P (fun _ => rfl) h2 d5 (y := (.string g)) rfl bV)) (Wa (lr (Wh I (V (kP rE N) (VA d Mh (kQ a.Head) bG aR (Wm (bS j fun m4 h4 j => ?_)))))))))
      refine VE (Eg d call213 (xO k G a.Head g _ _ (D.sl qU (fun b o n => d.at_ (Mt (Ml n)))) h4) (fun l6 d => V (ot rfl) (Wm (LJ j (fun f7 E W => ∃ e1, ST true lT w W d7 ((a2, Ol (kK a) 52) :: (B ++ (d1 ++ (R8 ++ e1)))) ∧ E 3 = v7 ∧ E 4 = q ∧ E 5 = k ∧ E 6 = (.bool K) ∧ E 8 = (.pointer (some ⟨a2, 0, none⟩)) ∧ E 10 = (.string g) ∧ E 15 = v7 ∧ E 16 = b8 ∧ E 17 = (.int .i64 (b0 : Int)) ∧ E 21 = q ∧ E 22 = (.int .i64 (s.length : Int)) ∧ E 23 = (.int .i64 (f4 : Int)) ∧ E 39 = (.bool f7)) 6 ?_ (fun f7 z c9 => ?_)))))
      ·rintro m7 E W ⟨e1, d, e4, e5, e6, j7, c7, j8, e7, e8, e9, f0, f1, f2, j9⟩ x
       refine ln (CI x j9 (fun g2 x => ?_) (fun g2 x => ?_))
       ·refine sg (Wh e6 (V (kP rE c7) (VA d Mh (kQ a.Head) bG aR (Wh j8 (V (mH (v := (.agg (lV (⟨a.Head, g⟩ : kZ)).toArray)) (oU rfl rfl) (ml fO fP (Ng _ fP) kr)) (VE (lE (cs := (lV (⟨a.Head, g⟩ : kZ)).toArray) d (np rfl) (nq cU dR fO) (fun l7 i2 d => ?_))))))))
        replace d := d.perm (Nr (Qb (Qb Qz)) Nz)
        refine bS x fun k2 g3 x => VE (oW (enc := lV) (v := k) (vs := (.slice (some ⟨i2, 0, none⟩) 1 1)) (R := B) d qU dc Ae cU vi.1 vi.2.1 rfl vi.2.2.1 vi.2.2.2 rfl rfl D (Sl.lit (enc := lV) (l := [(⟨a.Head, g⟩ : kZ)]) qU rfl nb rfl (d.at_ (Ma Mh))) g3 (fun l8 k5 i1 d g0 => Wa (ln ?_)))
        replace d := d.kG (Kr (Db St))
        exact kV (Wa (lH (lK (kT ⟨f2, k5, k2, i1, true, _, ⟨rfl, f1⟩, (d.kG (Sb (Pr Pz) St)), e4, e5, rfl, rfl, c7, e7, e8, e9, f0, g0, (by rw [d6]; exact x)⟩))))
       exact mr (lK (kT ⟨f2, k, G, B, K, _, ⟨rfl, f1⟩, (d.kG St), e4, e5, e6, j7, c7, e7, e8, e9, f0, D, (by rw [d6]; exact x)⟩))
      refine bC z (fun c z => ?_) (fun c z => ?_)
      ·refine ug c (kR I) (ug c (kI N (kM d.has Mh (kK a) rfl bW aO)) (ug c (kR M) (ug c (kR rfl) (bS z fun m5 h5 z => sE c (Eg d call214 (Kj k G a q s g _ _ (D.sl qU (fun b o n => d.at_ (Mt (Ml n)))) (P.sl (fun _ => rfl) (fun b o n => d.at_ (Mt (Ma (Ml n))))) h5) (fun l9 d => V (li (cB c) rfl) ?_))))))
       obtain rfl := sj z
       exact c9 _ _ ⟨_, (d.kG St), a4, M, I, a5, N, rfl, a6, a7, a8, a9, L, A, rfl⟩
      refine un c (un c (un c (un c (un c (V (lj (cB c) rfl) ?_)))))
      obtain rfl := sj z
      exact c9 _ _ ⟨_, (d.kG St), a4, M, I, a5, N, rfl, a6, a7, a8, a9, L, A, rfl⟩
     rintro E W ⟨k, G, B, K, c2, ⟨A, L⟩, d, a4, M, I, a5, N, a6, a7, a8, a9, D, j⟩
     rw [aI] at j
     refine kT ?_
     obtain rfl := sj j
     exact ⟨k, B, _, (d.kG (Db St)), a4, M, I, a5, a6, a7, a8, D⟩
    rintro ⟨k1, k6⟩ E W ⟨b3, a1, e0, d, i8, i9, j0, j3, j4, j5, j6, h6⟩ g9
    exact lK (kT ⟨j6, b3, k1, a1, k6, _, ⟨rfl, j5⟩, (d.kG St), i8, i9, j0, j3, j4, h6, (by rw [h8]; exact g9)⟩)
   rintro E W ⟨J, Q, H, U, c1, ⟨A, L⟩, d, c3, a3, c4, c5, c6, b5, u⟩
   rw [aI] at u
   refine kT ?_
   obtain rfl := sj u
   exact ⟨J, H, _, (d.kG St), c3, a3, c4, c5, b5⟩
  rintro ⟨f5, m6⟩ E W ⟨T, Z, d9, d, i5, i6, e3, i7, d3⟩ t
  refine sg (Wh i7 (V (ot rfl) (ln (CI t rfl (fun g1 t => ?_) (fun g1 t => ?_)))))
  ·refine sg (Wh e3 (bS t fun m3 h3 t => VE (vK d call215 (It T f5 _ _ (d3.sl qU (fun b o n => d.at_ (Ml n))) h3) (fun l3 k4 m8 i0 d k9 aa d2 => Wa (ln ?_)))))
   replace d := d.kG (Kr (Dr (Dr (Dr St))))
   refine lC (nD (lL (nD (lL ?_))))
   obtain rfl := sj t
   exact mI (v := k4) rfl rfl ⟨_, i0, rfl, d.pn (fun p n => (Ml n)) d2.nd, d2⟩
  exact mr (lK (kT ⟨k3, bB _, T, f5, Z, _, (d.kG St), i5, i6, e3, d3, t⟩))
theorem Ee (D : Value) (G : List kZ) (I : ByteArray) (r : List kC) (w : World) (B : Sl (Pl lV) 3 (hp w) D G) (hm : tR G I = some r) :
  nC true Tryz.prog 158 [D, (.string I)] w 50 kQ 2 r := by
 refine xg 25 func158 rfl (fun b => sg (Wa (lr (Wa (lS (Wm ?_))))))
 refine V (mi cU rfl B) (Wm (ln (mf (fun i E W => ∃ k y g z, (E 10 = .int .i64 (i : Nat) ∧ E 9 = .int .i64 (G.length : Nat)) ∧ ST true lT w W (hp w) (g ++ z) ∧ E 1 = (.string I) ∧ E 5 = k ∧ E 8 = D ∧ lA 50 kQ 2 k y g ∧ ry I (G.drop i) y = some r) G.length B.len ⟨(.slice none 0 0), ([]), [], _, ⟨rfl, rfl⟩, (b.kG St), rfl, rfl, rfl, (lA.nil _ _ _), hm⟩ dc dc dc (fun _ _ _ h => by obtain ⟨_, _, _, _, m, _⟩ := h; exact m) ?_ ?_)))
 ·rintro a4 E W U ⟨k, y, g, z, ⟨d, n⟩, b, t, u, x, j, a⟩
  obtain ⟨c, O, Z, Y, H⟩ := lX U
  rw [Z] at a
  refine bg (VQ (oF (enc := lV) (i := (a4 : Int)) (x0 := c) cU dR x d B (aH _) Y) (fun L N => V (kI rfl (lz b.has N ji dR)) (VE (lG b fO (fun a5 a9 b => VO (lf (.agg (lV c).toArray) ((lV c).toArray) b rfl rfl dR (Ae c) nb rfl (fun s b => lr (Wf wW (VB b Mh rfl rfl bV (Wh t (V (rK rfl rfl rfl) ?_)))))))))))
  refine ln (CI a rfl (fun K a => ?_) (fun K a => ?_))
  ·refine kV (Wh u (Wf yf (VA b Mh (kQ c.kC) bG aR (VE (lE (cs := (kQ c.kC).toArray) b (np rfl) (nq fC aR fE) (fun A T b => ?_))))))
   replace b := b.perm (Nr (Qb (Qb Qz)) Nz)
   refine bS a fun a2 M a => VE (oW (enc := kQ) (v := k) (vs := (.slice (some ⟨T, 0, none⟩) 1 1)) (R := g) b ya dc wX fC wC.1 wC.2.1 rfl wC.2.2.1 wC.2.2.2 rfl rfl j (Sl.lit (enc := kQ) (l := [c.kC]) ya rfl nb rfl (b.at_ (Ma Mh))) M (fun F a3 Q b J => Wa (lH (lK (kT ?_)))))
   replace b := b.kG (Kr (Db (Db St)))
   exact ⟨d, a3, a2, Q, _, ⟨rfl, n⟩, (b.kG St), t, rfl, x, J, (by rw [H]; exact a)⟩
  refine mr (lK (kT ?_))
  replace b := b.kG (Db St)
  exact ⟨d, k, y, g, _, ⟨rfl, n⟩, (b.kG St), t, u, x, j, (by rw [H]; exact a)⟩
 rintro E W ⟨k, y, g, z, ⟨d, n⟩, b, t, u, x, j, a⟩
 rw [aI] at a
 refine kT (sg (Wh u (Wa (lt ?_))))
 obtain rfl := sj a
 exact mI (v := k) rfl rfl ⟨_, g, rfl, b.pn (fun p q => (Ml q)) j.nd, j⟩
theorem zp (i : Formula) (g : Value) (x : Int) (r : Bool) (w : World) (c : Sl kF 5 (hp w) g i.Kids) (hm : vZ i x = some r) :
  lD true Tryz.prog 327 [(.agg #[(.int .i64 i.Op), (.int .i64 i.K), (.string i.kC.kD), (.string i.kC.kJ), g]), (.int .i64 x)] w (.bool r) := by
 refine cG 15 func327 rfl (fun b => sg ?_)
 obtain ⟨B, D, rfl⟩ := c.form
 refine VE (lJ b rfl (fun G H b => Wa (lr (Wf oB (VB b Mh rfl rfl cD (Wm (Wi rfl (Wm (LJ hm (fun t E W => ∃ u, ST true lT w W (hp w) u ∧ E 4 = (.bool false) ∧ E 14 = (.bool t)) 5 ?_ (fun t j k => ?_))))))))))
 ·rintro J E W ⟨u, b, I, y⟩ z
  exact Wg y (lt (rQ z b))
 refine bC j (fun a j => ?_) (fun a j => ?_)
 ·refine ug a (kP oA rfl) (ug a (kI rfl (lh b.has Mh rfl dZ)) (ug a (mi aD rfl c) (ug a (lR rfl rfl rfl) (V (li (cB a) rfl) ?_))))
  obtain rfl := sj j
  exact k _ _ ⟨_, (b.kG (Db St)), rfl, rfl⟩
 refine un a (un a (un a (un a (V (lj (cB a) rfl) ?_))))
 obtain rfl := sj j
 exact k _ _ ⟨_, (b.kG (Db St)), rfl, rfl⟩
theorem Ey (I : Formula → Option ByteArray) (p : ∀ (a : Formula) (k : Value) (r : ByteArray) (w : World) (c : Sl kF 5 (hp w) k a.Kids), I a = some r → lD false Tryz.prog 359 [(.agg #[(.int .i64 a.Op), (.int .i64 a.K), (.string a.kC.kD), (.string a.kC.kJ), k])] w (.string r)) (a : Formula) (k : Value) (r : ByteArray) (w : World) (c : Sl kF 5 (hp w) k a.Kids) (hm : xA I a = some r) :
  lD false Tryz.prog 359 [(.agg #[(.int .i64 a.Op), (.int .i64 a.K), (.string a.kC.kD), (.string a.kC.kJ), k])] w (.string r) := by
 refine cG 44 func359 rfl (fun b => sg ?_)
 obtain ⟨A1, c2, rfl⟩ := c.form
 refine VE (lJ b rfl (fun W4 m b => Wa (lr (Wf oB (VB b Mh rfl rfl cD (bS hm fun r5 P hm => VE (Eg b call340 (lD.mP (vP a.Op _ _  P)) (fun W7 b => Wa (ln (kY (kY ?_)))))))))))
 refine kV (Wf oB (VB b Mh rfl rfl cD (Wi rfl (ln (CI hm rfl (fun O hm => ?_) (fun O hm => ?_))))))
 ·refine sg (Wm (Wf uP (VA b Mh (kQ a.kC) bG aR (bS hm fun r9 a4 hm => VE (Eg b call341 (lD.mP (yK a.kC _ _  a4)) (fun d3 b => bS hm fun d6 q hm => V (xN rfl rfl q) (Wa (ln ?_))))))))
  replace b := b.kG (Db St)
  refine lC (lL ?_)
  obtain rfl := sj hm
  exact rP b
 refine kn (kY (CJ hm (fun J E W => ∃ Y, ST false lT w W (hp w) ((m, Ol (C2 a.Op a.K a.kC.kD a.kC.kJ A1 a.Kids.length c2) 58) :: Y) ∧ E 1 = (.pointer (some ⟨m, 0, none⟩)) ∧ E 3 = (.string J)) (fun J t => ?_) ?_))
 ·refine sg (Wf oB (VB b Mh rfl rfl cD (Wi rfl (ln (CI t rfl (fun K t => ?_) (fun K t => ?_))))))
  ·refine kV (Wm (Wf sH (VB b Mh rfl rfl cD (bS t fun c9 Q t => VE (Eg b call340 (lD.mP (vP a.K _ _  Q)) (fun c5 b => bS t fun d0 U t => V (xN rfl rfl U) (Wa (ln ?_))))))))
   obtain rfl := sj t
   exact ⟨_, (b.kG St), rfl, rfl⟩
  refine kn ?_
  obtain rfl := sj t
  exact ⟨_, (b.kG St), rfl, rfl⟩
 rintro d7 E W ⟨Y, b, Z, L⟩ u
 refine sg (Wh L (V (kP oA Z) (VB b Mh rfl rfl dZ (V (mi aD rfl c) (bS u fun d5 a5 u => VE (Eg b call340 (lD.mP (vP (a.Kids.length : Int) _ _  a5)) (fun d4 b => bS u fun c0 s u => V (xN rfl rfl s) (Wa (ln (kY (kY ?_)))))))))))
 refine kV (V (kP oA Z) (VB b Mh rfl rfl dZ (V (mi aD rfl c) (Wm (ln ?_)))))
 replace b := b.kG (Db St)
 refine mf (fun i E W => ∃ z B, (E 34 = .int .i64 (i : Nat) ∧ E 33 = .int .i64 (a.Kids.length : Nat)) ∧ ST false lT w W (hp w) B ∧ E 3 = (.string z) ∧ E 32 = (.slice A1 a.Kids.length c2) ∧ ta I (a.Kids.drop i) z = some r) a.Kids.length c.len ⟨c0, _, ⟨rfl, rfl⟩, (b.kG St), rfl, rfl, u⟩ dc dc dc (fun _ _ _ h => by obtain ⟨_, _, l, _⟩ := h; exact l) ?_ ?_
 ·rintro R E W a3 ⟨z, B, ⟨d, n⟩, b, D, G, g⟩
  obtain ⟨j, d2, v, a9, A⟩ := lX a3
  rw [v] at g
  refine bg (VQ (mT (i := (R : Int)) (x0 := j) kF.out aD aC G d c (aH _) a9) (fun c7 ⟨_, ⟨d1, rfl, H⟩, M⟩ => V (kI rfl (lz b.has M aK aC)) (VE (lG b aP (fun c1 c6 b => ?_)))))
  obtain ⟨x, y, rfl⟩ := H.form
  let a0 := (C2 j.Op j.K j.kC.kD j.kC.kJ x j.Kids.length y)
  refine VO (lf (.agg a0.toArray) (a0.toArray) b rfl rfl aC oc nb rfl (fun c3 b => ln (kV (Wh D (VA b Mh a0 aK aC (bS g fun c8 N g => VE (Eg b call359 (p j (.slice x j.Kids.length y) _ _ (H.mono kL.mono b.kN) N) (fun c4 b => bS g fun F T g => V (xN rfl rfl T) (Wa (lH (lK (kT ?_))))))))))))
  replace b := b.kG (Db St)
  exact ⟨d, F, _, ⟨rfl, n⟩, (b.kG St), rfl, G, (by rw [A]; exact g)⟩
 rintro E W ⟨z, B, ⟨d, n⟩, b, D, G, g⟩
 rw [aI] at g
 exact kT (sg (Wh D (Wa (lt (rQ g b)))))
theorem Bf : ∀ (n : Nat) (c : Formula) (a : Value) (r : ByteArray) (w : World) (g : Sl kF 5 (hp w) a c.Kids) (_ : qo n c = some r),
  lD false Tryz.prog 359 [(.agg #[(.int .i64 c.Op), (.int .i64 c.K), (.string c.kC.kD), (.string c.kC.kJ), a])] w (.string r)
 | 0 => by intros; rename_i h; simp only [qo] at h; cases h
 | n + 1 => Ey (qo n) (Bf n)
theorem GU (c : Formula) (u : Value) (a : Formula) (x : Value) (r : Int) (w : World) (k : Sl kF 5 (hp w) u c.Kids) (t : Sl kF 5 (hp w) x a.Kids) (hm : xf c a = some r) :
  lD false Tryz.prog 343 [(.agg #[(.int .i64 c.Op), (.int .i64 c.K), (.string c.kC.kD), (.string c.kC.kJ), u]), (.agg #[(.int .i64 a.Op), (.int .i64 a.K), (.string a.kC.kD), (.string a.kC.kJ), x])] w (.int .i64 r) := by
 refine cG 21 func343 rfl (fun b => sg ?_)
 obtain ⟨B, D, rfl⟩ := k.form
 let d := (C2 c.Op c.K c.kC.kD c.kC.kJ B c.Kids.length D)
 refine VE (lJ b rfl (fun W4 s b => ?_))
 obtain ⟨y, z, rfl⟩ := t.form
 let a0 := (C2 a.Op a.K a.kC.kD a.kC.kJ y a.Kids.length z)
 refine VE (lJ b rfl (fun W8 h b => Wa (lr (Wa (lr (Wa (ln (kY ?_))))))))
 refine CJ hm (fun Q E W => ∃ G, ST false lT w W (hp w) ((h, Ol a0 58) :: G) ∧ E 3 = (.pointer (some ⟨h, 0, none⟩)) ∧ E 5 = (.string Q) ∧ E 6 = (.string zS)) (fun Q j => ?_) ?_
 ·refine sg (VA b (Mt Mh) d aK aC (bS j fun L a5 j => VE (Eg b call92 (wQ c (.slice B c.Kids.length D) _ _ (k.mono kL.mono b.kN) a5) (fun q b => ln (CI j rfl (fun Z j => ?_) (fun Z j => ?_))))))
  ·refine kV (VA b (Mt Mh) d aK aC (bS j fun O l j => VE (Eg b call359 ((Bf lB) c (.slice B c.Kids.length D) _ _ (k.mono kL.mono b.kN) l) (fun v b => Wa (ln ?_)))))
   obtain rfl := sj j
   exact ⟨_, (b.kG (Kb (Db St))), rfl, rfl, rfl⟩
  refine kn ?_
  obtain rfl := sj j
  exact ⟨_, (b.kG (Kb (Db St))), rfl, rfl, rfl⟩
 rintro a9 E W ⟨G, b, I, J, m⟩ a2
 refine kY (CJ a2 (fun N E W => ∃ H, ST false lT w W (hp w) H ∧ E 5 = (.string a9) ∧ E 6 = (.string N)) (fun N i => ?_) ?_)
 ·refine sg (V (kI I (kM b.has Mh a0 rfl aK aC)) (bS i fun A a3 i => VE (Eg b call92 (wQ a (.slice y a.Kids.length z) _ _ (t.mono kL.mono b.kN) a3) (fun n b => ln (CI i rfl (fun Y i => ?_) (fun Y i => ?_))))))
  ·refine kV (V (kI I (kM b.has Mh a0 rfl aK aC)) (bS i fun F a4 i => VE (Eg b call359 ((Bf lB) a (.slice y a.Kids.length z) _ _ (t.mono kL.mono b.kN) a4) (fun p b => Wa (ln ?_)))))
   obtain rfl := sj i
   exact ⟨_, (b.kG (Db St)), J, rfl⟩
  refine kn ?_
  obtain rfl := sj i
  exact ⟨_, (b.kG (Db St)), J, m⟩
 rintro c1 E W ⟨H, b, K, M⟩ g
 refine kY (sg (Wh K (Wh M (V (rK rfl rfl rfl) (ln (CI g rfl (fun T g => ?_) (fun T g => ?_)))))))
 ·refine sg (Wa (lt (lL ?_)))
  obtain rfl := sj g
  exact rP b
 refine kS (Wh K (Wh M (V (rK rfl rfl rfl) (ln (CI g rfl (fun U g => ?_) (fun U g => ?_))))))
 ·refine sg (Wa (lt (lL ?_)))
  obtain rfl := sj g
  exact rP b
 exact kg (Wa (lt (rQ g b)))
theorem FM (s : Formula → Formula → Option Bool) (d8 : ∀ (a : Formula) (u : Value) (c : Formula) (x : Value) (r : Bool) (w : World) (k : Sl kF 5 (hp w) u a.Kids) (y : Sl kF 5 (hp w) x c.Kids), s a c = some r → lD false Tryz.prog 167 [(.agg #[(.int .i64 a.Op), (.int .i64 a.K), (.string a.kC.kD), (.string a.kC.kJ), u]), (.agg #[(.int .i64 c.Op), (.int .i64 c.K), (.string c.kC.kD), (.string c.kC.kJ), x])] w (.bool r)) (a : Formula) (u : Value) (c : Formula) (x : Value) (r : Bool) (w : World) (k : Sl kF 5 (hp w) u a.Kids) (y : Sl kF 5 (hp w) x c.Kids) (hm : yo s a c = some r) :
  lD false Tryz.prog 167 [(.agg #[(.int .i64 a.Op), (.int .i64 a.K), (.string a.kC.kD), (.string a.kC.kJ), u]), (.agg #[(.int .i64 c.Op), (.int .i64 c.K), (.string c.kC.kD), (.string c.kC.kJ), x])] w (.bool r) := by
 refine cG 53 func167 rfl (fun b => sg ?_)
 obtain ⟨Z, c2, rfl⟩ := k.form
 let m := (C2 a.Op a.K a.kC.kD a.kC.kJ Z a.Kids.length c2)
 refine VE (lJ b rfl (fun W4 I b => ?_))
 obtain ⟨A5, c6, rfl⟩ := y.form
 let a0 := (C2 c.Op c.K c.kC.kD c.kC.kJ A5 c.Kids.length c6)
 refine VE (lJ b rfl (fun W8 J b => Wa (lS (Wf oB (VB b (Mt Mh) rfl rfl cD (Wf oB (VB b Mh rfl rfl cD (Wi rfl (Wm (LJ hm (fun O E W => ∃ d1, ST false lT w W (hp w) ((J, Ol a0 58) :: ((I, Ol m 58) :: d1)) ∧ E 2 = (.pointer (some ⟨I, 0, none⟩)) ∧ E 3 = (.pointer (some ⟨J, 0, none⟩)) ∧ E 17 = (.bool O)) 6 ?_ (fun O G N => ?_)))))))))))
 ·let a3 : Value := (.pointer (some ⟨J, 0, none⟩))
  let a2 : Value := (.pointer (some ⟨I, 0, none⟩))
  rintro f1 E W ⟨d1, b, a5, n, e1⟩ d6
  refine Wh e1 (LJ d6 (fun L E W => ∃ d2, ST false lT w W (hp w) ((J, Ol a0 58) :: ((I, Ol m 58) :: d2)) ∧ E 2 = a2 ∧ E 3 = a3 ∧ E 24 = (.bool L)) 6 ?_ (fun L D M => ?_))
  ·rintro f2 E W ⟨d2, b, p, q, e2⟩ d7
   refine Wh e2 (LJ d7 (fun F E W => ∃ d3, ST false lT w W (hp w) ((J, Ol a0 58) :: ((I, Ol m 58) :: d3)) ∧ E 2 = a2 ∧ E 3 = a3 ∧ E 33 = (.bool F)) 8 ?_ (fun F B K => ?_))
   ·rintro f3 E W ⟨d3, b, d4, e3, e4⟩ H
    refine ln (CI H e4 (fun d5 H => ?_) (fun d5 H => ?_))
    ·refine sg (Wa (ln ?_))
     replace b := b.kG (Db (Db St))
     refine lC (lL ?_)
     obtain rfl := sj H
     exact rP b
    refine kS (V (kP oA d4) (VB b (Mt Mh) rfl rfl dZ (V (mi aD rfl k) (Wm (ln (mf (fun i E W => ∃ Q, (E 37 = .int .i64 (i : Nat) ∧ E 36 = .int .i64 (a.Kids.length : Nat)) ∧ ST false lT w W (hp w) ((J, Ol a0 58) :: ((I, Ol m 58) :: Q)) ∧ E 2 = a2 ∧ E 3 = a3 ∧ tN c s (a.Kids.drop i) i = some r) a.Kids.length k.len ⟨_, ⟨rfl, rfl⟩, (b.kG St), d4, e3, H⟩ dc dc dc (fun _ _ _ h => by obtain ⟨_, A, _⟩ := h; exact A) ?_ ?_))))))
    ·rintro a9 E W c0 ⟨Q, ⟨v, eN⟩, b, T, U, g⟩
     obtain ⟨P, e5, c9, c8, d0⟩ := lX c0
     rw [c9] at g
     refine bg (Wh v (Wa (ln (kY ?_))))
     replace b := b.drew
     have d := b.has.kG (Kb (Kb Sn))
     refine mj d lQ (X 0 rfl d (kP oA T) (XH 1 rfl d (fun _ l => kI rfl (lh l (Mt Mh) rfl dZ)) (X 2 rfl d (kR rfl) (XQ 3 rfl d (mT (i := (a9 : Int)) (x0 := P) kF.out aD aC rfl rfl k (aH _) c8) (fun e7 ⟨_, ⟨d9, rfl, c5⟩, c1⟩ => XH 4 rfl d (fun _ l => kI rfl (lz l c1 aK aC)) (X 5 rfl d (kP oA U) (XH 6 rfl d (fun _ l => kI rfl (lh l Mh rfl dZ)) (X 7 rfl d (kR rfl) (bS g fun R Y g => XQ 8 rfl d (mT (i := (a9 : Int)) (x0 := R) kF.out aD aC rfl rfl y (lN Y) (lM Y)) (fun e8 ⟨_, ⟨e0, rfl, c7⟩, c3⟩ => XH 9 rfl d (fun _ l => kI rfl (lz l c3 aK aC)) (bS g fun e9 c4 g => XE 10 rfl (Eg b call167 (d8 P d9 R e0 _ _ (c5.mono kL.mono b.kN) (c7.mono kL.mono b.kN) c4) (fun e6 b => ?_)))))))))))))
     have d := b.has.kG (Kb (Kb Sn))
     refine ⟨d, (X 11 rfl d (ot rfl) (ms kr (kT (CI g rfl (fun b9 g => ?_) (fun b9 g => ?_)))))⟩
     ·refine sg (Wa (ln ?_))
      replace b := b.kG (Db (Db St))
      refine lC (nD (lL (nD (lL ?_))))
      obtain rfl := sj g
      exact rP b
     exact mr (lK (kT ⟨v, _, ⟨rfl, eN⟩, (b.kG St), T, U, (by rw [d0]; exact g)⟩))
    rintro E W ⟨Q, ⟨v, eN⟩, b, T, U, g⟩
    rw [aI] at g
    refine kT ?_
    replace b := b.kG (Db (Db St))
    exact sg (Wa (lt (rQ g b)))
   refine bC B (fun j B => ?_) (fun j B => ?_)
   ·refine un j (un j (un j (un j (un j (un j (un j (V (li (cB j) rfl) ?_)))))))
    obtain rfl := sj B
    exact K _ _ ⟨_, (b.kG St), p, q, rfl⟩
   refine ug j (kP oA p) (ug j (kI rfl (lh b.has (Mt Mh) rfl dZ)) (ug j (mi aD rfl k) (ug j (kP oA q) (ug j (kI rfl (lh b.has Mh rfl dZ)) (ug j (mi aD rfl y) (ug j (lR rfl rfl rfl) (V (lj (cB j) rfl) ?_)))))))
   obtain rfl := sj B
   exact K _ _ ⟨_, (b.kG St), p, q, rfl⟩
  refine bC D (fun t D => ?_) (fun t D => ?_)
  ·refine un t (un t (un t (un t (un t (V (li (cB t) rfl) ?_)))))
   obtain rfl := sj D
   exact M _ _ ⟨_, (b.kG St), a5, n, rfl⟩
  refine ug t (kP uP a5) (ug t (kI rfl (kM b.has (Mt Mh) (kQ a.kC) rfl bG aR)) (ug t (kP uP n) (ug t (kI rfl (kM b.has Mh (kQ c.kC) rfl bG aR)) (ug t (FG rfl rfl (ob eL) (Bx (qb _ a.kC c.kC))) (V (lj (cB t) rfl) ?_)))))
  obtain rfl := sj D
  exact M _ _ ⟨_, (b.kG St), a5, n, rfl⟩
 refine bC G (fun z G => ?_) (fun z G => ?_)
 ·refine un z (un z (un z (un z (un z (V (li (cB z) rfl) ?_)))))
  obtain rfl := sj G
  exact N _ _ ⟨_, (b.kG St), rfl, rfl, rfl⟩
 refine ug z (kP sH rfl) (ug z (kI rfl (lh b.has (Mt Mh) rfl cD)) (ug z (kP sH rfl) (ug z (kI rfl (lh b.has Mh rfl cD)) (ug z (lR rfl rfl rfl) (V (lj (cB z) rfl) ?_)))))
 obtain rfl := sj G
 exact N _ _ ⟨_, (b.kG St), rfl, rfl, rfl⟩
theorem zP : ∀ (n : Nat) (g : Formula) (a : Value) (i : Formula) (c : Value) (r : Bool) (w : World) (j : Sl kF 5 (hp w) a g.Kids) (k : Sl kF 5 (hp w) c i.Kids) (_ : qj n g i = some r),
  lD false Tryz.prog 167 [(.agg #[(.int .i64 g.Op), (.int .i64 g.K), (.string g.kC.kD), (.string g.kC.kJ), a]), (.agg #[(.int .i64 i.Op), (.int .i64 i.K), (.string i.kC.kD), (.string i.kC.kJ), c])] w (.bool r)
 | 0 => by intros; rename_i h; simp only [qj] at h; cases h
 | n + 1 => FM (qj n) (zP n)
theorem Dm (T : Value) (a0 : List Formula) (A : Bool) (r : List Formula) (w : World) {μ0 : lO} (h0 : ox μ0 [] w) (c9 : Sl kF 5 μ0 T a0) (hm : vN a0 A = some r) :
  mo false Tryz.prog 328 [T, (.bool A)] w μ0 [] (fun v L1 μ1 => ∃ y1, v = y1 ∧ L1 = [] ∧ Sl kF 5 μ1 y1 (r)) := by
 refine sF h0 62 func328 rfl (fun d => sg (Wa (lr (Wa (lS (Wm ?_))))))
 refine V (mi aD rfl c9) (Wm (ln (mf (fun i E W => ∃ u M D x b1, (E 12 = .int .i64 (i : Nat) ∧ E 11 = .int .i64 (a0.length : Nat)) ∧ lm μ0 x ∧ Lo (keys []) w μ0 x ∧ ST false (keys []) w W x (D ++ b1) ∧ E 1 = (.bool A) ∧ E 5 = u ∧ E 10 = T ∧ lW 58 kF 5 x u M D ∧ nK A (a0.drop i) M = some r) a0.length c9.len ⟨(.slice none 0 0), ([]), [], μ0, _, ⟨rfl, rfl⟩, (lm.refl _), Lo.refl, (d.kG St), rfl, rfl, rfl, (lW.nil _ _ _ _), hm⟩ dc dc dc (fun _ _ _ h => by obtain ⟨_, _, _, _, _, aa, _⟩ := h; exact aa) ?_ ?_)))
 ·rintro U E W h7 ⟨u, M, D, x, b1, ⟨eI, eN⟩, K, q, d, d5, a4, b3, H, J⟩
  obtain ⟨a, l4, j5, j4, c6⟩ := lX h7
  rw [j5] at J
  refine bg (VQ (mT (i := (U : Int)) (x0 := a) kF.out aD aC b3 eI (c9.mono kL.mono K) (aH _) j4) (fun m8 ⟨_, ⟨n3, rfl, a2⟩, i1⟩ => V (kI rfl (lz d.has i1 aK aC)) (VE (lG d aP (fun l6 G d => ?_)))))
  let g5 : Value := (.int .i64 (U : Int))
  let b8 : Value := (.int .i64 (a0.length : Int))
  let P : Value := (.pointer (some ⟨G, 0, none⟩))
  obtain ⟨k, t, rfl⟩ := a2.form
  let g6 : Value := (.slice k a.Kids.length t)
  let s := (C2 a.Op a.K a.kC.kD a.kC.kJ k a.Kids.length t)
  refine VO (lf (.agg s.toArray) (s.toArray) d rfl rfl aC oc nb rfl (fun l7 d => lr (Wh a4 (V (qT aD rfl H) (Wa (ln (kY (CJ J (fun c3 E W => ∃ d0, ST false (keys []) w W x ((G, Ol s 58) :: (D ++ d0)) ∧ E 1 = (.bool A) ∧ E 5 = u ∧ E 7 = P ∧ E 8 = (.int .i64 c3) ∧ E 10 = T ∧ E 11 = b8 ∧ E 12 = g5) (fun c3 i0 => ?_) ?_))))))))
  ·refine mB (nS (fun m E W => ∃ Y d3, ST false (keys []) w W x ((G, Ol s 58) :: (D ++ d3)) ∧ E 1 = (.bool A) ∧ E 5 = u ∧ E 7 = P ∧ E 8 = (.int .i64 Y) ∧ E 10 = T ∧ E 11 = b8 ∧ E 12 = g5 ∧ qJ M a m Y = some c3) lB ⟨(M.length : Int), _, (d.kG St), d5, a4, rfl, rfl, b3, eN, eI, i0⟩ ?_)
   rintro m E W ⟨Y, d3, d, f0, c1, c2, a5, f1, f2, f3, Z⟩
   cases m with
   | zero => rw [qJ] at Z; cases Z
   | succ k5 =>
    refine kY (kY ?_)
    replace d := d.drew
    have n := d.has.kG (Kb (Kr Sn))
    refine mj n lQ (X 0 rfl n (kR a5) (X 1 rfl n (lR rfl rfl rfl) (X 2 rfl n (kR rfl) (PJ Z (fun g3 E W => ∃ d4, ST false (keys []) w W x ((G, Ol s 58) :: (D ++ d4)) ∧ E 1 = (.bool A) ∧ E 5 = u ∧ E 7 = P ∧ E 8 = (.int .i64 Y) ∧ E 10 = T ∧ E 11 = b8 ∧ E 12 = g5 ∧ E 29 = (.bool g3)) (bm 12 4095) 0 ?_ (fun g3 z b0 => ?_)))))
    ·rintro o0 E W ⟨d4, d, f4, f5, f6, f7, f8, f9, g0, k3⟩ Q
     refine ms kr (kT (CI Q k3 (fun h6 Q => ?_) (fun h6 Q => ?_)))
     ·exact kn (mB (kV (Wh f7 (Wi rfl (Wa (lH (lK (kT ⟨k5, bB _, (IntKind.i64.wrap (Y - 1)), _, (d.kG St), f4, f5, f6, rfl, f8, f9, g0, Q⟩))))))))
     refine nM (nB (nB (qe (kT ?_))))
     obtain rfl := sj Q
     exact ⟨_, (d.kG St), f4, f5, f6, f7, f8, f9, g0⟩
    refine bC z (fun c z => ?_) (fun c z => ?_)
    ·refine Xg 3 rfl rfl (cB c) n (kR c1) (Xg 4 rfl rfl (cB c) n (kR a5) (Xg 5 rfl rfl (cB c) n (lR rfl rfl rfl) (bS z fun l0 c8 z => rT 6 rfl kr (.inr ⟨2, true, 20, rfl, rfl, by decide, (cB c)⟩) rfl dc (fun _ _ h => h) n (mJ (i := (IntKind.i64.wrap (Y - 1))) kF.out aD aC rfl rfl H (lN c8) (lM c8)) (fun n0 ⟨_, ⟨k8, rfl, j0⟩, i3, l3⟩ => rM 7 rfl rfl (cB c) n (fun _ O => kI rfl (lz (oC.hp _) (i3.mono (nl (fun b o R => O.2 b o (Mt (Ml R))))) aK aC)) (rM 8 rfl rfl (cB c) n (fun _ O => kI c2 (kM O Mh s rfl aK aC)) (bS z fun n2 i5 z => AV 9 rfl rfl (cB c) (Eg d call343 (GU l0 k8 a g6 _ _ (j0.mono kL.mono d.kN) (a2.mono kL.mono d.kN) i5) (fun m4 d => ?_))))))))
     have n := d.has.kG (Kb (Kr Sn))
     refine ⟨n, (Xg 10 rfl rfl (cB c) n (lR rfl rfl rfl) (X 11 rfl n (li (cB c) rfl) ?_))⟩
     obtain rfl := sj z
     refine nu kr (b0 _ _ ⟨_, (d.kG St), f0, c1, c2, a5, f1, f2, f3, rfl⟩)
    refine Xn 3 rfl rfl (cB c) n (Xn 4 rfl rfl (cB c) n (Xn 5 rfl rfl (cB c) n (Xn 6 rfl rfl (cB c) n (Xn 7 rfl rfl (cB c) n (Xn 8 rfl rfl (cB c) n (Xn 9 rfl rfl (cB c) n (Xn 10 rfl rfl (cB c) n (X 11 rfl n (lj (cB c) rfl) ?_))))))))
    obtain rfl := sj z
    refine nu kr (b0 _ _ ⟨_, (d.kG St), f0, c1, c2, a5, f1, f2, f3, rfl⟩)
  rintro a3 E W ⟨d0, d, b4, d6, d7, b5, d8, d9, e0⟩ h8
  refine kY (kY ?_)
  replace d := d.drew
  have n := d.has.kG (Kb (Kr Sn))
  refine mj n lQ (X 0 rfl n (kR b4) (X 1 rfl n (kR rfl) (PJ h8 (fun g2 E W => ∃ d1, ST false (keys []) w W x ((G, Ol s 58) :: (D ++ d1)) ∧ E 1 = (.bool A) ∧ E 5 = u ∧ E 7 = P ∧ E 8 = (.int .i64 a3) ∧ E 10 = T ∧ E 11 = b8 ∧ E 12 = g5 ∧ E 36 = (.bool g2)) (bm 14 31) 9 ?_ (fun g2 N a9 => ?_))))
  ·rintro n8 E W ⟨d1, d, e1, b6, b7, b9, e2, e3, e4, k0⟩ h9
   have n := d.has.kG (Kb (Kr Sn))
   refine X 5 rfl n (kR k0) (PJ h9 (fun g1 E W => ∃ d2, ST false (keys []) w W x ((G, Ol s 58) :: (D ++ d2)) ∧ E 1 = (.bool A) ∧ E 5 = u ∧ E 7 = P ∧ E 8 = (.int .i64 a3) ∧ E 10 = T ∧ E 11 = b8 ∧ E 12 = g5 ∧ E 45 = (.bool g1)) (bm 14 16383) 0 ?_ (fun g1 y a8 => ?_))
   ·rintro n9 E W ⟨d2, d, e5, c0, k1, e6, e7, e8, e9, k2⟩ j
    refine ms kr (kT (CI j k2 (fun h2 j => ?_) (fun h2 j => ?_)))
    ·refine nM (nB (qe (kT ?_)))
     replace d := d.kG (Db St)
     exact ⟨e9, u, M, D, x, _, ⟨rfl, e8⟩, K, q, (d.kG St), e5, c0, e7, H, (by rw [c6]; exact j)⟩
    refine kg (VE (lE (cs := #[]) d ri (Aq [] aD aC aP dc rfl (by simp) rfl rfl) (fun l8 j9 d => Wh c0 (Wh e6 (bS j fun _ c4 j => VQ (Bo (i := a3) aD aC rfl rfl H (vy c4) (vq c4)) (fun n4 i6 => bS j fun m6 h3 j => VE (pQ (B := [(j9, Ob #[] 58)]) kL d dc aD mZ.1 mZ.2.1 rfl mZ.2.2.1 mZ.2.2.2 rfl rfl (lW.lit kL (l := []) .nil rfl nb rfl) (xG.row i6 d (fun p R => (Mt (Mt (Ml R))))) h3 (fun l9 n5 j6 d g8 => Wa (ln (kY ?_))))))))))
    refine kV (Wm (V (kI k1 (kM d.has (Ma Mh) s rfl aK aC)) (VE (lE (cs := s.toArray) d (np rfl) (nq aD aC aP) (fun m0 m5 d => ?_)))))
    replace d := d.perm (Nr (Qb Qz) Nz)
    refine bS j fun m7 h4 j => VE (pQ (B := j6) kL d dc aD mZ.1 mZ.2.1 rfl mZ.2.2.1 mZ.2.2.2 rfl rfl g8 (xG.lit kL (l := [a]) (.cons (ys := C2 a.Op a.K a.kC.kD a.kC.kJ k a.Kids.length t) (kF.mk ⟨g6, rfl, a2⟩) .nil) rfl nb (d.at_ (Ma Mh))) h4 (fun m1 n6 j7 d g9 => Wa (ln ?_)))
    replace d := d.kG (Kr (Db (Db St)))
    refine kV (Wm (Wh c0 (Wh e6 ?_)))
    replace d := d.perm (Nr (Qr Qz) Nz)
    obtain ⟨l1, d, a7, F, i8⟩ := ST.tE kL d H
    exact bS j fun _ c5 j => VQ (CS (i := a3) aD aC rfl rfl i8 (vy c5) (vq c5)) (fun n7 i7 => bS j fun k4 h5 j => VE (pQ (B := j7) kL d dc aD mZ.1 mZ.2.1 rfl mZ.2.2.1 mZ.2.2.2 rfl rfl (g9.mono kL a7) (xG.sl kL i7.1 d.kN) h5 (fun m2 k6 j8 d h1 => Wa (lH (lK (kT ⟨e9, k6, k4, j8, l1, _, ⟨rfl, e8⟩, (K.trans a7), (q.trans F), (d.kG St), e5, rfl, e7, h1, (by rw [c6]; exact j)⟩))))))
   refine bC y (fun g y => ?_) (fun g y => ?_)
   ·refine Xg 6 rfl rfl (cB g) n (kR b6) (Xg 7 rfl rfl (cB g) n (kR b9) (Xg 8 rfl rfl (cB g) n (lR rfl rfl rfl) (bS y fun k9 c7 y => rT 9 rfl kr (.inr ⟨5, true, 37, rfl, rfl, by decide, (cB g)⟩) rfl dc (fun _ _ h => h) n (mJ (i := (IntKind.i64.wrap (a3 - 1))) kF.out aD aC rfl rfl H (lN c7) (lM c7)) (fun m9 ⟨_, ⟨k7, rfl, i9⟩, i2, l2⟩ => rM 10 rfl rfl (cB g) n (fun _ O => kI rfl (lz (oC.hp _) (i2.mono (nl (fun b o R => O.2 b o (Mt (Ml R))))) aK aC)) (rM 11 rfl rfl (cB g) n (fun _ O => kI b7 (kM O Mh s rfl aK aC)) (bS y fun n1 i4 y => AV 12 rfl rfl (cB g) (Eg d call167 ((zP lB) k9 k7 a g6 _ _ (i9.mono kL.mono d.kN) (a2.mono kL.mono d.kN) i4) (fun m3 d => ?_))))))))
    have n := d.has.kG (Kb (Kr Sn))
    refine ⟨n, (X 13 rfl n (li (cB g) rfl) ?_)⟩
    obtain rfl := sj y
    refine nu kr (a8 _ _ ⟨_, (d.kG St), e1, b6, b7, b9, e2, e3, e4, rfl⟩)
   refine Xn 6 rfl rfl (cB g) n (Xn 7 rfl rfl (cB g) n (Xn 8 rfl rfl (cB g) n (Xn 9 rfl rfl (cB g) n (Xn 10 rfl rfl (cB g) n (Xn 11 rfl rfl (cB g) n (Xn 12 rfl rfl (cB g) n (X 13 rfl n (lj (cB g) rfl) ?_)))))))
   obtain rfl := sj y
   refine nu kr (a8 _ _ ⟨_, (d.kG St), e1, b6, b7, b9, e2, e3, e4, rfl⟩)
  refine bC N (fun I N => ?_) (fun I N => ?_)
  ·refine Xg 2 rfl rfl (cB I) n (kR b5) (Xg 3 rfl rfl (cB I) n (lR rfl rfl rfl) (X 4 rfl n (li (cB I) rfl) ?_))
   obtain rfl := sj N
   refine nu kr (a9 _ _ ⟨_, (d.kG St), b4, d6, d7, b5, d8, d9, e0, rfl⟩)
  refine Xn 2 rfl rfl (cB I) n (Xn 3 rfl rfl (cB I) n (X 4 rfl n (lj (cB I) rfl) ?_))
  obtain rfl := sj N
  refine nu kr (a9 _ _ ⟨_, (d.kG St), b4, d6, d7, b5, d8, d9, e0, rfl⟩)
 rintro E W ⟨u, M, D, x, b1, ⟨eI, eN⟩, K, q, d, d5, a4, b3, H, J⟩
 rw [aI] at J
 refine kT (sg (Wh a4 (Wa (lt ?_))))
 obtain rfl := sj J
 refine mI (v := u) rfl rfl ?_
 obtain ⟨o1, d, g4, L, j3⟩ := ST.tE kL d H
 exact ⟨_, _, _, rfl, (d.mW Sn), (K.trans g4), (q.trans L), (ST.lU d (nn.mem Sn)), u, rfl, rfl, j3⟩
set_option maxHeartbeats 1000000 in
theorem vQ (t : Nat) (T : mA) (u : Int) (d0 : Value) (a2 : List Formula) (r : (Formula × mA)) (w : World) {μ0 : lO} (h0 : ox μ0 ((t, Ol (nF T) 332) :: []) w) (c9 : Sl kF 5 μ0 d0 a2) (hm : pZ T u a2 = some r) :
  mo false Tryz.prog 326 [(.pointer (some ⟨t, 0, none⟩)), (.int .i64 u), d0] w μ0 ((t, Ol (nF T) 332) :: []) (fun v L1 μ1 => ∃ y1, v = (.agg #[(.int .i64 ((r.1).Op)), (.int .i64 ((r.1).K)), (.string (((r.1).kC).kD)), (.string (((r.1).kC).kJ)), y1]) ∧ L1 = ((t, Ol (nF (r.2)) 332) :: []) ∧ Sl kF 5 μ1 y1 ((r.1).Kids)) := by
 let g6 : Value := (.pointer (some ⟨t, 0, none⟩))
 let a0 := ((nF T).toArray : Array Value)
 let e5 := ((t, Obj.cells a0 332 (0, 0)) :: [])
 refine sF h0 75 func326 rfl (fun d => sg (VE (lG d aP (fun W2 R d => lr (Wa (lS (Wm ?_)))))))
 let g5 : Value := (.pointer (some ⟨R, 0, none⟩))
 refine V (mi aD rfl c9) (Wm (ln (mf (fun i E W => ∃ J I H c3, (E 14 = .int .i64 (i : Nat) ∧ E 13 = .int .i64 (a2.length : Nat)) ∧ ST false (keys e5) w W μ0 ((R, Ol C5 58) :: ((t, Obj.cells a0 332 (0, 0)) :: (H ++ c3))) ∧ E 0 = g6 ∧ E 1 = (.int .i64 u) ∧ E 6 = g5 ∧ E 7 = J ∧ E 12 = d0 ∧ lW 58 kF 5 μ0 J I H ∧ oh u T (a2.drop i) I = some r) a2.length c9.len ⟨(.slice none 0 0), ([]), [], _, ⟨rfl, rfl⟩, (d.kG St), rfl, rfl, rfl, rfl, rfl, (lW.nil _ _ _ _), hm⟩ dc dc dc (fun _ _ _ h => by obtain ⟨_, _, _, _, q, _⟩ := h; exact q) ?_ ?_)))
 ·rintro h8 E W f4 ⟨J, I, H, c3, ⟨p, A⟩, d, b2, N, Z, L, b3, G, c⟩
  obtain ⟨a, i8, g7, g4, d5⟩ := lX f4
  rw [g7] at c
  refine bg (VQ (mT (i := (h8 : Int)) (x0 := a) kF.out aD aC b3 p c9 (aH _) g4) (fun l3 ⟨_, ⟨l8, rfl, a3⟩, f7⟩ => V (kI rfl (lz d.has f7 aK aC)) (VE (lG d aP (fun j4 k9 d => ?_)))))
  obtain ⟨y, z, rfl⟩ := a3.form
  let F := (C2 a.Op a.K a.kC.kD a.kC.kJ y a.Kids.length z)
  refine VO (lf (.agg F.toArray) (F.toArray) d rfl rfl aC oc nb rfl (fun j5 d => lS (Wf oB (VB d Mh rfl rfl cD (Wh N (Wi rfl (ln (CI c rfl (fun e8 c => ?_) (fun e8 c => ?_)))))))))
  ·refine sg (Wh L (Wf oA (VB d Mh rfl rfl dZ ?_)))
   replace d := d.perm (Nr (Qb (Qb (Qb Qz))) Nz)
   refine bS c fun i0 e9 c => VE (pQ (B := H) kL d dc aD mZ.1 mZ.2.1 rfl mZ.2.2.1 mZ.2.2.2 rfl rfl G (xG.sl kL a3 d.kN) e9 (fun j6 i2 h2 d e6 => Wa (ln ?_)))
   replace d := d.kG (Kr (Db St))
   exact nM (nB (qe (kT ⟨p, i2, i0, h2, _, ⟨rfl, A⟩, (d.kG (Sb (Pr Pz) (Sb (Pr Pz) St))), b2, N, Z, rfl, b3, e6, (by rw [d5]; exact c)⟩)))
  refine kS (VA d Mh F aK aC (Wh N (Wi rfl (bS c fun l6 g0 c => VE (Eg d call327 (lD.mP (zp a (.slice y a.Kids.length z) (IntKind.i64.wrap (5 - u)) _ _ (a3.mono kL.mono d.kN) g0)) (fun j7 d => ln (CI c rfl (fun f0 c => ?_) (fun f0 c => ?_))))))))
  ·let d2 := (Hf (IntKind.i64.wrap (5 - u)))
   refine sg (Wh N (Wi rfl (V (mH (v := (.agg d2.toArray)) (np rfl) (ml aP bF (uH _ bF) kr)) ?_)))
   replace d := d.perm (Nb (Pb Pz) Nz)
   refine VO (lf (.agg d2.toArray) (d2.toArray) d Z rfl aC oc nb rfl (fun j8 d => ln ?_))
   replace d := d.kG (Kb (Db (Kb (Dr St))))
   refine lC (lL (nD (lL (nD (lL ?_)))))
   obtain rfl := sj c
   exact ns (v := (.agg d2.toArray)) rfl Z (kM d.has Mh d2 rfl aK aC) ⟨_, _, _, rfl, (d.mW (Db (Kb Sn))), (lm.refl _), Lo.refl, (ST.lU d (nn.mem (Db (Kb Sn)))), (.slice none 0 0), rfl, rfl, (Sl.nil _ _ _)⟩
  refine kn (kV (Wh L (VA d Mh F aK aC (VE (lE (cs := F.toArray) d (np rfl) (nq aD aC aP) (fun j9 l0 d => ?_))))))
  replace d := d.perm (Nr (Qb (Qb (Qb (Qb Qz)))) Nz)
  refine bS c fun i1 f1 c => VE (pQ (B := H) kL d dc aD mZ.1 mZ.2.1 rfl mZ.2.2.1 mZ.2.2.2 rfl rfl G (xG.lit kL (l := [a]) (.cons (ys := C2 a.Op a.K a.kC.kD a.kC.kJ y a.Kids.length z) (kF.mk ⟨(.slice y a.Kids.length z), rfl, a3⟩) .nil) rfl nb (d.at_ (Ma Mh))) f1 (fun k0 i3 h3 d e7 => Wa (lH (lK (kT ?_)))))
  replace d := d.kG (Kr (Db (Db St)))
  exact ⟨p, i3, i1, h3, _, ⟨rfl, A⟩, (d.kG (Sb (Pr Pz) (Sb (Pr Pz) St))), b2, N, Z, rfl, b3, e7, (by rw [d5]; exact c)⟩
 rintro E W ⟨J, I, H, c3, ⟨p, A⟩, d, b2, N, Z, L, b3, G, c⟩
 rw [aI] at c
 refine kT (kY (sg (Wh L (V (qT aD rfl G) (Wm (ln (Sg c (fun e4 E W => ∃ d7, ST false (keys e5) w W μ0 ((R, Ol C5 58) :: ((t, Obj.cells a0 332 (0, 0)) :: (H ++ d7))) ∧ E 0 = g6 ∧ E 1 = (.int .i64 u) ∧ E 6 = g5 ∧ E 7 = J) (fun e4 f6 b6 => ?_) ?_)))))))
 ·refine mf (fun i E W => ∃ c4, (E 40 = .int .i64 (i : Nat) ∧ E 39 = .int .i64 (I.length : Nat)) ∧ ST false (keys e5) w W μ0 ((R, Ol C5 58) :: ((t, Obj.cells a0 332 (0, 0)) :: (H ++ c4))) ∧ E 0 = g6 ∧ E 1 = (.int .i64 u) ∧ E 6 = g5 ∧ E 7 = J ∧ E 38 = J ∧ qh u T (I.drop i) = some e4) I.length G.len ⟨_, ⟨rfl, rfl⟩, (d.kG St), b2, N, Z, L, rfl, f6⟩ dc dc dc (fun _ _ _ h => by obtain ⟨_, q, _⟩ := h; exact q) ?_ ?_
  ·rintro h9 E W f5 ⟨c4, ⟨p, A⟩, d, c6, O, P, c7, c8, k⟩
   obtain ⟨j, i9, g9, g8, h1⟩ := lX f5
   rw [g9] at k
   refine bg (VQ (mJ (i := (h9 : Int)) kF.out aD aC c8 p G (aH _) g8) (fun l5 ⟨_, ⟨m1, rfl, d4⟩, f9, i7⟩ => V (kI rfl (lz (oC.hp _) (f9.mono (nl (fun b o hq => d.has.2 b o (Mt (Mt (Ml hq)))))) aK aC)) (VE (lG d aP (fun k5 l1 d => ?_)))))
   obtain ⟨a9, b0, rfl⟩ := d4.form
   let d9 := (C2 j.Op j.K j.kC.kD j.kC.kJ a9 j.Kids.length b0)
   let s := (IntKind.i64.wrap (5 - u))
   refine VO (lf (.agg d9.toArray) (d9.toArray) d rfl rfl aC oc nb rfl (fun k6 d => lr (VA d Mh d9 aK aC (Wh O (Wi rfl (bS k fun l7 g2 k => VE (Eg d call327 (lD.mP (zp j (.slice a9 j.Kids.length b0) s _ _ (d4.mono kL.mono d.kN) g2)) (fun k7 d => ln ?_))))))))
   replace d := d.kG (Db St)
   refine CI k rfl (fun f3 k => ?_) (fun f3 k => ?_)
   ·refine sg (Wh O (Wi rfl (V (mH (v := (.agg (Hf s).toArray)) (np rfl) (ml aP bF (uH _ bF) kr)) (VO (lf (.agg (Hf s).toArray) ((Hf s).toArray) d P rfl aC oc nb rfl (fun k8 d => ln ?_))))))
    replace d := d.kG (Kb (Kb (Dr St)))
    refine lC (nD (lL (nD (lL ?_))))
    obtain rfl := sj k
    replace b6 : some ((⟨(IntKind.i64.wrap (5 - u)), 0, K0, []⟩ : Formula), T) = some r := b6
    obtain rfl := sj b6
    exact ns (v := (.agg (Hf s).toArray)) rfl P (kM d.has Mh (Hf s) rfl aK aC) ⟨_, _, _, rfl, (d.mW (Db (Kb Sn))), (lm.refl _), Lo.refl, (ST.lU d (nn.mem (Db (Kb Sn)))), (.slice none 0 0), rfl, rfl, (Sl.nil _ _ _)⟩
   exact mr (lK (kT ⟨p, _, ⟨rfl, A⟩, (d.kG St), c6, O, P, c7, c8, (by rw [h1]; exact k)⟩))
  rintro E W ⟨c4, ⟨p, A⟩, d, c6, O, P, c7, c8, k⟩
  rw [aI] at k
  refine kT ?_
  obtain rfl := sj k
  exact ⟨_, rfl, _, (d.kG St), c6, O, P, c7⟩
 rintro ⟨⟩ E W ⟨d7, d, e0, e1, e2, h4⟩ b5
 refine sg (Wh h4 ?_)
 replace d := d.perm (Nr (Qb (Qb Qz)) Nz)
 obtain ⟨m4, d, c0, m, g3⟩ := ST.tE kL d G
 refine bS b5 fun Q g1 b5 => ?_
 refine VE (eD d (aX _) call328 (fun hh => (Dm J I true _ _ hh (g3.mono kL.mono (lm.refl _)) g1)) ?_ (L0 := []))
 rintro _ l9 i5 j3 d c1 n ⟨i4, b7, rfl, Y⟩
 obtain rfl := b7.symm
 refine Wa (lr (Wh e0 (Wh e0 (Wn (Wf Iq (VB d (Mt Mh) rfl rfl isAgg4 (Wm (LJ b5 (fun e3 E W => ∃ d8, ST false (keys e5) w W i5 ((R, Ol C5 58) :: ((t, Obj.cells a0 332 (0, 0)) :: d8)) ∧ E 1 = (.int .i64 u) ∧ E 6 = g5 ∧ E 7 = i4 ∧ E 54 = g6 ∧ E 63 = (.bool e3)) 4 ?_ (fun e3 U c2 => ?_)))))))))
 ·rintro d1 E W ⟨d8, d, h5, b4, c5, h6, h7⟩ D
  refine V (ny h6) (Wf Iq ?_)
  replace d := d.perm (Nb (Pb Pz) Nz)
  refine VO (lf (.bool d1) ((nF (⟨d1⟩ : mA)).toArray) d rfl h7 sizeOf4 (TP d1) nb rfl (fun k2 d => lS (Wh c5 (V (mi aD rfl Y) (Wi rfl (ln (CI D rfl (fun f2 D => ?_) (fun f2 D => ?_))))))))
  ·refine sg (Wh c5 (bS D fun g d6 D => VQ (mT (i := 0) (x0 := g) kF.out aD aC rfl rfl Y (lN d6) (lM d6)) (fun l4 ⟨_, ⟨m0, rfl, d3⟩, f8⟩ => V (kI rfl (lz d.has f8 aK aC)) ?_)))
   obtain ⟨a4, a5, rfl⟩ := d3.form
   let b8 := (C2 g.Op g.K g.kC.kD g.kC.kJ a4 g.Kids.length a5)
   replace d := d.perm (Nb (Pb Pz) Nz)
   refine VO (lf (.agg b8.toArray) (b8.toArray) d b4 rfl aC oc nb rfl (fun k3 d => lt (lL ?_)))
   obtain rfl := sj D
   exact ns (v := (.agg b8.toArray)) rfl b4 (kM d.has Mh b8 rfl aK aC) ⟨_, _, _, rfl, (d.mW (Db (Kb Sn))), (c0.trans c1), (m.trans n), (ST.lU d (nn.mem (Db (Kb Sn)))), (.slice a4 g.Kids.length a5), rfl, rfl, d3⟩
  refine kg (Wh h5 (Wh c5 ?_))
  obtain ⟨K, M, rfl⟩ := Y.form
  let i6 := (Ty u K Q.length M)
  refine V (mH (v := (.agg i6.toArray)) (oU rfl rfl) (ml aP bF (uH _ bF) kr)) ?_
  replace d := d.perm (Nb (Pb Pz) Nz)
  refine VO (lf (.agg i6.toArray) (i6.toArray) d b4 rfl aC oc nb rfl (fun k4 d => lt ?_))
  obtain rfl := sj D
  exact ns (v := (.agg i6.toArray)) rfl b4 (kM d.has Mh i6 rfl aK aC) ⟨_, _, _, rfl, (d.mW (Db (Kb Sn))), (c0.trans c1), (m.trans n), (ST.lU d (nn.mem (Db (Kb Sn)))), (.slice K Q.length M), rfl, rfl, Y⟩
 refine bC U (fun x U => ?_) (fun x U => ?_)
 ·refine un x (un x (un x (V (li (cB x) rfl) ?_)))
  obtain rfl := sj U
  exact c2 _ _ ⟨_, (d.kG St), e1, e2, rfl, rfl, rfl⟩
 refine ug x (kR rfl) (ug x (mi aD rfl Y) (ug x (lR rfl rfl rfl) (V (lj (cB x) rfl) ?_)))
 obtain rfl := sj U
 exact c2 _ _ ⟨_, (d.kG St), e1, e2, rfl, rfl, rfl⟩
set_option maxHeartbeats 1000000 in
theorem AW (h6 : mA → Formula → Option (Formula × mA)) (m0 : ∀ (k : Nat) (a0 : mA) (g : Formula) (I : Value) (r : (Formula × mA)) (w : World) {μ0 : lO} (h0 : ox μ0 ((k, Ol (nF a0) 332) :: []) w) (G : Sl kF 5 μ0 I g.Kids), h6 a0 g = some r → mo false Tryz.prog 299 [(.pointer (some ⟨k, 0, none⟩)), (.agg #[(.int .i64 g.Op), (.int .i64 g.K), (.string g.kC.kD), (.string g.kC.kJ), I])] w μ0 ((k, Ol (nF a0) 332) :: []) (fun v L1 μ1 => ∃ y1, v = (.agg #[(.int .i64 ((r.1).Op)), (.int .i64 ((r.1).K)), (.string (((r.1).kC).kD)), (.string (((r.1).kC).kJ)), y1]) ∧ L1 = ((k, Ol (nF (r.2)) 332) :: []) ∧ Sl kF 5 μ1 y1 ((r.1).Kids))) (k : Nat) (a0 : mA) (g : Formula) (I : Value) (r : (Formula × mA)) (w : World) {μ0 : lO} (h0 : ox μ0 ((k, Ol (nF a0) 332) :: []) w) (G : Sl kF 5 μ0 I g.Kids) (hm : tw h6 a0 g = some r) :
  mo false Tryz.prog 299 [(.pointer (some ⟨k, 0, none⟩)), (.agg #[(.int .i64 g.Op), (.int .i64 g.K), (.string g.kC.kD), (.string g.kC.kJ), I])] w μ0 ((k, Ol (nF a0) 332) :: []) (fun v L1 μ1 => ∃ y1, v = (.agg #[(.int .i64 ((r.1).Op)), (.int .i64 ((r.1).K)), (.string (((r.1).kC).kD)), (.string (((r.1).kC).kJ)), y1]) ∧ L1 = ((k, Ol (nF (r.2)) 332) :: []) ∧ Sl kF 5 μ1 y1 ((r.1).Kids)) := by
 let i0 : Value := (.pointer (some ⟨k, 0, none⟩))
 let b8 := ((k, Ol (nF a0) 332) :: [])
 refine sF h0 82 func299 rfl (fun d => sg ?_)
 obtain ⟨A1, c2, rfl⟩ := G.form
 let a1 := (C2 g.Op g.K g.kC.kD g.kC.kJ A1 g.Kids.length c2)
 refine VE (lJ d rfl (fun W4 b3 d => VE (lG d aP (fun W6 b5 d => lS (Wf oB (VB d (Mt Mh) rfl rfl cD (Wi rfl (ln (CI hm rfl (fun n1 hm => ?_) (fun n1 hm => ?_))))))))))
 ·refine sg (VA d (Mt Mh) a1 aK aC (VO (lf (.agg a1.toArray) (a1.toArray) d rfl rfl aC oc nb rfl (fun W8 d => ln ?_))))
  replace d := d.kG (Kb (Db St))
  refine lC (lL ?_)
  obtain rfl := sj hm
  exact ns (v := (.agg a1.toArray)) rfl rfl (kM d.has Mh a1 rfl aK aC) ⟨_, _, _, rfl, (d.mW (Db (Kb Sn))), (lm.refl _), Lo.refl, (ST.lU d (nn.mem (Db (Kb Sn)))), (.slice A1 g.Kids.length c2), rfl, rfl, G⟩
 refine kg (Wa (lS (Wf oA (VB d (Mt Mh) rfl rfl dZ (V (mi aD rfl G) (Wm (lH ?_)))))))
 let h9 : Value := (.pointer (some ⟨b5, 0, none⟩))
 refine kT (mf (fun i E W => ∃ b0 U a8 N Q f1, (E 19 = .int .i64 (i : Nat) ∧ E 18 = .int .i64 (g.Kids.length : Nat)) ∧ lm μ0 Q ∧ Lo (keys b8) w μ0 Q ∧ ST false (keys b8) w W Q ((k, Ol (nF N) 332) :: ((b5, Ol C5 58) :: ((b3, Ol a1 58) :: (a8 ++ f1)))) ∧ E 0 = i0 ∧ E 3 = (.pointer (some ⟨b3, 0, none⟩)) ∧ E 4 = h9 ∧ E 5 = b0 ∧ E 17 = (.slice A1 g.Kids.length c2) ∧ lW 58 kF 5 Q b0 U a8 ∧ oz h6 g (g.Kids.drop i) U N = some r) g.Kids.length G.len ⟨(.slice none 0 0), ([]), [], a0, μ0, _, ⟨rfl, rfl⟩, (lm.refl _), Lo.refl, (d.kG (Sb (Pb (Pb Pz)) St)), rfl, rfl, rfl, rfl, rfl, (lW.nil _ _ _ _), hm⟩ dc dc dc (fun _ _ _ h => by obtain ⟨_, _, _, _, _, _, q, _⟩ := h; exact q) ?_ ?_)
 ·rintro m1 E W j6 ⟨b0, U, a8, N, Q, f1, ⟨n, s⟩, H, m, d, c7, c8, c9, e2, f4, Y, u⟩
  obtain ⟨D, n3, l3, l2, l4⟩ := lX j6
  rw [l3] at u
  refine bg (VQ (mT (i := (m1 : Int)) (x0 := D) kF.out aD aC f4 n (G.mono kL.mono H) (aH _) l2) (fun q5 ⟨_, ⟨q9, rfl, f6⟩, j9⟩ => V (kI rfl (lz d.has j9 aK aC)) (VE (lG d aP (fun o0 q1 d => ?_)))))
  obtain ⟨d9, e1, rfl⟩ := f6.form
  let g2 := (C2 D.Op D.K D.kC.kD D.kC.kJ d9 D.Kids.length e1)
  refine VO (lf (.agg g2.toArray) (g2.toArray) d rfl rfl aC oc nb rfl (fun o1 d => ln (kV (Wh e2 (Wh c7 (VA d Mh g2 aK aC (bS u fun t k1 u => ?_)))))))
  refine VE (eD d (Cb (Pb Pz) Cn) call299 (fun p => (m0 k N D (.slice d9 D.Kids.length e1) _ _ p (f6.mono kL.mono (lm.refl _)) k1)) ?_)
  rintro _ r0 m8 n5 d f0 A ⟨r6, e3, rfl, f7⟩
  obtain rfl := e3.symm
  replace d := d.perm (Tb Tn)
  obtain ⟨b7, c3, rfl⟩ := f7.form
  let i1 : Value := (.slice b7 ((t.1).Kids).length c3)
  refine VE (lE (cs := #[(.int .i64 ((t.1).Op)), (.int .i64 ((t.1).K)), (.string (((t.1).kC).kD)), (.string (((t.1).kC).kJ)), i1]) d (np rfl) (nq aD aC aP) (fun o3 q2 d => ?_))
  replace d := d.perm (Nr (Qb (Qb (Qb (Qb (Qb Qz))))) Nz)
  refine bS u fun m3 i5 u => VE (pQ (B := a8) kL d dc aD mZ.1 mZ.2.1 rfl mZ.2.2.1 mZ.2.2.2 rfl rfl (Y.mono kL f0) (xG.lit kL (l := [t.1]) (.cons (ys := [(.int .i64 ((t.1).Op)), (.int .i64 ((t.1).K)), (.string (((t.1).kC).kD)), (.string (((t.1).kC).kJ)), i1]) (kF.mk ⟨i1, rfl, f7⟩) .nil) rfl nb (d.at_ (Ma Mh))) i5 (fun o4 m5 l8 d i3 => Wa (lH (lK (kT ?_)))))
  replace d := d.kG (Kr (Db (Kb (Db St))))
  exact ⟨n, m5, m3, l8, t.2, m8, _, ⟨rfl, s⟩, (H.trans f0), (m.trans A), (d.kG (Sb (Pr Pz) (Sb (Pr Pz) (Sb (Pr Pz) St)))), c7, c8, c9, rfl, f4, i3, (by rw [l4]; exact u)⟩
 rintro E W ⟨b0, U, a8, N, Q, f1, ⟨n, s⟩, H, m, d, c7, c8, c9, e2, f4, Y, u⟩
 rw [aI] at u
 refine kT (kY (sg (V (kP oB c8) (VB d (Mt (Mt Mh)) rfl rfl cD (Wi rfl (ln (CI u rfl (fun i6 u => ?_) (fun i6 u => ?_))))))))
 ·refine sg (Wh c7 (V (kP oB c8) (VB d (Mt (Mt Mh)) rfl rfl cD (Wh e2 ?_))))
  replace d := d.perm (Nr (Qb (Qb (Qb Qz))) Nz)
  obtain ⟨s1, d, g7, F, k8⟩ := ST.tE kL d Y
  refine bS u fun x k2 u => ?_
  let l7 : Value := (.string (((x.1).kC).kJ))
  let i2 : Value := (.string (((x.1).kC).kD))
  refine VE (eD d (Cb Pz Cn) call326 (fun p => (vQ k N g.Op b0 U _ _ p (k8.mono kL.mono (lm.refl _)) k2)) ?_)
  rintro _ r1 s2 n6 d g8 L ⟨r7, e4, rfl, f8⟩
  obtain rfl := e4.symm
  replace d := d.perm (Tb Tn)
  obtain ⟨b9, c4, rfl⟩ := f8.form
  let g5 : Value := (.slice b9 ((x.1).Kids).length c4)
  let d7 : Value := (.agg #[(.int .i64 ((x.1).Op)), (.int .i64 ((x.1).K)), i2, l7, g5])
  replace d := d.perm (Nb (Pb Pz) Nz)
  refine VO (lf d7 (#[(.int .i64 ((x.1).Op)), (.int .i64 ((x.1).K)), i2, l7, g5]) d c9 rfl aC oc nb rfl (fun o6 d => ln ?_))
  replace d := d.kG (Kb (Kb (Db St)))
  refine lC (lL ?_)
  obtain rfl := sj u
  exact ns (v := d7) rfl c9 (kM d.has Mh [(.int .i64 ((x.1).Op)), (.int .i64 ((x.1).K)), i2, l7, g5] rfl aK aC) ⟨_, _, _, rfl, (d.mW (Db (Kb Sn))), ((H.trans g7).trans g8), ((m.trans F).trans L), (ST.lU d (nn.mem (Db (Kb Sn)))), g5, rfl, rfl, f8⟩
 refine kg (V (kP sH c8) (VB d (Mt (Mt Mh)) rfl rfl cD (Wa (ln ?_))))
 replace d := d.kG (Kb (Kb (Db St)))
 let o2 := ((nF N).toArray : Array Value)
 refine sg (Wa (lS (Wh e2 (V (qT aD rfl Y) (Wm (ln (CJ u (fun e9 E W => ∃ b1 f3 g3, ST false (keys b8) w W Q ((k, Obj.cells o2 332 (0, 0)) :: ((b5, Ol C5 58) :: (f3 ++ g3))) ∧ E 0 = i0 ∧ E 4 = h9 ∧ E 8 = (.int .i64 e9.1) ∧ E 9 = b1 ∧ lW 58 kF 5 Q b1 e9.2 f3) (fun e9 j8 => ?_) ?_)))))))
 ·refine mf (fun i E W => ∃ a5 a4 a9 T f2, (E 42 = .int .i64 (i : Nat) ∧ E 41 = .int .i64 (U.length : Nat)) ∧ ST false (keys b8) w W Q ((k, Obj.cells o2 332 (0, 0)) :: ((b5, Ol C5 58) :: (T ++ (a8 ++ f2)))) ∧ E 0 = i0 ∧ E 4 = h9 ∧ E 8 = (.int .i64 a5) ∧ E 9 = a4 ∧ E 40 = b0 ∧ lW 58 kF 5 Q a4 a9 T ∧ od (U.drop i) a5 a9 = some e9) U.length Y.len ⟨g.K, (.slice none 0 0), ([]), [], _, ⟨rfl, rfl⟩, (d.kG St), c7, c9, rfl, rfl, rfl, (lW.nil _ _ _ _), j8⟩ dc dc dc (fun _ _ _ h => by obtain ⟨_, _, _, _, _, q, _⟩ := h; exact q) ?_ ?_
  ·rintro m2 E W j7 ⟨a5, a4, a9, T, f2, ⟨n, s⟩, d, d2, d3, d4, d5, d6, a7, j⟩
   obtain ⟨a, n4, l6, l5, e8⟩ := lX j7
   rw [l6] at j
   refine bg (VQ (mJ (i := (m2 : Int)) kF.out aD aC d6 n Y (aH _) l5) (fun q6 ⟨_, ⟨r5, rfl, b6⟩, k0, n2⟩ => V (kI rfl (lz (oC.hp _) (k0.mono (nl (fun b o hq => d.has.2 b o (Mt (Mt (Ma (Ml hq))))))) aK aC)) (VE (lG d aP (fun p5 q3 d => ?_)))))
   obtain ⟨J, K, rfl⟩ := b6.form
   let n0 : Value := (.slice J a.Kids.length K)
   let b4 := (C2 a.Op a.K a.kC.kD a.kC.kJ J a.Kids.length K)
   refine VO (lf (.agg b4.toArray) (b4.toArray) d rfl rfl aC oc nb rfl (fun p6 d => lr (VA d Mh b4 aK aC (bS j fun q7 k6 j => VE (Eg d call327 (lD.mP (zp a n0 2 _ _ (b6.mono kL.mono d.kN) k6)) (fun p7 d => ln (CI j rfl (fun j3 j => ?_) (fun j3 j => ?_))))))))
   ·refine kV (Wh d4 (Wi rfl (Wa (lH (lK (kT ?_))))))
    replace d := d.kG (Db St)
    exact ⟨n, (IntKind.i64.wrap (a5 - 1)), a4, a9, T, _, ⟨rfl, s⟩, (d.kG St), d2, d3, rfl, d5, d6, a7, (by rw [e8]; exact j)⟩
   refine sg (VA d Mh b4 aK aC (bS j fun q8 k7 j => VE (Eg d call327 (lD.mP (zp a n0 3 _ _ (b6.mono kL.mono d.kN) k7)) (fun p8 d => V (ot rfl) (ln (CI j rfl (fun j4 j => ?_) (fun j4 j => ?_)))))))
   ·refine kV (Wh d5 (VA d Mh b4 aK aC (VE (lE (cs := b4.toArray) d (np rfl) (nq aD aC aP) (fun p9 q4 d => ?_)))))
    replace d := d.perm (Nr (Qb (Qb (Qb (Qb Qz)))) Nz)
    refine bS j fun m4 j5 j => VE (pQ (B := T) kL d dc aD mZ.1 mZ.2.1 rfl mZ.2.2.1 mZ.2.2.2 rfl rfl a7 (xG.lit kL (l := [a]) (.cons (ys := C2 a.Op a.K a.kC.kD a.kC.kJ J a.Kids.length K) (kF.mk ⟨n0, rfl, b6⟩) .nil) rfl nb (d.at_ (Ma Mh))) j5 (fun q0 m6 l9 d i4 => Wa (lH (lK (kT ?_)))))
    replace d := d.kG (Kr (Db (Db St)))
    exact ⟨n, a5, m6, m4, l9, _, ⟨rfl, s⟩, (d.kG (Sb (Pr Pz) (Sb (Pr Pz) St))), d2, d3, d4, rfl, d6, i4, (by rw [e8]; exact j)⟩
   refine mr (lK (kT ?_))
   replace d := d.kG (Db St)
   exact ⟨n, a5, a4, a9, T, _, ⟨rfl, s⟩, (d.kG St), d2, d3, d4, d5, d6, a7, (by rw [e8]; exact j)⟩
  rintro E W ⟨a5, a4, a9, T, f2, ⟨n, s⟩, d, d2, d3, d4, d5, d6, a7, j⟩
  rw [aI] at j
  refine kT ?_
  obtain rfl := sj j
  exact ⟨a4, T, _, (d.kG (Kb (Kb (Kr (Dr St))))), d2, d3, d4, d5, a7⟩
 rintro ⟨b2, f5⟩ E W ⟨b1, f3, g3, d, g4, M, d0, d1, a6⟩ c
 refine kY (sg (Wh d0 (Wi rfl (ln (CI c rfl (fun i7 c => ?_) (fun i7 c => ?_))))))
 ·refine sg (V (mH (v := (.agg EA.toArray)) (np rfl) (ml aP bF (uH _ bF) kr)) ?_)
  replace d := d.perm (Nb (Pb Pz) Nz)
  refine VO (lf (.agg EA.toArray) (EA.toArray) d M rfl aC oc nb rfl (fun o7 d => ln ?_))
  replace d := d.kG (Kb (Kb (Dr St)))
  refine lC (lL ?_)
  obtain rfl := sj c
  exact ns (v := (.agg EA.toArray)) rfl M (kM d.has Mh EA rfl aK aC) ⟨_, _, _, rfl, (d.mW (Db (Kb Sn))), H, m, (ST.lU d (nn.mem (Db (Kb Sn)))), (.slice none 0 0), rfl, rfl, (Sl.nil _ _ _)⟩
 refine kS (Wh d0 (Wh d1 (V (qT aD rfl a6) (Wi rfl (ln (CI c rfl (fun i8 c => ?_) (fun i8 c => ?_)))))))
 ·refine sg (V (mH (v := (.agg F4.toArray)) (np rfl) (ml aP bF (uH _ bF) kr)) ?_)
  replace d := d.perm (Nb (Pb Pz) Nz)
  refine VO (lf (.agg F4.toArray) (F4.toArray) d M rfl aC oc nb rfl (fun o8 d => ln ?_))
  replace d := d.kG (Kb (Kb (Dr St)))
  refine lC (lL ?_)
  obtain rfl := sj c
  exact ns (v := (.agg F4.toArray)) rfl M (kM d.has Mh F4 rfl aK aC) ⟨_, _, _, rfl, (d.mW (Db (Kb Sn))), H, m, (ST.lU d (nn.mem (Db (Kb Sn)))), (.slice none 0 0), rfl, rfl, (Sl.nil _ _ _)⟩
 refine kS (Wh d0 (Wh d1 (V (qT aD rfl a6) (Wi rfl (ln (CI c rfl (fun i9 c => ?_) (fun i9 c => ?_)))))))
 ·refine sg (Wh g4 (Wh d1 ?_))
  replace d := d.perm (Nr (Qb (Qb Qz)) Nz)
  obtain ⟨s3, d, g9, O, k9⟩ := ST.tE kL d a6
  refine bS c fun y k3 c => ?_
  let m7 : Value := (.string (((y.1).kC).kJ))
  let j1 : Value := (.string (((y.1).kC).kD))
  refine VE (eD d (Cb Pz Cn) call326 (fun p => (vQ k N 2 b1 f5 _ _ p (k9.mono kL.mono (lm.refl _)) k3)) ?_)
  rintro _ r2 s4 n7 d h1 P ⟨r8, e5, rfl, f9⟩
  obtain rfl := e5.symm
  replace d := d.perm (Tb Tn)
  obtain ⟨c0, c5, rfl⟩ := f9.form
  let g6 : Value := (.slice c0 ((y.1).Kids).length c5)
  let d8 : Value := (.agg #[(.int .i64 ((y.1).Op)), (.int .i64 ((y.1).K)), j1, m7, g6])
  replace d := d.perm (Nb (Pb Pz) Nz)
  refine VO (lf d8 (#[(.int .i64 ((y.1).Op)), (.int .i64 ((y.1).K)), j1, m7, g6]) d M rfl aC oc nb rfl (fun p0 d => lt (lL ?_)))
  obtain rfl := sj c
  exact ns (v := d8) rfl M (kM d.has Mh [(.int .i64 ((y.1).Op)), (.int .i64 ((y.1).K)), j1, m7, g6] rfl aK aC) ⟨_, _, _, rfl, (d.mW (Db (Kb Sn))), ((H.trans g9).trans h1), ((m.trans O).trans P), (ST.lU d (nn.mem (Db (Kb Sn)))), g6, rfl, rfl, f9⟩
 refine kS (Wh d0 (Wi rfl (ln (CI c rfl (fun j0 c => ?_) (fun j0 c => ?_)))))
 ·refine sg (Wh g4 (Wh d1 ?_))
  replace d := d.perm (Nr (Qb (Qb Qz)) Nz)
  obtain ⟨s5, d, h2, R, l0⟩ := ST.tE kL d a6
  refine bS c fun z k4 c => ?_
  let m9 : Value := (.string (((z.1).kC).kJ))
  let j2 : Value := (.string (((z.1).kC).kD))
  refine VE (eD d (Cb Pz Cn) call326 (fun p => (vQ k N 3 b1 f5 _ _ p (l0.mono kL.mono (lm.refl _)) k4)) ?_)
  rintro _ r3 s6 n8 d h3 aa ⟨r9, e6, rfl, g0⟩
  obtain rfl := e6.symm
  replace d := d.perm (Tb Tn)
  obtain ⟨c1, c6, rfl⟩ := g0.form
  let h7 : Value := (.slice c1 ((z.1).Kids).length c6)
  let e0 : Value := (.agg #[(.int .i64 ((z.1).Op)), (.int .i64 ((z.1).K)), j2, m9, h7])
  replace d := d.perm (Nb (Pb Pz) Nz)
  refine VO (lf e0 (#[(.int .i64 ((z.1).Op)), (.int .i64 ((z.1).K)), j2, m9, h7]) d M rfl aC oc nb rfl (fun p2 d => lt (lL ?_)))
  obtain rfl := sj c
  exact ns (v := e0) rfl M (kM d.has Mh [(.int .i64 ((z.1).Op)), (.int .i64 ((z.1).K)), j2, m9, h7] rfl aK aC) ⟨_, _, _, rfl, (d.mW (Db (Kb Sn))), ((H.trans h2).trans h3), ((m.trans R).trans aa), (ST.lU d (nn.mem (Db (Kb Sn)))), h7, rfl, rfl, g0⟩
 refine kg (Wh d0 (Wh d1 ?_))
 replace d := d.perm (Nr (Qb (Qb Qz)) Nz)
 obtain ⟨s7, d, h4, ab, l1⟩ := ST.tE kL d a6
 refine bS c fun a3 k5 c => ?_
 refine VE (eD d (aX _) call328 (fun p => (Dm b1 f5 false _ _ p (l1.mono kL.mono (lm.refl _)) k5)) ?_ (L0 := []))
 rintro _ r4 s8 n9 d h5 ad ⟨s0, e7, rfl, g1⟩
 obtain rfl := e7.symm
 obtain ⟨Z, a2, rfl⟩ := g1.form
 let h8 := (Tz b2 Z a3.length a2)
 refine V (mH (v := (.agg h8.toArray)) (AZ rfl rfl rfl) (ml aP bF (uH _ bF) kr)) ?_
 replace d := d.perm (Nb (Pb Pz) Nz)
 refine VO (lf (.agg h8.toArray) (h8.toArray) d M rfl aC oc nb rfl (fun p4 d => lt ?_))
 obtain rfl := sj c
 exact ns (v := (.agg h8.toArray)) rfl M (kM d.has Mh h8 rfl aK aC) ⟨_, _, _, rfl, (d.mW (Db (Kb Sn))), ((H.trans h4).trans h5), ((m.trans ab).trans ad), (ST.lU d (nn.mem (Db (Kb Sn)))), (.slice Z a3.length a2), rfl, rfl, g1⟩
theorem yA : ∀ (n : Nat) (c : Nat) (j : mA) (g : Formula) (a : Value) (r : (Formula × mA)) (w : World) {k : lO} (y : ox k ((c, Ol (nF j) 332) :: []) w) (i : Sl kF 5 k a g.Kids) (_ : og n j g = some r),
  mo false Tryz.prog 299 [(.pointer (some ⟨c, 0, none⟩)), (.agg #[(.int .i64 g.Op), (.int .i64 g.K), (.string g.kC.kD), (.string g.kC.kJ), a])] w k ((c, Ol (nF j) 332) :: []) (fun v u x => ∃ t, v = (.agg #[(.int .i64 ((r.1).Op)), (.int .i64 ((r.1).K)), (.string (((r.1).kC).kD)), (.string (((r.1).kC).kJ)), t]) ∧ u = ((c, Ol (nF (r.2)) 332) :: []) ∧ Sl kF 5 x t ((r.1).Kids))
 | 0 => by intros; rename_i h; simp only [og] at h; cases h
 | n + 1 => AW (og n) (yA n)
theorem HD (c : Formula) (u : Value) (r : (Formula × Int)) (w : World) {Z : lO} (A : ox Z [] w) (k : Sl kF 5 Z u c.Kids) (hm : zt c = some r) :
  mo false Tryz.prog 266 [(.agg #[(.int .i64 c.Op), (.int .i64 c.K), (.string c.kC.kD), (.string c.kC.kJ), u])] w Z [] (fun v L1 μ1 => ∃ q, v = (.tuple #[(.agg #[(.int .i64 ((r.1).Op)), (.int .i64 ((r.1).K)), (.string (((r.1).kC).kD)), (.string (((r.1).kC).kJ)), q]), (.int .i64 (r.2))]) ∧ L1 = [] ∧ Sl kF 5 μ1 q ((r.1).Kids)) := by
 refine sF A 26 func266 rfl (fun b => sg ?_)
 obtain ⟨H, I, rfl⟩ := k.form
 let n := (C2 c.Op c.K c.kC.kD c.kC.kJ H c.Kids.length I)
 refine VE (lJ b rfl (fun W4 L b => VE (lG b aP (fun W6 p b => Wa (lS (VA b (Mt Mh) n aK aC (bS hm fun r7 a5 hm => VE (Eg b call92 (wQ c (.slice H c.Kids.length I) _ _ (k.mono kL.mono b.kN) a5) (fun W9 b => V (ot rfl) (ln (CI hm rfl (fun Q hm => ?_) (fun Q hm => ?_))))))))))))
 ·refine sg (V (mH (v := (.agg C5.toArray)) ri (ml aP bF (uH _ bF) kr)) (VO (lf (.agg C5.toArray) (C5.toArray) b rfl rfl aC oc nb rfl (fun P b => Wa (ln ?_)))))
  replace b := b.kG (Kb (Db St))
  refine lC (lL ?_)
  obtain rfl := sj hm
  exact qV (v0 := (.agg C5.toArray)) (v1 := (.int .i64 11)) rfl rfl (kM b.has Mh C5 rfl aK aC) rfl ⟨_, _, _, rfl, (b.mW Sn), (lm.refl _), Lo.refl, (ST.lU b (nn.mem Sn)), (.slice none 0 0), rfl, rfl, (Sl.nil _ _ _)⟩
 refine kg (V (mH (v := (.agg (nF (⟨false⟩ : mA)).toArray)) ri (ml zeroValue332 jY (SN _ jY) kr)) (VE (lJ b rfl (fun R s b => Wa (lr (Wm (VA b (Mt (Mt Mh)) n aK aC (bS hm fun a U hm => ?_))))))))
 let m : Value := (.int .i64 ((a.1).K))
 let l : Value := (.int .i64 ((a.1).Op))
 let h : Value := (.string (((a.1).kC).kJ))
 let a2 : Value := (.string (((a.1).kC).kD))
 refine VE (eD b (Cb Pz Cn) call299 (fun F => ((yA lB) s (⟨false⟩ : mA) c (.slice H c.Kids.length I) _ _ F (k.mono kL.mono (lm.refl _)) U)) ?_)
 rintro _ c7 a9 O b D d ⟨c9, y, rfl, z⟩
 obtain rfl := y.symm
 replace b := b.perm (Tb Tn)
 refine VE (lG b aP (fun c0 K b => ?_))
 obtain ⟨i, j, rfl⟩ := z.form
 let a0 : Value := (.slice i ((a.1).Kids).length j)
 let N : Value := (.agg #[l, m, a2, h, a0])
 refine VO (lf N (#[l, m, a2, h, a0]) b rfl rfl aC oc nb rfl (fun c1 b => ln ?_))
 replace b := b.kG (Kb (Kb (Kb (Db St))))
 refine kY (sg (Wm (Wn (Wf Iq (VB b (Mt Mh) rfl rfl isAgg4 (Wm (LJ hm (fun M E W => ∃ J, ST false (keys []) w W a9 ((K, Ob #[l, m, a2, h, a0] 58) :: ((p, Ol C5 58) :: J)) ∧ E 2 = (.pointer (some ⟨p, 0, none⟩)) ∧ E 5 = (.pointer (some ⟨K, 0, none⟩)) ∧ E 23 = (.bool M)) 4 ?_ (fun M t G => ?_))))))))
 ·rintro c8 E W ⟨J, b, B, a3, a4⟩ x
  refine ln (CI x a4 (fun T x => ?_) (fun T x => ?_))
  ·refine sg (V (mH (v := (.agg C5.toArray)) ri (ml aP bF (uH _ bF) kr)) ?_)
   replace b := b.perm (Nb (Pb Pz) Nz)
   refine VO (lf (.agg C5.toArray) (C5.toArray) b B rfl aC oc nb rfl (fun c3 b => Wa (ln ?_)))
   replace b := b.kG (Kb (Db St))
   refine lC (lL ?_)
   obtain rfl := sj x
   exact qV (v0 := (.agg C5.toArray)) (v1 := (.int .i64 12)) rfl B (kM b.has Mh C5 rfl aK aC) rfl ⟨_, _, _, rfl, (b.mW Sn), D, d, (ST.lU b (nn.mem Sn)), (.slice none 0 0), rfl, rfl, (Sl.nil _ _ _)⟩
  refine kg (V (kI a3 (kM b.has Mh [l, m, a2, h, a0] rfl aK aC)) ?_)
  replace b := b.perm (Nb (Pb Pz) Nz)
  refine VO (lf N (#[l, m, a2, h, a0]) b B rfl aC oc nb rfl (fun c4 b => Wa (ln ?_)))
  replace b := b.kG (Kb (Db St))
  refine lC ?_
  obtain rfl := sj x
  exact qV (v0 := N) (v1 := (.int .i64 0)) rfl B (kM b.has Mh [l, m, a2, h, a0] rfl aK aC) rfl ⟨_, _, _, rfl, (b.mW Sn), D, d, (ST.lU b (nn.mem Sn)), a0, rfl, rfl, z⟩
 refine bC t (fun g t => ?_) (fun g t => ?_)
 ·refine un g (un g (un g (V (li (cB g) rfl) ?_)))
  obtain rfl := sj t
  exact G _ _ ⟨_, (b.kG (Kb (Db St))), rfl, rfl, rfl⟩
 refine ug g (kI rfl (kM b.has Mh [l, m, a2, h, a0] rfl aK aC)) (bS t fun c6 Y t => sE g (Eg b call92 (wQ a.1 a0 _ _ (z.mono kL.mono b.kN) Y) (fun c5 b => ug g (ot rfl) (V (lj (cB g) rfl) ?_))))
 obtain rfl := sj t
 exact G _ _ ⟨_, (b.kG (Kb (Db St))), rfl, rfl, rfl⟩
theorem KS (k : Value) (u : List kE) (g : kE) (r : Bool) (w : World) (j : Sl (Pl kK) 9 (hp w) k u) (hm : AE u g = some r) :
  lD true Tryz.prog 30 [k, (.agg (kK g).toArray)] w (.bool r) := by
 refine cG 17 func30 rfl (fun b => sg (VE (lJ b rfl (fun Y J b => Wa (lS (Wm (V (mi aT rfl j) (Wm (ln ?_)))))))))
 refine mf (fun i E W => ∃ t, (E 9 = .int .i64 (i : Nat) ∧ E 8 = .int .i64 (u.length : Nat)) ∧ ST true lT w W (hp w) ((J, Ol (kK g) 52) :: t) ∧ E 3 = (.pointer (some ⟨J, 0, none⟩)) ∧ E 7 = k ∧ xT g (u.drop i) = some r) u.length j.len ⟨_, ⟨rfl, rfl⟩, (b.kG St), rfl, rfl, hm⟩ dc dc dc (fun _ _ _ h => by obtain ⟨_, l, _⟩ := h; exact l) ?_ ?_
 ·rintro K E W B ⟨t, ⟨d, m⟩, b, x, y, a⟩
  obtain ⟨c, M, H, G, I⟩ := lX B
  rw [H] at a
  refine bg (VQ (oF (enc := kK) (i := (K : Int)) (x0 := c) aT aO y d j (aH _) G) (fun U D => V (kI rfl (lz b.has D bW aO)) (VE (lG b cW (fun N T b => VO (lf (.agg (kK c).toArray) ((kK c).toArray) b rfl rfl aO (oP c) nb rfl (fun Q b => lr (VA b Mh (kK c) bW aO (V (kI x (kM b.has (Mt Mh) (kK g) rfl bW aO)) (V (uU rfl rfl (ob fJ) (qW (vI _ c g))) (lH ?_)))))))))))
  refine kT ?_
  replace b := b.kG (Db St)
  refine CI a rfl (fun z a => ?_) (fun z a => ?_)
  ·refine sg (Wa (ln ?_))
   replace b := b.kG (Db St)
   refine lC (nD (lL (nD (lL ?_))))
   obtain rfl := sj a
   exact rP b
  exact mr (lK (kT ⟨d, _, ⟨rfl, m⟩, (b.kG St), x, y, (by rw [I]; exact a)⟩))
 rintro E W ⟨t, ⟨d, m⟩, b, x, y, a⟩
 rw [aI] at a
 refine kT ?_
 replace b := b.kG (Db St)
 exact sg (Wa (lt (rQ a b)))
set_option maxHeartbeats 1000000 in
theorem MA (Y : lI) (b3 c5 : Value) (p : kE) (r : (Formula × Int)) (w : World) {μ0 : lO} (h0 : ox μ0 [] w) (I : Sl kW 15 μ0 b3 Y.kO) (Q : Sl lF 8 μ0 c5 Y.lg) (hm : Bt Y p = some r) :
  mo false Tryz.prog 217 [(.agg #[(.string Y.Name), b3, c5]), (.agg (kK p).toArray)] w μ0 [] (fun v L1 μ1 => ∃ y1, v = (.tuple #[(.agg #[(.int .i64 ((r.1).Op)), (.int .i64 ((r.1).K)), (.string (((r.1).kC).kD)), (.string (((r.1).kC).kJ)), y1]), (.int .i64 (r.2))]) ∧ L1 = [] ∧ Sl kF 5 μ1 y1 ((r.1).Kids)) := by
 refine sF h0 62 func217 rfl (fun b => sg ?_)
 obtain ⟨A1, c2, rfl⟩ := I.form
 obtain ⟨A3, c4, rfl⟩ := Q.form
 refine VE (lJ b rfl (fun W6 b5 b => VE (lJ b rfl (fun W8 O b => VE (lG b aP (fun p4 P b => Wa (lS (Wf oS (VB b (Mt (Mt Mh)) rfl rfl eX (V (mi bL rfl I) (Wm (ln ?_))))))))))))
 refine mf (fun i E W => ∃ e6, (E 15 = .int .i64 (i : Nat) ∧ E 14 = .int .i64 (Y.kO.length : Nat)) ∧ ST false (keys []) w W μ0 ((P, Ol C5 58) :: ((O, Ol (kK p) 52) :: ((b5, Ol (C4 Y.Name A1 Y.kO.length c2 A3 Y.lg.length c4) 25) :: e6))) ∧ E 2 = (.pointer (some ⟨b5, 0, none⟩)) ∧ E 3 = (.pointer (some ⟨O, 0, none⟩)) ∧ E 4 = (.pointer (some ⟨P, 0, none⟩)) ∧ E 13 = (.slice A1 Y.kO.length c2) ∧ wN p Y (Y.kO.drop i) = some r) Y.kO.length I.len ⟨_, ⟨rfl, rfl⟩, (b.kG St), rfl, rfl, rfl, rfl, hm⟩ dc dc dc (fun _ _ _ h => by obtain ⟨_, F, _⟩ := h; exact F) ?_ ?_
 ·let f2 : Value := (.pointer (some ⟨P, 0, none⟩))
  rintro k8 E W i4 ⟨e6, ⟨A, R⟩, b, f0, d2, b0, f1, t⟩
  obtain ⟨c, l6, j7, j6, j8⟩ := lX i4
  rw [j7] at t
  refine bg (VQ (mT (i := (k8 : Int)) (x0 := c) kW.out bL cR f1 A I (aH _) j6) (fun n6 ⟨_, ⟨n9, o0, rfl, j4, f3⟩, i7⟩ => V (kI rfl (lz b.has i7 iU cR)) (VE (lG b eE (fun m1 n5 b => ?_)))))
  obtain ⟨g0, g4, rfl⟩ := j4.form
  obtain ⟨c7, d0, rfl⟩ := f3.form
  let a0 := (C3 c.Signed.kE.Kind c.Signed.kE.Head.kD c.Signed.kE.Head.kJ c.Signed.kE.lZ c.Signed.kE.B.kD c.Signed.kE.B.kJ c.Signed.kE.C.kD c.Signed.kE.C.kJ c.Signed.kE.mc g0 c.Signed.Tag.length g4 c.kH.Op c.kH.K c.kH.kC.kD c.kH.kC.kJ c7 c.kH.Kids.length d0)
  refine VO (lf (.agg a0.toArray) (a0.toArray) b rfl rfl cR oc nb rfl (fun m2 b => lS (Wf wJ (Wf yw (VA b Mh (kK c.Signed.kE) bW aO (V (kI d2 (kM b.has (Mt (Mt Mh)) (kK p) rfl bW aO)) (V (FG rfl rfl (ob fJ) (Bx (vI _ c.Signed.kE p))) (ln (CI t rfl (fun i1 t => ?_) (fun i1 t => ?_))))))))))
  ·refine nM (nB (qe (kT ?_)))
   replace b := b.kG (Db St)
   exact ⟨A, _, ⟨rfl, R⟩, (b.kG St), f0, d2, b0, f1, (by rw [j8]; exact t)⟩
  refine kg (Wf E7 (VA b Mh (C2 c.kH.Op c.kH.K c.kH.kC.kD c.kH.kC.kJ c7 c.kH.Kids.length d0) aK aC (bS t fun j i9 t => ?_)))
  refine VE (eD b (aX _) call266 (fun hh => (HD c.kH (.slice c7 c.kH.Kids.length d0) _ _ hh (f3.mono kL.mono (lm.refl _)) i9)) ?_ (L0 := []))
  rintro _ o1 c0 l9 b c3 m ⟨o6, e0, rfl, f8⟩
  obtain rfl := e0.symm
  refine Wm (Wx rfl (Wx rfl (VE (lG b aP (fun m4 a5 b => ?_)))))
  let g5 : Value := (.pointer (some ⟨a5, 0, none⟩))
  obtain ⟨e4, e8, rfl⟩ := f8.form
  let g6 : Value := (.slice e4 ((j.1).Kids).length e8)
  refine VO (lf (.agg #[(.int .i64 ((j.1).Op)), (.int .i64 ((j.1).K)), (.string (((j.1).kC).kD)), (.string (((j.1).kC).kJ)), g6]) (#[(.int .i64 ((j.1).Op)), (.int .i64 ((j.1).K)), (.string (((j.1).kC).kD)), (.string (((j.1).kC).kJ)), g6]) b rfl rfl aC oc nb rfl (fun m5 b => Wa (ln ?_)))
  replace b := b.kG (Kb (Db St))
  refine kY (sg (V (kP AS f0) (VB b (Mt (Mt (Mt Mh))) rfl rfl kk (V (mi cX rfl Q) (Wm (ln ?_))))))
  replace b := b.kG (Kb (Kb (Kb (Db St))))
  refine CJ t (fun T E W => ∃ d9 c1 g1, lm c0 c1 ∧ Lo (keys []) w c0 c1 ∧ ST false (keys []) w W c1 ((a5, Ob #[(.int .i64 T.2.1), (.int .i64 T.2.2.1), (.string T.2.2.2.1.kD), (.string T.2.2.2.1.kJ), d9] 58) :: ((P, Ol C5 58) :: g1)) ∧ E 4 = f2 ∧ E 8 = g5 ∧ E 9 = (.int .i64 T.1) ∧ Sl kF 5 c1 d9 T.2.2.2.2) (fun T i6 => ?_) ?_
  ·refine mf (fun i E W => ∃ L u x g U z J e7, (E 33 = .int .i64 (i : Nat) ∧ E 32 = .int .i64 (Y.lg.length : Nat)) ∧ lm c0 J ∧ Lo (keys []) w c0 J ∧ ST false (keys []) w W J ((a5, Ob #[(.int .i64 u), (.int .i64 x), (.string g.kD), (.string g.kJ), U] 58) :: ((P, Ol C5 58) :: ((O, Ol (kK p) 52) :: e7))) ∧ E 3 = (.pointer (some ⟨O, 0, none⟩)) ∧ E 4 = f2 ∧ E 8 = g5 ∧ E 9 = (.int .i64 L) ∧ E 31 = (.slice A3 Y.lg.length c4) ∧ Sl kF 5 J U z ∧ tT p (Y.lg.drop i) L u x g z = some T) Y.lg.length Q.len ⟨j.2, ((j.1).Op), ((j.1).K), ((j.1).kC), g6, ((j.1).Kids), c0, _, ⟨rfl, rfl⟩, (lm.refl _), Lo.refl, (b.kG St), d2, b0, rfl, rfl, rfl, f8, i6⟩ dc dc dc (fun _ _ _ h => by obtain ⟨_, _, _, _, _, _, _, _, F, _⟩ := h; exact F) ?_ ?_
   ·rintro h4 E W i5 ⟨L, u, x, g, U, z, J, e7, ⟨A, R⟩, Z, d, b, d4, d5, d6, b1, d7, a3, K⟩
    obtain ⟨a, l7, k0, j9, f7⟩ := lX i5
    rw [k0] at K
    refine bg (VQ (mT (i := (h4 : Int)) (x0 := a) lF.out cX dW d7 A (Q.mono ma.mono (c3.trans Z)) (aH _) j9) (fun n7 ⟨_, ⟨o2, o3, rfl, f5, f6⟩, i8⟩ => V (kI rfl (lz b.has i8 jR dW)) (VE (lG b iD (fun m8 g3 b => ?_)))))
    obtain ⟨D, G, rfl⟩ := f5.form
    let h6 : Value := (.slice D a.kH.Kids.length G)
    obtain ⟨c8, d1, rfl⟩ := f6.form
    let b8 := (C7 a.kC.kD a.kC.kJ a.kH.Op a.kH.K a.kH.kC.kD a.kH.kC.kJ D a.kH.Kids.length G c8 a.na.length d1)
    refine VO (lf (.agg b8.toArray) (b8.toArray) b rfl rfl dW oc nb rfl (fun m9 b => lr (Wh b1 (Wi rfl (Wm (LJ K (fun h5 E W => ∃ g2, ST false (keys []) w W J ((g3, Ol b8 87) :: ((a5, Ob #[(.int .i64 u), (.int .i64 x), (.string g.kD), (.string g.kJ), U] 58) :: ((P, Ol C5 58) :: ((O, Ol (kK p) 52) :: g2)))) ∧ E 3 = (.pointer (some ⟨O, 0, none⟩)) ∧ E 4 = f2 ∧ E 8 = g5 ∧ E 9 = (.int .i64 L) ∧ E 11 = (.pointer (some ⟨g3, 0, none⟩)) ∧ E 31 = (.slice A3 Y.lg.length c4) ∧ E 32 = (.int .i64 (Y.lg.length : Int)) ∧ E 33 = (.int .i64 (h4 : Int)) ∧ E 44 = (.bool h5)) 5 ?_ (fun h5 N e3 => ?_)))))))
    ·rintro o5 E W ⟨g2, b, g8, g9, d8, k5, k6, h1, h2, h3, k7⟩ M
     refine ln (CI M k7 (fun i3 M => ?_) (fun i3 M => ?_))
     ·refine kV (V (kI d8 (kM b.has (Mt Mh) [(.int .i64 u), (.int .i64 x), (.string g.kD), (.string g.kJ), U] rfl aK aC)) (V (kP Fk k6) (VA b Mh (C2 a.kH.Op a.kH.K a.kH.kC.kD a.kH.kC.kJ D a.kH.Kids.length G) aK aC ?_)))
      obtain ⟨a4, a6, rfl⟩ := a3.form
      refine VE (lE (cs := #[(.int .i64 u), (.int .i64 x), (.string g.kD), (.string g.kJ), (.slice a4 z.length a6), (.int .i64 a.kH.Op), (.int .i64 a.kH.K), (.string a.kH.kC.kD), (.string a.kH.kC.kJ), h6]) b (oU rfl rfl) (nq aD aC aP) (fun n0 c9 b => V (mH (v := (.agg #[(.int .i64 2), (.int .i64 0), (.string zS), (.string zS), (.slice (some ⟨c9, 0, none⟩) 2 2)])) (oU rfl rfl) (ml aP bF (uH _ bF) kr)) ?_))
      obtain ⟨o8, b, h7, q, j5⟩ := ST.tE (B := [(c9, Ob #[(.int .i64 u), (.int .i64 x), (.string g.kD), (.string g.kJ), (.slice a4 z.length a6), (.int .i64 a.kH.Op), (.int .i64 a.kH.K), (.string a.kH.kC.kD), (.string a.kH.kC.kJ), h6] 58)]) kL b (lW.lit kL (l := [(⟨u, x, g, z⟩ : Formula), a.kH]) (.cons (ys := C2 u x g.kD g.kJ a4 z.length a6) (kF.mk ⟨(.slice a4 z.length a6), rfl, a3⟩) (.cons (ys := C2 a.kH.Op a.kH.K a.kH.kC.kD a.kH.kC.kJ D a.kH.Kids.length G) (kF.mk ⟨h6, rfl, f5⟩) .nil)) rfl nb rfl)
      refine bS M fun k j0 M => ?_
      refine VE (eD b (aX _) call266 (fun hh => (HD (⟨2, 0, K0, [(⟨u, x, g, z⟩ : Formula), a.kH]⟩ : Formula) (.slice (some ⟨c9, 0, none⟩) 2 2) _ _ hh (j5.mono kL.mono (lm.refl _)) j0)) ?_ (L0 := []))
      rintro _ o4 l0 m0 b h8 s ⟨o7, e1, rfl, f9⟩
      obtain rfl := e1.symm
      refine Wm (Wx rfl (Wx rfl ?_))
      obtain ⟨e5, e9, rfl⟩ := f9.form
      let h9 : Value := (.slice e5 ((k.1).Kids).length e9)
      replace b := b.perm (Nb (Pb Pz) Nz)
      refine VO (lf (.agg #[(.int .i64 ((k.1).Op)), (.int .i64 ((k.1).K)), (.string (((k.1).kC).kD)), (.string (((k.1).kC).kJ)), h9]) (#[(.int .i64 ((k.1).Op)), (.int .i64 ((k.1).K)), (.string (((k.1).kC).kD)), (.string (((k.1).kC).kJ)), h9]) b d8 rfl aC oc nb rfl (fun n2 b => Wa (lH (lK (kT ?_)))))
      replace b := b.kG (Kb (Db St))
      exact ⟨h3, k.2, ((k.1).Op), ((k.1).K), ((k.1).kC), h9, ((k.1).Kids), l0, _, ⟨rfl, h2⟩, ((Z.trans h7).trans h8), ((d.trans q).trans s), (b.kG St), g8, g9, d8, rfl, h1, f9, (by rw [f7]; exact M)⟩
     refine mr (lK (kT ?_))
     replace b := b.kG (Db St)
     exact ⟨h3, L, u, x, g, U, z, J, _, ⟨rfl, h2⟩, Z, d, (b.kG St), g8, g9, d8, k5, h1, a3, (by rw [f7]; exact M)⟩
    refine bC N (fun y N => ?_) (fun y N => ?_)
    ·refine ug y (kP Fm rfl) (ug y (kI rfl (lh b.has Mh rfl kB)) (ug y (kI d4 (kM b.has (Mt (Mt (Mt Mh))) (kK p) rfl bW aO)) (bS N fun n8 j3 N => sE y (Eg b call30 (lD.mP (KS (.slice c8 a.na.length d1) a.na p _ _ (f6.mono (Pl.mono _) b.kN) j3)) (fun n3 b => V (li (cB y) rfl) ?_)))))
     obtain rfl := sj N
     exact e3 _ _ ⟨_, (b.kG St), d4, d5, d6, b1, rfl, d7, R, A, rfl⟩
    refine un y (un y (un y (un y (V (lj (cB y) rfl) ?_))))
    obtain rfl := sj N
    exact e3 _ _ ⟨_, (b.kG St), d4, d5, d6, b1, rfl, d7, R, A, rfl⟩
   rintro E W ⟨L, u, x, g, U, z, J, e7, ⟨A, R⟩, Z, d, b, d4, d5, d6, b1, d7, a3, K⟩
   rw [aI] at K
   refine kT ?_
   obtain rfl := sj K
   exact ⟨U, J, _, Z, d, (b.kG (Kb (Kb (Db St)))), d5, d6, b1, a3⟩
  rintro ⟨k9, b4, b6, H, b2⟩ E W ⟨d9, c1, g1, e2, n, b, d3, k4, g7, f4⟩ a2
  refine kY (sg (Wh g7 (Wi rfl (ln (CI a2 rfl (fun i2 a2 => ?_) (fun i2 a2 => ?_))))))
  ·refine sg (V (mH (v := (.agg C5.toArray)) ri (ml aP bF (uH _ bF) kr)) (Wh g7 ?_))
   replace b := b.perm (Nb (Pb Pz) Nz)
   refine VO (lf (.agg C5.toArray) (C5.toArray) b d3 rfl aC oc nb rfl (fun m6 b => Wa (ln ?_)))
   replace b := b.kG (Kb (Db St))
   refine lC (lL (nD (lL (nD (lL ?_)))))
   obtain rfl := sj a2
   exact qV (v0 := (.agg C5.toArray)) (v1 := (.int .i64 k9)) rfl d3 (kM b.has Mh C5 rfl aK aC) rfl ⟨_, _, _, rfl, (b.mW Sn), (c3.trans e2), (m.trans n), (ST.lU b (nn.mem Sn)), (.slice none 0 0), rfl, rfl, (Sl.nil _ _ _)⟩
  refine kg (V (kI k4 (kM b.has Mh [(.int .i64 b4), (.int .i64 b6), (.string H.kD), (.string H.kJ), d9] rfl aK aC)) ?_)
  obtain ⟨a8, a9, rfl⟩ := f4.form
  let c6 := (C2 b4 b6 H.kD H.kJ a8 b2.length a9)
  replace b := b.perm (Nb (Pb Pz) Nz)
  refine VO (lf (.agg c6.toArray) (c6.toArray) b d3 rfl aC oc nb rfl (fun m7 b => Wa (ln ?_)))
  replace b := b.kG (Kb (Db St))
  refine lC (nD (lL (nD (lL ?_))))
  obtain rfl := sj a2
  exact qV (v0 := (.agg c6.toArray)) (v1 := (.int .i64 0)) rfl d3 (kM b.has Mh c6 rfl aK aC) rfl ⟨_, _, _, rfl, (b.mW Sn), (c3.trans e2), (m.trans n), (ST.lU b (nn.mem Sn)), (.slice a8 b2.length a9), rfl, rfl, f4⟩
 rintro E W ⟨e6, ⟨A, R⟩, b, f0, d2, b0, f1, t⟩
 rw [aI] at t
 refine kT ?_
 replace b := b.kG (Kb (Db (Db St)))
 refine sg (V (mH (v := (.agg C5.toArray)) ri (ml aP bF (uH _ bF) kr)) (VO (lf (.agg C5.toArray) (C5.toArray) b b0 rfl aC oc nb rfl (fun n4 b => Wa (lt ?_)))))
 obtain rfl := sj t
 exact qV (v0 := (.agg C5.toArray)) (v1 := (.int .i64 42)) rfl b0 (kM b.has Mh C5 rfl aK aC) rfl ⟨_, _, _, rfl, (b.mW Sn), (lm.refl _), Lo.refl, (ST.lU b (nn.mem Sn)), (.slice none 0 0), rfl, rfl, (Sl.nil _ _ _)⟩
theorem KR (k : Value) (u : List kC) (g : kC) (r : Bool) (w : World) (j : Sl (Pl kQ) 2 (hp w) k u) (hm : Ax u g = some r) :
  lD true Tryz.prog 163 [k, (.agg (kQ g).toArray)] w (.bool r) := by
 refine cG 17 func163 rfl (fun b => sg (VE (lJ b rfl (fun Y J b => Wa (lS (Wm (V (mi fC rfl j) (Wm (ln ?_)))))))))
 refine mf (fun i E W => ∃ t, (E 9 = .int .i64 (i : Nat) ∧ E 8 = .int .i64 (u.length : Nat)) ∧ ST true lT w W (hp w) ((J, Ol (kQ g) 50) :: t) ∧ E 3 = (.pointer (some ⟨J, 0, none⟩)) ∧ E 7 = k ∧ xS g (u.drop i) = some r) u.length j.len ⟨_, ⟨rfl, rfl⟩, (b.kG St), rfl, rfl, hm⟩ dc dc dc (fun _ _ _ h => by obtain ⟨_, l, _⟩ := h; exact l) ?_ ?_
 ·rintro K E W B ⟨t, ⟨d, m⟩, b, x, y, a⟩
  obtain ⟨c, M, H, G, I⟩ := lX B
  rw [H] at a
  refine bg (VQ (oF (enc := kQ) (i := (K : Int)) (x0 := c) fC aR y d j (aH _) G) (fun U D => V (kI rfl (lz b.has D bG aR)) (VE (lG b fE (fun N T b => VO (lf (.agg (kQ c).toArray) ((kQ c).toArray) b rfl rfl aR (wX c) nb rfl (fun Q b => lr (VA b Mh (kQ c) bG aR (V (kI x (kM b.has (Mt Mh) (kQ g) rfl bG aR)) (V (uU rfl rfl (ob eL) (qW (qb _ c g))) (lH ?_)))))))))))
  refine kT ?_
  replace b := b.kG (Db St)
  refine CI a rfl (fun z a => ?_) (fun z a => ?_)
  ·refine sg (Wa (ln ?_))
   replace b := b.kG (Db St)
   refine lC (nD (lL (nD (lL ?_))))
   obtain rfl := sj a
   exact rP b
  exact mr (lK (kT ⟨d, _, ⟨rfl, m⟩, (b.kG St), x, y, (by rw [I]; exact a)⟩))
 rintro E W ⟨t, ⟨d, m⟩, b, x, y, a⟩
 rw [aI] at a
 refine kT ?_
 replace b := b.kG (Db St)
 exact sg (Wa (lt (rQ a b)))
theorem FI (N : Formula → (List kC) → Option Bool) (a5 : ∀ (g : Formula) (k : Value) (t : Value) (H : List kC) (r : Bool) (w : World) (c : Sl kF 5 (hp w) k g.Kids) (J : Sl (Pl kQ) 2 (hp w) t H), N g H = some r → lD false Tryz.prog 93 [(.agg #[(.int .i64 g.Op), (.int .i64 g.K), (.string g.kC.kD), (.string g.kC.kJ), k]), t] w (.bool r)) (g : Formula) (k t : Value) (H : List kC) (r : Bool) (w : World) (c : Sl kF 5 (hp w) k g.Kids) (J : Sl (Pl kQ) 2 (hp w) t H) (hm : yp N g H = some r) :
  lD false Tryz.prog 93 [(.agg #[(.int .i64 g.Op), (.int .i64 g.K), (.string g.kC.kD), (.string g.kC.kJ), k]), t] w (.bool r) := by
 refine cG 45 func93 rfl (fun b => sg ?_)
 obtain ⟨A1, c2, rfl⟩ := c.form
 refine VE (lJ b rfl (fun W4 n b => Wa (lS (Wf oB (VB b Mh rfl rfl cD (Wi rfl (ln (CI hm rfl (fun a9 hm => ?_) (fun a9 hm => ?_)))))))))
 ·refine sg (Wm (Wf uP (VA b Mh (kQ g.kC) bG aR (bS hm fun r6 s hm => VE (Eg b call163 (lD.mP (KR t H g.kC _ _ (J.mono (Pl.mono _) b.kN) s)) (fun W8 b => Wa (ln ?_)))))))
  replace b := b.kG (Db St)
  refine lC (lL ?_)
  obtain rfl := sj hm
  exact rP b
 refine kg (Wa (lS (Wf oA (VB b Mh rfl rfl dZ (V (mi aD rfl c) (Wm (lH ?_)))))))
 refine kT (mf (fun i E W => ∃ y I, (E 18 = .int .i64 (i : Nat) ∧ E 17 = .int .i64 (g.Kids.length : Nat)) ∧ ST false lT w W (hp w) ((n, Ol (C2 g.Op g.K g.kC.kD g.kC.kJ A1 g.Kids.length c2) 58) :: I) ∧ E 1 = t ∧ E 2 = (.pointer (some ⟨n, 0, none⟩)) ∧ E 5 = (.int .i64 y) ∧ E 16 = (.slice A1 g.Kids.length c2) ∧ si N H g (g.Kids.drop i) y = some r) g.Kids.length c.len ⟨0, _, ⟨rfl, rfl⟩, (b.kG St), rfl, rfl, rfl, rfl, hm⟩ dc dc dc (fun _ _ _ h => by obtain ⟨_, _, l, _⟩ := h; exact l) ?_ ?_)
 ·rintro v E W a4 ⟨y, I, ⟨d, m⟩, b, D, u, x, G, a⟩
  obtain ⟨j, c1, q, p, M⟩ := lX a4
  rw [q] at a
  refine bg (VQ (mT (i := (v : Int)) (x0 := j) kF.out aD aC G d c (aH _) p) (fun P ⟨_, ⟨c0, rfl, K⟩, Y⟩ => V (kI rfl (lz b.has Y aK aC)) (VE (lG b aP (fun A O b => ?_)))))
  obtain ⟨z, B, rfl⟩ := K.form
  let a0 := (C2 j.Op j.K j.kC.kD j.kC.kJ z j.Kids.length B)
  refine VO (lf (.agg a0.toArray) (a0.toArray) b rfl rfl aC oc nb rfl (fun F b => lr (VA b Mh a0 aK aC (Wh D (bS a fun R Z a => VE (Eg b call93 (a5 j (.slice z j.Kids.length B) t H _ _ (K.mono kL.mono b.kN) (J.mono (Pl.mono _) b.kN) Z) (fun L b => ln ?_)))))))
  replace b := b.kG (Db St)
  refine CI a rfl (fun Q a => ?_) (fun Q a => ?_)
  ·exact kV (Wh x (Wi rfl (Wa (lH (lK (kT ⟨d, (IntKind.i64.wrap (y + 1)), _, ⟨rfl, m⟩, (b.kG St), D, u, rfl, G, (by rw [M]; exact a)⟩))))))
  exact mr (lK (kT ⟨d, y, _, ⟨rfl, m⟩, (b.kG St), D, u, x, G, (by rw [M]; exact a)⟩))
 rintro E W ⟨y, I, ⟨d, m⟩, b, D, u, x, G, a⟩
 rw [aI] at a
 refine kT (kY (sg (V (kP oB u) (VB b Mh rfl rfl cD (Wi rfl (ln (CI a rfl (fun T a => ?_) (fun T a => ?_))))))))
 ·refine sg (Wh x (V (kP oA u) (VB b Mh rfl rfl dZ (V (mi aD rfl c) (Wi rfl (Wa (ln ?_)))))))
  replace b := b.kG (Db St)
  refine lC (lL ?_)
  obtain rfl := sj a
  exact rP b
 refine kS (V (kP oB u) (VB b Mh rfl rfl cD (Wi rfl (ln (CI a rfl (fun U a => ?_) (fun U a => ?_))))))
 ·refine sg (Wh x (Wi rfl (Wa (ln ?_))))
  replace b := b.kG (Db St)
  refine lC (lL ?_)
  obtain rfl := sj a
  exact rP b
 refine kg (Wh x (V (kP sH u) (VB b Mh rfl rfl cD (Wi rfl (Wa (ln ?_))))))
 exact lC (rQ a b)
theorem BZ : ∀ (n : Nat) (c : Formula) (a : Value) (g : Value) (j : List kC) (r : Bool) (w : World) (i : Sl kF 5 (hp w) a c.Kids) (k : Sl (Pl kQ) 2 (hp w) g j) (_ : rS n c j = some r),
  lD false Tryz.prog 93 [(.agg #[(.int .i64 c.Op), (.int .i64 c.K), (.string c.kC.kD), (.string c.kC.kJ), a]), g] w (.bool r)
 | 0 => by intros; rename_i h; simp only [rS] at h; cases h
 | n + 1 => FI (rS n) (BZ n)
theorem EN (k : lI) (D I O : Value) (A : List kE) (a2 : ByteArray) (r : List kE) (w : World) (g : Sl kW 15 (hp w) D k.kO) (H : Sl lF 8 (hp w) I k.lg) (g2 : Sl (Pl kK) 9 (hp w) O A) (hm : xJ k A a2 = some r) :
  nC false Tryz.prog 168 [(.agg #[(.string k.Name), D, I]), O, (.string a2)] w 52 kK 9 r := by
 refine xg 48 func168 rfl (fun d => sg ?_)
 obtain ⟨A1, c2, rfl⟩ := g.form
 let b8 : Value := (.slice A1 k.kO.length c2)
 obtain ⟨A3, c4, rfl⟩ := H.form
 let F := (C4 k.Name A1 k.kO.length c2 A3 k.lg.length c4)
 refine VE (lJ d rfl (fun W6 q d => Wa (lr (Wm (bS hm fun r7 h0 hm => VE (vK d call159 (nC.mP (HM O A _ _ (g2.mono (Pl.mono _) d.kN) h0)) (fun W9 h1 j8 j6 d Y ae g0 => Wm (bS hm fun f1 g3 hm => VE (vK d call158 (nC.mP (Ee h1 r7 a2 _ _ (g0.sl qU (fun b o m => d.at_ (Ml m))) g3)) (fun j7 d5 f2 f0 d Z af g1 => Wa (ln ?_)))))))))))
 replace d := d.kG (Kr (Dr St))
 refine sg (Wa (lS (Wf oS (VB d (Ma Mh) rfl rfl eX (V (mi bL rfl g) (Wm (ln (mf (fun i E W => ∃ z G B a4 L, (E 20 = .int .i64 (i : Nat) ∧ E 19 = .int .i64 (k.kO.length : Nat)) ∧ lm f2 a4 ∧ ST false lT w W a4 ((q, Ol F 25) :: (B ++ (f0 ++ L))) ∧ E 3 = (.pointer (some ⟨q, 0, none⟩)) ∧ E 7 = d5 ∧ E 8 = z ∧ E 18 = b8 ∧ lA 52 kK 9 z G B ∧ se k f1 (k.kO.drop i) G = some r) k.kO.length g.len ⟨(.slice none 0 0), ([]), [], f2, _, ⟨rfl, rfl⟩, (lm.refl _), (d.kG (Sb (Pr Pz) St)), rfl, rfl, rfl, rfl, (lA.nil _ _ _), hm⟩ dc dc dc (fun _ _ _ h => by obtain ⟨_, _, _, _, _, aa, _⟩ := h; exact aa) ?_ ?_))))))))
 ·rintro d3 E W e1 ⟨z, G, B, a4, L, ⟨s, eN⟩, u, d, N, Q, T, U, J, j⟩
  obtain ⟨a, h2, e9, e8, b9⟩ := lX e1
  rw [e9] at j
  refine bg (VQ (mT (i := (d3 : Int)) (x0 := a) kW.out bL cR U s (g.mono kX.mono ((Y.trans Z).trans u)) (aH _) e8) (fun i4 ⟨_, ⟨i8, i9, rfl, e6, e7⟩, e2⟩ => V (kI rfl (lz d.has e2 iU cR)) (VE (lG d eE (fun h4 c5 d => ?_)))))
  obtain ⟨a8, b2, rfl⟩ := e6.form
  obtain ⟨a9, b3, rfl⟩ := e7.form
  let a0 := (C3 a.Signed.kE.Kind a.Signed.kE.Head.kD a.Signed.kE.Head.kJ a.Signed.kE.lZ a.Signed.kE.B.kD a.Signed.kE.B.kJ a.Signed.kE.C.kD a.Signed.kE.C.kJ a.Signed.kE.mc a8 a.Signed.Tag.length b2 a.kH.Op a.kH.K a.kH.kC.kD a.kH.kC.kJ a9 a.kH.Kids.length b3)
  refine VO (lf (.agg a0.toArray) (a0.toArray) d rfl rfl cR oc nb rfl (fun h5 d => lr (V (kI N (kM d.has (Mt Mh) F rfl eJ dJ)) (Wf wJ (Wf yw (VA d Mh (kK a.Signed.kE) bW aO (bS j fun c e3 j => ?_)))))))
  let c6 : Value := (.string (((c.1).kC).kJ))
  let c1 : Value := (.string (((c.1).kC).kD))
  refine VE (eD d (aX _) call217 (fun hh => (MA k b8 (.slice A3 k.lg.length c4) a.Signed.kE _ _ hh (g.mono kX.mono ((Y.trans Z).trans u)) (H.mono ma.mono ((Y.trans Z).trans u)) e3)) ?_ (L0 := []))
  rintro _ j0 P h3 d a5 ab ⟨j4, a3, rfl, c0⟩
  obtain rfl := a3.symm
  refine Wm (Wx rfl (Wx rfl (VE (lG d aP (fun h7 i3 d => ?_)))))
  obtain ⟨K, M, rfl⟩ := c0.form
  let n : Value := (.slice K ((c.1).Kids).length M)
  refine VO (lf (.agg #[(.int .i64 ((c.1).Op)), (.int .i64 ((c.1).K)), c1, c6, n]) (#[(.int .i64 ((c.1).Op)), (.int .i64 ((c.1).K)), c1, c6, n]) d rfl rfl aC oc nb rfl (fun h8 d => Wa (lr (Wm (Wi rfl (Wm (LJ j (fun d4 E W => ∃ c3, ST false lT w W P ((c5, Ol a0 60) :: ((q, Ol F 25) :: (B ++ (f0 ++ c3)))) ∧ E 3 = (.pointer (some ⟨q, 0, none⟩)) ∧ E 7 = d5 ∧ E 8 = z ∧ E 10 = (.pointer (some ⟨c5, 0, none⟩)) ∧ E 18 = b8 ∧ E 19 = (.int .i64 (k.kO.length : Int)) ∧ E 20 = (.int .i64 (d3 : Int)) ∧ E 38 = (.bool d4)) 4 ?_ (fun d4 y a6 => ?_))))))))
  ·rintro j3 E W ⟨c3, d, c7, c8, c9, f8, d0, d1, d2, f9⟩ x
   refine ln (CI x f9 (fun d9 x => ?_) (fun d9 x => ?_))
   ·refine kV (Wh c9 (V (kP wJ f8) (Wf yw (VA d Mh (kK a.Signed.kE) bW aO (VE (lE (cs := (kK a.Signed.kE).toArray) d (np rfl) (nq aT aO cW) (fun h9 f7 d => ?_)))))))
    replace d := d.perm (Nr (Qb (Qb (Qb Qz))) Nz)
    refine bS x fun g4 e0 x => VE (oW (enc := kK) (v := z) (vs := (.slice (some ⟨f7, 0, none⟩) 1 1)) (R := B) d mE dc oP aT pb.1 pb.2.1 rfl pb.2.2.1 pb.2.2.2 rfl rfl J (Sl.lit (enc := kK) (l := [a.Signed.kE]) mE rfl nb rfl (d.at_ (Ma Mh))) e0 (fun i0 g7 f3 d d8 => Wa (lH (lK (kT ?_)))))
    replace d := d.kG (Kr (Db (Db St)))
    exact ⟨d2, g7, g4, f3, P, _, ⟨rfl, d1⟩, (u.trans a5), (d.kG (Sb (Pr Pz) St)), c7, c8, rfl, d0, d8, (by rw [b9]; exact x)⟩
   refine mr (lK (kT ?_))
   replace d := d.kG (Db St)
   exact ⟨d2, z, G, B, P, _, ⟨rfl, d1⟩, (u.trans a5), (d.kG St), c7, c8, c9, d0, J, (by rw [b9]; exact x)⟩
  refine bC y (fun t y => ?_) (fun t y => ?_)
  ·refine ug t (kI rfl (kM d.has Mh [(.int .i64 ((c.1).Op)), (.int .i64 ((c.1).K)), c1, c6, n] rfl aK aC)) (ug t (kR Q) (bS y fun i5 e4 y => sE t (Eg d call93 ((BZ lB) c.1 n d5 f1 _ _ (c0.mono kL.mono d.kN) (g1.sl ya (fun b o m => d.at_ (Mt (Mt (Mt (Ma (Ml m))))))) e4) (fun i1 d => V (li (cB t) rfl) ?_))))
   obtain rfl := sj y
   exact a6 _ _ ⟨_, (d.kG (Db St)), N, Q, T, rfl, U, eN, s, rfl⟩
  refine un t (un t (un t (V (lj (cB t) rfl) ?_)))
  obtain rfl := sj y
  exact a6 _ _ ⟨_, (d.kG (Db St)), N, Q, T, rfl, U, eN, s, rfl⟩
 rintro E W ⟨z, G, B, a4, L, ⟨s, eN⟩, u, d, N, Q, T, U, J, j⟩
 rw [aI] at j
 refine kT ?_
 replace d := d.kG (Db (Kr (Dr St)))
 refine sg (Wh T (bS j fun i6 e5 j => VE (vK d call211 (nC.mP (FR z G _ _ (J.sl mE (fun b o m => d.at_ (Ml m))) e5)) (fun i2 g8 j5 f4 d g9 ad b7 => Wa (ln ?_)))))
 replace d := d.kG (Kr (Dr St))
 refine lC ?_
 obtain rfl := sj j
 exact mI (v := g8) rfl rfl ⟨_, f4, rfl, d.pn (fun p m => (Ml m)) b7.nd, b7⟩
theorem BX (t : Value) (y : List kE) (u : Value) (K : List kE) (r : Bool) (w : World) (c : Sl (Pl kK) 9 (hp w) t y) (z : Sl (Pl kK) 9 (hp w) u K) (hm : rW y K = some r) :
  lD true Tryz.prog 12 [t, u] w (.bool r) := by
 refine cG 26 func12 rfl (fun d => sg (Wa (lS (Wm (V (mi aT rfl c) (Wm (V (mi aT rfl z) (Wi rfl (lH ?_)))))))))
 refine kT (CI hm rfl (fun U hm => ?_) (fun U hm => ?_))
 ·refine sg (Wa (lt (lL ?_)))
  obtain rfl := sj hm
  exact rP d
 refine kS (Wm (V (mi aT rfl c) (Wm (ln (mf (fun i E W => ∃ g, (E 13 = .int .i64 (i : Nat) ∧ E 12 = .int .i64 (y.length : Nat)) ∧ ST true lT w W (hp w) g ∧ E 0 = t ∧ E 1 = u ∧ qO K (y.drop i) i = some r) y.length c.len ⟨_, ⟨rfl, rfl⟩, (d.kG St), rfl, rfl, hm⟩ dc dc dc (fun _ _ _ h => by obtain ⟨_, m, _⟩ := h; exact m) ?_ ?_)))))
 ·rintro I E W M ⟨g, ⟨l, p⟩, d, j, k, a⟩
  obtain ⟨J, a3, Q, N, T⟩ := lX M
  rw [Q] at a
  refine bg (Wh l (Wa (ln (kY ?_))))
  replace d := d.drew
  have b := d.has.kG Sn
  refine mj b lQ (X 0 rfl b (kR j) (X 1 rfl b (kR rfl) (XQ 2 rfl b (oF (enc := kK) (i := (I : Int)) (x0 := J) aT aO rfl rfl c (aH _) N) (fun Y G => XH 3 rfl b (fun _ n => kI rfl (lz n G bW aO)) (X 4 rfl b (kR k) (X 5 rfl b (kR rfl) (bS a fun B x a => XQ 6 rfl b (oF (enc := kK) (i := (I : Int)) (x0 := B) aT aO rfl rfl z (lN x) (lM x)) (fun Z H => XH 7 rfl b (fun _ n => kI rfl (lz n H bW aO)) (X 8 rfl b (FG rfl rfl (ob fJ) (Bx (vI _ J B))) (ms kr (kT (CI a rfl (fun D a => ?_) (fun D a => ?_)))))))))))))
  ·refine sg (Wa (lt (nD (lL (nD (lL ?_))))))
   obtain rfl := sj a
   exact rP d
  exact mr (lK (kT ⟨l, _, ⟨rfl, p⟩, (d.kG St), j, k, (by rw [T]; exact a)⟩))
 rintro E W ⟨g, ⟨l, p⟩, d, j, k, a⟩
 rw [aI] at a
 exact kT (sg (Wa (lt (rQ a d))))
theorem Mp (g : lI) (B J : Value) (i : lI) (D K : Value) (r : ((List kE) × (List kE) × Int)) (w : World) (x : Sl kW 15 (hp w) B g.kO) (H : Sl lF 8 (hp w) J g.lg) (y : Sl kW 15 (hp w) D i.kO) (I : Sl lF 8 (hp w) K i.lg) (hm : Dz g i = some r) :
  mY false Tryz.prog 102 [(.agg #[(.string g.Name), B, J]), (.agg #[(.string i.Name), D, K])] w [] (fun v L1 W' => ∃ y1 S2 y4 S5, v = (.tuple #[y1, y4, (.int .i64 (r.2.2))]) ∧ L1 = (S2 ++ (S5 ++ [])) ∧ lA 52 kK 9 y1 r.1 S2 ∧ lA 52 kK 9 y4 r.2.1 S5) := by
 refine xg 37 func102 rfl (fun d => sg ?_)
 obtain ⟨A1, c2, rfl⟩ := x.form
 obtain ⟨A3, c4, rfl⟩ := H.form
 let p := (C4 g.Name A1 g.kO.length c2 A3 g.lg.length c4)
 refine VE (lJ d rfl (fun W6 n d => ?_))
 obtain ⟨A7, c8, rfl⟩ := y.form
 obtain ⟨A9, L, rfl⟩ := I.form
 let a0 := (C4 i.Name A7 i.kO.length c8 A9 i.lg.length L)
 refine VE (lJ d rfl (fun g4 l d => Wa (Wa (Wa (lr (Wa (Wa (lr (Wa ?_)))))))))
 refine ln (qt (mB (nS (fun m E W => ∃ t T M u U N G s c0, lm (hp w) s ∧ ST false lT w W s ((l, Ol a0 25) :: ((n, Ol p 25) :: (N ++ (M ++ c0)))) ∧ E 2 = (.pointer (some ⟨n, 0, none⟩)) ∧ E 3 = (.pointer (some ⟨l, 0, none⟩)) ∧ E 7 = t ∧ E 8 = u ∧ E 9 = (.int .i64 G) ∧ lA 52 kK 9 t T M ∧ lA 52 kK 9 u U N ∧ ua g i m T U G = some r) lB ⟨(.slice none 0 0), ([]), [], (.slice none 0 0), ([]), [], 0, (hp w), _, (lm.refl _), (d.kG St), rfl, rfl, rfl, rfl, rfl, (lA.nil _ _ _), (lA.nil _ _ _), hm⟩ ?_)))
 rintro m E W ⟨t, T, M, u, U, N, G, s, c0, k, d, Y, Z, a2, a3, d0, a4, a5, a⟩
 cases m with
 | zero => rw [ua] at a; cases a
 | succ f0 =>
  refine bg (V (kI Y (kM d.has (Mt Mh) p rfl eJ dJ)) (Wh a3 (V (kP zJ Z) (VB d Mh rfl rfl bV (bS a fun d3 d9 a => VE (vK d call168 (EN g (.slice A1 g.kO.length c2) (.slice A3 g.lg.length c4) u U i.Name _ _ (x.mono kX.mono (k.trans d.kN)) (H.mono ma.mono (k.trans d.kN)) (a5.sl mE (fun b o h => d.at_ (Mt (Mt (Ml h))))) d9) (fun f6 q g3 c3 d Q A P => Wa (lr (V (kI Z (kM d.has (Ma Mh) a0 rfl eJ dJ)) ?_)))))))))
  refine Wh a2 (V (kP zJ Y) (VB d (Ma (Mt Mh)) rfl rfl bV (bS a fun d4 e0 a => VE (vK d call168 (EN i (.slice A7 i.kO.length c8) (.slice A9 i.lg.length L) t T g.Name _ _ (y.mono kX.mono ((k.trans Q).trans d.kN)) (I.mono ma.mono ((k.trans Q).trans d.kN)) (a4.sl mE (fun b o h => d.at_ (Ma (Mt (Mt (Ma (Ml h))))))) e0) (fun f7 a9 d6 c5 d d2 F R => Wa (lS (Wm (Wh a2 (bS a fun g0 e1 a => VE (Eg d call12 (lD.mP (BX q d3 t T _ _ (P.sl mE (fun b o h => d.at_ (Ma (Ml h)))) (a4.sl mE (fun b o h => d.at_ (Ma (Ma (Mt (Mt (Ma (Ml h)))))))) e1)) (fun f8 d => ?_)))))))))))
  refine Wm (LJ a (fun d5 E W => ∃ c1, ST false lT w W d6 ((l, Ol a0 25) :: ((n, Ol p 25) :: (c5 ++ (c3 ++ (N ++ (M ++ c1)))))) ∧ E 2 = (.pointer (some ⟨n, 0, none⟩)) ∧ E 3 = (.pointer (some ⟨l, 0, none⟩)) ∧ E 7 = t ∧ E 8 = u ∧ E 9 = (.int .i64 G) ∧ E 10 = q ∧ E 11 = a9 ∧ E 29 = (.bool d5)) 4 ?_ (fun d5 j O => ?_))
  ·rintro g2 E W ⟨c1, d, e3, e4, e5, e6, d1, e7, e8, e9⟩ z
   refine ln (CI z e9 (fun d8 z => ?_) (fun d8 z => ?_))
   ·refine sg (Wh e5 (Wh e6 (Wh d1 (Wa (Wa (Wa (ln ?_)))))))
    replace d := d.kG (Db (Db (Dr (Dr St))))
    refine lC (lL (nD (lL (nD (lL ?_)))))
    obtain rfl := sj z
    exact KC (v0 := t) (v1 := u) (v2 := (.int .i64 G)) rfl rfl rfl rfl ⟨_, _, rfl, (d.LD (Sr (Qr Qz) (Kr Sn))), t, M, u, N, rfl, rfl, a4, a5⟩
   refine kn ?_
   replace d := d.kG (Kb (Kb (Kr (Kr (Dr (Dr St))))))
   refine sg (Wh e7 (Wa (lr (Wh e8 (Wa (ln (kV (Wh d1 (Wi rfl ?_)))))))))
   exact Wa (lH (lK (kT ⟨f0, bB _, q, d3, c3, a9, d4, c5, (IntKind.i64.wrap (G + 1)), d6, _, ((k.trans Q).trans d2), (d.kG St), e3, e4, rfl, rfl, rfl, P, R, z⟩)))
  refine bC j (fun c j => ?_) (fun c j => ?_)
  ·refine ug c (kR rfl) (ug c (kR a3) (bS j fun g1 e2 j => sE c (Eg d call12 (lD.mP (BX a9 d4 u U _ _ (R.sl mE (fun b o h => d.at_ (Ml h))) (a5.sl mE (fun b o h => d.at_ (Ma (Ma (Mt (Mt (Ml h))))))) e2)) (fun f9 d => V (li (cB c) rfl) ?_))))
   obtain rfl := sj j
   exact O _ _ ⟨_, (d.kG (Sb (Pr (Pr Pz)) (Sb (Pr (Pr Pz)) St))), Y, Z, a2, a3, d0, rfl, rfl, rfl⟩
  refine un c (un c (un c (V (lj (cB c) rfl) ?_)))
  obtain rfl := sj j
  exact O _ _ ⟨_, (d.kG (Sb (Pr (Pr Pz)) (Sb (Pr (Pr Pz)) St))), Y, Z, a2, a3, d0, rfl, rfl, rfl⟩
theorem I6 (k : lI) (i x : Value) (a : lI) (j y : Value) (r : List kC) (w : World) (c : Sl kW 15 (hp w) i k.kO) (t : Sl lF 8 (hp w) x k.lg) (g : Sl kW 15 (hp w) j a.kO) (u : Sl lF 8 (hp w) y a.lg) (hm : Ba k a = some r) :
  nC false Tryz.prog 165 [(.agg #[(.string k.Name), i, x]), (.agg #[(.string a.Name), j, y])] w 50 kQ 2 r := by
 refine xg 20 func165 rfl (fun d => sg ?_)
 obtain ⟨I, N, rfl⟩ := c.form
 obtain ⟨J, Q, rfl⟩ := t.form
 refine VE (lJ d rfl (fun W6 b5 d => ?_))
 obtain ⟨K, T, rfl⟩ := g.form
 obtain ⟨M, D, rfl⟩ := u.form
 refine VE (lJ d rfl (fun b9 c5 d => Wa (lr (VA d (Mt Mh) (C4 k.Name I k.kO.length N J k.lg.length Q) eJ dJ (VA d Mh (C4 a.Name K a.kO.length T M a.lg.length D) eJ dJ (bS hm fun A Z hm => ?_))))))
 refine VE (He d (aX _) call102 (fun _ _ _ _ => (Mp k (.slice I k.kO.length N) (.slice J k.lg.length Q) a (.slice K a.kO.length T) (.slice M a.lg.length D) _ _ (c.mono kX.mono d.kN) (t.mono ma.mono d.kN) (g.mono kX.mono d.kN) (u.mono ma.mono d.kN) Z)) (fun c0 c7 d0 W d P n m U => ?_) (L0 := []))
 obtain ⟨c9, b6, L, b7, z, rfl, R, a4⟩ := U
 replace z := z.symm; subst z
 replace d := d.perm (Tr (Tr Tn))
 refine Wm (Wx rfl (Wx rfl (Wx rfl (Wa (Wa (Wa (ln ?_)))))))
 replace d := d.kG (Dr (Kr (Kb (Db St))))
 refine kY ?_
 replace d := d.drew
 have h := d.has.kG (Dr (Kb Sn))
 refine mj h lQ (X 0 rfl h (kR rfl) (X 2 rfl h (kP zJ rfl) (XH 3 rfl h (fun _ O => kI rfl (lh O Mh rfl bV)) (bS hm fun E a2 hm => XE 1 rfl (vK d call159 (nC.mP (HM L A.2.1 _ _ (a4.sl mE (fun b o l => d.at_ (Ml l))) a2)) (fun c1 F d1 b4 d B q Y => ?_))))))
 have h := d.has.qI B (Dr (Dr (Kb Sn)))
 refine ⟨h, (bS hm fun c6 a3 hm => XE 4 rfl (vK d call158 (nC.mP (Ee F E a.Name _ _ (Y.sl qU (fun b o l => d.at_ (Ml l))) a3)) (fun c3 a9 d2 a5 d H s G => ?_)))⟩
 have h := d.has.qI (B.trans H) (Dr (Dr (Dr (Kb Sn))))
 refine ⟨h, (X 5 rfl h (om rfl) (ms kr (kT ?_)))⟩
 replace d := d.kG (Kr (Dr (Dr (Db St))))
 refine lC ?_
 obtain rfl := sj hm
 exact mI (v := a9) rfl rfl ⟨_, a5, rfl, d.pn (fun p l => (Ml l)) G.nd, G⟩
theorem Il (j : lI) (y G : Value) (k : lI) (z H : Value) (a : Formula) (I : Value) (r : Bool) (w : World) (t : Sl kW 15 (hp w) y j.kO) (B : Sl lF 8 (hp w) G j.lg) (u : Sl kW 15 (hp w) z k.kO) (D : Sl lF 8 (hp w) H k.lg) (i : Sl kF 5 (hp w) I a.Kids) (hm : xX j k a = some r) :
  lD false Tryz.prog 100 [(.agg #[(.string j.Name), y, G]), (.agg #[(.string k.Name), z, H]), (.agg #[(.int .i64 a.Op), (.int .i64 a.K), (.string a.kC.kD), (.string a.kC.kJ), I])] w (.bool r) := by
 refine cG 16 func100 rfl (fun d => sg ?_)
 obtain ⟨Z, c2, rfl⟩ := t.form
 obtain ⟨A3, p, rfl⟩ := B.form
 let a2 := (C4 j.Name Z j.kO.length c2 A3 j.lg.length p)
 refine VE (lJ d rfl (fun W6 O d => ?_))
 obtain ⟨A7, q, rfl⟩ := u.form
 obtain ⟨A9, Q, rfl⟩ := D.form
 let n := (C4 k.Name A7 k.kO.length q A9 k.lg.length Q)
 refine VE (lJ d rfl (fun d2 c0 d => ?_))
 obtain ⟨J, K, rfl⟩ := i.form
 let a0 := (C2 a.Op a.K a.kC.kD a.kC.kJ J a.Kids.length K)
 refine VE (lJ d rfl (fun d3 c1 d => Wa (ln (kY ?_))))
 replace d := d.drew
 have h := d.has.kG (Kb (Kb (Kb Sn)))
 refine mj h lQ (XH 0 rfl h (fun _ l => kI rfl (kM l Mh a0 rfl aK aC)) (bS hm fun d5 L hm => XE 1 rfl (Eg d call92 (wQ a (.slice J a.Kids.length K) _ _ (i.mono kL.mono d.kN) L) (fun d4 d => ?_))))
 have h := d.has.kG (Kb (Kb (Kb Sn)))
 refine ⟨h, (X 2 rfl h (kR rfl) (PJ hm (fun Y E W => ∃ N T, lm (hp w) N ∧ ST false lT w W N ((c1, Ol a0 58) :: ((c0, Ol n 25) :: ((O, Ol a2 25) :: T))) ∧ E 6 = (.bool false) ∧ E 15 = (.bool Y)) (bm 10 511) 1 ?_ (fun Y g M => ?_)))⟩
 ·rintro d1 E W ⟨N, T, U, d, c9, F⟩ s
  have h := d.has.qI U (Kb (Kb (Kb Sn)))
  refine X 9 rfl h (om F) (ms kr (kT ?_))
  exact lC (rQ s d)
 refine bC g (fun c g => ?_) (fun c g => ?_)
 ·refine rM 3 rfl rfl (cB c) h (fun _ l => kI rfl (kM l Mh a0 rfl aK aC)) (rM 4 rfl rfl (cB c) h (fun _ l => kI rfl (kM l (Mt (Mt Mh)) a2 rfl eJ dJ)) (rM 5 rfl rfl (cB c) h (fun _ l => kI rfl (kM l (Mt Mh) n rfl eJ dJ)) (bS g fun P v g => AV 6 rfl rfl (cB c) (vK d call165 (I6 j (.slice Z j.kO.length c2) (.slice A3 j.lg.length p) k (.slice A7 k.kO.length q) (.slice A9 k.lg.length Q) _ _ (t.mono kX.mono d.kN) (B.mono ma.mono d.kN) (u.mono kX.mono d.kN) (D.mono ma.mono d.kN) v) (fun c5 R b9 c3 d x m a9 => ?_)))))
  have h := d.has.qI x (Dr (Kb (Kb (Kb Sn))))
  refine ⟨h, (bS g fun d0 A g => AV 7 rfl rfl (cB c) (Eg d call93 ((BZ lB) a (.slice J a.Kids.length K) R P _ _ (i.mono kL.mono (x.trans d.kN)) (a9.sl ya (fun b o hq => d.at_ (Ml hq))) A) (fun c6 d => ?_)))⟩
  have h := d.has.qI x (Dr (Kb (Kb (Kb Sn))))
  refine ⟨h, (X 8 rfl h (li (cB c) rfl) ?_)⟩
  obtain rfl := sj g
  refine nu kr (M _ _ ⟨b9, _, x, (d.kG (Dr St)), rfl, rfl⟩)
 refine Xn 3 rfl rfl (cB c) h (Xn 4 rfl rfl (cB c) h (Xn 5 rfl rfl (cB c) h (Xn 6 rfl rfl (cB c) h (Xn 7 rfl rfl (cB c) h (X 8 rfl h (lj (cB c) rfl) ?_)))))
 obtain rfl := sj g
 refine nu kr (M _ _ ⟨(hp w), _, (lm.refl _), (d.kG St), rfl, rfl⟩)
theorem Ar (a : mw) (x z i u j B : Value) (r : Bool) (w : World) (t : Sl kW 15 (hp w) x a.kD.kO) (y : Sl lF 8 (hp w) z a.kD.lg) (c : Sl kW 15 (hp w) i a.Client.kO) (k : Sl lF 8 (hp w) u a.Client.lg) (g : Sl kF 5 (hp w) j a.Formula.Kids) (D : Sl nW 2 (hp w) B a.Keys) (hm : uA a = some r) :
  lD false Tryz.prog 37 [(.agg #[(.string a.kD.Name), x, z, (.string a.Client.Name), i, u, (.int .i64 a.Formula.Op), (.int .i64 a.Formula.K), (.string a.Formula.kC.kD), (.string a.Formula.kC.kJ), j, (.int .i64 a.nZ), (.int .i64 a.mh.oG), (.int .i64 a.mh.oI), (.int .i64 a.my), (.int .i64 a.nx), (.int .i64 a.mU), B])] w (.bool r) := by
 refine cG 10 func37 rfl (fun b => sg ?_)
 obtain ⟨H, N, rfl⟩ := t.form
 obtain ⟨I, Q, rfl⟩ := y.form
 obtain ⟨J, T, rfl⟩ := c.form
 obtain ⟨K, U, rfl⟩ := k.form
 obtain ⟨M, G, rfl⟩ := g.form
 obtain ⟨Z, d, rfl⟩ := D.form
 refine VE (lJ b rfl (fun a2 a4 b => Wa (lr (Wf yB (VA b Mh (C4 a.kD.Name H a.kD.kO.length N I a.kD.lg.length Q) eJ dJ (Wf wF (VA b Mh (C4 a.Client.Name J a.Client.kO.length T K a.Client.lg.length U) eJ dJ (Wf Kh (VA b Mh (C2 a.Formula.Op a.Formula.K a.Formula.kC.kD a.Formula.kC.kJ M a.Formula.Kids.length G) aK aC (bS hm fun a5 Y hm => VE (Eg b call100 (Il a.kD (.slice H a.kD.kO.length N) (.slice I a.kD.lg.length Q) a.Client (.slice J a.Client.kO.length T) (.slice K a.Client.lg.length U) a.Formula (.slice M a.Formula.Kids.length G) _ _ (t.mono kX.mono b.kN) (y.mono ma.mono b.kN) (c.mono kX.mono b.kN) (k.mono ma.mono b.kN) (g.mono kL.mono b.kN) Y) (fun a3 b => Wa ?_))))))))))))
 refine ln ?_
 exact lC (rQ hm b)
theorem Ks (a : ll) (z t : Value) (c : ll) (B u : Value) (r : Bool) (w : World) (x : Sl (Pl (mK .u8)) 1 (hp w) z a.Signed.Tag) (j : Sl kF 5 (hp w) t a.kH.Kids) (y : Sl (Pl (mK .u8)) 1 (hp w) B c.Signed.Tag) (k : Sl kF 5 (hp w) u c.kH.Kids) (hm : zQ a c = some r) :
  lD false Tryz.prog 166 [(.agg #[(.int .i64 a.Signed.kE.Kind), (.string a.Signed.kE.Head.kD), (.string a.Signed.kE.Head.kJ), (.string a.Signed.kE.lZ), (.string a.Signed.kE.B.kD), (.string a.Signed.kE.B.kJ), (.string a.Signed.kE.C.kD), (.string a.Signed.kE.C.kJ), (.string a.Signed.kE.mc), z, (.int .i64 a.kH.Op), (.int .i64 a.kH.K), (.string a.kH.kC.kD), (.string a.kH.kC.kJ), t]), (.agg #[(.int .i64 c.Signed.kE.Kind), (.string c.Signed.kE.Head.kD), (.string c.Signed.kE.Head.kJ), (.string c.Signed.kE.lZ), (.string c.Signed.kE.B.kD), (.string c.Signed.kE.B.kJ), (.string c.Signed.kE.C.kD), (.string c.Signed.kE.C.kJ), (.string c.Signed.kE.mc), B, (.int .i64 c.kH.Op), (.int .i64 c.kH.K), (.string c.kH.kC.kD), (.string c.kH.kC.kJ), u])] w (.bool r) := by
 refine cG 30 func166 rfl (fun b => sg ?_)
 obtain ⟨A1, c2, rfl⟩ := x.form
 obtain ⟨K, N, rfl⟩ := j.form
 refine VE (lJ b rfl (fun W6 d b => ?_))
 obtain ⟨A7, p, rfl⟩ := y.form
 obtain ⟨M, H, rfl⟩ := k.form
 refine VE (lJ b rfl (fun q U b => Wa (lr (Wf wJ (Wf yw (VA b (Mt Mh) (kK a.Signed.kE) bW aO (Wf wJ (Wf yw (VA b Mh (kK c.Signed.kE) bW aO (V (uU rfl rfl (ob fJ) (qW (vI _ a.Signed.kE c.Signed.kE))) (Wm (LJ hm (fun a2 E W => ∃ Q, ST false lT w W (hp w) ((U, Ol (C3 c.Signed.kE.Kind c.Signed.kE.Head.kD c.Signed.kE.Head.kJ c.Signed.kE.lZ c.Signed.kE.B.kD c.Signed.kE.B.kJ c.Signed.kE.C.kD c.Signed.kE.C.kJ c.Signed.kE.mc A7 c.Signed.Tag.length p c.kH.Op c.kH.K c.kH.kC.kD c.kH.kC.kJ M c.kH.Kids.length H) 60) :: ((d, Ol (C3 a.Signed.kE.Kind a.Signed.kE.Head.kD a.Signed.kE.Head.kJ a.Signed.kE.lZ a.Signed.kE.B.kD a.Signed.kE.B.kJ a.Signed.kE.C.kD a.Signed.kE.C.kJ a.Signed.kE.mc A1 a.Signed.Tag.length c2 a.kH.Op a.kH.K a.kH.kC.kD a.kH.kC.kJ K a.kH.Kids.length N) 60) :: Q)) ∧ E 2 = (.pointer (some ⟨d, 0, none⟩)) ∧ E 3 = (.pointer (some ⟨U, 0, none⟩)) ∧ E 4 = (.bool false) ∧ E 22 = (.bool a2)) 10 ?_ (fun a2 G J => ?_)))))))))))))
 ·rintro c1 E W ⟨Q, b, h, l, Y, m⟩ a3
  refine Wh m (LJ a3 (fun Z E W => ∃ T, ST false lT w W (hp w) T ∧ E 4 = (.bool false) ∧ E 29 = (.bool Z)) 6 ?_ (fun Z D I => ?_))
  ·rintro F E W ⟨T, b, v, n⟩ a4
   exact Wg n (lt (rQ a4 b))
  refine bC D (fun i D => ?_) (fun i D => ?_)
  ·refine ug i (kP E7 h) (ug i (kI rfl (kM b.has (Mt Mh) (C2 a.kH.Op a.kH.K a.kH.kC.kD a.kH.kC.kJ K a.kH.Kids.length N) rfl aK aC)) (ug i (kP E7 l) (ug i (kI rfl (kM b.has Mh (C2 c.kH.Op c.kH.K c.kH.kC.kD c.kH.kC.kJ M c.kH.Kids.length H) rfl aK aC)) (bS D fun A a5 D => sE i (Eg b call167 ((zP lB) a.kH (.slice K a.kH.Kids.length N) c.kH (.slice M c.kH.Kids.length H) _ _ (j.mono kL.mono b.kN) (k.mono kL.mono b.kN) a5) (fun s b => V (li (cB i) rfl) ?_))))))
   obtain rfl := sj D
   exact I _ _ ⟨_, (b.kG (Db (Db St))), Y, rfl⟩
  refine un i (un i (un i (un i (un i (V (lj (cB i) rfl) ?_)))))
  obtain rfl := sj D
  exact I _ _ ⟨_, (b.kG (Db (Db St))), Y, rfl⟩
 refine bC G (fun g G => ?_) (fun g G => ?_)
 ·refine ug g (kP wJ rfl) (ug g (kP J0 rfl) (ug g (kI rfl (lh b.has (Mt Mh) rfl kl)) (ug g (FB cV gH cE rfl (x.mono (Pl.mono _) b.kN)) (ug g (kP wJ rfl) (ug g (kP J0 rfl) (ug g (kI rfl (lh b.has Mh rfl kl)) (ug g (FB cV gH cE rfl (y.mono (Pl.mono _) b.kN)) (ug g (rK rfl rfl rfl) (V (li (cB g) rfl) ?_)))))))))
  obtain rfl := sj G
  exact J _ _ ⟨_, (b.kG St), rfl, rfl, rfl, rfl⟩
 refine un g (un g (un g (un g (un g (un g (un g (un g (un g (V (lj (cB g) rfl) ?_)))))))))
 obtain rfl := sj G
 exact J _ _ ⟨_, (b.kG St), rfl, rfl, rfl, rfl⟩
set_option maxHeartbeats 1000000 in
theorem E5 (x : lI) (a2 a4 : Value) (B : lI) (a3 a5 : Value) (r : Bool) (w : World) (y : Sl kW 15 (hp w) a2 x.kO) (D : Sl lF 8 (hp w) a4 x.lg) (I : Sl kW 15 (hp w) a3 B.kO) (K : Sl lF 8 (hp w) a5 B.lg) (hm : xu x B = some r) :
  lD false Tryz.prog 101 [(.agg #[(.string x.Name), a2, a4]), (.agg #[(.string B.Name), a3, a5])] w (.bool r) := by
 refine cG 89 func101 rfl (fun b => sg ?_)
 obtain ⟨A1, c2, rfl⟩ := y.form
 obtain ⟨A3, c4, rfl⟩ := D.form
 let d7 := (C4 x.Name A1 x.kO.length c2 A3 x.lg.length c4)
 refine VE (lJ b rfl (fun W6 m b => ?_))
 obtain ⟨A7, c8, rfl⟩ := I.form
 obtain ⟨A9, b3, rfl⟩ := K.form
 let d6 := (C4 B.Name A7 B.kO.length c8 A9 B.lg.length b3)
 refine VE (lJ b rfl (fun n2 J b => Wa (lS (Wf zJ (VB b (Mt Mh) rfl rfl bV (Wf zJ (VB b Mh rfl rfl bV (V (rK rfl rfl rfl) (Wm (LJ hm (fun f4 E W => ∃ j8, ST false lT w W (hp w) ((J, Ol d6 25) :: ((m, Ol d7 25) :: j8)) ∧ E 2 = (.pointer (some ⟨m, 0, none⟩)) ∧ E 3 = (.pointer (some ⟨J, 0, none⟩)) ∧ E 22 = (.bool f4)) 8 ?_ (fun f4 Q c1 => ?_)))))))))))
 ·let d5 : Value := (.pointer (some ⟨J, 0, none⟩))
  let d4 : Value := (.pointer (some ⟨m, 0, none⟩))
  let s := (d7.toArray : Array Value)
  let a0 := (d6.toArray : Array Value)
  rintro n3 E W ⟨j8, b, f6, f7, k8⟩ k2
  refine Wh k8 (LJ k2 (fun f3 E W => ∃ j9, ST false lT w W (hp w) ((J, Obj.cells a0 25 (0, 0)) :: ((m, Obj.cells s 25 (0, 0)) :: j9)) ∧ E 2 = d4 ∧ E 3 = d5 ∧ E 31 = (.bool f3)) 8 ?_ (fun f3 N c0 => ?_))
  ·rintro n4 E W ⟨j9, b, k0, k9, l0⟩ A
   refine ln (CI A l0 (fun k1 A => ?_) (fun k1 A => ?_))
   ·refine sg (Wa (ln ?_))
    replace b := b.kG (Db (Db St))
    refine lC (lL ?_)
    obtain rfl := sj A
    exact rP b
   refine kS (V (kP oS k0) (VB b (Mt Mh) rfl rfl eX (V (mi bL rfl y) (Wm (ln (mf (fun i E W => ∃ d8, (E 35 = .int .i64 (i : Nat) ∧ E 34 = .int .i64 (x.kO.length : Nat)) ∧ ST false lT w W (hp w) ((J, Obj.cells a0 25 (0, 0)) :: ((m, Obj.cells s 25 (0, 0)) :: d8)) ∧ E 2 = d4 ∧ E 3 = d5 ∧ tI B x (x.kO.drop i) i = some r) x.kO.length y.len ⟨_, ⟨rfl, rfl⟩, (b.kG St), k0, k9, A⟩ dc dc dc (fun _ _ _ h => by obtain ⟨_, p, _⟩ := h; exact p) ?_ ?_))))))
   ·rintro g4 E W h9 ⟨d8, ⟨n, q⟩, b, v, P, k⟩
    obtain ⟨g8, m6, j3, j0, j4⟩ := lX h9
    rw [j3] at k
    refine bg (Wh n (Wa (ln (kY ?_))))
    replace b := b.drew
    have d := b.has.kG (Kb (Kb Sn))
    refine mj d lQ (X 0 rfl d (kP oS v) (XH 1 rfl d (fun _ l => kI rfl (lh l (Mt Mh) rfl eX)) (X 2 rfl d (kR rfl) (XQ 3 rfl d (mT (i := (g4 : Int)) (x0 := g8) kW.out bL cR rfl rfl y (aH _) j0) (fun m9 ⟨_, ⟨k3, k4, rfl, i6, i7⟩, i3⟩ => XH 4 rfl d (fun _ l => kI rfl (lz l i3 iU cR)) (X 5 rfl d (kP oS P) (XH 6 rfl d (fun _ l => kI rfl (lh l Mh rfl eX)) (X 7 rfl d (kR rfl) (bS k fun g9 f0 k => XQ 8 rfl d (mT (i := (g4 : Int)) (x0 := g9) kW.out bL cR rfl rfl I (lN f0) (lM f0)) (fun n0 ⟨_, ⟨k5, k6, rfl, i8, i9⟩, i4⟩ => XH 9 rfl d (fun _ l => kI rfl (lz l i4 iU cR)) (bS k fun n1 i5 k => XE 10 rfl (Eg b call166 (Ks g8 k3 k4 g9 k5 k6 _ _ (i6.mono (Pl.mono _) b.kN) (i7.mono kL.mono b.kN) (i8.mono (Pl.mono _) b.kN) (i9.mono kL.mono b.kN) i5) (fun m8 b => ?_)))))))))))))
    have d := b.has.kG (Kb (Kb Sn))
    refine ⟨d, (X 11 rfl d (ot rfl) (ms kr (kT (CI k rfl (fun h8 k => ?_) (fun h8 k => ?_)))))⟩
    ·refine sg (Wa (ln ?_))
     replace b := b.kG (Db (Db St))
     refine lC (nD (lL (nD (lL ?_))))
     obtain rfl := sj k
     exact rP b
    exact mr (lK (kT ⟨n, _, ⟨rfl, q⟩, (b.kG St), v, P, (by rw [j4]; exact k)⟩))
   rintro E W ⟨d8, ⟨n, q⟩, b, v, P, k⟩
   rw [aI] at k
   refine kT (kY (sg (V (kP AS v) (VB b (Mt Mh) rfl rfl kk (V (mi cX rfl D) (Wm (ln (Sg k (fun g7 E W => ∃ f5, ST false lT w W (hp w) f5) (fun g7 i2 c6 => ?_) ?_))))))))
   ·refine mf (fun i E W => ∃ c3, (E 54 = .int .i64 (i : Nat) ∧ E 53 = .int .i64 (x.lg.length : Nat)) ∧ ST false lT w W (hp w) ((J, Obj.cells a0 25 (0, 0)) :: ((m, Obj.cells s 25 (0, 0)) :: c3)) ∧ E 2 = d4 ∧ E 3 = d5 ∧ tQ B (x.lg.drop i) i = some g7) x.lg.length D.len ⟨_, ⟨rfl, rfl⟩, (b.kG St), v, P, i2⟩ dc dc dc (fun _ _ _ h => by obtain ⟨_, p, _⟩ := h; exact p) ?_ ?_
    ·rintro R E W i0 ⟨c3, ⟨n, q⟩, b, L, O, z⟩
     obtain ⟨c, m7, j6, j5, j7⟩ := lX i0
     rw [j6] at z
     refine bg (Wh n (Wa (ln (kY ?_))))
     replace b := b.drew
     have d := b.has.kG (Kb (Kb Sn))
     refine mj d lQ (X 0 rfl d (kP AS L) (XH 1 rfl d (fun _ l => kI rfl (lh l (Mt Mh) rfl kk)) (X 2 rfl d (kR rfl) (XQ 3 rfl d (mT (i := (R : Int)) (x0 := c) lF.out cX dW rfl rfl D (aH _) j5) (fun l6 ⟨_, ⟨m0, m1, rfl, c9, d0⟩, g0⟩ => XH 4 rfl d (fun _ l => kI rfl (lz l g0 jR dW)) (X 5 rfl d (kP AS O) (XH 6 rfl d (fun _ l => kI rfl (lh l Mh rfl kk)) (X 7 rfl d (kR rfl) (bS z fun a d3 z => XQ 8 rfl d (mT (i := (R : Int)) (x0 := a) lF.out cX dW rfl rfl K (lN d3) (lM d3)) (fun l7 ⟨_, ⟨m2, m3, rfl, d1, d2⟩, g1⟩ => XH 9 rfl d (fun _ l => kI rfl (lz l g1 jR dW)) (NE 10 11 rfl rfl kr kr kr dc dc rfl rfl b iD iD (fun W F => (F.kG (Kb (Kb Sn)))) (fun W F => (F.kG (Kb (Kb Sn)))) (fun W F => (F.kG (Kb (Kb Sn)))) (fun l1 e4 e5 b => ?_))))))))))))
     obtain ⟨T, Y, rfl⟩ := c9.form
     obtain ⟨a7, a9, rfl⟩ := d0.form
     let a6 := (C7 c.kC.kD c.kC.kJ c.kH.Op c.kH.K c.kH.kC.kD c.kH.kC.kJ T c.kH.Kids.length Y a7 c.na.length a9)
     refine XO 12 rfl (lf (.agg a6.toArray) (a6.toArray) b rfl rfl dW oc nb rfl (fun l2 b => ?_))
     have d := b.has.kG (Db (Db (Kb (Kb Sn))))
     refine ⟨d, ?_⟩
     obtain ⟨U, Z, rfl⟩ := d1.form
     obtain ⟨a8, b0, rfl⟩ := d2.form
     let b8 := (C7 a.kC.kD a.kC.kJ a.kH.Op a.kH.K a.kH.kC.kD a.kH.kC.kJ U a.kH.Kids.length Z a8 a.na.length b0)
     replace b := b.perm (Nb (Pb Pz) Nz)
     refine XO 13 rfl (lf (.agg b8.toArray) (b8.toArray) b rfl rfl dW oc nb rfl (fun l3 b => ?_))
     have d := b.has.kG (Db (Db (Kb (Kb Sn))))
     refine ⟨d, (ms kr (kT (sg (Wf GX (VA b (Mt Mh) (kQ c.kC) bG aR (Wf GX (VA b Mh (kQ a.kC) bG aR (V (FG rfl rfl (ob eL) (Bx (qb _ c.kC a.kC))) (Wm (LJ z (fun f2 E W => ∃ e2, ST false lT w W (hp w) ((e5, Ol b8 87) :: ((e4, Ol a6 87) :: ((J, Obj.cells a0 25 (0, 0)) :: ((m, Obj.cells s 25 (0, 0)) :: e2)))) ∧ E 2 = d4 ∧ E 3 = d5 ∧ E 7 = (.pointer (some ⟨e4, 0, none⟩)) ∧ E 8 = (.pointer (some ⟨e5, 0, none⟩)) ∧ E 53 = (.int .i64 (x.lg.length : Int)) ∧ E 54 = (.int .i64 (R : Int)) ∧ E 79 = (.bool f2)) 7 ?_ (fun f2 H b9 => ?_)))))))))))⟩
     ·rintro m4 E W ⟨e2, b, e6, e7, h0, h1, e8, e9, h2⟩ f9
      refine Wh h2 (LJ f9 (fun f1 E W => ∃ e3, ST false lT w W (hp w) ((J, Obj.cells a0 25 (0, 0)) :: ((m, Obj.cells s 25 (0, 0)) :: e3)) ∧ E 2 = d4 ∧ E 3 = d5 ∧ E 53 = (.int .i64 (x.lg.length : Int)) ∧ E 54 = (.int .i64 (R : Int)) ∧ E 87 = (.bool f1)) 7 ?_ (fun f1 G b7 => ?_))
      ·rintro m5 E W ⟨e3, b, h3, h4, h5, h6, h7⟩ M
       refine ln (CI M h7 (fun f8 M => ?_) (fun f8 M => ?_))
       ·refine sg (Wa (ln ?_))
        replace b := b.kG (Db (Db St))
        refine lC (nD (lL (nD (lL ?_))))
        obtain rfl := sj M
        replace c6 : some false = some r := c6
        obtain rfl := sj c6
        exact rP b
       exact mr (lK (kT ⟨h6, _, ⟨rfl, h5⟩, (b.kG St), h3, h4, (by rw [j7]; exact M)⟩))
      refine bC G (fun j G => ?_) (fun j G => ?_)
      ·refine un j (un j (un j (un j (un j (un j (V (li (cB j) rfl) ?_))))))
       obtain rfl := sj G
       exact b7 _ _ ⟨_, (b.kG (Db (Db St))), e6, e7, e8, e9, rfl⟩
      refine ug j (kP Fm h0) (ug j (kI rfl (lh b.has (Mt Mh) rfl kB)) (ug j (kP Fm h1) (ug j (kI rfl (lh b.has Mh rfl kB)) (bS G fun l8 g2 G => sE j (Eg b call12 (lD.mP (BX (.slice a7 c.na.length a9) c.na (.slice a8 a.na.length b0) a.na _ _ (d0.mono (Pl.mono _) b.kN) (d2.mono (Pl.mono _) b.kN) g2)) (fun l4 b => ug j (ot rfl) (V (lj (cB j) rfl) ?_)))))))
      obtain rfl := sj G
      exact b7 _ _ ⟨_, (b.kG (Db (Db St))), e6, e7, e8, e9, rfl⟩
     refine bC H (fun g H => ?_) (fun g H => ?_)
     ·refine un g (un g (un g (un g (un g (un g (V (li (cB g) rfl) ?_))))))
      obtain rfl := sj H
      exact b9 _ _ ⟨_, (b.kG St), L, O, rfl, rfl, q, n, rfl⟩
     refine ug g (kP Fk rfl) (ug g (kI rfl (kM b.has (Mt Mh) (C2 c.kH.Op c.kH.K c.kH.kC.kD c.kH.kC.kJ T c.kH.Kids.length Y) rfl aK aC)) (ug g (kP Fk rfl) (ug g (kI rfl (kM b.has Mh (C2 a.kH.Op a.kH.K a.kH.kC.kD a.kH.kC.kJ U a.kH.Kids.length Z) rfl aK aC)) (bS H fun l9 g3 H => sE g (Eg b call167 ((zP lB) c.kH (.slice T c.kH.Kids.length Y) a.kH (.slice U a.kH.Kids.length Z) _ _ (c9.mono kL.mono b.kN) (d1.mono kL.mono b.kN) g3) (fun l5 b => ug g (ot rfl) (V (lj (cB g) rfl) ?_)))))))
     obtain rfl := sj H
     exact b9 _ _ ⟨_, (b.kG St), L, O, rfl, rfl, q, n, rfl⟩
    rintro E W ⟨c3, ⟨n, q⟩, b, L, O, z⟩
    rw [aI] at z
    refine kT ?_
    obtain rfl := sj z
    exact ⟨_, rfl, _, (b.kG (Db (Db St)))⟩
   rintro ⟨⟩ E W ⟨f5, b⟩ i1
   exact sg (Wa (lt (rQ i1 b)))
  refine bC N (fun u N => ?_) (fun u N => ?_)
  ·refine un u (un u (un u (un u (un u (un u (un u (V (li (cB u) rfl) ?_)))))))
   obtain rfl := sj N
   exact c0 _ _ ⟨_, (b.kG St), f6, f7, rfl⟩
  refine ug u (kP AS f6) (ug u (kI rfl (lh b.has (Mt Mh) rfl kk)) (ug u (mi cX rfl D) (ug u (kP AS f7) (ug u (kI rfl (lh b.has Mh rfl kk)) (ug u (mi cX rfl K) (ug u (lR rfl rfl rfl) (V (lj (cB u) rfl) ?_)))))))
  obtain rfl := sj N
  exact c0 _ _ ⟨_, (b.kG St), f6, f7, rfl⟩
 refine bC Q (fun t Q => ?_) (fun t Q => ?_)
 ·refine un t (un t (un t (un t (un t (un t (un t (V (li (cB t) rfl) ?_)))))))
  obtain rfl := sj Q
  exact c1 _ _ ⟨_, (b.kG St), rfl, rfl, rfl⟩
 refine ug t (kP oS rfl) (ug t (kI rfl (lh b.has (Mt Mh) rfl eX)) (ug t (mi bL rfl y) (ug t (kP oS rfl) (ug t (kI rfl (lh b.has Mh rfl eX)) (ug t (mi bL rfl I) (ug t (lR rfl rfl rfl) (V (lj (cB t) rfl) ?_)))))))
 obtain rfl := sj Q
 exact c1 _ _ ⟨_, (b.kG St), rfl, rfl, rfl⟩
theorem EB (a : mw) (H N k G t Z : Value) (c : mw) (J Q u I x a2 : Value) (r : Bool) (w : World) (z : Sl kW 15 (hp w) H a.kD.kO) (K : Sl lF 8 (hp w) N a.kD.lg) (i : Sl kW 15 (hp w) k a.Client.kO) (y : Sl lF 8 (hp w) G a.Client.lg) (T : Sl kF 5 (hp w) t a.Formula.Kids) (a3 : Sl nW 2 (hp w) Z a.Keys) (D : Sl kW 15 (hp w) J c.kD.kO) (M : Sl lF 8 (hp w) Q c.kD.lg) (j : Sl kW 15 (hp w) u c.Client.kO) (B : Sl lF 8 (hp w) I c.Client.lg) (U : Sl kF 5 (hp w) x c.Formula.Kids) (a4 : Sl nW 2 (hp w) a2 c.Keys) (hm : xK a c = some r) :
  lD false Tryz.prog 38 [(.agg #[(.string a.kD.Name), H, N, (.string a.Client.Name), k, G, (.int .i64 a.Formula.Op), (.int .i64 a.Formula.K), (.string a.Formula.kC.kD), (.string a.Formula.kC.kJ), t, (.int .i64 a.nZ), (.int .i64 a.mh.oG), (.int .i64 a.mh.oI), (.int .i64 a.my), (.int .i64 a.nx), (.int .i64 a.mU), Z]), (.agg #[(.string c.kD.Name), J, Q, (.string c.Client.Name), u, I, (.int .i64 c.Formula.Op), (.int .i64 c.Formula.K), (.string c.Formula.kC.kD), (.string c.Formula.kC.kJ), x, (.int .i64 c.nZ), (.int .i64 c.mh.oG), (.int .i64 c.mh.oI), (.int .i64 c.my), (.int .i64 c.nx), (.int .i64 c.mU), a2])] w (.bool r) := by
 refine cG 17 func38 rfl (fun b => sg ?_)
 obtain ⟨A1, c2, rfl⟩ := z.form
 obtain ⟨A3, A, rfl⟩ := K.form
 obtain ⟨A5, F, rfl⟩ := i.form
 obtain ⟨A7, L, rfl⟩ := y.form
 obtain ⟨A9, d5, rfl⟩ := T.form
 obtain ⟨d2, d6, rfl⟩ := a3.form
 refine VE (lJ b rfl (fun P e5 b => ?_))
 obtain ⟨d, m, rfl⟩ := D.form
 obtain ⟨h, n, rfl⟩ := M.form
 obtain ⟨l, p, rfl⟩ := j.form
 obtain ⟨a9, q, rfl⟩ := B.form
 obtain ⟨d3, d7, rfl⟩ := U.form
 obtain ⟨d4, d8, rfl⟩ := a4.form
 refine VE (lJ b rfl (fun R e6 b => Wa (lr (Wf yB (VA b (Mt Mh) (C4 a.kD.Name A1 a.kD.kO.length c2 A3 a.kD.lg.length A) eJ dJ (Wf yB (VA b Mh (C4 c.kD.Name d c.kD.kO.length m h c.kD.lg.length n) eJ dJ (bS hm fun e8 d0 hm => VE (Eg b call101 (E5 a.kD (.slice A1 a.kD.kO.length c2) (.slice A3 a.kD.lg.length A) c.kD (.slice d c.kD.kO.length m) (.slice h c.kD.lg.length n) _ _ (z.mono kX.mono b.kN) (K.mono ma.mono b.kN) (D.mono kX.mono b.kN) (M.mono ma.mono b.kN) d0) (fun e3 b => Wm (LJ hm (fun v E W => ∃ s, ST false lT w W (hp w) s ∧ E 4 = (.bool false) ∧ E 16 = (.bool v)) 6 ?_ (fun v Y a5 => ?_))))))))))))
 ·rintro f0 E W ⟨s, b, e7, d9⟩ O
  exact Wg d9 (lt (rQ O b))
 refine bC Y (fun g Y => ?_) (fun g Y => ?_)
 ·refine ug g (kP wF rfl) (ug g (kI rfl (kM b.has (Mt Mh) (C4 a.Client.Name A5 a.Client.kO.length F A7 a.Client.lg.length L) rfl eJ dJ)) (ug g (kP wF rfl) (ug g (kI rfl (kM b.has Mh (C4 c.Client.Name l c.Client.kO.length p a9 c.Client.lg.length q) rfl eJ dJ)) (bS Y fun e9 d1 Y => sE g (Eg b call101 (E5 a.Client (.slice A5 a.Client.kO.length F) (.slice A7 a.Client.lg.length L) c.Client (.slice l c.Client.kO.length p) (.slice a9 c.Client.lg.length q) _ _ (i.mono kX.mono b.kN) (y.mono ma.mono b.kN) (j.mono kX.mono b.kN) (B.mono ma.mono b.kN) d1) (fun e4 b => V (li (cB g) rfl) ?_))))))
  obtain rfl := sj Y
  exact a5 _ _ ⟨_, (b.kG (Db (Db St))), rfl, rfl⟩
 refine un g (un g (un g (un g (un g (V (lj (cB g) rfl) ?_)))))
 obtain rfl := sj Y
 exact a5 _ _ ⟨_, (b.kG (Db (Db St))), rfl, rfl⟩
theorem FY (K : Value) (Q : List ll) (Z : Int) (r : List ll) (w : World) {Y : lO} (h0 : ox Y [] w) (J : Sl kW 15 Y K Q) (hm : yE Q Z = some r) :
  mo true Tryz.prog 105 [K, (.int .i64 Z)] w Y [] (fun v L1 μ1 => ∃ q, v = q ∧ L1 = [] ∧ Sl kW 15 μ1 q (r)) := by
 refine sF h0 24 func105 rfl (fun b => sg (Wa (lr (Wa (lS (Wm ?_))))))
 refine V (mi bL rfl J) (Wm (ln (mf (fun i E W => ∃ u z x I, (E 10 = .int .i64 (i : Nat) ∧ E 9 = .int .i64 (Q.length : Nat)) ∧ ST true (keys []) w W Y (x ++ I) ∧ E 1 = (.int .i64 Z) ∧ E 5 = u ∧ E 8 = K ∧ lW 60 kW 15 Y u z x ∧ sU Z (Q.drop i) i z = some r) Q.length J.len ⟨(.slice none 0 0), ([]), [], _, ⟨rfl, rfl⟩, (b.kG St), rfl, rfl, rfl, (lW.nil _ _ _ _), hm⟩ dc dc dc (fun _ _ _ h => by obtain ⟨_, _, _, _, n, _⟩ := h; exact n) ?_ ?_)))
 ·rintro R E W F ⟨u, z, x, I, ⟨m, p⟩, b, D, G, H, y, c⟩
  obtain ⟨a, c7, L, a9, U⟩ := lX F
  rw [L] at c
  refine bg (Wh m (VQ (mT (i := (R : Int)) (x0 := a) kW.out bL cR H m J (aH _) a9) (fun c4 ⟨_, ⟨c5, c6, rfl, M, N⟩, a5⟩ => V (kI rfl (lz b.has a5 iU cR)) (VE (lG b eE (fun b6 c1 b => Wa ?_))))))
  obtain ⟨g, k, rfl⟩ := M.form
  obtain ⟨j, t, rfl⟩ := N.form
  let a0 := (C3 a.Signed.kE.Kind a.Signed.kE.Head.kD a.Signed.kE.Head.kJ a.Signed.kE.lZ a.Signed.kE.B.kD a.Signed.kE.B.kJ a.Signed.kE.C.kD a.Signed.kE.C.kJ a.Signed.kE.mc g a.Signed.Tag.length k a.kH.Op a.kH.K a.kH.kC.kD a.kH.kC.kJ j a.kH.Kids.length t)
  refine VO (lf (.agg a0.toArray) (a0.toArray) b rfl rfl cR oc nb rfl (fun b7 b => lr (Wm (Wh D (Wi rfl (ln (CI c rfl (fun a3 c => ?_) (fun a3 c => ?_))))))))
  ·refine kV (Wh G (VA b Mh a0 iU cR (VE (lE (cs := a0.toArray) b (np rfl) (nq bL cR eE) (fun b9 c2 b => ?_)))))
   replace b := b.perm (Nr (Qb (Qb Qz)) Nz)
   refine bS c fun O a4 c => VE (pQ (B := x) kX b dc bL yD.1 yD.2.1 rfl yD.2.2.1 yD.2.2.2 rfl rfl y (xG.lit kX (l := [a]) (.cons (ys := C3 a.Signed.kE.Kind a.Signed.kE.Head.kD a.Signed.kE.Head.kJ a.Signed.kE.lZ a.Signed.kE.B.kD a.Signed.kE.B.kJ a.Signed.kE.C.kD a.Signed.kE.C.kJ a.Signed.kE.mc g a.Signed.Tag.length k a.kH.Op a.kH.K a.kH.kC.kD a.kH.kC.kJ j a.kH.Kids.length t) (kW.mk ⟨(.slice g a.Signed.Tag.length k), (.slice j a.kH.Kids.length t), rfl, M, N⟩) .nil) rfl nb (b.at_ (Ma Mh))) a4 (fun c0 P A b a2 => Wa (lH (lK (kT ?_)))))
   replace b := b.kG (Kr (Db (Db St)))
   exact ⟨m, P, O, A, _, ⟨rfl, p⟩, (b.kG St), D, rfl, H, a2, (by rw [U]; exact c)⟩
  refine mr (lK (kT ?_))
  replace b := b.kG (Db St)
  exact ⟨m, u, z, x, _, ⟨rfl, p⟩, (b.kG St), D, G, H, y, (by rw [U]; exact c)⟩
 rintro E W ⟨u, z, x, I, ⟨m, p⟩, b, D, G, H, y, c⟩
 rw [aI] at c
 refine kT (sg (Wh G (Wa (lt ?_))))
 obtain rfl := sj c
 refine mI (v := u) rfl rfl ?_
 obtain ⟨c9, b, T, d, s⟩ := ST.tE kX b y
 exact ⟨_, _, _, rfl, (b.mW Sn), T, d, (ST.lU b (nn.mem Sn)), u, rfl, rfl, s⟩
theorem zq (a : mw) (x z j u k N : Value) (P a2 : Int) (r : mw) (w : World) {μ0 : lO} (h0 : ox μ0 [] w) (g : Sl kW 15 μ0 x a.kD.kO) (y : Sl lF 8 μ0 z a.kD.lg) (c : Sl kW 15 μ0 j a.Client.kO) (t : Sl lF 8 μ0 u a.Client.lg) (i : Sl kF 5 μ0 k a.Formula.Kids) (M : Sl nW 2 μ0 N a.Keys) (hm : uS a P a2 = some r) :
  mo true Tryz.prog 45 [(.agg #[(.string a.kD.Name), x, z, (.string a.Client.Name), j, u, (.int .i64 a.Formula.Op), (.int .i64 a.Formula.K), (.string a.Formula.kC.kD), (.string a.Formula.kC.kJ), k, (.int .i64 a.nZ), (.int .i64 a.mh.oG), (.int .i64 a.mh.oI), (.int .i64 a.my), (.int .i64 a.nx), (.int .i64 a.mU), N]), (.int .i64 P), (.int .i64 a2)] w μ0 [] (fun v L1 μ1 => ∃ y1 y3 y5 y7 y9 e8, v = (.agg #[(.string (((r).kD).Name)), y1, y3, (.string (((r).Client).Name)), y5, y7, (.int .i64 (((r).Formula).Op)), (.int .i64 (((r).Formula).K)), (.string ((((r).Formula).kC).kD)), (.string ((((r).Formula).kC).kJ)), y9, (.int .i64 ((r).nZ)), (.int .i64 (((r).mh).oG)), (.int .i64 (((r).mh).oI)), (.int .i64 ((r).my)), (.int .i64 ((r).nx)), (.int .i64 ((r).mU)), e8]) ∧ L1 = [] ∧ Sl kW 15 μ1 y1 (((r).kD).kO) ∧ Sl lF 8 μ1 y3 (((r).kD).lg) ∧ Sl kW 15 μ1 y5 (((r).Client).kO) ∧ Sl lF 8 μ1 y7 (((r).Client).lg) ∧ Sl kF 5 μ1 y9 (((r).Formula).Kids) ∧ Sl nW 2 μ1 e8 ((r).Keys)) := by
 let g5 : Value := (.int .i64 a.nZ)
 let g4 : Value := (.int .i64 a.nx)
 let g3 : Value := (.int .i64 a.mU)
 let g2 : Value := (.int .i64 a.my)
 let f2 : Value := (.string a.kD.Name)
 let f1 : Value := (.int .i64 a.mh.oI)
 let f0 : Value := (.int .i64 a.mh.oG)
 let O : Value := (.int .i64 a.Formula.K)
 let d9 : Value := (.string a.Client.Name)
 let d2 : Value := (.int .i64 a.Formula.Op)
 let L : Value := (.string a.Formula.kC.kJ)
 let F : Value := (.string a.Formula.kC.kD)
 refine sF h0 26 func45 rfl (fun b => sg ?_)
 obtain ⟨A1, c2, rfl⟩ := g.form
 obtain ⟨T, Z, rfl⟩ := y.form
 let b8 : Value := (.slice T a.kD.lg.length Z)
 obtain ⟨A5, c6, rfl⟩ := c.form
 let d1 : Value := (.slice A5 a.Client.kO.length c6)
 obtain ⟨U, c8, rfl⟩ := t.form
 let a3 : Value := (.slice U a.Client.lg.length c8)
 obtain ⟨Y, G, rfl⟩ := i.form
 let a4 : Value := (.slice Y a.Formula.Kids.length G)
 obtain ⟨D, H, rfl⟩ := M.form
 let l : Value := (.slice D a.Keys.length H)
 refine VE (lJ b rfl (fun i0 q b => VE (lG b eK (fun i1 s b => ln (kY (CJ hm (fun e7 E W => ∃ a5 Q e2, lm μ0 Q ∧ Lo (keys []) w μ0 Q ∧ ST true (keys []) w W Q ((s, Ol C6 93) :: ((q, Ob #[f2, a5, b8, d9, d1, a3, d2, O, F, L, a4, g5, f0, f1, g2, g4, g3, l] 93) :: e2)) ∧ E 1 = (.int .i64 P) ∧ E 2 = (.int .i64 a2) ∧ E 3 = (.pointer (some ⟨q, 0, none⟩)) ∧ E 6 = (.pointer (some ⟨s, 0, none⟩)) ∧ Sl kW 15 Q a5 e7) (fun e7 K => ?_) ?_))))))
 ·refine sg (Wm (Wi rfl (ln (CI K rfl (fun f4 K => ?_) (fun f4 K => ?_)))))
  ·refine kV (Wf yB (Wf oS (VB b (Mt Mh) rfl rfl eX (Wm (bS K fun b7 e1 K => ?_)))))
   refine VE (eD b (aX _) call105 (fun hh => (FY (.slice A1 a.kD.kO.length c2) a.kD.kO a2 _ _ hh (g.mono kX.mono (lm.refl _)) e1)) ?_ (L0 := []))
   rintro _ h7 f8 h3 b d4 d ⟨h8, a6, rfl, c3⟩
   obtain rfl := a6.symm
   refine Wf yB (Wf oS ?_)
   obtain ⟨R, b5, rfl⟩ := c3.form
   replace b := b.perm (Nb (Pb Pz) Nz)
   refine VO (lf (.slice R b7.length b5) ((C1 a.kD.Name R b7.length b5 T a.kD.lg.length Z a.Client.Name A5 a.Client.kO.length c6 U a.Client.lg.length c8 a.Formula.Op a.Formula.K a.Formula.kC.kD a.Formula.kC.kJ Y a.Formula.Kids.length G a.nZ a.mh.oG a.mh.oI a.my a.nx a.mU D a.Keys.length H).toArray) b rfl rfl sizeOf22 oc nb rfl (fun h5 b => ln ?_))
   obtain rfl := sj K
   exact ⟨(.slice R b7.length b5), f8, _, d4, d, (b.kG (Sb (Pb Pz) St)), rfl, rfl, rfl, rfl, c3⟩
  refine kn ?_
  obtain rfl := sj K
  exact ⟨(.slice A1 a.kD.kO.length c2), μ0, _, (lm.refl _), Lo.refl, (b.kG St), rfl, rfl, rfl, rfl, g⟩
 rintro b1 E W ⟨a5, Q, e2, B, m, b, f9, g0, c1, e4, d5⟩ f5
 refine kY (CJ f5 (fun e6 E W => ∃ A h e3, lm Q h ∧ Lo (keys []) w Q h ∧ ST true (keys []) w W h ((s, Ol C6 93) :: ((q, Ob #[f2, a5, b8, d9, A, a3, d2, O, F, L, a4, g5, f0, f1, g2, g4, g3, l] 93) :: e3)) ∧ E 3 = (.pointer (some ⟨q, 0, none⟩)) ∧ E 6 = (.pointer (some ⟨s, 0, none⟩)) ∧ Sl kW 15 h A e6) (fun e6 J => ?_) ?_)
 ·refine sg (Wh f9 (Wi rfl (ln (CI J rfl (fun f3 J => ?_) (fun f3 J => ?_)))))
  ·refine kV (V (kP wF c1) (Wf oS (VB b (Mt Mh) rfl rfl eX (Wh g0 (bS J fun d8 f7 J => ?_)))))
   refine VE (eD b (aX _) call105 (fun hh => (FY d1 a.Client.kO a2 _ _ hh (c.mono kX.mono B) f7)) ?_ (L0 := []))
   rintro _ i5 g9 h9 b e0 p ⟨i6, b6, rfl, d7⟩
   obtain rfl := b6.symm
   refine V (kP wF c1) (Wf oS ?_)
   obtain ⟨d0, d3, rfl⟩ := d7.form
   let g6 : Value := (.slice d0 d8.length d3)
   replace b := b.perm (Nb (Pb Pz) Nz)
   refine VO (lf g6 (#[f2, a5, b8, d9, g6, a3, d2, O, F, L, a4, g5, f0, f1, g2, g4, g3, l]) b rfl rfl sizeOf22 oc nb rfl (fun i4 b => ln ?_))
   obtain rfl := sj J
   exact ⟨g6, g9, _, e0, p, (b.kG (Sb (Pb Pz) St)), c1, e4, d7⟩
  refine kn ?_
  obtain rfl := sj J
  exact ⟨d1, Q, _, (lm.refl _), Lo.refl, (b.kG St), c1, e4, (c.mono kX.mono B)⟩
 rintro b2 E W ⟨A, h, e3, I, n, b, g1, e5, d6⟩ f6
 refine sg (V (kI g1 (kM b.has (Mt Mh) [f2, a5, b8, d9, A, a3, d2, O, F, L, a4, g5, f0, f1, g2, g4, g3, l] rfl cY bY)) ?_)
 obtain ⟨a7, a9, rfl⟩ := d5.form
 obtain ⟨a8, b0, rfl⟩ := d6.form
 let a0 := (C1 a.kD.Name a7 b1.length a9 T a.kD.lg.length Z a.Client.Name a8 b2.length b0 U a.Client.lg.length c8 a.Formula.Op a.Formula.K a.Formula.kC.kD a.Formula.kC.kJ Y a.Formula.Kids.length G a.nZ a.mh.oG a.mh.oI a.my a.nx a.mU D a.Keys.length H)
 refine VO (lf (.agg a0.toArray) (a0.toArray) b e5 rfl bY oc nb rfl (fun i2 b => ln ?_))
 replace b := b.kG (Kb (Db St))
 refine lC ?_
 obtain rfl := sj f6
 exact ns (v := (.agg a0.toArray)) rfl e5 (kM b.has Mh a0 rfl cY bY) ⟨_, _, _, rfl, (b.mW Sn), (B.trans I), (m.trans n), (ST.lU b (nn.mem Sn)), (.slice a7 b1.length a9), b8, (.slice a8 b2.length b0), a3, a4, l, rfl, rfl, (d5.mono kX.mono I), (y.mono ma.mono (B.trans I)), d6, (t.mono ma.mono (B.trans I)), (i.mono kL.mono (B.trans I)), (M.mono oO.mono (B.trans I))⟩
set_option maxHeartbeats 1000000 in
theorem Iu (g : mw) (a9 b4 U a8 Y k0 : Value) (r : mw) (w : World) {μ0 : lO} (h0 : ox μ0 [] w) (a7 : Sl kW 15 μ0 a9 g.kD.kO) (b2 : Sl lF 8 μ0 b4 g.kD.lg) (D : Sl kW 15 μ0 U g.Client.kO) (a6 : Sl lF 8 μ0 a8 g.Client.lg) (T : Sl kF 5 μ0 Y g.Formula.Kids) (j9 : Sl nW 2 μ0 k0 g.Keys) (hm : yc g = some r) :
  mo false Tryz.prog 39 [(.agg #[(.string g.kD.Name), a9, b4, (.string g.Client.Name), U, a8, (.int .i64 g.Formula.Op), (.int .i64 g.Formula.K), (.string g.Formula.kC.kD), (.string g.Formula.kC.kJ), Y, (.int .i64 g.nZ), (.int .i64 g.mh.oG), (.int .i64 g.mh.oI), (.int .i64 g.my), (.int .i64 g.nx), (.int .i64 g.mU), k0])] w μ0 [] (fun v L1 μ1 => ∃ y1 y3 y5 y7 y9 bq, v = (.agg #[(.string (((r).kD).Name)), y1, y3, (.string (((r).Client).Name)), y5, y7, (.int .i64 (((r).Formula).Op)), (.int .i64 (((r).Formula).K)), (.string ((((r).Formula).kC).kD)), (.string ((((r).Formula).kC).kJ)), y9, (.int .i64 ((r).nZ)), (.int .i64 (((r).mh).oG)), (.int .i64 (((r).mh).oI)), (.int .i64 ((r).my)), (.int .i64 ((r).nx)), (.int .i64 ((r).mU)), bq]) ∧ L1 = [] ∧ Sl kW 15 μ1 y1 (((r).kD).kO) ∧ Sl lF 8 μ1 y3 (((r).kD).lg) ∧ Sl kW 15 μ1 y5 (((r).Client).kO) ∧ Sl lF 8 μ1 y7 (((r).Client).lg) ∧ Sl kF 5 μ1 y9 (((r).Formula).Kids) ∧ Sl nW 2 μ1 bq ((r).Keys)) := by
 refine sF h0 38 func39 rfl (fun b => sg ?_)
 obtain ⟨A1, c2, rfl⟩ := a7.form
 obtain ⟨A3, c4, rfl⟩ := b2.form
 obtain ⟨A5, c6, rfl⟩ := D.form
 obtain ⟨A7, c8, rfl⟩ := a6.form
 obtain ⟨A9, bo, rfl⟩ := T.form
 obtain ⟨bn, bp, rfl⟩ := j9.form
 refine VE (lJ b rfl (fun dt e4 b => VE (lG b eK (fun du e5 b => lS (Wf wF (Wf oS (VB b (Mt Mh) rfl rfl eX (V (mi bL rfl D) (Wi rfl (Wa (ln ?_)))))))))))
 refine mB (nS (fun m E W => ∃ e8 d5 A e7 F j4 d6 L j5 O j6 d7 d8 p P j7 d9 q e0 e1 e2 c1 j8 z s7, lm μ0 z ∧ Lo (keys []) w μ0 z ∧ ST false (keys []) w W z ((e5, Ol C6 93) :: ((e4, Ob #[(.string d5), A, F, (.string d6), L, O, (.int .i64 d7), (.int .i64 d8), (.string p.kD), (.string p.kJ), P, (.int .i64 d9), (.int .i64 q.oG), (.int .i64 q.oI), (.int .i64 e0), (.int .i64 e1), (.int .i64 e2), c1] 93) :: s7)) ∧ E 1 = (.pointer (some ⟨e4, 0, none⟩)) ∧ E 2 = (.pointer (some ⟨e5, 0, none⟩)) ∧ E 3 = (.int .i64 e8) ∧ Sl kW 15 z A e7 ∧ Sl lF 8 z F j4 ∧ Sl kW 15 z L j5 ∧ Sl lF 8 z O j6 ∧ Sl kF 5 z P j7 ∧ Sl nW 2 z c1 j8 ∧ qE m e8 d5 e7 j4 d6 j5 j6 d7 d8 p j7 d9 q e0 e1 e2 j8 = some r) lB ⟨(IntKind.i64.wrap ((g.Client.kO.length : Int) - 1)), g.kD.Name, (.slice A1 g.kD.kO.length c2), g.kD.kO, (.slice A3 g.kD.lg.length c4), g.kD.lg, g.Client.Name, (.slice A5 g.Client.kO.length c6), g.Client.kO, (.slice A7 g.Client.lg.length c8), g.Client.lg, g.Formula.Op, g.Formula.K, g.Formula.kC, (.slice A9 g.Formula.Kids.length bo), g.Formula.Kids, g.nZ, g.mh, g.my, g.nx, g.mU, (.slice bn g.Keys.length bp), g.Keys, μ0, _, (lm.refl _), Lo.refl, (b.kG St), rfl, rfl, rfl, a7, b2, D, a6, T, j9, hm⟩ ?_)
 let j1 : Value := (.pointer (some ⟨e5, 0, none⟩))
 let g6 : Value := (.pointer (some ⟨e4, 0, none⟩))
 rintro m E W ⟨e8, d5, A, e7, F, j4, d6, L, j5, O, j6, d7, d8, p, P, j7, d9, q, e0, e1, e2, c1, j8, z, s7, p6, n, b, e6, r5, m4, h1, k1, k2, k3, k4, k5, b3⟩
 let b8 := (⟨(⟨d5, e7, j4⟩ : lI), (⟨d6, j5, j6⟩ : lI), (⟨d7, d8, p, j7⟩ : Formula), d9, q, e0, e1, e2, j8⟩ : mw)
 cases m with
 | zero => rw [qE] at b3; cases b3
 | succ bt =>
  refine kY (sg (Wh m4 (Wi rfl (ln (CI b3 rfl (fun x6 b3 => ?_) (fun x6 b3 => ?_))))))
  ·refine kn (kY (CJ b3 (fun t E W => ∃ k6 k7 k8 k9 l0 l1 G r6, lm z G ∧ Lo (keys []) w z G ∧ ST false (keys []) w W G ((e5, Ol C6 93) :: ((e4, Ob #[(.string t.1), k6, k7, (.string t.2.2.2.1), k8, k9, (.int .i64 t.2.2.2.2.2.2.1), (.int .i64 t.2.2.2.2.2.2.2.1), (.string t.2.2.2.2.2.2.2.2.1.kD), (.string t.2.2.2.2.2.2.2.2.1.kJ), l0, (.int .i64 t.2.2.2.2.2.2.2.2.2.2.1), (.int .i64 t.2.2.2.2.2.2.2.2.2.2.2.1.oG), (.int .i64 t.2.2.2.2.2.2.2.2.2.2.2.1.oI), (.int .i64 t.2.2.2.2.2.2.2.2.2.2.2.2.1), (.int .i64 t.2.2.2.2.2.2.2.2.2.2.2.2.2.1), (.int .i64 t.2.2.2.2.2.2.2.2.2.2.2.2.2.2.1), l1] 93) :: r6)) ∧ E 1 = g6 ∧ E 2 = j1 ∧ E 3 = (.int .i64 e8) ∧ Sl kW 15 G k6 t.2.1 ∧ Sl lF 8 G k7 t.2.2.1 ∧ Sl kW 15 G k8 t.2.2.2.2.1 ∧ Sl lF 8 G k9 t.2.2.2.2.2.1 ∧ Sl kF 5 G l0 t.2.2.2.2.2.2.2.2.2.1 ∧ Sl nW 2 G l1 t.2.2.2.2.2.2.2.2.2.2.2.2.2.2.2) (fun t x => ?_) ?_))
   ·refine bg (V (kI e6 (kM b.has (Mt Mh) [(.string d5), A, F, (.string d6), L, O, (.int .i64 d7), (.int .i64 d8), (.string p.kD), (.string p.kJ), P, (.int .i64 d9), (.int .i64 q.oG), (.int .i64 q.oI), (.int .i64 e0), (.int .i64 e1), (.int .i64 e2), c1] rfl cY bY)) (Wh m4 (bS x fun z5 t9 x => ?_)))
    refine VE (eD b (aX _) call45 (fun hh => mo.mP (zq b8 A F L O P c1 1 e8 _ _ hh (h1.mono kX.mono (lm.refl _)) (k1.mono ma.mono (lm.refl _)) (k2.mono kX.mono (lm.refl _)) (k3.mono ma.mono (lm.refl _)) (k4.mono kL.mono (lm.refl _)) (k5.mono oO.mono (lm.refl _)) t9)) ?_ (L0 := []))
    rintro _ cy bi cj b i d ⟨ar, au, av, aw, ay, az, m5, rfl, v7, v8, v9, w0, w1, w2⟩
    obtain rfl := m5.symm
    refine bS x fun cw u0 x => VE (Eg b call37 (Ar z5 ar au av aw ay az _ _ (v7.mono kX.mono b.kN) (v8.mono ma.mono b.kN) (v9.mono kX.mono b.kN) (w0.mono ma.mono b.kN) (w1.mono kL.mono b.kN) (w2.mono oO.mono b.kN) u0) (fun co b => ln (CI x rfl (fun t2 x => ?_) (fun t2 x => ?_))))
    ·refine kV (V (kI e6 (kM b.has (Mt Mh) [(.string d5), A, F, (.string d6), L, O, (.int .i64 d7), (.int .i64 d8), (.string p.kD), (.string p.kJ), P, (.int .i64 d9), (.int .i64 q.oG), (.int .i64 q.oI), (.int .i64 e0), (.int .i64 e1), (.int .i64 e2), c1] rfl cY bY)) (Wh m4 (bS x fun a u1 x => ?_)))
     let bx := (((a).Formula).kC)
     refine VE (eD b (aX _) call45 (fun hh => mo.mP (zq b8 A F L O P c1 1 e8 _ _ hh (h1.mono kX.mono i) (k1.mono ma.mono i) (k2.mono kX.mono i) (k3.mono ma.mono i) (k4.mono kL.mono i) (k5.mono oO.mono i) u1)) ?_ (L0 := []))
     rintro _ cz bj ck b s2 aE ⟨de, df, dg, dh, di, dj, m6, rfl, q3, q4, q5, q6, q7, q8⟩
     obtain rfl := m6.symm
     obtain ⟨n1, o3, rfl⟩ := q3.form
     let s6 : Value := (.slice n1 (((a).kD).kO).length o3)
     obtain ⟨n2, o4, rfl⟩ := q4.form
     let s9 : Value := (.slice n2 (((a).kD).lg).length o4)
     obtain ⟨n3, o5, rfl⟩ := q5.form
     let j2 : Value := (.slice n3 (((a).Client).kO).length o5)
     obtain ⟨n4, o6, rfl⟩ := q6.form
     let s8 : Value := (.slice n4 (((a).Client).lg).length o6)
     obtain ⟨n5, o7, rfl⟩ := q7.form
     let m9 : Value := (.slice n5 (((a).Formula).Kids).length o7)
     obtain ⟨n6, o8, rfl⟩ := q8.form
     let bv : Value := (.slice n6 ((a).Keys).length o8)
     replace b := b.perm (Nb (Pb Pz) Nz)
     refine VO (lf (.agg #[(.string (((a).kD).Name)), s6, s9, (.string (((a).Client).Name)), j2, s8, (.int .i64 (((a).Formula).Op)), (.int .i64 (((a).Formula).K)), (.string (bx.kD)), (.string (bx.kJ)), m9, (.int .i64 ((a).nZ)), (.int .i64 (((a).mh).oG)), (.int .i64 (((a).mh).oI)), (.int .i64 ((a).my)), (.int .i64 ((a).nx)), (.int .i64 ((a).mU)), bv]) (#[(.string (((a).kD).Name)), s6, s9, (.string (((a).Client).Name)), j2, s8, (.int .i64 (((a).Formula).Op)), (.int .i64 (((a).Formula).K)), (.string (bx.kD)), (.string (bx.kJ)), m9, (.int .i64 ((a).nZ)), (.int .i64 (((a).mh).oG)), (.int .i64 (((a).mh).oI)), (.int .i64 ((a).my)), (.int .i64 ((a).nx)), (.int .i64 ((a).mU)), bv]) b e6 rfl bY oc nb rfl (fun cq b => lH (lK (kT ?_))))
     obtain rfl := sj x
     exact ⟨s6, s9, j2, s8, m9, bv, bj, _, (i.trans s2), (d.trans aE), (b.kG (Sb (Pb Pz) St)), e6, r5, m4, q3, q4, q5, q6, q7, q8⟩
    refine mr (lK (kT ?_))
    obtain rfl := sj x
    exact ⟨A, F, L, O, P, c1, bi, _, i, d, (b.kG St), e6, r5, m4, (h1.mono kX.mono i), (k1.mono ma.mono i), (k2.mono kX.mono i), (k3.mono ma.mono i), (k4.mono kL.mono i), (k5.mono oO.mono i)⟩
   rintro ⟨z7, x7, x8, z8, x9, y0, z9, aa, ab, y2, ac, ad, ae, af, ag, y4⟩ E W ⟨k6, k7, k8, k9, l0, l1, G, r6, s1, R, b, w9, x0, x1, u5, u6, u7, u8, u9, v0⟩ t5
   exact kV (Wh x1 (Wi rfl (Wa (ln ⟨bt, bB _, (IntKind.i64.wrap (e8 - 1)), z7, k6, x7, k7, x8, z8, k8, x9, k9, y0, z9, aa, ab, l0, y2, ac, ad, ae, af, ag, l1, y4, G, _, (p6.trans s1), (n.trans R), (b.kG St), w9, x0, rfl, u5, u6, u7, u8, u9, v0, t5⟩))))
  refine nM (nB (nB (qe (kT (kY (sg (V (kP yB e6) (Wf oS (VB b (Mt Mh) rfl rfl eX (V (mi bL rfl h1) (Wi rfl (Wa (ln (CJ b3 (fun k E W => ∃ l2 l3 l4 l5 l6 l7 N r7, lm z N ∧ Lo (keys []) w z N ∧ ST false (keys []) w W N ((e5, Ol C6 93) :: ((e4, Ob #[(.string k.1), l2, l3, (.string k.2.2.2.1), l4, l5, (.int .i64 k.2.2.2.2.2.2.1), (.int .i64 k.2.2.2.2.2.2.2.1), (.string k.2.2.2.2.2.2.2.2.1.kD), (.string k.2.2.2.2.2.2.2.2.1.kJ), l6, (.int .i64 k.2.2.2.2.2.2.2.2.2.2.1), (.int .i64 k.2.2.2.2.2.2.2.2.2.2.2.1.oG), (.int .i64 k.2.2.2.2.2.2.2.2.2.2.2.1.oI), (.int .i64 k.2.2.2.2.2.2.2.2.2.2.2.2.1), (.int .i64 k.2.2.2.2.2.2.2.2.2.2.2.2.2.1), (.int .i64 k.2.2.2.2.2.2.2.2.2.2.2.2.2.2.1), l7] 93) :: r7)) ∧ E 1 = g6 ∧ E 2 = j1 ∧ Sl kW 15 N l2 k.2.1 ∧ Sl lF 8 N l3 k.2.2.1 ∧ Sl kW 15 N l4 k.2.2.2.2.1 ∧ Sl lF 8 N l5 k.2.2.2.2.2.1 ∧ Sl kF 5 N l6 k.2.2.2.2.2.2.2.2.2.1 ∧ Sl nW 2 N l7 k.2.2.2.2.2.2.2.2.2.2.2.2.2.2.2) (fun k t7 => ?_) ?_))))))))))))))
  ·refine mB (nS (fun m E W => ∃ c3 c5 Z h8 s h9 c7 a2 i0 a3 i1 c9 d0 K a4 i2 d1 M d2 d3 d4 a5 i3 B r8, lm z B ∧ Lo (keys []) w z B ∧ ST false (keys []) w W B ((e5, Ol C6 93) :: ((e4, Ob #[(.string c5), Z, s, (.string c7), a2, a3, (.int .i64 c9), (.int .i64 d0), (.string K.kD), (.string K.kJ), a4, (.int .i64 d1), (.int .i64 M.oG), (.int .i64 M.oI), (.int .i64 d2), (.int .i64 d3), (.int .i64 d4), a5] 93) :: r8)) ∧ E 1 = g6 ∧ E 2 = j1 ∧ E 4 = (.int .i64 c3) ∧ Sl kW 15 B Z h8 ∧ Sl lF 8 B s h9 ∧ Sl kW 15 B a2 i0 ∧ Sl lF 8 B a3 i1 ∧ Sl kF 5 B a4 i2 ∧ Sl nW 2 B a5 i3 ∧ qy m c3 c5 h8 h9 c7 i0 i1 c9 d0 K i2 d1 M d2 d3 d4 i3 = some k) lB ⟨(IntKind.i64.wrap ((e7.length : Int) - 1)), d5, A, e7, F, j4, d6, L, j5, O, j6, d7, d8, p, P, j7, d9, q, e0, e1, e2, c1, j8, z, _, (lm.refl _), Lo.refl, (b.kG St), e6, r5, rfl, h1, k1, k2, k3, k4, k5, t7⟩ ?_)
   rintro m E W ⟨c3, c5, Z, h8, s, h9, c7, a2, i0, a3, i1, c9, d0, K, a4, i2, d1, M, d2, d3, d4, a5, i3, B, r8, n0, h, b, e3, p5, g1, g2, g3, g4, g7, g8, g9, Q⟩
   let g5 := (⟨(⟨c5, h8, h9⟩ : lI), (⟨c7, i0, i1⟩ : lI), (⟨c9, d0, K, i2⟩ : Formula), d1, M, d2, d3, d4, i3⟩ : mw)
   cases m with
   | zero => rw [qy] at Q; cases Q
   | succ z4 =>
    refine kY (sg (Wh g1 (Wi rfl (ln (CI Q rfl (fun t3 Q => ?_) (fun t3 Q => ?_))))))
    ·refine kn (kY (CJ Q (fun u E W => ∃ l8 l9 m0 m1 m2 m3 H r9, lm B H ∧ Lo (keys []) w B H ∧ ST false (keys []) w W H ((e5, Ol C6 93) :: ((e4, Ob #[(.string u.1), l8, l9, (.string u.2.2.2.1), m0, m1, (.int .i64 u.2.2.2.2.2.2.1), (.int .i64 u.2.2.2.2.2.2.2.1), (.string u.2.2.2.2.2.2.2.2.1.kD), (.string u.2.2.2.2.2.2.2.2.1.kJ), m2, (.int .i64 u.2.2.2.2.2.2.2.2.2.2.1), (.int .i64 u.2.2.2.2.2.2.2.2.2.2.2.1.oG), (.int .i64 u.2.2.2.2.2.2.2.2.2.2.2.1.oI), (.int .i64 u.2.2.2.2.2.2.2.2.2.2.2.2.1), (.int .i64 u.2.2.2.2.2.2.2.2.2.2.2.2.2.1), (.int .i64 u.2.2.2.2.2.2.2.2.2.2.2.2.2.2.1), m3] 93) :: r9)) ∧ E 1 = g6 ∧ E 2 = j1 ∧ E 4 = (.int .i64 c3) ∧ Sl kW 15 H l8 u.2.1 ∧ Sl lF 8 H l9 u.2.2.1 ∧ Sl kW 15 H m0 u.2.2.2.2.1 ∧ Sl lF 8 H m1 u.2.2.2.2.2.1 ∧ Sl kF 5 H m2 u.2.2.2.2.2.2.2.2.2.1 ∧ Sl nW 2 H m3 u.2.2.2.2.2.2.2.2.2.2.2.2.2.2.2) (fun u y => ?_) ?_))
     ·refine bg (V (kI e3 (kM b.has (Mt Mh) [(.string c5), Z, s, (.string c7), a2, a3, (.int .i64 c9), (.int .i64 d0), (.string K.kD), (.string K.kJ), a4, (.int .i64 d1), (.int .i64 M.oG), (.int .i64 M.oI), (.int .i64 d2), (.int .i64 d3), (.int .i64 d4), a5] rfl cY bY)) (Wh g1 (bS y fun z6 u2 y => ?_)))
      refine VE (eD b (aX _) call45 (fun hh => mo.mP (zq g5 Z s a2 a3 a4 a5 0 c3 _ _ hh (g2.mono kX.mono (lm.refl _)) (g3.mono ma.mono (lm.refl _)) (g4.mono kX.mono (lm.refl _)) (g7.mono ma.mono (lm.refl _)) (g8.mono kL.mono (lm.refl _)) (g9.mono oO.mono (lm.refl _)) u2)) ?_ (L0 := []))
      rintro _ da bk cl b j l ⟨ba, bc, bd, be, bf, bh, m7, rfl, w3, w4, w5, w6, w7, w8⟩
      obtain rfl := m7.symm
      refine bS y fun cx u3 y => VE (Eg b call37 (Ar z6 ba bc bd be bf bh _ _ (w3.mono kX.mono b.kN) (w4.mono ma.mono b.kN) (w5.mono kX.mono b.kN) (w6.mono ma.mono b.kN) (w7.mono kL.mono b.kN) (w8.mono oO.mono b.kN) u3) (fun ct b => ln (CI y rfl (fun t4 y => ?_) (fun t4 y => ?_))))
      ·refine kV (V (kI e3 (kM b.has (Mt Mh) [(.string c5), Z, s, (.string c7), a2, a3, (.int .i64 c9), (.int .i64 d0), (.string K.kD), (.string K.kJ), a4, (.int .i64 d1), (.int .i64 M.oG), (.int .i64 M.oI), (.int .i64 d2), (.int .i64 d3), (.int .i64 d4), a5] rfl cY bY)) (Wh g1 (bS y fun c u4 y => ?_)))
       let bz := (((c).Formula).kC)
       refine VE (eD b (aX _) call45 (fun hh => mo.mP (zq g5 Z s a2 a3 a4 a5 0 c3 _ _ hh (g2.mono kX.mono j) (g3.mono ma.mono j) (g4.mono kX.mono j) (g7.mono ma.mono j) (g8.mono kL.mono j) (g9.mono oO.mono j) u4)) ?_ (L0 := []))
       rintro _ db bl cm b s5 cc ⟨dk, dl, dm, dn, dp, dq, m8, rfl, q9, r0, r1, r2, r3, r4⟩
       obtain rfl := m8.symm
       obtain ⟨n7, o9, rfl⟩ := q9.form
       let bb : Value := (.slice n7 (((c).kD).kO).length o9)
       obtain ⟨n8, p0, rfl⟩ := r0.form
       let bu : Value := (.slice n8 (((c).kD).lg).length p0)
       obtain ⟨n9, p1, rfl⟩ := r1.form
       let t0 : Value := (.slice n9 (((c).Client).kO).length p1)
       obtain ⟨o0, p2, rfl⟩ := r2.form
       let bs : Value := (.slice o0 (((c).Client).lg).length p2)
       obtain ⟨o1, p3, rfl⟩ := r3.form
       let t1 : Value := (.slice o1 (((c).Formula).Kids).length p3)
       obtain ⟨o2, p4, rfl⟩ := r4.form
       let bw : Value := (.slice o2 ((c).Keys).length p4)
       replace b := b.perm (Nb (Pb Pz) Nz)
       refine VO (lf (.agg #[(.string (((c).kD).Name)), bb, bu, (.string (((c).Client).Name)), t0, bs, (.int .i64 (((c).Formula).Op)), (.int .i64 (((c).Formula).K)), (.string (bz.kD)), (.string (bz.kJ)), t1, (.int .i64 ((c).nZ)), (.int .i64 (((c).mh).oG)), (.int .i64 (((c).mh).oI)), (.int .i64 ((c).my)), (.int .i64 ((c).nx)), (.int .i64 ((c).mU)), bw]) (#[(.string (((c).kD).Name)), bb, bu, (.string (((c).Client).Name)), t0, bs, (.int .i64 (((c).Formula).Op)), (.int .i64 (((c).Formula).K)), (.string (bz.kD)), (.string (bz.kJ)), t1, (.int .i64 ((c).nZ)), (.int .i64 (((c).mh).oG)), (.int .i64 (((c).mh).oI)), (.int .i64 ((c).my)), (.int .i64 ((c).nx)), (.int .i64 ((c).mU)), bw]) b e3 rfl bY oc nb rfl (fun cv b => lH (lK (kT ?_))))
       obtain rfl := sj y
       exact ⟨bb, bu, t0, bs, t1, bw, bl, _, (j.trans s5), (l.trans cc), (b.kG (Sb (Pb Pz) St)), e3, p5, g1, q9, r0, r1, r2, r3, r4⟩
      refine mr (lK (kT ?_))
      obtain rfl := sj y
      exact ⟨Z, s, a2, a3, a4, a5, bk, _, j, l, (b.kG St), e3, p5, g1, (g2.mono kX.mono j), (g3.mono ma.mono j), (g4.mono kX.mono j), (g7.mono ma.mono j), (g8.mono kL.mono j), (g9.mono oO.mono j)⟩
     rintro ⟨ah, y6, y8, ai, z0, z1, aj, ak, al, z2, am, an, ao, ap, aq, z3⟩ E W ⟨l8, l9, m0, m1, m2, m3, H, r9, s4, cb, b, x3, x4, x5, v1, v2, v3, v4, v5, v6⟩ t8
     exact kV (Wh x5 (Wi rfl (Wa (ln ⟨z4, bB _, (IntKind.i64.wrap (c3 - 1)), ah, l8, y6, l9, y8, ai, m0, z0, m1, z1, aj, ak, al, m2, z2, am, an, ao, ap, aq, m3, z3, H, _, (n0.trans s4), (h.trans cb), (b.kG St), x3, x4, rfl, v1, v2, v3, v4, v5, v6, t8⟩))))
    refine nM (nB (nB (qe (kT ?_))))
    obtain rfl := sj Q
    exact ⟨Z, s, a2, a3, a4, a5, B, _, n0, h, (b.kG St), e3, p5, g2, g3, g4, g7, g8, g9⟩
  rintro ⟨i4, h2, h3, i5, h4, h5, i6, i7, I, h6, i8, J, i9, j0, j3, h7⟩ E W ⟨l2, l3, l4, l5, l6, l7, N, r7, s3, ca, b, x2, s0, p7, p8, p9, q0, q1, q2⟩ t6
  refine sg (V (kI x2 (kM b.has (Mt Mh) [(.string i4), l2, l3, (.string i5), l4, l5, (.int .i64 i6), (.int .i64 i7), (.string I.kD), (.string I.kJ), l6, (.int .i64 i8), (.int .i64 J.oG), (.int .i64 J.oI), (.int .i64 i9), (.int .i64 j0), (.int .i64 j3), l7] rfl cY bY)) ?_)
  obtain ⟨e9, f5, rfl⟩ := p7.form
  obtain ⟨f0, f6, rfl⟩ := p8.form
  obtain ⟨f1, f7, rfl⟩ := p9.form
  obtain ⟨f2, f8, rfl⟩ := q0.form
  obtain ⟨f3, f9, rfl⟩ := q1.form
  obtain ⟨f4, g0, rfl⟩ := q2.form
  let a0 := (C1 i4 e9 h2.length f5 f0 h3.length f6 i5 f1 h4.length f7 f2 h5.length f8 i6 i7 I.kD I.kJ f3 h6.length f9 i8 J.oG J.oI i9 j0 j3 f4 h7.length g0)
  refine VO (lf (.agg a0.toArray) (a0.toArray) b s0 rfl bY oc nb rfl (fun cr b => ln ?_))
  replace b := b.kG (Kb (Db St))
  refine lC ?_
  obtain rfl := sj t6
  exact ns (v := (.agg a0.toArray)) rfl s0 (kM b.has Mh a0 rfl cY bY) ⟨_, _, _, rfl, (b.mW Sn), (p6.trans s3), (n.trans ca), (ST.lU b (nn.mem Sn)), (.slice e9 h2.length f5), (.slice f0 h3.length f6), (.slice f1 h4.length f7), (.slice f2 h5.length f8), (.slice f3 h6.length f9), (.slice f4 h7.length g0), rfl, rfl, p7, p8, p9, q0, q1, q2⟩
set_option maxHeartbeats 1000000 in
theorem D3 (a : mw) (I J B H D U : Value) (r : Bool) (w : World) (k : Sl kW 15 (hp w) I a.kD.kO) (t : Sl lF 8 (hp w) J a.kD.lg) (g : Sl kW 15 (hp w) B a.Client.kO) (j : Sl lF 8 (hp w) H a.Client.lg) (i : Sl kF 5 (hp w) D a.Formula.Kids) (x : Sl nW 2 (hp w) U a.Keys) (hm : uo a = some r) :
  lD false Tryz.prog 7 [(.agg #[(.string a.kD.Name), I, J, (.string a.Client.Name), B, H, (.int .i64 a.Formula.Op), (.int .i64 a.Formula.K), (.string a.Formula.kC.kD), (.string a.Formula.kC.kJ), D, (.int .i64 a.nZ), (.int .i64 a.mh.oG), (.int .i64 a.mh.oI), (.int .i64 a.my), (.int .i64 a.nx), (.int .i64 a.mU), U])] w (.bool r) := by
 refine cG 32 func7 rfl (fun b => sg ?_)
 obtain ⟨Y, c2, rfl⟩ := k.form
 let g5 : Value := (.slice Y a.kD.kO.length c2)
 obtain ⟨Z, c4, rfl⟩ := t.form
 let g6 : Value := (.slice Z a.kD.lg.length c4)
 obtain ⟨A5, c6, rfl⟩ := g.form
 let b8 : Value := (.slice A5 a.Client.kO.length c6)
 obtain ⟨A7, c8, rfl⟩ := j.form
 let m : Value := (.slice A7 a.Client.lg.length c8)
 obtain ⟨A9, N, rfl⟩ := i.form
 let f3 : Value := (.slice A9 a.Formula.Kids.length N)
 obtain ⟨M, Q, rfl⟩ := x.form
 let v : Value := (.slice M a.Keys.length Q)
 let a0 := (C1 a.kD.Name Y a.kD.kO.length c2 Z a.kD.lg.length c4 a.Client.Name A5 a.Client.kO.length c6 A7 a.Client.lg.length c8 a.Formula.Op a.Formula.K a.Formula.kC.kD a.Formula.kC.kJ A9 a.Formula.Kids.length N a.nZ a.mh.oG a.mh.oI a.my a.nx a.mU M a.Keys.length Q)
 refine VE (lJ b rfl (fun i5 h3 b => Wa (lS (bS hm fun j6 f8 hm => VE (Eg b call34 (Jf  _ _  f8) (fun i6 b => V (ot rfl) (ln (CI hm rfl (fun f4 hm => ?_) (fun f4 hm => ?_)))))))))
 ·refine sg (Wa (ln ?_))
  replace b := b.kG (Db St)
  refine lC (lL ?_)
  obtain rfl := sj hm
  exact rP b
 refine kS (VA b Mh a0 cY bY (bS hm fun j7 f9 hm => VE (Eg b call35 (Jj a g5 g6 b8 m f3 v _ _ (k.mono kX.mono b.kN) (t.mono ma.mono b.kN) (g.mono kX.mono b.kN) (j.mono ma.mono b.kN) (i.mono kL.mono b.kN) (x.mono oO.mono b.kN) f9) (fun i7 b => Wi rfl (ln (CI hm rfl (fun f5 hm => ?_) (fun f5 hm => ?_)))))))
 ·refine sg (Wa (ln ?_))
  replace b := b.kG (Db St)
  refine lC (lL ?_)
  obtain rfl := sj hm
  exact rP b
 refine kg (VA b Mh a0 cY bY (bS hm fun c g0 hm => ?_))
 let L : Value := (.int .i64 ((c.1).nZ))
 let F : Value := (.int .i64 ((c.1).nx))
 let A : Value := (.int .i64 ((c.1).mU))
 let s : Value := (.int .i64 ((c.1).my))
 let q : Value := (.string (((c.1).kD).Name))
 let j2 : Value := (.int .i64 (((c.1).mh).oI))
 let j1 : Value := (.int .i64 (((c.1).mh).oG))
 let i8 : Value := (.int .i64 (((c.1).Formula).K))
 let p : Value := (.string (((c.1).Client).Name))
 let n : Value := (.int .i64 (((c.1).Formula).Op))
 let a7 := (((c.1).Formula).kC)
 let P : Value := (.string (a7.kJ))
 let O : Value := (.string (a7.kD))
 refine VE (eD b (aX _) call36 (fun hh => (Dd a g5 g6 b8 m f3 v _ _ hh (k.mono kX.mono (lm.refl _)) (t.mono ma.mono (lm.refl _)) (g.mono kX.mono (lm.refl _)) (j.mono ma.mono (lm.refl _)) (i.mono kL.mono (lm.refl _)) (x.mono oO.mono (lm.refl _)) g0)) ?_ (L0 := []))
 rintro _ k0 d9 i4 b u ab ⟨k2, k3, k4, k5, k6, k7, c5, rfl, R, c9, d0, d1, d2, d3⟩
 obtain rfl := c5.symm
 refine Wm (Wx rfl (Wx rfl (VE (lG b eK (fun i9 h4 b => ?_)))))
 obtain ⟨a8, b4, rfl⟩ := R.form
 let a3 : Value := (.slice a8 (((c.1).kD).kO).length b4)
 obtain ⟨a9, b5, rfl⟩ := c9.form
 let a5 : Value := (.slice a9 (((c.1).kD).lg).length b5)
 obtain ⟨b0, b6, rfl⟩ := d0.form
 let h : Value := (.slice b0 (((c.1).Client).kO).length b6)
 obtain ⟨b1, b7, rfl⟩ := d1.form
 let a4 : Value := (.slice b1 (((c.1).Client).lg).length b7)
 obtain ⟨b2, b9, rfl⟩ := d2.form
 let a2 : Value := (.slice b2 (((c.1).Formula).Kids).length b9)
 obtain ⟨b3, c0, rfl⟩ := d3.form
 let l : Value := (.slice b3 ((c.1).Keys).length c0)
 refine VO (lf (.agg #[q, a3, a5, p, h, a4, n, i8, O, P, a2, L, j1, j2, s, F, A, l]) (#[q, a3, a5, p, h, a4, n, i8, O, P, a2, L, j1, j2, s, F, A, l]) b rfl rfl bY oc nb rfl (fun j0 b => Wa (lS (VA b (Mt Mh) a0 cY bY (bS hm fun j8 g1 hm => VE (Eg b call37 (Ar a g5 g6 b8 m f3 v _ _ (k.mono kX.mono (u.trans b.kN)) (t.mono ma.mono (u.trans b.kN)) (g.mono kX.mono (u.trans b.kN)) (j.mono ma.mono (u.trans b.kN)) (i.mono kL.mono (u.trans b.kN)) (x.mono oO.mono (u.trans b.kN)) g1) (fun j3 b => V (ot rfl) (ln (CI hm rfl (fun f6 hm => ?_) (fun f6 hm => ?_))))))))))
 ·refine sg (Wm (V (ot rfl) (Wm (LJ hm (fun f1 E W => ∃ f0, ST false lT w W d9 f0 ∧ E 2 = (.bool false) ∧ E 24 = (.bool f1)) 4 ?_ (fun f1 T d5 => ?_)))))
  ·rintro k1 E W ⟨f0, b, j5, h5⟩ f7
   refine Wg h5 (lt (lL ?_))
   obtain rfl := sj f7
   exact rP b
  refine bC T (fun K T => ?_) (fun K T => ?_)
  ·refine ug K (kI rfl (kM b.has Mh [q, a3, a5, p, h, a4, n, i8, O, P, a2, L, j1, j2, s, F, A, l] rfl cY bY)) (ug K (kI rfl (kM b.has (Mt Mh) a0 rfl cY bY)) (bS T fun j9 g2 T => sE K (Eg b call38 (EB c.1 a3 a5 h a4 a2 l a g5 g6 b8 m f3 v _ _ (R.mono kX.mono b.kN) (c9.mono ma.mono b.kN) (d0.mono kX.mono b.kN) (d1.mono ma.mono b.kN) (d2.mono kL.mono b.kN) (d3.mono oO.mono b.kN) (k.mono kX.mono (u.trans b.kN)) (t.mono ma.mono (u.trans b.kN)) (g.mono kX.mono (u.trans b.kN)) (j.mono ma.mono (u.trans b.kN)) (i.mono kL.mono (u.trans b.kN)) (x.mono oO.mono (u.trans b.kN)) g2) (fun j4 b => V (li (cB K) rfl) ?_))))
   obtain rfl := sj T
   exact d5 _ _ ⟨_, (b.kG (Db (Db St))), rfl, rfl⟩
  refine un K (un K (un K (V (lj (cB K) rfl) ?_)))
  obtain rfl := sj T
  exact d5 _ _ ⟨_, (b.kG (Db (Db St))), rfl, rfl⟩
 refine kn (kY ?_)
 replace b := b.drew
 have d := b.has.kG (Kb (Kb Sn))
 refine mj d lQ (X 0 rfl d (kR rfl) (X 1 rfl d (kR rfl) (PJ hm (fun d8 E W => ∃ d4 d6, lm d9 d4 ∧ ST false lT w W d4 ((h4, Ob #[q, a3, a5, p, h, a4, n, i8, O, P, a2, L, j1, j2, s, F, A, l] 93) :: ((h3, Ol a0 93) :: d6)) ∧ E 2 = (.bool false) ∧ E 31 = (.bool d8)) (bm 8 127) 1 ?_ (fun d8 G c3 => ?_))))
 ·rintro i3 E W ⟨d4, d6, d7, b, i0, f2⟩ e1
  have d := b.has.qI d7 (Kb (Kb Sn))
  refine X 7 rfl d (om f2) (ms kr (kT ?_))
  exact lC (rQ e1 b)
 refine bC G (fun y G => ?_) (fun y G => ?_)
 ·refine rM 2 rfl rfl (cB y) d (fun _ hS => kI rfl (kM hS Mh [q, a3, a5, p, h, a4, n, i8, O, P, a2, L, j1, j2, s, F, A, l] rfl cY bY)) (rM 3 rfl rfl (cB y) d (fun _ hS => kI rfl (kM hS (Mt Mh) a0 rfl cY bY)) (bS G fun g3 e2 G => ?_))
  refine AV 4 rfl rfl (cB y) (eD b (aX _) call39 (fun hh => (Iu a g5 g6 b8 m f3 v _ _ hh (k.mono kX.mono u) (t.mono ma.mono u) (g.mono kX.mono u) (j.mono ma.mono u) (i.mono kL.mono u) (x.mono oO.mono u) e2)) ?_ (L0 := []))
  rintro _ i2 h2 h7 b z aa ⟨g4, g7, g8, g9, h0, h1, c1, rfl, e4, e5, e6, e7, e8, e9⟩
  obtain rfl := c1.symm
  have d := b.has.qI z (Kb (Kb Sn))
  refine ⟨d, (bS G fun i1 e3 G => AV 5 rfl rfl (cB y) (Eg b call38 (EB c.1 a3 a5 h a4 a2 l g3 g4 g7 g8 g9 h0 h1 _ _ (R.mono kX.mono (z.trans b.kN)) (c9.mono ma.mono (z.trans b.kN)) (d0.mono kX.mono (z.trans b.kN)) (d1.mono ma.mono (z.trans b.kN)) (d2.mono kL.mono (z.trans b.kN)) (d3.mono oO.mono (z.trans b.kN)) (e4.mono kX.mono b.kN) (e5.mono ma.mono b.kN) (e6.mono kX.mono b.kN) (e7.mono ma.mono b.kN) (e8.mono kL.mono b.kN) (e9.mono oO.mono b.kN) e3) (fun h9 b => ?_)))⟩
  have d := b.has.qI z (Kb (Kb Sn))
  refine ⟨d, (X 6 rfl d (li (cB y) rfl) ?_)⟩
  obtain rfl := sj G
  refine nu kr (c3 _ _ ⟨h2, _, z, (b.kG St), rfl, rfl⟩)
 refine Xn 2 rfl rfl (cB y) d (Xn 3 rfl rfl (cB y) d (Xn 4 rfl rfl (cB y) d (Xn 5 rfl rfl (cB y) d (X 6 rfl d (lj (cB y) rfl) ?_))))
 obtain rfl := sj G
 refine nu kr (c3 _ _ ⟨d9, _, (lm.refl _), (b.kG St), rfl, rfl⟩)
end Go.Proofs.YtklbhegeiijbjaaGreat
